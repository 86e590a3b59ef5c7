/- Part 45 of what the proof rests on. -/
import Derived.Test.YtggjbblgoddnjaaGreatDoorM23
import Derived.Test.YtggjbblgoddnjaaGreatDoorM29
import Derived.Test.YtggjbblgoddnjaaGreatDoorM31
import Derived.Test.YtggjbblgoddnjaaGreatDoorM33
import Derived.Test.YtggjbblgoddnjaaGreatDoorM40
import Derived.Test.YtggjbblgoddnjaaGreatDoorM41
import Derived.Test.YtggjbblgoddnjaaGreatDoorM42
import Derived.Test.YtggjbblgoddnjaaGreatDoorM44
set_option linter.unusedSimpArgs false
set_option linter.unusedVariables false
set_option maxRecDepth 100000
set_option maxHeartbeats 4000000
namespace Go.Proofs.YtggjbblgoddnjaaGreatDoor
open Go.Lx Go.RowKit
def qF(l:List Dc):List Dc:=l.foldl (fun acc d=>if iJ acc d=0 then acc++[d] else acc) []
theorem rZ(l:List Dc){k:Nat}(hk:k < l.length):qF (l.take (k+1))=if iJ (qF (l.take k)) l[k]=0 then qF (l.take k)++[l[k]] else qF (l.take k):=by
 unfold qF;rw[List.take_succ_eq_append_getElem hk,List.foldl_append];rfl
def dLA(l:List Dc):Prop:=∀ i (h:i < l.length),iJ (l.take i) l[i]=0
theorem jNA{l:List Dc}{d:Dc}(h:dLA l)(hd:iJ l d=0):dLA (l++[d]):=by
 intro i hi;by_cases hl:i < l.length
 · rw[List.take_append_of_le_length (by omega),List.getElem_append_left hl];exact h i hl
 · obtain rfl : i = l.length := by simp at hi; omega
   simpa using hd
theorem dZ : ∀ (k : Nat) (l : List Dc), k ≤ l.length → dLA (qF (l.take k)) ∧ (qF (l.take k)).length ≤ k ∧ ∀ d ∈ qF (l.take k), d ∈ l
  | 0,l,_=>⟨fun i hi=>by simp[qF]at hi,by simp[qF],fun d hd=>by simp[qF]at hd⟩
  | k + 1, l, h => by
    obtain⟨h1,h2,h3⟩:=dZ k l (by omega);rw[rZ l (by omega)]
    split
    · rename_i he; exact ⟨jNA h1 he, by simp; omega, fun d hd => by
        rcases List.mem_append.1 hd with hd | hd
        · exact h3 d hd
        · rw[List.mem_singleton.1 hd];exact List.getElem_mem _⟩
    · exact⟨h1,by omega,h3⟩
theorem oU{l:List Dc}{d:Dc}(h:iJ l d=0):yH d=0∧lD d.name l=none∧l.length < 40∧bG l d=none:=by
 unfold iJ at h
 split at h
 · contradiction
 · rename_i h0
   split at h
   · cases h
   · rename_i h1
     split at h
     · cases h
     · rename_i h2
       split at h
       · cases h
       · rename_i h3;exact⟨by omega,by simpa using h1,by omega,by simpa using h3⟩
theorem oEA{l:List Dc}{d:Dc}(h:lD d.name l=none):lD d.name (l++[d])=some d:=by
 unfold lD at *;rw[List.find?_append,h];simp
theorem hTA{l:List Dc}{d:Dc}(h:iJ l d=0):iJ (l++[d]) d=4:=by
 obtain⟨h1,h2,_,_⟩:=oU h;unfold iJ;rw[if_neg (by omega),oEA h2];rfl
theorem iSA{s:ByteArray}{d:Dc}:∀ {l r:List Dc},lD s l=some d→lD s (l++r)=some d:=by
 intro l r h;unfold lD at *;rw[List.find?_append,h];rfl
theorem iNA{l:List Dc}(h:dLA l){i:Nat}(hi:i < l.length):lD l[i].name l=some l[i]∧bG (l.take i) l[i]=none:=by
 obtain⟨_,h2,_,h4⟩:=oU (h i hi);refine⟨?_,h4⟩;have:=iSA (r:=l.drop (i+1)) (oEA h2)
 rwa [List.append_assoc,List.singleton_append,← List.drop_eq_getElem_cons hi,List.take_append_drop]at this
theorem qIA{a:Int}{l:List Int}(h:kD (a::l)=0):a=0:=by
 unfold kD at h
 split at h
 · exact h
 · omega
theorem hRA{d:Dc}(h:yH d=0):1≤d.kind∧d.kind≤3:=by
 have:=qIA h;unfold jC at this
 split at this
 · rename_i hb;simpa using hb
 · cases this
theorem yNA{l:List Dc}(h:dLA l){d:Dc}(hd:d∈l):1≤d.kind∧d.kind≤3:=by
 obtain⟨i,hi,rfl⟩:=List.getElem_of_mem hd;exact hRA (oU (h i hi)).1
theorem hXA : ∀ {l : List Dc}, (∀ d ∈ l, 1 ≤ d.kind ∧ d.kind ≤ 3) → (knC l).length + (knD l).length = l.length ∧ ∀ s, (lD s l).isSome = (hasB (knC l) s || hasB (knD l) s)
  | [],_=>⟨rfl,fun _=>rfl⟩
  | d :: l, h => by
    obtain⟨h1,h2⟩:=hXA (l:=l) fun x hx=>h x (List.mem_cons_of_mem _ hx)
    have hd:=h d (List.mem_cons_self ..);have hc:(d.kind=1∨d.kind=2)∨d.kind=3:=by omega
    unfold knC knD lD hasB at *;rcases hc with hk | hk
    · have e1 : (d.kind == 1 || d.kind == 2) = true := by rcases hk with hk | hk <;> simp [hk]
      have e2:(d.kind==3)=false:=by rcases hk with hk | hk<;>simp[hk]
      simp only[List.filter_cons,e1,e2,if_true,Bool.false_eq_true,if_false,List.map_cons,List.length_cons,List.any_cons,List.find?_cons];refine⟨by omega,fun s=>?_⟩
      cases hn:(d.name.toList==s.toList)
      · simpa using h2 s
      · simp
    · have e1 : (d.kind == 1 || d.kind == 2) = false := by simp [hk]
      have e2:(d.kind==3)=true:=by simp[hk]
      simp only[List.filter_cons,e1,e2,if_true,Bool.false_eq_true,if_false,List.map_cons,List.length_cons,List.any_cons,List.find?_cons];refine⟨by omega,fun s=>?_⟩
      cases hn:(d.name.toList==s.toList)
      · simpa using h2 s
      · simp
theorem RowArg.pre{w:World}{p:Option Addr}{a b:List Value}(h:RowArg w p (a++b)):RowArg w p a:=fun hne=>by
 obtain⟨g,off,h1,h2,h3⟩:=h (by cases a with | nil=>exact absurd rfl hne | cons=>simp);exact⟨g,off,h1,h2,fun j u hj=>h3 j u (by rw[List.getElem?_append_left (List.getElem?_eq_some_iff.1 hj).1];exact hj)⟩
theorem RowsV.take{α:Type}{size:Nat}{R:World→List Value→α→Prop}{w:World}{p:Option Addr}{xs:List α}(h:RowsV size R w p xs)(k:Nat):RowsV size R w p (xs.take k):=by
 obtain⟨rows,h1,h2,h3⟩:=h;refine⟨rows.take k,RowArg.pre (b:=(rows.drop k).flatten) (by rw[← List.flatten_append,List.take_append_drop];exact h1),fun r hr=>h2 r (List.mem_of_mem_take hr),by simp[h3.1],fun i v x hv hx=>?_⟩;rw[List.getElem?_take]at hv hx
 split at hv
 · rename_i hi;rw[if_pos hi]at hx;exact h3.2 i v x hv hx
 · cases hv
def p2A(x0 x1 x5 x6 x7 x8 x9 x10 x11 x12 x13 x14 x15 x16 x17 x18:Value)(J:Nat→Value):Array Value:=#[x0,x1,J 2,J 3,J 4,x5,x6,x7,x8,x9,x10,x11,x12,x13,x14,x15,x16,x17,x18,J 19,J 20,J 21,J 22,J 23,J 24,J 25,J 26,J 27,J 28,J 29,J 30,J 31,J 32,J 33,J 34,J 35,J 36,J 37,J 38,J 39,J 40,J 41,J 42,J 43,J 44,J 45,J 46,J 47,J 48,J 49,J 50,J 51,J 52,J 53,J 54,J 55,J 56,J 57,J 58,J 59,J 60,J 61,J 62,J 63,J 64,J 65,J 66,J 67,J 68,J 69,J 70,J 71,J 72,J 73,J 74,J 75,J 76,J 77,J 78,J 79,J 80,J 81,J 82,J 83,J 84,J 85,J 86,J 87,J 88,J 89,J 90,J 91,J 92,J 93,J 94,J 95,J 96,J 97,J 98,J 99,J 100,J 101,J 102,J 103,J 104,J 105,J 106,J 107,J 108,J 109,J 110,J 111,J 112,J 113,J 114,J 115,J 116,J 117,J 118,J 119,J 120,J 121,J 122,J 123,J 124,J 125,J 126,J 127,J 128,J 129,J 130,J 131,J 132,J 133,J 134,J 135,J 136,J 137,J 138,J 139,J 140,J 141,J 142,J 143,J 144,J 145,J 146,J 147,J 148,J 149,J 150,J 151,J 152,J 153,J 154,J 155,J 156,J 157]
section
variable {w9 : World} {b off k n c ca nt ct nb cb nc cc : Nat} {p pt pb pc qa : Option Addr} {d : Dc} {all : List Dc} {x0 x1 x5 x6 x7 x8 x9 x10 x11 x12 x13 x14 x15 x16 x17 x18 : Value}
end
end Go.Proofs.YtggjbblgoddnjaaGreatDoor
namespace Go.Proofs.YtggjbblgoddnjaaGreatDoor
open Go.Conc Go.Lx Go.RowKit
noncomputable def blRest:Code:=jA (jA (Tryz.f5.body.getD .skip))
def BkQ(W:World)(e:Exit)(a:Act)(w:World):Prop:=bP Tryz.prog Tryz.f5 (TrueU W) e a w
def n5A(w:World)(l:List Dc)(v i:Value)(wr:World):Prop:=∃(k:Nat) (q:Option Addr) (c:Nat),k≤l.length∧i = .int .i64 (k:Int)∧v = .slice q (qF (l.take k)).length c∧(qF (l.take k)).length≤c∧(q=none→c=0)∧RowsV 6 DcRow wr q (qF (l.take k))∧Under w wr
section
variable {W w : World}
theorem i0A{c:Nat}{l:List Dc}{s:ByteArray}{p:Option Addr}(hl:l.length≤2048)(hp:RowsV 6 DcRow w p l)(hf:∀ x∈l,Fine x)(hS:ShapesAt 3 w)(hU:Under W w)(x5 x6 x7 x8 x9 x10 x11 x12 x13 x14 x15 x16 x17 x18:Value)(J:Nat→Value) :
 blRest.wp Tryz.prog (BkQ W) ⟨p2A (.slice p l.length c) (.string s) x5 x6 x7 x8 x9 x10 x11 x12 x13 x14 x15 x16 x17 x18 J,[]⟩ w:=by
 have HP:=Lib.hid (And.intro hp (And.intro hf hS));have HU:=Lib.hid hU;have hl0:(0:Int)≤(l.length:Int):=by omega
 have hl9:(l.length:Int)≤2048:=by omega
 clear hp hf hS hU hl;generalize hQ:BkQ W=Q;have HQ:=Lib.hid hQ;clear hQ;unfold blRest;simp only[Tryz.f5,Option.getD_some,jA];unfold p2A;go_wp2;go_loopw [5,6] (fun v i wr=>n5A w l v i wr) (fun _ i _=>l.length - (intOf i).toNat)
 case atStart=>exact⟨0,_,_,Nat.zero_le _,rfl,rfl,Nat.le_refl _,fun h=>by simp at h,RowsV.nil,aA (Under.refl _) _⟩
 case round =>
   obtain⟨k,qa,ca,hk,rfl,rfl,hca,hqa,hra,hUr⟩:=hrel;have HUr:=Lib.hid hUr;have HR:=Lib.hid (And.intro hca (And.intro hqa hra));have hk0:(0:Int)≤(k:Int):=by omega
   clear hUr hca hqa hra;by_cases hlt:k < l.length
   · have hlt' : (k : Int) < (l.length : Int) := by omega
     have HN:=Lib.hid (rZ l hlt);have HO:=Lib.hid (dZ k l hk);have hmem:=List.getElem_mem hlt;obtain⟨b,off,r,rfl,hb,hrl,hr,hc⟩:=HP.out.1.at (List.getElem?_eq_getElem hlt) (by decide);have HV:=Lib.hid (DcRow.val hr);obtain⟨v1,v2,v3,rfl,⟨p1,c1,rfl,_⟩,⟨p2,c2,rfl,_⟩,⟨p3,c3,us3,rfl,_⟩⟩:=hr;have cc0:=hc 0 _ rfl;have cc1:=hc 1 _ rfl;have cc2:=hc 2 _ rfl;have cc3:=hc 3 _ rfl;have cc4:=hc 4 _ rfl;have cc5:=hc 5 _ rfl;simp only[Nat.add_zero,← Nat.add_assoc]at cc0 cc1 cc2 cc3 cc4 cc5;have HCc:=Lib.hid (And.intro cc0 (And.intro cc1 (And.intro cc2 (And.intro cc3 (And.intro cc4 cc5)))));rw[← dA HUr.out hb]at cc0 cc1 cc2 cc3 cc4 cc5;have hb':=Nat.lt_of_lt_of_le hb HUr.out.size;have HD:=Lib.hid (HP.out.2.1 _ hmem);have HAl:=Lib.hid (show(∀ x∈qF (l.take k),Lite x)∧(qF (l.take k)).length≤2048 from⟨fun x hx=>(HP.out.2.1 x (HO.out.2.2 x hx)).lite,by have:=HO.out.2.1;omega⟩);clear hc hrl hmem HO;generalize l[k]=d at *;generalize hall:qF (l.take k)=all at *;have HAdd:=Lib.hid (oCA (w0:=wr) (c:=ca) all d (by have:=HAl.out.2;omega) HR.out.1 HR.out.2.1 HR.out.2.2 HAl.out.1 HD.out (DcV.mono _ _ _ _ HUr.out HV.out) (HP.out.2.2.under HUr.out));go_wp2_with fail;refine HAdd.out.mono ?_;rintro e w1 ⟨qx,cx,rfl,hx1,hx0,hxr,hU1⟩;have HU1:=Lib.hid (HUr.out.trans hU1);have HX:=Lib.hid (And.intro hx1 (And.intro hx0 hxr));have HA1:=Lib.hid (RowsV.under DcRow.mono HR.out.2.2 hU1);clear hU1 hx1 hx0 hxr HAdd cc0 cc1 cc2 cc3 cc4 cc5 hb';have hcw:∀ w' (h:Under w w'),w'.cell? ⟨b,off+k * 6,none⟩=some (.int .i64 d.kind)∧w'.cell? ⟨b,off+k * 6+1,none⟩=some (.int .i64 d.level)∧w'.cell? ⟨b,off+k * 6+2,none⟩=some (.string d.name)∧w'.cell? ⟨b,off+k * 6+3,none⟩=some (.slice p1 d.type.length c1)∧w'.cell? ⟨b,off+k * 6+4,none⟩=some (.slice p2 d.body.length c2)∧w'.cell? ⟨b,off+k * 6+5,none⟩=some (.slice p3 d.cons.length c3):=fun w' h=>by simp only[dA h hb];exact HCc.out
     have HCw:=Lib.hid hcw;clear hcw;go_wp2_with fail;rename_i K0 hK0;refine wp_region_noPanic ?_;have HL:=Lib.hid (fun w' (h:Under w1 w')=>bR (w0:=w') (c:=ca) (ds:=all) (by have:=HAl.out.2;omega) (RowsV.under DcRow.mono HA1.out h));have HTh:=Lib.hid (fun w' (h:Under w1 w')=>eG (w0:=w') d (DcV.mono _ _ _ _ (HU1.out.trans h) HV.out));have hS1:=HCw.out _ HU1.out;have hb1:=Nat.lt_of_lt_of_le hb HU1.out.size;refine wp_region_held_drew (S:=fun w=>b < w.heap.size∧w.cell? ⟨b,off+k * 6,none⟩=some (.int .i64 d.kind)∧w.cell? ⟨b,off+k * 6+1,none⟩=some (.int .i64 d.level)∧w.cell? ⟨b,off+k * 6+2,none⟩=some (.string d.name)∧w.cell? ⟨b,off+k * 6+3,none⟩=some (.slice p1 d.type.length c1)∧w.cell? ⟨b,off+k * 6+4,none⟩=some (.slice p2 d.body.length c2)∧w.cell? ⟨b,off+k * 6+5,none⟩=some (.slice p3 d.cons.length c3)) (by kernel_rfl) ⟨hb1,hS1⟩ (fun hHeld=>?_);co_applyP bA 0 rfl (by kernel_rfl) (by kernel_rfl) (fun _ _ _ h=>h) hHeld (fun w hSw=>?_) ?_;rotate_left
     · (try dsimp only at hSw);go_simp;try with_reducible rfl
     try walk_nrm
     co_applyP bA 2 rfl (by kernel_rfl) (by kernel_rfl) (fun _ _ _ h=>h) hHeld (fun w hSw=>?_) ?_;rotate_left
     · (try dsimp only at hSw);go_simp;try with_reducible rfl
     try walk_nrm
     co_applyP bA 3 rfl (by kernel_rfl) (by kernel_rfl) (fun _ _ _ h=>h) hHeld (fun w hSw=>?_) ?_;rotate_left
     · (try dsimp only at hSw);go_simp;try with_reducible rfl
     try walk_nrm
     co_applyP bA 4 rfl (by kernel_rfl) (by kernel_rfl) (fun _ _ _ h=>h) hHeld (fun w hSw=>?_) ?_;rotate_left
     · (try dsimp only at hSw);go_simp;try with_reducible rfl
     try walk_nrm
     co_applyP bA 5 rfl (by kernel_rfl) (by kernel_rfl) (fun _ _ _ h=>h) hHeld (fun w hSw=>?_) ?_;rotate_left
     · (try dsimp only at hSw);go_simp;try with_reducible rfl
     try walk_nrm
     refine iA 1 (by kernel_rfl) rfl fun K hK=>?_
     go_simp;go_at_call 12;refine(HL.out _ (fA (Under.refl w1))).mono ?_;rintro e w2 ⟨q,c',rfl,hc,h0,hq,hU⟩;have HUl:=Lib.hid (HU1.out.trans ((fA (Under.refl w1)).trans hU));have HVl:=Lib.hid ((fA (Under.refl w1)).trans hU);have HQl:=Lib.hid (And.intro hc (And.intro h0 hq));clear hU hc h0 hq;refine hK.out _ _ ⟨Nat.lt_of_lt_of_le hb HUl.out.size,HCw.out _ HUl.out⟩ (fun _=>?_);clear hK K hHeld;rename_i hHeld
     try walk_nrm
     refine iA 6 (by kernel_rfl) rfl fun K hK=>?_
     go_simp;go_at_call 14;refine(HTh.out _ HVl.out).mono ?_;rintro e w3 ⟨rfl,hU⟩;have HUt:=Lib.hid (HUl.out.trans hU);have HVt:=Lib.hid (HVl.out.trans hU);have HQz:=Lib.hid (RowsV.under DcRow.mono HQl.out.2.2 hU);clear hU;refine hK.out _ _ ⟨Nat.lt_of_lt_of_le hb HUt.out.size,HCw.out _ HUt.out⟩ (fun _=>?_);clear hK K hHeld;rename_i hHeld
     try walk_nrm
     refine iA 7 (by kernel_rfl) rfl fun K hK=>?_
     go_simp;go_at_call 26;refine(bFA (w0:=w3) (c:=c') all d (by have:=HAl.out.2;omega) HQl.out.1 HQl.out.2.1 HQz.out HD.out (DcV.mono _ _ _ _ HUt.out HV.out)).mono ?_;rintro e w2' ⟨qy,cy,rfl,_,_,_,hU⟩;have HU2:=Lib.hid (HUt.out.trans hU);have HV2:=Lib.hid (HVt.out.trans hU);clear hU;refine hK.out _ _ ⟨Nat.lt_of_lt_of_le hb HU2.out.size,HCw.out _ HU2.out⟩ (fun _=>?_);clear hK K hHeld;rename_i hHeld
     try walk_nrm
     co_applyP bA 8 rfl (by kernel_rfl) (by kernel_rfl) (fun _ _ _ h=>h) hHeld (fun w hSw=>?_) ?_;rotate_left
     · (try dsimp only at hSw);go_simp;try with_reducible rfl
     try walk_nrm
     co_applyP bA 9 rfl (by kernel_rfl) (by kernel_rfl) (fun _ _ _ h=>h) hHeld (fun w hSw=>?_) ?_;rotate_left
     · (try dsimp only at hSw);go_simp;try with_reducible rfl
     try walk_nrm
     co_applyP bA 10 rfl (by kernel_rfl) (by kernel_rfl) (fun _ _ _ h=>h) hHeld (fun w hSw=>?_) ?_;rotate_left
     · (try dsimp only at hSw);go_simp;try with_reducible rfl
     try walk_nrm
     co_applyP bA 11 rfl (by kernel_rfl) (by kernel_rfl) (fun _ _ _ h=>h) hHeld (fun w hSw=>?_) ?_;rotate_left
     · (try dsimp only at hSw);go_simp;try with_reducible rfl
     try walk_nrm
     co_applyP bA 12 rfl (by kernel_rfl) (by kernel_rfl) (fun _ _ _ h=>h) hHeld (fun w hSw=>?_) ?_;rotate_left
     · (try dsimp only at hSw);go_simp;try with_reducible rfl
     try walk_nrm
     refine wpAnyH_done (by kernel_rfl) ?_ _;refine NoPanic.normal ?_;clear hHeld hS1 hb1;have HA2:=Lib.hid (RowsV.under DcRow.mono HA1.out HV2.out);have HX2:=Lib.hid (RowsV.under DcRow.mono HX.out.2.2 HV2.out);clear HUl HVl HUt HVt HQl HQz HL HTh HV2 HA1;generalize w2'=w2 at *;refine hK0 _ _ ?_;clear hK0;by_cases hE:iJ all d=0
     · have HNx := Lib.hid (show qF (l.take (k + 1)) = all ++ [d] by have := HN.out; rw [if_pos hE] at this; exact this); obtain ⟨h1, _⟩ : wN all d = all ++ [d] ∧ True := ⟨by unfold wN; rw [if_pos hE], trivial⟩; have h4 := hTA hE; rw [hE, h1]; rw [h1] at HX2 HX; obtain ⟨hb6, hb1, hb2, hb3, hb4, hb5⟩ := HCw.out _ HU2.out; have hb' := Nat.lt_of_lt_of_le hb HU2.out.size; have HAdd2 := Lib.hid (oCA (w0 := w2) (c := cx) (all ++ [d]) d (by have := HAl.out.2; simp; omega) HX.out.1 HX.out.2.1 HX2.out (fun x hx => by
         rcases List.mem_append.1 hx with hx | hx
         · exact HAl.out.1 x hx
         · rw[List.mem_singleton.1 hx];exact HD.out.lite) HD.out (DcV.mono _ _ _ _ HU2.out HV.out) (HP.out.2.2.under HU2.out))
       have hla:(all++[d]).length=all.length+1:=by simp
       rw[hla]at HAdd2 ⊢;have HLa:=Lib.hid hla;have hA9:(all.length:Int)≤2048:=by have:=HAl.out.2;omega
       have hA0:(0:Int)≤(all.length:Int):=by omega
       clear hE h1 hla;go_wp2_with fail;refine HAdd2.out.mono ?_;rintro e w3 ⟨qz,cz,rfl,_,_,_,hU3⟩;have HU3:=Lib.hid (HU2.out.trans hU3);have HX3:=Lib.hid (RowsV.under DcRow.mono HX2.out hU3);rw[h4];clear hU3 h4 HAdd2 hb6 hb1 hb2 hb3 hb4 hb5 hb';go_wp2;go_roundw
       case rel=>exact⟨k+1,qx,cx,by omega,by go_num,by rw[HNx.out,HLa.out],by rw[HNx.out];exact HX.out.1,HX.out.2.1,by rw[HNx.out];exact HX3.out,HU3.out⟩
       case measure=>simp[intOf];omega
     · have HNx := Lib.hid (show qF (l.take (k + 1)) = all by have := HN.out; rw [if_neg hE] at this; exact this); go_wp2; go_roundw
       case rel=>exact⟨k+1,qa,ca,by omega,by go_num,by rw[HNx.out],by rw[HNx.out];exact HR.out.1,HR.out.2.1,by rw[HNx.out];exact HA2.out,HU2.out⟩
       case measure=>simp[intOf];omega
   · obtain rfl : k = l.length := by omega
     obtain⟨wl,hwl⟩:∃ wl,wl=wr:=⟨wr,rfl⟩;subst hwl;have hO:=dZ l.length l (Nat.le_refl _);rw[List.take_length]at hO HR;rw[List.take_length];have hn0:(0:Int)≤((qF l).length:Int):=by omega
     have hn9:((qF l).length:Int)≤2048:=by omega
     have HAd:=Lib.hid hO.1;have HLi:=Lib.hid (show ∀ x∈qF l,Fine x from fun x hx=>HP.out.2.1 x (hO.2.2 x hx));have HSm:=Lib.hid (hXA (l:=qF l) fun d hd=>yNA hO.1 hd);clear hO hlt;generalize qF l=all at *;have HKn:=Lib.hid (bT (w0:=wl) (c:=ca) all (by omega) HR.out.2.2);go_wp2_with fail;refine HKn.out.mono ?_;rintro e w5 ⟨vk,vd,rfl,hT,hU5⟩;have t1:=TextsV.of_own hT.one;have t2:=TextsV.of_own hT.two;have HT1:=Lib.hid t1;have HT2:=Lib.hid t2;obtain⟨kq,kc,rfl,_⟩:=t1;obtain⟨kr,kd,rfl,_⟩:=t2;have HB5:=Lib.hid (qA w5 #[.slice kq (knC all).length kc,.slice kr (knD all).length kd] 52);have HX5:=Lib.hid (hU5.trans (aA (Under.refl w5) (.cells #[.slice kq (knC all).length kc,.slice kr (knD all).length kd] 52)));have HT1:=Lib.hid (HT1.out.under (aA (Under.refl w5) (.cells #[.slice kq (knC all).length kc,.slice kr (knD all).length kd] 52)));have HT2:=Lib.hid (HT2.out.under (aA (Under.refl w5) (.cells #[.slice kq (knC all).length kc,.slice kr (knD all).length kd] 52)));have hsum:((knC all).length:Int)+((knD all).length:Int)=(all.length:Int):=by have:=HSm.out.1;omega
     have HKl:=Lib.hid (yN all);clear hT hU5 HKn;obtain⟨w6,hw6⟩:∃ w6,w6=w5.alloc (.cells #[.slice kq (knC all).length kc,.slice kr (knD all).length kd] 52):=⟨_,rfl⟩;rw[← hw6]at HB5 HX5 HT1 HT2;have b0:=HB5.out.cell 0;have b1:=HB5.out.cell 1;have bl:=HB5.out.lt;have s0:(0:Int)≤((knC all).length:Int):=by omega
     have s1:(0:Int)≤((knD all).length:Int):=by omega
     have s2:((knC all).length:Int)≤2048:=by omega
     have s3:((knD all).length:Int)≤2048:=by omega
     go_wp2;rw[← hw6];clear hw6 b0 b1 bl s0 s1 s2 s3 hsum;go_loopw [14] (fun i wz=>∃ k:Nat,k≤all.length∧i = .int .i64 (k:Int)∧Under w6 wz) (fun i _=>all.length - (intOf i).toNat)
     case atStart=>exact⟨0,Nat.zero_le _,rfl,Under.refl _⟩
     case round =>
       obtain⟨k,hk,rfl,hUz⟩:=hrel;have HUz:=Lib.hid (HX5.out.trans hUz);have HVz:=Lib.hid hUz;have hk0:(0:Int)≤(k:Int):=by omega
       clear hUz;by_cases hlt:k < all.length
       · have hlt' : (k : Int) < (all.length : Int) := by omega
         obtain⟨hF1,hF2⟩:=iNA HAd.out hlt;have HF2:=Lib.hid hF2;have HFd:=Lib.hid (show Calls Tryz.prog 16 #[.slice qa all.length ca,.string all[k].name] wr (fun e w'=>∃ v,e = .returned (.tuple #[v,.bool (lD all[k].name all).isSome])∧DcV w' v ((lD all[k].name all).getD uT)∧Under wr w') from jP all all[k].name (by omega) (fun x hx=>(HLi.out x hx).lite) (RowsV.under DcRow.mono HR.out.2.2 HUz.out));rw[hF1]at HFd;simp only[Option.isSome_some,Option.getD_some]at HFd;have HD:=Lib.hid (HLi.out _ (List.getElem_mem hlt));obtain⟨b,off,r,rfl,hb,hrl,hr,hc⟩:=HR.out.2.2.at (List.getElem?_eq_getElem hlt) (by decide);have HV:=Lib.hid (DcRow.val hr);obtain⟨v1,v2,v3,rfl,⟨p1,c1,rfl,_⟩,⟨p2,c2,rfl,_⟩,⟨p3,c3,us3,rfl,_⟩⟩:=hr;have cc0:=hc 0 _ rfl;have cc1:=hc 1 _ rfl;have cc2:=hc 2 _ rfl;have cc3:=hc 3 _ rfl;have cc4:=hc 4 _ rfl;have cc5:=hc 5 _ rfl;simp only[Nat.add_zero,← Nat.add_assoc]at cc0 cc1 cc2 cc3 cc4 cc5;have HCc:=Lib.hid (And.intro cc0 (And.intro cc1 (And.intro cc2 (And.intro cc3 (And.intro cc4 cc5)))));rw[← dA HUz.out hb]at cc2;have hb':=Nat.lt_of_lt_of_le hb HUz.out.size;have HOp:=Lib.hid (fun w' (h:Under wl w')=>uCA (w0:=w') (c:=ca) (all.take k) all[k] (by rw[List.length_take];omega) (RowsV.under DcRow.mono (RowsV.take HR.out.2.2 k) h) HD.out.small HD.out.many (DcV.mono _ _ _ _ h HV.out));have htl:(all.take k).length=k:=by rw[List.length_take];omega
         unfold zVA at HOp;rw[htl,hF2]at HOp;simp only[Option.getD_none,Option.isSome_none]at HOp;clear hc hrl hF1 hF2 htl cc0 cc1 cc3 cc4 cc5;generalize all[k]=d at *;have hcw:∀ w' (h:Under wl w'),w'.cell? ⟨b,off+k * 6,none⟩=some (.int .i64 d.kind)∧w'.cell? ⟨b,off+k * 6+1,none⟩=some (.int .i64 d.level)∧w'.cell? ⟨b,off+k * 6+2,none⟩=some (.string d.name)∧w'.cell? ⟨b,off+k * 6+3,none⟩=some (.slice p1 d.type.length c1)∧w'.cell? ⟨b,off+k * 6+4,none⟩=some (.slice p2 d.body.length c2)∧w'.cell? ⟨b,off+k * 6+5,none⟩=some (.slice p3 d.cons.length c3):=fun w' h=>by simp only[dA h hb];exact HCc.out
         have HCw:=Lib.hid hcw;have hkc:(k:Int)≤(ca:Int):=by have:=HR.out.1;omega
         have hac:(all.length:Int)≤(ca:Int):=by have:=HR.out.1;omega
         clear hcw;go_wp2_with fail;refine HFd.out.mono ?_;rintro e w7 ⟨v7,rfl,hv7,hU7⟩;have HV7:=Lib.hid hv7;obtain⟨vt,vb,vc,rfl,⟨q1,e1,rfl,_⟩,⟨q2,e2,rfl,_⟩,⟨q3,e3,us4,rfl,_⟩⟩:=hv7;have HB7:=Lib.hid (qA w7 #[.int .i64 d.kind,.int .i64 d.level,.string d.name,.slice q1 d.type.length e1,.slice q2 d.body.length e2,.slice q3 d.cons.length e3] 33);have HV7:=Lib.hid (DcV.mono _ _ _ _ (aA (Under.refl w7) (.cells #[.int .i64 d.kind,.int .i64 d.level,.string d.name,.slice q1 d.type.length e1,.slice q2 d.body.length e2,.slice q3 d.cons.length e3] 33)) HV7.out);have HU7:=Lib.hid (HUz.out.trans (aA hU7 (.cells #[.int .i64 d.kind,.int .i64 d.level,.string d.name,.slice q1 d.type.length e1,.slice q2 d.body.length e2,.slice q3 d.cons.length e3] 33)));have HW7:=Lib.hid (HVz.out.trans (aA hU7 (.cells #[.int .i64 d.kind,.int .i64 d.level,.string d.name,.slice q1 d.type.length e1,.slice q2 d.body.length e2,.slice q3 d.cons.length e3] 33)));clear hU7 HFd cc2 hb';go_wp2_with fail;rename_i K0 hK0;obtain⟨w8,hw8⟩:∃ w8,w8=w7.alloc (.cells #[.int .i64 d.kind,.int .i64 d.level,.string d.name,.slice q1 d.type.length e1,.slice q2 d.body.length e2,.slice q3 d.cons.length e3] 33):=⟨_,rfl⟩;rw[← hw8]at HB7 HV7 HU7 HW7 ⊢;clear hw8;generalize w7.heap.size=fb at *;refine wp_region_noPanic ?_;have hS1:=HCw.out _ HU7.out;have hb1:=Nat.lt_of_lt_of_le hb HU7.out.size;refine wp_region_held_drew (S:=fun w=>b < w.heap.size∧w.cell? ⟨b,off+k * 6,none⟩=some (.int .i64 d.kind)∧w.cell? ⟨b,off+k * 6+1,none⟩=some (.int .i64 d.level)∧w.cell? ⟨b,off+k * 6+2,none⟩=some (.string d.name)∧w.cell? ⟨b,off+k * 6+3,none⟩=some (.slice p1 d.type.length c1)∧w.cell? ⟨b,off+k * 6+4,none⟩=some (.slice p2 d.body.length c2)∧w.cell? ⟨b,off+k * 6+5,none⟩=some (.slice p3 d.cons.length c3)) (by kernel_rfl) ⟨hb1,hS1⟩ (fun hHeld=>?_);co_applyP bA 0 rfl (by kernel_rfl) (by kernel_rfl) (fun _ _ _ h=>h) hHeld (fun w hSw=>?_) ?_;rotate_left
         · (try dsimp only at hSw);go_simp;try with_reducible rfl
         try walk_nrm
         co_applyP bA 1 rfl (by kernel_rfl) (by kernel_rfl) (fun _ _ _ h=>h) hHeld (fun w hSw=>?_) ?_;rotate_left
         · (try dsimp only at hSw);go_simp;try with_reducible rfl
         try walk_nrm
         co_applyP bA 2 rfl (by kernel_rfl) (by kernel_rfl) (fun _ _ _ h=>h) hHeld (fun w hSw=>?_) ?_;rotate_left
         · (try dsimp only at hSw);go_simp;try with_reducible rfl
         try walk_nrm
         co_applyP bA 3 rfl (by kernel_rfl) (by kernel_rfl) (fun _ _ _ h=>h) hHeld (fun w hSw=>?_) ?_;rotate_left
         · (try dsimp only at hSw);go_simp;try with_reducible rfl
         try walk_nrm
         co_applyP bA 4 rfl (by kernel_rfl) (by kernel_rfl) (fun _ _ _ h=>h) hHeld (fun w hSw=>?_) ?_;rotate_left
         · (try dsimp only at hSw);go_simp;try with_reducible rfl
         try walk_nrm
         co_applyP bA 5 rfl (by kernel_rfl) (by kernel_rfl) (fun _ _ _ h=>h) hHeld (fun w hSw=>?_) ?_;rotate_left
         · (try dsimp only at hSw);go_simp;try with_reducible rfl
         try walk_nrm
         co_applyP bA 6 rfl (by kernel_rfl) (by kernel_rfl) (fun _ _ _ h=>h) hHeld (fun w hSw=>?_) ?_;rotate_left
         · (try dsimp only at hSw);go_simp;try with_reducible rfl
         try walk_nrm
         refine iA 7 (by kernel_rfl) rfl fun K hK=>?_
         go_simp;go_at_call 23;refine(HOp.out _ (fA HU7.out)).mono ?_;rintro e w9 ⟨rfl,hU⟩;have HX9:=Lib.hid ((fA (Under.refl w8)).trans hU);have HU9:=Lib.hid (HU7.out.trans HX9.out);have HW9:=Lib.hid (HW7.out.trans HX9.out);have HB9:=Lib.hid (HB7.out.under HX9.out);have HV9:=Lib.hid (DcV.mono _ _ _ _ HX9.out HV7.out);clear hU;refine hK.out _ _ ⟨Nat.lt_of_lt_of_le hb HU9.out.size,HCw.out _ HU9.out⟩ (fun _=>?_);clear hK K hHeld;rename_i hHeld
         try walk_nrm
         co_applyP bA 8 rfl (by kernel_rfl) (by kernel_rfl) (fun _ _ _ h=>h) hHeld (fun w hSw=>?_) ?_;rotate_left
         · (try dsimp only at hSw);go_simp;try with_reducible rfl
         try walk_nrm
         co_applyP bA 9 rfl (by kernel_rfl) (by kernel_rfl) (fun _ _ _ h=>h) hHeld (fun w hSw=>?_) ?_;rotate_left
         · (try dsimp only at hSw);go_simp;try with_reducible rfl
         try walk_nrm
         co_applyP bA 10 rfl (by kernel_rfl) (by kernel_rfl) (fun _ _ _ h=>h) hHeld (fun w hSw=>?_) ?_;rotate_left
         · (try dsimp only at hSw);go_simp;try with_reducible rfl
         try walk_nrm
         co_applyP bA 11 rfl (by kernel_rfl) (by kernel_rfl) (fun _ _ _ h=>h) hHeld (fun w hSw=>?_) ?_;rotate_left
         · (try dsimp only at hSw);go_simp;try with_reducible rfl
         try walk_nrm
         co_applyP bA 12 rfl (by kernel_rfl) (by kernel_rfl) (fun _ _ _ h=>h) hHeld (fun w hSw=>?_) ?_;rotate_left
         · (try dsimp only at hSw);go_simp;try with_reducible rfl
         try walk_nrm
         refine wpAnyH_done (by kernel_rfl) ?_ _;refine NoPanic.normal ?_;clear hHeld hS1 hb1 HB7 HV7 HU7 HW7 HX9;refine hK0 _ _ ?_;clear hK0;go_wp2_with fail;rename_i K0 hK0;refine wp_region_noPanic ?_;have hS1:=HCw.out _ HU9.out;have hb1:=Nat.lt_of_lt_of_le hb HU9.out.size;have hf1:=HB9.out.lt;have HS2:=Lib.hid (fun w' (h:Under w9 w')=>(show(b < w'.heap.size∧fb < w'.heap.size)∧(w'.cell? ⟨b,off+k * 6,none⟩=some (.int .i64 d.kind)∧w'.cell? ⟨b,off+k * 6+1,none⟩=some (.int .i64 d.level)∧w'.cell? ⟨b,off+k * 6+2,none⟩=some (.string d.name)∧w'.cell? ⟨b,off+k * 6+3,none⟩=some (.slice p1 d.type.length c1)∧w'.cell? ⟨b,off+k * 6+4,none⟩=some (.slice p2 d.body.length c2)∧w'.cell? ⟨b,off+k * 6+5,none⟩=some (.slice p3 d.cons.length c3))∧w'.cell? ⟨fb,0,none⟩=some (.int .i64 d.kind)∧w'.cell? ⟨fb,1,none⟩=some (.int .i64 d.level)∧w'.cell? ⟨fb,2,none⟩=some (.string d.name)∧w'.cell? ⟨fb,3,none⟩=some (.slice q1 d.type.length e1)∧w'.cell? ⟨fb,4,none⟩=some (.slice q2 d.body.length e2)∧w'.cell? ⟨fb,5,none⟩=some (.slice q3 d.cons.length e3) from⟨⟨Nat.lt_of_lt_of_le hb1 h.size,Nat.lt_of_lt_of_le hf1 h.size⟩,HCw.out _ (HU9.out.trans h),(HB9.out.under h).cell 0,(HB9.out.under h).cell 1,(HB9.out.under h).cell 2,(HB9.out.under h).cell 3,(HB9.out.under h).cell 4,(HB9.out.under h).cell 5⟩));have hS2:=HS2.out _ (Under.refl _);have HT1':=Lib.hid (fun w' (h:Under w9 w')=>eG (w0:=w') d (DcV.mono _ _ _ _ h HV9.out));have HT2':=Lib.hid (fun w' (h:Under w9 w')=>eG (w0:=w') d (DcV.mono _ _ _ _ (HU9.out.trans h) HV.out));have HSm':=Lib.hid (fun w' (h:Under w9 w')=>eT (w0:=w') d HD.out.lite (DcV.mono _ _ _ _ h HV9.out) (DcV.mono _ _ _ _ (HU9.out.trans h) HV.out));clear hS1 hb1 hf1;refine wp_region_held_drew (S:=fun w=>(b < w.heap.size∧fb < w.heap.size)∧(w.cell? ⟨b,off+k * 6,none⟩=some (.int .i64 d.kind)∧w.cell? ⟨b,off+k * 6+1,none⟩=some (.int .i64 d.level)∧w.cell? ⟨b,off+k * 6+2,none⟩=some (.string d.name)∧w.cell? ⟨b,off+k * 6+3,none⟩=some (.slice p1 d.type.length c1)∧w.cell? ⟨b,off+k * 6+4,none⟩=some (.slice p2 d.body.length c2)∧w.cell? ⟨b,off+k * 6+5,none⟩=some (.slice p3 d.cons.length c3))∧w.cell? ⟨fb,0,none⟩=some (.int .i64 d.kind)∧w.cell? ⟨fb,1,none⟩=some (.int .i64 d.level)∧w.cell? ⟨fb,2,none⟩=some (.string d.name)∧w.cell? ⟨fb,3,none⟩=some (.slice q1 d.type.length e1)∧w.cell? ⟨fb,4,none⟩=some (.slice q2 d.body.length e2)∧w.cell? ⟨fb,5,none⟩=some (.slice q3 d.cons.length e3)) (by kernel_rfl) hS2 (fun hHeld=>?_);clear hS2;co_applyP bA 0 rfl (by kernel_rfl) (by kernel_rfl) (fun _ _ _ h=>h) hHeld (fun w hSw=>?_) ?_;rotate_left
         · (try dsimp only at hSw);go_simp;try with_reducible rfl
         try walk_nrm
         co_applyP bA 1 rfl (by kernel_rfl) (by kernel_rfl) (fun _ _ _ h=>h) hHeld (fun w hSw=>?_) ?_;rotate_left
         · (try dsimp only at hSw);go_simp;try with_reducible rfl
         try walk_nrm
         co_applyP bA 2 rfl (by kernel_rfl) (by kernel_rfl) (fun _ _ _ h=>h) hHeld (fun w hSw=>?_) ?_;rotate_left
         · (try dsimp only at hSw);go_simp;try with_reducible rfl
         try walk_nrm
         co_applyP bA 3 rfl (by kernel_rfl) (by kernel_rfl) (fun _ _ _ h=>h) hHeld (fun w hSw=>?_) ?_;rotate_left
         · (try dsimp only at hSw);go_simp;try with_reducible rfl
         try walk_nrm
         co_applyP bA 5 rfl (by kernel_rfl) (by kernel_rfl) (fun _ _ _ h=>h) hHeld (fun w hSw=>?_) ?_;rotate_left
         · (try dsimp only at hSw);go_simp;try with_reducible rfl
         try walk_nrm
         co_applyP bA 6 rfl (by kernel_rfl) (by kernel_rfl) (fun _ _ _ h=>h) hHeld (fun w hSw=>?_) ?_;rotate_left
         · (try dsimp only at hSw);go_simp;try with_reducible rfl
         try walk_nrm
         co_applyP bA 7 rfl (by kernel_rfl) (by kernel_rfl) (fun _ _ _ h=>h) hHeld (fun w hSw=>?_) ?_;rotate_left
         · (try dsimp only at hSw);go_simp;try with_reducible rfl
         try walk_nrm
         co_applyP bA 8 rfl (by kernel_rfl) (by kernel_rfl) (fun _ _ _ h=>h) hHeld (fun w hSw=>?_) ?_;rotate_left
         · (try dsimp only at hSw);go_simp;try with_reducible rfl
         try walk_nrm
         refine iA 4 (by kernel_rfl) rfl fun K hK=>?_
         go_simp;go_at_call 14;refine(HT1'.out _ (fA (Under.refl w9))).mono ?_;rintro e w10 ⟨rfl,hU⟩;have HX10:=Lib.hid ((fA (Under.refl w9)).trans hU);clear hU;refine hK.out _ _ (HS2.out _ HX10.out) (fun _=>?_);clear hK K hHeld;rename_i hHeld
         try walk_nrm
         refine iA 9 (by kernel_rfl) rfl fun K hK=>?_
         go_simp;go_at_call 14;refine(HT2'.out _ HX10.out).mono ?_;rintro e w11 ⟨rfl,hU⟩;have HX11:=Lib.hid (HX10.out.trans hU);clear hU;refine hK.out _ _ (HS2.out _ HX11.out) (fun _=>?_);clear hK K hHeld;rename_i hHeld
         try walk_nrm
         refine iA 10 (by kernel_rfl) rfl fun K hK=>?_
         go_simp;go_at_call 13;refine(HSm'.out _ HX11.out).mono ?_;rintro e w12 ⟨rfl,hU⟩;have HX12:=Lib.hid (HX11.out.trans hU);clear hU;refine hK.out _ _ (HS2.out _ HX12.out) (fun _=>?_);clear hK K hHeld;rename_i hHeld
         try walk_nrm
         co_applyP bA 11 rfl (by kernel_rfl) (by kernel_rfl) (fun _ _ _ h=>h) hHeld (fun w hSw=>?_) ?_;rotate_left
         · (try dsimp only at hSw);go_simp;try with_reducible rfl
         try walk_nrm
         co_applyP bA 12 rfl (by kernel_rfl) (by kernel_rfl) (fun _ _ _ h=>h) hHeld (fun w hSw=>?_) ?_;rotate_left
         · (try dsimp only at hSw);go_simp;try with_reducible rfl
         try walk_nrm
         co_applyP bA 13 rfl (by kernel_rfl) (by kernel_rfl) (fun _ _ _ h=>h) hHeld (fun w hSw=>?_) ?_;rotate_left
         · (try dsimp only at hSw);go_simp;try with_reducible rfl
         try walk_nrm
         co_applyP bA 14 rfl (by kernel_rfl) (by kernel_rfl) (fun _ _ _ h=>h) hHeld (fun w hSw=>?_) ?_;rotate_left
         · (try dsimp only at hSw);go_simp;try with_reducible rfl
         try walk_nrm
         co_applyP bA 15 rfl (by kernel_rfl) (by kernel_rfl) (fun _ _ _ h=>h) hHeld (fun w hSw=>?_) ?_;rotate_left
         · (try dsimp only at hSw);go_simp;try with_reducible rfl
         try walk_nrm
         refine wpAnyH_done (by kernel_rfl) ?_ _;refine NoPanic.normal ?_;clear hHeld HX10 HX11 HT1' HT2' HSm' HS2;have HW12:=Lib.hid (HW9.out.trans HX12.out);refine hK0 _ _ ?_;clear hK0;go_wp2;go_roundw
         case rel=>exact⟨k+1,by omega,by go_num,HW12.out⟩
         case measure=>simp[intOf];omega
       · obtain rfl : k = all.length := by omega
         clear hlt;have HFd:=Lib.hid (show Calls Tryz.prog 16 #[.slice qa all.length ca,.string s] wr (fun e w'=>∃ v,e = .returned (.tuple #[v,.bool (lD s all).isSome])∧DcV w' v ((lD s all).getD uT)∧Under wr w') from jP all s (by omega) (fun x hx=>(HLi.out x hx).lite) (RowsV.under DcRow.mono HR.out.2.2 HUz.out));rw[HSm.out.2 s]at HFd;generalize (lD s all).getD uT=a at *;go_wp2_with fail;refine HFd.out.mono ?_;rintro e w7 ⟨v7,rfl,hv7,hU7⟩;obtain⟨vt,vb,vc,rfl,⟨q1,e1,rfl,_⟩,⟨q2,e2,rfl,_⟩,⟨q3,e3,us4,rfl,_⟩⟩:=hv7;have HW7:=Lib.hid (HVz.out.trans (aA hU7 (.cells #[.int .i64 a.kind,.int .i64 a.level,.string a.name,.slice q1 a.type.length e1,.slice q2 a.body.length e2,.slice q3 a.cons.length e3] 33)));have HB7:=Lib.hid (HB5.out.under HW7.out);have hk1:=y9 (w0:=w7.alloc (.cells #[.int .i64 a.kind,.int .i64 a.level,.string a.name,.slice q1 a.type.length e1,.slice q2 a.body.length e2,.slice q3 a.cons.length e3] 33)) (knC all) s (by simp only[maxLen];have:=HKl.out.1;omega) (HT1.out.under HW7.out);have hk2:=y9 (w0:=w7.alloc (.cells #[.int .i64 a.kind,.int .i64 a.level,.string a.name,.slice q1 a.type.length e1,.slice q2 a.body.length e2,.slice q3 a.cons.length e3] 33)) (knD all) s (by simp only[maxLen];have:=HKl.out.2;omega) (HT2.out.under HW7.out);have HK1:=Lib.hid hk1;have HK2:=Lib.hid hk2;have b0:=HB7.out.cell 0;have b1:=HB7.out.cell 1;have bl:=HB7.out.lt;have HEnd:=Lib.hid (HU.out.trans (HUr.out.trans (HX5.out.trans HW7.out)));clear hU7 HFd hk1 hk2
         cases hc1:hasB (knC all) s
         · rw[hc1]at HK1;go_wp2_with fail;refine HK1.out.mono ?_;rintro e w8 ⟨rfl,rfl⟩;go_wp2_with fail;refine HK2.out.mono ?_;rintro e w8 ⟨rfl,rfl⟩;go_wp2;rw[← HQ.out];exact mH rfl rfl ⟨by simp,HEnd.out⟩
         · rw[hc1]at HK1;go_wp2_with fail;refine HK1.out.mono ?_;rintro e w8 ⟨rfl,rfl⟩;go_wp2;rw[← HQ.out];exact mH rfl rfl ⟨by simp,HEnd.out⟩
end
end Go.Proofs.YtggjbblgoddnjaaGreatDoor
