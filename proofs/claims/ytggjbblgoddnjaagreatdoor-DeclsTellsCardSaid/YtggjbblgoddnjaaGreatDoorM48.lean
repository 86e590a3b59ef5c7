/- Part 48 of what the proof rests on. -/
import Derived.Test.YtggjbblgoddnjaaGreatDoorRows
import Derived.Conc.Holds
import Derived.KernelRfl
import Derived.Test.YtggjbblgoddnjaaGreatDoorM12
import Derived.Test.YtggjbblgoddnjaaGreatDoorM30
import Derived.Test.YtggjbblgoddnjaaGreatDoorM41
import Derived.Test.YtggjbblgoddnjaaGreatDoorM42
import Derived.Test.YtggjbblgoddnjaaGreatDoorM44
import Derived.Test.YtggjbblgoddnjaaGreatDoorM47
set_option linter.unusedSimpArgs false
set_option linter.unusedVariables false
set_option maxRecDepth 100000
set_option maxHeartbeats 4000000
namespace Go.Proofs.YtggjbblgoddnjaaGreatDoor
open Go.Lx Go.RowKit
section
variable {w0 : World}
theorem dWA(ls:List Dc){p q:Option Addr}{c c':Nat}(hl:ls.length≤100000)(hd:∀ d∈ls,Lite d)(hp:RowsV 6 DcRow w0 p ls)(hq:RowsV 6 DcRow w0 q ls):Calls Tryz.prog 27 #[.slice p ls.length c,.slice q ls.length c'] w0 fun e w=>e = .returned (.bool true)∧Under w0 w:=by
 have HP:=Lib.hid hp;have HQ:=Lib.hid hq;have HD:=Lib.hid hd;have hl0:(0:Int)≤(ls.length:Int):=by omega
 have hl9:(ls.length:Int)≤100000:=by omega
 clear hp hq hd;go_enter Tryz.func27,Tryz.ntmps27;go_wp2;go_loopw [5] (fun i wr=>∃ k:Nat,k≤ls.length∧i = .int .i64 (k:Int)∧Under w0 wr) (fun i _=>ls.length - (intOf i).toNat)
 case atStart=>exact⟨0,Nat.zero_le _,rfl,Under.refl _⟩
 case round =>
   obtain⟨k,hk,rfl,hU⟩:=hrel;have HU:=Lib.hid hU;have hk0:(0:Int)≤(k:Int):=by omega
   clear hU;by_cases hlt:k < ls.length
   · obtain ⟨b, off, r, rfl, hb, hrl, hr, hc⟩ := HP.out.at (List.getElem?_eq_getElem hlt) (by decide); obtain ⟨b9, off9, r9, rfl, hb9, hrl9, hr9, hc9⟩ := HQ.out.at (List.getElem?_eq_getElem hlt) (by decide); have HS := Lib.hid (fun w (h : Under w0 w) => eT (w0 := w) ls[k] (HD.out _ (List.getElem_mem hlt)) (DcV.mono _ _ _ _ h (DcRow.val hr)) (DcV.mono _ _ _ _ h (DcRow.val hr9))); obtain ⟨v1, v2, v3, rfl, ⟨p1, c1, rfl, _⟩, ⟨p2, c2, rfl, _⟩, ⟨p3, c3, us3, rfl, _⟩⟩ := hr; obtain ⟨x1, x2, x3, rfl, ⟨q1, k1, rfl, _⟩, ⟨q2, k2, rfl, _⟩, ⟨q3, k3, ys3, rfl, _⟩⟩ := hr9; have cc0 := hc 0 _ rfl; have cc1 := hc 1 _ rfl; have cc2 := hc 2 _ rfl; have cc3 := hc 3 _ rfl; have cc4 := hc 4 _ rfl; have cc5 := hc 5 _ rfl; have dd0 := hc9 0 _ rfl; have dd1 := hc9 1 _ rfl; have dd2 := hc9 2 _ rfl; have dd3 := hc9 3 _ rfl; have dd4 := hc9 4 _ rfl; have dd5 := hc9 5 _ rfl; simp only [Nat.add_zero, ← Nat.add_assoc] at cc0 cc1 cc2 cc3 cc4 cc5 dd0 dd1 dd2 dd3 dd4 dd5; have hlt' : (k : Int) < (ls.length : Int) := by omega
     clear hc hrl hc9 hrl9;generalize ls[k]=x at *;have HX:=Lib.hid (fun w' (h:Under w0 w')=>And.intro ((dA h hb _).trans cc0) (And.intro ((dA h hb _).trans cc1) (And.intro ((dA h hb _).trans cc2) (And.intro ((dA h hb _).trans cc3) (And.intro ((dA h hb _).trans cc4) (And.intro ((dA h hb _).trans cc5) (And.intro ((dA h hb9 _).trans dd0) (And.intro ((dA h hb9 _).trans dd1) (And.intro ((dA h hb9 _).trans dd2) (And.intro ((dA h hb9 _).trans dd3) (And.intro ((dA h hb9 _).trans dd4) ((dA h hb9 _).trans dd5))))))))))));go_wp2_with fail;rename_i K0 hK0;refine wp_region_noPanic ?_;refine wp_region_held_drew (S:=fun w'=>w'.cell? ⟨b,off+k * 6,none⟩=some (.int .i64 x.kind)∧w'.cell? ⟨b,off+k * 6+1,none⟩=some (.int .i64 x.level)∧w'.cell? ⟨b,off+k * 6+2,none⟩=some (.string x.name)∧w'.cell? ⟨b,off+k * 6+3,none⟩=some (.slice p1 x.type.length c1)∧w'.cell? ⟨b,off+k * 6+4,none⟩=some (.slice p2 x.body.length c2)∧w'.cell? ⟨b,off+k * 6+5,none⟩=some (.slice p3 x.cons.length c3)∧w'.cell? ⟨b9,off9+k * 6,none⟩=some (.int .i64 x.kind)∧w'.cell? ⟨b9,off9+k * 6+1,none⟩=some (.int .i64 x.level)∧w'.cell? ⟨b9,off9+k * 6+2,none⟩=some (.string x.name)∧w'.cell? ⟨b9,off9+k * 6+3,none⟩=some (.slice q1 x.type.length k1)∧w'.cell? ⟨b9,off9+k * 6+4,none⟩=some (.slice q2 x.body.length k2)∧w'.cell? ⟨b9,off9+k * 6+5,none⟩=some (.slice q3 x.cons.length k3)) (by kernel_rfl) (HX.out _ (fA HU.out)) (fun hHeld=>?_);co_applyP bA 0 rfl (by kernel_rfl) (by kernel_rfl) (fun _ _ _ h=>h) hHeld (fun w hSw=>?_) ?_;rotate_left
     · (try dsimp only at hSw);go_simp;try with_reducible rfl
     try walk_nrm
     co_applyP bA 1 rfl (by kernel_rfl) (by kernel_rfl) (fun _ _ _ h=>h) hHeld (fun w hSw=>?_) ?_;rotate_left
     · (try dsimp only at hSw);go_simp;try with_reducible rfl
     try walk_nrm
     co_applyP bA 2 rfl (by kernel_rfl) (by kernel_rfl) (fun _ _ _ h=>h) hHeld (fun w hSw=>?_) ?_;rotate_left
     · (try dsimp only at hSw);go_simp;try with_reducible rfl
     try walk_nrm
     co_applyP bA 3 rfl (by kernel_rfl) (by kernel_rfl) (fun _ _ _ h=>h) hHeld (fun w hSw=>?_) ?_;rotate_left
     · (try dsimp only at hSw);go_simp;try with_reducible rfl
     try walk_nrm
     co_applyP bA 4 rfl (by kernel_rfl) (by kernel_rfl) (fun _ _ _ h=>h) hHeld (fun w hSw=>?_) ?_;rotate_left
     · (try dsimp only at hSw);go_simp;try with_reducible rfl
     try walk_nrm
     co_applyP bA 5 rfl (by kernel_rfl) (by kernel_rfl) (fun _ _ _ h=>h) hHeld (fun w hSw=>?_) ?_;rotate_left
     · (try dsimp only at hSw);go_simp;try with_reducible rfl
     try walk_nrm
     co_applyP bA 6 rfl (by kernel_rfl) (by kernel_rfl) (fun _ _ _ h=>h) hHeld (fun w hSw=>?_) ?_;rotate_left
     · (try dsimp only at hSw);go_simp;try with_reducible rfl
     try walk_nrm
     co_applyP bA 7 rfl (by kernel_rfl) (by kernel_rfl) (fun _ _ _ h=>h) hHeld (fun w hSw=>?_) ?_;rotate_left
     · (try dsimp only at hSw);go_simp;try with_reducible rfl
     try walk_nrm
     refine iA 8 (by kernel_rfl) rfl fun K hK=>?_
     go_simp;go_at_call 13;refine(HS.out _ (fA HU.out)).mono ?_;rintro e w9 ⟨rfl,hU9⟩;refine hK.out _ _ (HX.out _ ((fA HU.out).trans hU9)) (fun _=>?_);clear hK K hHeld;rename_i hHeld
     try walk_nrm
     co_applyP bA 9 rfl (by kernel_rfl) (by kernel_rfl) (fun _ _ _ h=>h) hHeld (fun w hSw=>?_) ?_;rotate_left
     · (try dsimp only at hSw);go_simp;try with_reducible rfl
     try walk_nrm
     refine wpAnyH_done (by kernel_rfl) ?_ _;refine NoPanic.normal ?_;refine hK0 _ _ ?_;have HU9:=Lib.hid ((fA HU.out).trans hU9);clear hHeld HX hK0 K0;go_wp2;go_roundw
     case rel=>exact⟨k+1,by omega,by go_num,HU9.out⟩
     case measure=>simp[intOf];omega
   · obtain rfl : k = ls.length := by omega
     go_wp2;go_ret;exact⟨rfl,HU.out⟩
end
end Go.Proofs.YtggjbblgoddnjaaGreatDoor
namespace Go.Proofs.YtggjbblgoddnjaaGreatDoor
open Go.Conc Go.Lx Go.RowKit
noncomputable def tlRest:Code:=jA (jA (Tryz.f4.body.getD .skip))
def TkQ(W:World)(e:Exit)(a:Act)(w:World):Prop:=bP Tryz.prog Tryz.f4 (TrueU W) e a w
theorem zUA{s:ByteArray}{l:List Dc}{P:Dc→Prop}(h:∀ x∈l,P x)(h0:P uT):P ((lD s l).getD uT):=by
 cases hf:lD s l with
 | none=>exact h0
 | some a=>exact h a (List.mem_of_find?_eq_some hf)
theorem i2A{l:List Dc}{d:Dc}(h:iJ l d=0):wN l d=l++[d]∧lD d.name (l++[d])=some d:=by
 have h1:lD d.name l=none:=by
  unfold iJ at h
  split at h
  · contradiction
  · split at h
    · cases h
    · rename_i h2;simpa using h2
 refine⟨by unfold wN;rw[if_pos h],?_⟩;unfold lD at *;rw[List.find?_append,h1];simp
theorem pZA{l:List Dc}{d:Dc}(h:iJ l d≠0):wN l d=[]:=by unfold wN;rw[if_neg h]
theorem iZA:Lite uT:=⟨by decide,by decide,by decide,by decide⟩
section
variable {W w : World}
theorem j0A {na c nt ct nb cb nc cc : Nat} {l : List Dc} {d : Dc} {s : ByteArray} {p pt pb pc : Option Addr} (hl : l.length ≤ 2048) (hlc : l.length ≤ c) (hp0 : p = none → c = 0) (hp : RowsV 6 DcRow w p l) (hla : ∀ x ∈ l, Lite x) (hf : Fine d)
    (hv:DcV w (.agg #[.int .i64 d.kind,.int .i64 d.level,.string d.name,.slice pt nt ct,.slice pb nb cb,.slice pc nc cc]) d) (hb:BoxAt w na 33 #[.int .i64 d.kind,.int .i64 d.level,.string d.name,.slice pt nt ct,.slice pb nb cb,.slice pc nc cc]) (hS:ShapesAt 3 w) (hU:Under W w) (x7 x8 x9 x10 x11 x12 x13 x14 x15 x16 x17 x18 x19 x20 x21 x22:Value) (J:Nat→Value) :
    tlRest.wp Tryz.prog (TkQ W) ⟨iQ (.slice p l.length c) (.string s) (.pointer (some ⟨na,0,none⟩)) x7 x8 x9 x10 x11 x12 x13 x14 x15 x16 x17 x18 x19 x20 x21 x22 J,[]⟩ w:=by
  have HA:=Lib.hid (zUA (s:=s) hla iZA);have HF:=Lib.hid (show Calls Tryz.prog 16 #[.slice p l.length c,.string s] w (fun e w'=>∃ v,e = .returned (.tuple #[v,.bool (lD s l).isSome])∧DcV w' v ((lD s l).getD uT)∧Under w w') from jP l s (by omega) hla hp);have HL:=Lib.hid (fun w' (h:Under w w')=>bR (w0:=w') (c:=c) (ds:=l) (by omega) (RowsV.under DcRow.mono hp h));have HF2:=Lib.hid (fun w' (q:Option Addr) (c':Nat) (h:RowsV 6 DcRow w' q l)=>show Calls Tryz.prog 17 #[.slice q l.length c',.string s] w' (fun e w''=>∃ v,e = .returned (.tuple #[v,.bool (lD s l).isSome])∧DcV w'' v ((lD s l).getD uT)∧Under w' w'') from yEA l s (by omega) h);generalize (lD s l).getD uT=a at *;generalize (lD s l).isSome=bo at *;have HV:=Lib.hid (And.intro hv hb);have HP:=Lib.hid (And.intro hl (And.intro hlc (And.intro hp0 (And.intro hp (And.intro hla (And.intro hf hS))))));have HU:=Lib.hid hU;clear hl hlc hp0 hp hla hf hv hb hS hU;generalize hQ:TkQ W=Q;have HQ:=Lib.hid hQ;clear hQ;unfold tlRest;simp only[Tryz.f4,Option.getD_some,jA];unfold iQ;go_wp2_with fail;refine HF.out.mono ?_;rintro e w1 ⟨v1,rfl,hv1,hU1⟩;have HV1:=Lib.hid hv1;obtain⟨vt,vb,vc,rfl,⟨qt,dt,rfl,_⟩,⟨qb,db,rfl,_⟩,⟨qc,dc,us3,rfl,_⟩⟩:=hv1;have HB1:=Lib.hid (qA w1 #[.int .i64 a.kind,.int .i64 a.level,.string a.name,.slice qt a.type.length dt,.slice qb a.body.length db,.slice qc a.cons.length dc] 33);have HU1:=Lib.hid (aA hU1 (.cells #[.int .i64 a.kind,.int .i64 a.level,.string a.name,.slice qt a.type.length dt,.slice qb a.body.length db,.slice qc a.cons.length dc] 33));clear hU1 HF;go_wp2_with fail;refine(HL.out _ HU1.out).mono ?_;rintro e w2 ⟨q2,k2,rfl,_,_,hq2,hU2⟩;have HF2':=Lib.hid (HF2.out w2 q2 k2 hq2);have HB2:=Lib.hid (HB1.out.under hU2);have HU2:=Lib.hid (HU1.out.trans hU2);have HX12:=Lib.hid (Under.trans (aA (Under.refl w1) (.cells #[.int .i64 a.kind,.int .i64 a.level,.string a.name,.slice qt a.type.length dt,.slice qb a.body.length db,.slice qc a.cons.length dc] 33)) hU2);clear hU2 hq2 HF2 HU1 HB1;go_wp2_with fail;refine HF2'.out.mono ?_;rintro e w3 ⟨v3,rfl,hv3,hU3⟩;have HV3:=Lib.hid hv3;obtain⟨vt,vb,vc,rfl,⟨rt,et,rfl,_⟩,⟨rb,eb,rfl,_⟩,⟨rc,ec,us4,rfl,_⟩⟩:=hv3;have HB3:=Lib.hid (qA w3 #[.int .i64 a.kind,.int .i64 a.level,.string a.name,.slice rt a.type.length et,.slice rb a.body.length eb,.slice rc a.cons.length ec] 37);have HU3:=Lib.hid (HU2.out.trans (aA hU3 (.cells #[.int .i64 a.kind,.int .i64 a.level,.string a.name,.slice rt a.type.length et,.slice rb a.body.length eb,.slice rc a.cons.length ec] 37)));have HB1:=Lib.hid (HB2.out.under (aA hU3 (.cells #[.int .i64 a.kind,.int .i64 a.level,.string a.name,.slice rt a.type.length et,.slice rb a.body.length eb,.slice rc a.cons.length ec] 37)));have HV1:=Lib.hid (DcV.mono _ _ _ _ (aA hU3 (.cells #[.int .i64 a.kind,.int .i64 a.level,.string a.name,.slice rt a.type.length et,.slice rb a.body.length eb,.slice rc a.cons.length ec] 37)) (DcV.mono _ _ _ _ HX12.out HV1.out))
  have HV3 := Lib.hid (DcV.mono _ _ _ _ (aA (Under.refl w3) (.cells #[.int .i64 a.kind, .int .i64 a.level, .string a.name, .slice rt a.type.length et, .slice rb a.body.length eb, .slice rc a.cons.length ec] 37)) HV3.out); obtain ⟨w4, hw4⟩ : ∃ w4, w4 = w3.alloc (.cells #[.int .i64 a.kind, .int .i64 a.level, .string a.name, .slice rt a.type.length et, .slice rb a.body.length eb, .slice rc a.cons.length ec] 37) := ⟨_, rfl⟩; rw [← hw4] at HB3 HU3 HB1 HV1 HV3; have HK := Lib.hid (bT (w0 := w4) (c := c) l (by have := HP.out.1; omega) (RowsV.under DcRow.mono HP.out.2.2.2.1 HU3.out)); clear hU3 HF2' HU2 HB2 HX12; go_wp2_with fail; rw [← hw4]; clear hw4; refine HK.out.mono ?_; rintro e w5 ⟨vk, vd, rfl, hT, hU5⟩; have t1 := TextsV.of_own hT.one; have t2 := TextsV.of_own hT.two; have HT1 := Lib.hid t1; have HT2 := Lib.hid t2; obtain ⟨kq, kc, rfl, _⟩ := t1; obtain ⟨kr, kd, rfl, _⟩ := t2; have HB5 := Lib.hid (qA w5 #[.slice kq (knC l).length kc, .slice kr (knD l).length kd] 52); have HX5 := Lib.hid (hU5.trans (aA (Under.refl w5) (.cells #[.slice kq (knC l).length kc, .slice kr (knD l).length kd] 52))); have HT1 := Lib.hid (HT1.out.under (aA (Under.refl w5) (.cells #[.slice kq (knC l).length kc, .slice kr (knD l).length kd] 52))); have HT2 := Lib.hid (HT2.out.under (aA (Under.refl w5) (.cells #[.slice kq (knC l).length kc, .slice kr (knD l).length kd] 52))); clear hT hU5 HK; go_wp2_with fail; refine (HL.out _ (HU3.out.trans HX5.out)).mono ?_; rintro e w6 ⟨q6, k6, rfl, _, _, hq6, hU6⟩; have HK6 := Lib.hid (nCA (w0 := w6) (c := k6) l (by have := HP.out.1; omega) hq6); have HB5 := Lib.hid (HB5.out.under hU6); have HX6 := Lib.hid (HX5.out.trans hU6); have HT1 := Lib.hid (HT1.out.under hU6); have HT2 := Lib.hid (HT2.out.under hU6); clear hU6 hq6 HX5; go_wp2_with fail; refine HK6.out.mono ?_; rintro e w7 ⟨vk, vd, rfl, hT, hU7⟩; have t1 := TextsV.of_own hT.one; have t2 := TextsV.of_own hT.two; have HT3 := Lib.hid t1; have HT4 := Lib.hid t2; obtain ⟨yq, yc, rfl, _⟩ := t1; obtain ⟨yr, yd, rfl, _⟩ := t2; have HU8 := Lib.hid (aA hU7 (.cells #[.slice yq (knC l).length yc, .slice yr (knD l).length yd] 54)); have HV8 := Lib.hid (aA (Under.refl w7) (.cells #[.slice yq (knC l).length yc, .slice yr (knD l).length yd] 54)); have HB8 := Lib.hid (qA w7 #[.slice yq (knC l).length yc, .slice yr (knD l).length yd] 54); clear hT hU7 HK6; go_wp2_with fail; rename_i K0 hK0; obtain ⟨w8, hw8⟩ : ∃ w8, w8 = w7.alloc (.cells #[.slice yq (knC l).length yc, .slice yr (knD l).length yd] 54) := ⟨_, rfl⟩; rw [← hw8] at HU8 HV8 HB8 ⊢; clear hw8; have HW8 := Lib.hid (HU3.out.trans (HX6.out.trans HU8.out)); refine wp_mono (fO (F := iQ _ _ _ _ _ _ _ _ _ _ _ _ _ _ _ _ _ _ _) (by rfl) (fun J => v3A (d := d) (a := a) (ks := knC l) (ms := knD l) HP.out.2.2.2.2.2.1 HA.out (Nat.le_trans (yN l).1 (Nat.le_trans HP.out.1 (by decide))) (Nat.le_trans (yN l).2 (Nat.le_trans HP.out.1 (by decide))) (HP.out.2.2.2.2.2.2.under HW8.out)
    (DcV.mono _ _ _ _ HW8.out HV.out.1) (HV.out.2.under HW8.out) (DcV.mono _ _ _ _ (HX6.out.trans HU8.out) HV1.out) (HB1.out.under (HX6.out.trans HU8.out)) (DcV.mono _ _ _ _ (HX6.out.trans HU8.out) HV3.out) (HB3.out.under (HX6.out.trans HU8.out))
    (HT1.out.under HU8.out) (HT2.out.under HU8.out) (HB5.out.under HU8.out) (HT3.out.under HV8.out) (HT4.out.under HV8.out) HB8.out J)) ?_
  rintro e a' w9 ⟨hU9,rfl,h91,J9,rfl⟩;have h91:J9 91 = .bool false:=h91;have HW9:=Lib.hid (HW8.out.trans hU9);have hP9:=RowsV.under DcRow.mono HP.out.2.2.2.1 HW9.out;have HO:=Lib.hid (uCA (w0:=w9) (c:=c) l d (by have:=HP.out.1;omega) hP9 HP.out.2.2.2.2.2.1.small HP.out.2.2.2.2.2.1.many (DcV.mono _ _ _ _ HW9.out HV.out.1));have HB9:=Lib.hid (HV.out.2.under HW9.out);have n0:=HB9.out.cell 0;have n1:=HB9.out.cell 1;have n2:=HB9.out.cell 2;have n3:=HB9.out.cell 3;have n4:=HB9.out.cell 4;have n5:=HB9.out.cell 5;have nl:=HB9.out.lt;clear hU9 hP9 HW8 HU8 HV8 HB8 HT1 HT2 HT3 HT4 HB5 HX6 HB3 HB1 HV1 HV3;refine hK0 _ _ ?_;clear hK0;unfold lHA iQ;go_wp2_with fail;refine HO.out.mono ?_;rintro e w10 ⟨rfl,hU10⟩;have HW10:=Lib.hid (HW9.out.trans hU10);clear hU10 HO n0 n1 n2 n3 n4 n5 nl HB9;go_wp2_with fail;rename_i K0 hK0;refine wp_mono (fO (F:=iQ _ _ _ _ _ _ _ _ _ _ _ _ _ _ _ _ _ _ _) (by rfl) (fun J=>z2A (l:=l) (d:=d) (by have:=HP.out.1;omega) (RowsV.under DcRow.mono HP.out.2.2.2.1 HW10.out) HP.out.2.2.2.2.2.1 (DcV.mono _ _ _ _ HW10.out HV.out.1) (HV.out.2.under HW10.out) J)) ?_;rintro e a' w11 ⟨hU11,rfl,J11,rfl⟩;have HW11:=Lib.hid (HW10.out.trans hU11);have HAd:=Lib.hid (oCA (w0:=w11) (c:=c) l d (by have:=HP.out.1;omega) HP.out.2.1 HP.out.2.2.1 (RowsV.under DcRow.mono HP.out.2.2.2.1 HW11.out) HP.out.2.2.2.2.1 HP.out.2.2.2.2.2.1 (DcV.mono _ _ _ _ HW11.out HV.out.1) (HP.out.2.2.2.2.2.2.under HW11.out));have HB9:=Lib.hid (HV.out.2.under HW11.out);have n0:=HB9.out.cell 0;have n1:=HB9.out.cell 1;have n2:=HB9.out.cell 2;have n3:=HB9.out.cell 3;have n4:=HB9.out.cell 4;have n5:=HB9.out.cell 5;have nl:=HB9.out.lt;clear hU11 HW9 HW10;refine hK0 _ _ ?_;clear hK0;unfold lHA iQ;go_wp2_with fail;refine HAd.out.mono ?_;rintro e w12 ⟨qx,cx,rfl,hx1,hx0,hxr,hU12⟩;have HW12:=Lib.hid (HW11.out.trans hU12);have HX:=Lib.hid (And.intro hx1 (And.intro hx0 hxr));clear hU12 hx1 hx0 hxr HAd n0 n1 n2 n3 n4 n5 nl HB9;go_wp2_with fail;rename_i K0 hK0;refine wp_mono (fO (F:=iQ _ _ _ _ _ _ _ _ _ _ _ _ _ _ _ _ _ _ _) (by rfl) (fun J=>a5A (l:=l) (d:=d) (by have:=HP.out.1;omega) (RowsV.under DcRow.mono HP.out.2.2.2.1 HW12.out) HP.out.2.2.2.2.2.1 (DcV.mono _ _ _ _ HW12.out HV.out.1) (HV.out.2.under HW12.out) J)) ?_;rintro e a' w13 ⟨hU13,qy,cy,⟨rfl,J13,rfl⟩,hy1,hy0,hyr⟩;have HW13:=Lib.hid (HW12.out.trans hU13);have HX13:=Lib.hid (RowsV.under DcRow.mono HX.out.2.2 hU13);have HY:=Lib.hid (And.intro hy1 (And.intro hy0 hyr));have hxl:(wN l d).length≤2049:=by have:=HP.out.1;unfold wN;split<;>simp;omega
  have hxa:∀ x∈wN l d,Lite x:=by
   intro x hx;unfold wN at hx
   split at hx
   · rcases List.mem_append.1 hx with hx | hx
     · exact HP.out.2.2.2.2.1 x hx
     · rw[List.mem_singleton.1 hx];exact HP.out.2.2.2.2.2.1.lite
   · cases hx
  have HLx:=Lib.hid (bR (w0:=w13) (c:=cx) (ds:=wN l d) (by omega) HX13.out);have HXa:=Lib.hid (And.intro hxl hxa);clear hU13 hy1 hy0 hyr HW11 HW12 hxl hxa;refine hK0 _ _ ?_;clear hK0;unfold lHA iQ;go_wp2_with fail;refine HLx.out.mono ?_;rintro e w14 ⟨qz,cz,rfl,hz1,hz0,hzr,hU14⟩;have HAl:=Lib.hid (dWA (w0:=w14) (wN l d) (p:=qz) (q:=qy) (c:=cz) (c':=cy) (by have:=HXa.out.1;omega) HXa.out.2 hzr (RowsV.under DcRow.mono HY.out.2.2 hU14));have HW14:=Lib.hid (HW13.out.trans hU14);have HX14:=Lib.hid (RowsV.under DcRow.mono HX13.out hU14);clear hU14 hz1 hz0 hzr HLx;go_wp2_with fail;refine HAl.out.mono ?_;rintro e w15 ⟨rfl,hU15⟩;have HW15:=Lib.hid (HW14.out.trans hU15);have HX15:=Lib.hid (RowsV.under DcRow.mono HX14.out hU15);clear hU15 HAl;have HB9:=Lib.hid (HV.out.2.under HW15.out);by_cases hE:iJ l d=0
  · obtain⟨h1,h2⟩:=i2A hE;rw[hE,h1];rw[h1]at HX15 HXa;have HFd:=Lib.hid (show Calls Tryz.prog 16 #[.slice qx (l++[d]).length cx,.string d.name] w15 (fun e w'=>∃ v,e = .returned (.tuple #[v,.bool (lD d.name (l++[d])).isSome])∧DcV w' v ((lD d.name (l++[d])).getD uT)∧Under w15 w') from jP (l++[d]) d.name (by have:=HXa.out.1;omega) HXa.out.2 HX15.out);rw[h2]at HFd;simp only[Option.isSome_some,Option.getD_some]at HFd;clear h1 h2 hE;have n2:=HB9.out.cell 2;have nl:=HB9.out.lt;have HLen:=Lib.hid (show(0:Int)≤((l++[d]).length:Int) by omega);generalize (l++[d]).length=nx at *;go_wp2_with fail;refine HFd.out.mono ?_;rintro e w16 ⟨v16,rfl,hv16,hU16⟩;have HV16:=Lib.hid (DcV.mono _ _ _ _ (aA (Under.refl w16) (.cells #[] 33)) hv16);have HV17:=Lib.hid hv16;obtain⟨vt,vb,vc,rfl,⟨vt,ut,rfl,_⟩,⟨vb,ub,rfl,_⟩,⟨vc,uc,us5,rfl,_⟩⟩:=hv16;have HV18:=Lib.hid (DcV.mono _ _ _ _ (aA (Under.refl w16) (.cells #[.int .i64 d.kind,.int .i64 d.level,.string d.name,.slice vt d.type.length ut,.slice vb d.body.length ub,.slice vc d.cons.length uc] 33)) HV17.out);have HB18:=Lib.hid (qA w16 #[.int .i64 d.kind,.int .i64 d.level,.string d.name,.slice vt d.type.length ut,.slice vb d.body.length ub,.slice vc d.cons.length uc] 33);have HW18:=Lib.hid (HW15.out.trans (aA hU16 (.cells #[.int .i64 d.kind,.int .i64 d.level,.string d.name,.slice vt d.type.length ut,.slice vb d.body.length ub,.slice vc d.cons.length uc] 33)));clear HV16 HV17 hU16 HFd n2 nl HX15 HX14 HX13 HXa;go_wp2_with fail;rename_i K0 hK0;refine wp_mono (fO (F:=iQ _ _ _ _ _ _ _ _ _ _ _ _ _ _ _ _ _ _ _) (by rfl) (fun J=>m2A (d:=d) HP.out.2.2.2.2.2.1.lite (DcV.mono _ _ _ _ HW18.out HV.out.1) (HV.out.2.under HW18.out) HV18.out HB18.out J)) ?_;rintro e a' w19 ⟨hU19,rfl,h6,hdf⟩;have HW19:=Lib.hid (HW18.out.trans hU19);clear hU19;refine hK0 _ _ ?_;clear hK0;obtain⟨tm,df⟩:=a';obtain rfl:df=[]:=hdf;go_wp2;rw[← HQ.out];exact mH rfl rfl ⟨h6,HU.out.trans HW19.out⟩
  · rw[pZA hE];simp only[List.length_nil];go_wp2;rw[← HQ.out];exact mH rfl rfl ⟨rfl,HU.out.trans HW15.out⟩
end
theorem qSA(l:List Dc)(d:Dc)(s:ByteArray){p:Option Addr}{c:Nat}{v:Value}(W:World)(hlc:l.length≤c)(hl:l.length≤9223372036854775807)(hp0:p=none→c=0)(hp:RowsV 6 DcRow W p l)(hs:∀ x∈l,SzD x)(hsd:SzD d)(hv:DcV W v d)(hE:StrcAt W)(hS:ShapesAt 3 W) :
 CallsG Tryz.prog 4 #[.slice p l.length c,v,.string s] W (TrueU W):=by
 have HV:=Lib.hid hv;obtain⟨vt,vb,vc,rfl,⟨pt,ct,rfl,_⟩,⟨pb,cb,rfl,_⟩,⟨pc,cc,us,rfl,_⟩⟩:=hv;refine nI lC Tryz.func4 rfl ?_ TrueU.re;simp only[Tryz.ntmps4,List.size_toArray,List.length_cons,List.length_nil,Nat.reduceAdd,Nat.reduceSub,Array.replicate_succ,Array.replicate_zero,List.push_toArray,List.append_toArray,List.nil_append,List.cons_append];refine fG lC (vD lC fun τ d9=>?_);go_wp2;have HB0:=Lib.hid (qA (re W τ d9) #[.int .i64 d.kind,.int .i64 d.level,.string d.name,.slice pt d.type.length ct,.slice pb d.body.length cb,.slice pc d.cons.length cc] 33);have HU0:=Lib.hid (aA ((Under.refl W).re τ d9) (.cells #[.int .i64 d.kind,.int .i64 d.level,.string d.name,.slice pt d.type.length ct,.slice pb d.body.length cb,.slice pc d.cons.length cc] 33));have hsz:(re W τ d9).heap.size=W.heap.size:=rfl;rw[hsz]at HB0 ⊢;generalize (re W τ d9).alloc (.cells #[.int .i64 d.kind,.int .i64 d.level,.string d.name,.slice pt d.type.length ct,.slice pb d.body.length cb,.slice pc d.cons.length cc] 33)=w1 at *;clear hsz;refine fG lC (fG lC ?_);refine yS lC 13 (by decide) fun τ d9=>?_
 simp only[List.take_succ_cons,List.take_zero];have HU1:=Lib.hid (HU0.out.re τ d9);have HHv:=Lib.hid (tCA (w0:=re w1 τ d9) (c:=c) l hl hs (RowsV.under DcRow.mono hp HU1.out));go_wp2_with fail;refine HHv.out.mono ?_;rintro e w2 ⟨hU2,b,rfl,hb⟩;have HU2:=Lib.hid (HU1.out.trans hU2);have HB2:=Lib.hid (show BoxAt w2 W.heap.size 33 #[.int .i64 d.kind,.int .i64 d.level,.string d.name,.slice pt d.type.length ct,.slice pb d.body.length cb,.slice pc d.cons.length cc] from BoxAt.under (w:=re w1 τ d9) HB0.out hU2);clear HHv hU2
 cases b
 · obtain ⟨hl2, hlw⟩ := hb rfl; have HLw := Lib.hid (And.intro hl2 hlw); have HWt := Lib.hid (eCA (w0 := w2) d hsd (DcV.mono _ _ _ _ HU2.out HV.out)); have n0 := HB2.out.cell 0; have n1 := HB2.out.cell 1; have n2 := HB2.out.cell 2; have n3 := HB2.out.cell 3; have n4 := HB2.out.cell 4; have n5 := HB2.out.cell 5; have nl := HB2.out.lt; have HArg := Lib.hid (And.intro hlc (And.intro hp0 (And.intro hp (And.intro hs hsd)))); clear hb hl2 hlw hlc hp0 hp hs hsd hl; go_wp2_with fail; refine HWt.out.mono ?_; rintro e w3 ⟨hU3, z, rfl, hz1, hz2, hz3⟩; have HU2 := Lib.hid (HU2.out.trans hU3); have HB3 := Lib.hid (HB2.out.under hU3); have HZ := Lib.hid hz3; have HSh := Lib.hid (bO w3 (hE.under HU2.out) (hS.under HU2.out)); clear hU3 hz3 n0 n1 n2 n3 n4 n5 nl HWt HB2; by_cases hz : (2048 : Int) < z
   · go_wp2; refine jE lC 13 3 0 (by decide) fun τ d => ?_
     simp only[List.drop_succ_cons,List.drop_zero,List.take_succ_cons,List.take_zero];walk_nrm;go_wp2;refine vF lC ?_;simp only[Exit.then];refine jI ?_ τ d;refine bN lC (t:=true) rfl ?_;simp only[if_true];refine fG lC (vI lC ?_);refine qH (i:=0) (rest:=List.range' 1 1) lC rfl (by rfl) (sF (vs:=#[]) rfl Tryz.func9 (by kernel_rfl) rfl (by simp)) HSh.out ?_;rintro v w3 ⟨rfl,hU3⟩;refine jE lC 1 1 0 (by decide) fun τ d=>?_
     simp only[List.drop_succ_cons,List.drop_zero,List.take_succ_cons,List.take_zero];walk_nrm;go_wp2;refine vF lC ?_;simp only[Exit.then];refine vD lC fun τ d=>?_
     go_wp2;exact mH rfl rfl ⟨rfl,(HU2.out.trans hU3).re _ _⟩
   by_cases h2:(100:Int) < s.size
   · go_wp2; refine jE lC 13 3 0 (by decide) fun τ d => ?_
     simp only[List.drop_succ_cons,List.drop_zero,List.take_succ_cons,List.take_zero];walk_nrm;go_wp2;refine vF lC ?_;simp only[Exit.then];refine jI ?_ τ d;refine bN lC (t:=true) rfl ?_;simp only[if_true];refine fG lC (vI lC ?_);refine qH (i:=0) (rest:=List.range' 1 1) lC rfl (by rfl) (sF (vs:=#[]) rfl Tryz.func9 (by kernel_rfl) rfl (by simp)) HSh.out ?_;rintro v w3 ⟨rfl,hU3⟩;refine jE lC 1 1 0 (by decide) fun τ d=>?_
     simp only[List.drop_succ_cons,List.drop_zero,List.take_succ_cons,List.take_zero];walk_nrm;go_wp2;refine vF lC ?_;simp only[Exit.then];refine vD lC fun τ d=>?_
     go_wp2;exact mH rfl rfl ⟨rfl,(HU2.out.trans hU3).re _ _⟩
   go_wp2;have e1:decide ((2048:Int) < z)=false:=decide_eq_false (by omega);have e2:decide ((100:Int) < s.size)=false:=decide_eq_false (by omega);simp only[e1,e2,Bool.or_self];refine qH (i:=13) (rest:=List.range' 14 2) lC rfl (by rfl) (sF (vs:=#[]) rfl Tryz.func9 (by kernel_rfl) rfl (by simp)) HSh.out ?_;rintro v w4 ⟨rfl,hU4⟩;have HU4:=Lib.hid (HU2.out.trans hU4);have HB4:=Lib.hid (HB3.out.under hU4);clear hU4 HSh;refine jE lC 14 2 0 (by decide) fun τ d9=>?_
   simp only[List.drop_succ_cons,List.drop_zero,List.take_succ_cons,List.take_zero];walk_nrm;go_wp2;refine vF lC ?_;simp only[Exit.then];refine jI ?_ τ d9;refine bN lC (t:=false) rfl ?_;simp only[Bool.false_eq_true,if_false];refine vD lC fun τ d9=>?_
   go_wp2;refine jI ?_ τ d9;refine vD lC fun τ d9=>?_
   have HU5:=Lib.hid (HU4.out.re τ d9);exact fO (F:=iQ _ _ _ _ _ _ _ _ _ _ _ _ _ _ _ _ _ _ _) (by rfl) (fun J=>j0A (w:=re w4 τ d9) (d:=d) (by have:=HLw.out.1;omega) HArg.out.1 HArg.out.2.1 (RowsV.under DcRow.mono HArg.out.2.2.1 HU5.out) (fun x hx=>wPA (HLw.out.2 x hx) (HArg.out.2.2.2.1 x hx)) (hQA (HZ.out (by omega)) HArg.out.2.2.2.2) (DcV.mono _ _ _ _ HU5.out HV.out) HB4.out (hS.under HU5.out) HU5.out _ _ _ _ _ _ _ _ _ _ _ _ _ _ _ _ J)
 · have HSh := Lib.hid (bO w2 (hE.under HU2.out) (hS.under HU2.out)); go_wp2; refine jE lC 13 3 0 (by decide) fun τ d => ?_
   simp only[List.drop_succ_cons,List.drop_zero,List.take_succ_cons,List.take_zero];walk_nrm;go_wp2;refine vF lC ?_;simp only[Exit.then];refine jI ?_ τ d;refine bN lC (t:=true) rfl ?_;simp only[if_true];refine fG lC (vI lC ?_);refine qH (i:=0) (rest:=List.range' 1 1) lC rfl (by rfl) (sF (vs:=#[]) rfl Tryz.func9 (by kernel_rfl) rfl (by simp)) HSh.out ?_;rintro v w3 ⟨rfl,hU3⟩;refine jE lC 1 1 0 (by decide) fun τ d=>?_
   simp only[List.drop_succ_cons,List.drop_zero,List.take_succ_cons,List.take_zero];walk_nrm;go_wp2;refine vF lC ?_;simp only[Exit.then];refine vD lC fun τ d=>?_
   go_wp2;exact mH rfl rfl ⟨rfl,(HU2.out.trans hU3).re _ _⟩
end Go.Proofs.YtggjbblgoddnjaaGreatDoor
namespace Go.Proofs.YtggjbblgoddnjaaGreatDoor
open Go
theorem cGA:mapsRowed Tryz.pinned.checked.prog=true:=by kernel_rfl
theorem jHA:(Rows.declsTellsRow.inPlace==Tryz.pinned.checked.prog.inPlace 4)=true:=by kernel_rfl
theorem zGA:(Rows.declsTellsRow.unfollowed==Tryz.pinned.checked.prog.unfollowed 4)=true:=by kernel_rfl
theorem rHA:(Rows.declsTellsRow.recurses==Tryz.pinned.checked.prog.recurses 4)=true:=by kernel_rfl
theorem nHA:(Rows.declsTellsRow.named==Tryz.pinned.checked.prog.varsNamed 4)=true:=by kernel_rfl
theorem l6:joinedFacts Tryz.pinned.checked.prog 4 Tryz.f4 Rows.declsTellsSpec Rows.declsTellsRow=true:=by
 unfold joinedFacts;rw[cGA,jHA,zGA,rHA,nHA]
 kernel_rfl
end Go.Proofs.YtggjbblgoddnjaaGreatDoor
namespace Go.Proofs.YtggjbblgoddnjaaGreatDoor
open Go.ChangeShapes Go.WideShapes Go.ChangeAt Go.WideMaps Go.WideElems Go.RowKit Go.Lx Go.Deep Go.Conc
theorem pX(os:Os)(started:os.Started)(H:Type)(enc:TypeId×Value→H) :
 ReturnsInLeavingWide {} Tryz.checked os 4 .any (fun w args => (Rows.declsTellsSpec.pre enc Tryz.prog Tryz.f4 [] false w args ∧ laidMetH Tryz.prog qZ w) ∧ sizedMet enc Tryz.prog Tryz.f4 (OpenSpec.ofChange Rows.declsTellsSpec) false w args)
   (Rows.declsTellsSpec.post enc Tryz.prog Tryz.f4 false true false false):=by
 refine rQ (C := Tryz.checked) (X := fun w _ => laidMetH Tryz.prog qZ w) (fun _ _ _ hh h => h.of_heap hh) Tryz.own started Tryz.func4
   (ChangeSpec.witness_shaped (enc:=enc) (C:=Tryz.checked) (os:=os) (X:=fun w _=>laidMetH Tryz.prog qZ w) false (World.doorLaid Tryz.prog 400 os) #[.slice none 0 0,.agg #[.int .i64 0,.int .i64 0,.string ⟨#[]⟩,.slice none 0 0,.slice none 0 0,.slice none 0 0],.string ⟨#[]⟩] 8 rfl (World.shaped_of_RefB (by kernel_rfl) (by kernel_rfl)) (by kernel_rfl) (by kernel_rfl) (by kernel_rfl) (uJA os _)) ?_
 intro W base args ds gs before hval0 hW _ hsz hL _;have hval:∀(j:Nat) t v,Tryz.f4.params[j]? = some t→args[j]? = some v→Value.okWide Tryz.prog W .any base t v:=hval0;have hW':=hW;obtain⟨p,q,hA0,hV,rfl,_,_⟩:=hW;have hA:DataW.TrodAll enc Tryz.prog W 0 (fun _=>true) true Tryz.f4.params.toList args.toList ds p:=hA0;rw[Tryz.params4]at hA hval;have hlt:=hA.lt;obtain⟨v0,v1,v2,d0,d1,d2,p0,p1,p2,rfl,rfl,rfl,h0,h1,h2⟩:=trodAll_three hA;obtain⟨rfl,rfl⟩:=trodVars_none hV;have g0:=h0;obtain⟨a0,b0,c0,rfl⟩:=okWide_slice Tryz.underlying22 (hval 0 22 v0 rfl rfl);obtain⟨fuel0,hf0⟩:=g0;obtain⟨q0,k0,l0,hcs0,hle0,hnil0,ha0,hsd0,hmx0⟩:=vWA hf0 (jY hsz (j:=0) (t:=22) (d:=d0) rfl rfl);simp only[Value.cells,List.cons.injEq,and_true,Value.slice.injEq]at hcs0;obtain⟨rfl,rfl,rfl⟩:=hcs0;have g1:=h1;obtain⟨a1,rfl,z1⟩:=okWide_struct Tryz.underlying33 (hval 1 33 v1 rfl rfl);rw[show Tryz.prog.cellsOf 33=6 by kernel_rfl]at z1;obtain⟨fuel1,hf1⟩:=g1;obtain⟨l1,hr1,hsd1⟩:=aWA (by simpa [Value.cells] using z1) hf1 (jY hsz (j:=1) (t:=33) (d:=d1) rfl rfl);have ha1:DcV W (.agg a1) l1:=by have:=DcRow.val hr1;simpa [Value.cells] using this
 obtain⟨l2,rfl⟩:=okWide_string Tryz.underlying9 (hval 2 9 v2 rfl rfl);have hB:=iQA hL;refine pR (P:=Tryz.prog) Tryz.func4 rfl rfl (by kernel_rfl) ((qSA l0 l1 l2 W hle0 hmx0 hnil0 ha0 hsd0 hsd1 ha1 hB.1 hB.2).mono ?_);rintro v w ⟨rfl,hU⟩ τ d;refine ChangeSpec.post_alike (W'':=re w W.tape d) ?_ ⟨rfl,rfl,rfl⟩;have hb:=vFA hU d;refine⟨_,_,_,[],p0++(p1++p2),[],hW',?_,?_,rfl,hb.frame _,fun h=>by cases h⟩
 · exact trodAll_mk1 (hCA true)
 · exact trodAll_mk3 (qCA (by kernel_rfl) (by decide +kernel) hU d (fun x hx=>hlt x (by simp[hx])) h0) (qCA (by kernel_rfl) (by decide +kernel) hU d (fun x hx=>hlt x (by simp[hx])) h1) (qCA (by kernel_rfl) (by decide +kernel) hU d (fun x hx=>hlt x (by simp[hx])) h2)
theorem declsTells_holds : Rows.DeclsTellsSaid :=
 OpenClaim.holds_of_wide_leaving 4 Tryz.f4 rfl rfl rfl rfl rfl rfl rfl ⟨rfl, rfl, rfl, rfl, rfl⟩ rfl rfl rfl rfl rfl (by kernel_rfl) Tryz.func4 l6
   (of_decide_eq_true (by kernel_rfl)) (by unfold Func.isWrapper;first | (rw[if_pos (by decide +kernel)];kernel_rfl) | (rw[if_neg (by decide +kernel)];exact⟨rfl,rfl⟩))
   (fun os started H enc _=>pX os started H enc)
end Go.Proofs.YtggjbblgoddnjaaGreatDoor
