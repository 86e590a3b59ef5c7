/- Part 47 of what the proof rests on. -/
import Derived.Laws.ResultCell
import Derived.Deep.QuietTactic
import Derived.Test.YtggjbblgoddnjaaGreatDoorM23
import Derived.Test.YtggjbblgoddnjaaGreatDoorM29
import Derived.Test.YtggjbblgoddnjaaGreatDoorM31
import Derived.Test.YtggjbblgoddnjaaGreatDoorM40
import Derived.Test.YtggjbblgoddnjaaGreatDoorM41
import Derived.Test.YtggjbblgoddnjaaGreatDoorM42
set_option linter.unusedSimpArgs false
set_option linter.unusedVariables false
set_option maxRecDepth 100000
set_option maxHeartbeats 4000000
namespace Go.Proofs.YtggjbblgoddnjaaGreatDoor
open Go.Lx Go.RowKit
section
variable {w0 : World}
def n3A(w0:World)(a b:List ByteArray)(i:Value)(wr:World):Prop:=∃ k:Nat,k≤a.length∧i = .int .i64 (k:Int)∧(mM a b=mM (a.drop k) (b.drop k))∧Under w0 wr
theorem xEA(a b:List ByteArray){u v:Value}(hn:a.length≤maxLen)(hu:TextsV w0 u a)(hv:TextsV w0 v b):Calls Tryz.prog 22 #[u,v] w0 fun e w=>e = .returned (.bool (mM a b))∧Under w0 w:=by
 obtain⟨p,c,rfl,_,_,hr⟩:=hu;obtain⟨p2,c2,rfl,_,_,hr2⟩:=hv;have HR:=Lib.hid hr;have HR2:=Lib.hid hr2;have hn0:(0:Int)≤(a.length:Int):=by omega
 have hn':(a.length:Int)≤9223372036854775807:=by unfold maxLen at hn;omega
 clear hr hn hr2;by_cases hl:a.length=b.length
 · have HLb := Lib.hid hl; have hl1 : ((a.length : Int) == (b.length : Int)) = true := by rw [hl]; simp
   rw[← hl]at hl1 ⊢;clear hl;go_enter Tryz.func22,Tryz.ntmps22;go_wp2;go_loopw [5] (fun i wr=>n3A w0 a b i wr) (fun i _=>a.length - (intOf i).toNat)
   case atStart=>exact⟨0,Nat.zero_le _,rfl,by simp,Under.refl _⟩
   case round =>
     obtain⟨k,hk,rfl,hN,hU⟩:=hrel;have HN:=Lib.hid hN;clear hN;by_cases hlt:k < a.length
     · have hlt2 : k < b.length := by rw [← HLb.out]; exact hlt
       obtain⟨b1,off1,rfl,hb1,cc1⟩:=bGA HR.out hlt;obtain⟨b2,off2,rfl,hb2,cc2⟩:=bGA HR2.out hlt2;rw[← dA hU hb1]at cc1;rw[← dA hU hb2]at cc2;have hb1':=Nat.lt_of_lt_of_le hb1 hU.size;have hb2':=Nat.lt_of_lt_of_le hb2 hU.size;have hd:mM (a.drop k) (b.drop k)=(a[k].toList==b[k].toList&&mM (a.drop (k+1)) (b.drop (k+1))):=by rw[List.drop_eq_getElem_cons hlt,List.drop_eq_getElem_cons hlt2];rfl
       have HD:=Lib.hid hd;have HU:=Lib.hid hU;clear hd hU;generalize a[k]=x at *;generalize b[k]=y at *
       cases hx:(x.toList==y.toList)
       · have HX:=Lib.hid hx;go_wp2_with fail;go_quiet (fail);go_wp2;go_ret;exact⟨by rw[HN.out,HD.out,HX.out];rfl,aB HU.out _⟩
       · have HX := Lib.hid hx; go_wp2_with fail; go_quiet (fail); go_wp2; go_roundw
         case rel=>exact⟨k+1,by omega,by go_num,by rw[HN.out,HD.out,HX.out];rfl,aB HU.out _⟩
         case measure=>simp[intOf];omega
     · obtain rfl : k = a.length := by omega
       have HE:RowKit.Hid (mM a b=true):=Lib.hid (by rw[HN.out,List.drop_length,HLb.out,List.drop_length];rfl);have HU:=Lib.hid hU;clear hU;go_wp2;go_ret;exact⟨by rw[HE.out];rfl,HU.out⟩
 · have HE := Lib.hid (fCA hl); have hl1 : ((a.length : Int) == (b.length : Int)) = false := by simp; omega
   clear hl;go_enter Tryz.func22,Tryz.ntmps22;go_wp2;go_ret;exact⟨by rw[HE.out];rfl,Under.refl _⟩
end
def iQ(x0 x2 x4 x7 x8 x9 x10 x11 x12 x13 x14 x15 x16 x17 x18 x19 x20 x21 x22:Value)(J:Nat→Value):Array Value:=#[x0,J 1,x2,J 3,x4,J 5,J 6,x7,x8,x9,x10,x11,x12,x13,x14,x15,x16,x17,x18,x19,x20,x21,x22,J 23,J 24,J 25,J 26,J 27,J 28,J 29,J 30,J 31,J 32,J 33,J 34,J 35,J 36,J 37,J 38,J 39,J 40,J 41,J 42,J 43,J 44,J 45,J 46,J 47,J 48,J 49,J 50,J 51,J 52,J 53,J 54,J 55,J 56,J 57,J 58,J 59,J 60,J 61,J 62,J 63,J 64,J 65,J 66,J 67,J 68,J 69,J 70,J 71,J 72,J 73,J 74,J 75,J 76,J 77,J 78,J 79,J 80,J 81,J 82,J 83,J 84,J 85,J 86,J 87,J 88,J 89,J 90,J 91,J 92,J 93,J 94,J 95,J 96,J 97,J 98,J 99,J 100,J 101,J 102,J 103,J 104,J 105,J 106,J 107,J 108,J 109,J 110,J 111,J 112,J 113,J 114,J 115,J 116,J 117,J 118,J 119,J 120,J 121,J 122,J 123,J 124,J 125,J 126,J 127,J 128,J 129,J 130,J 131,J 132,J 133,J 134,J 135,J 136,J 137,J 138,J 139,J 140,J 141,J 142,J 143,J 144,J 145,J 146,J 147,J 148,J 149,J 150,J 151,J 152,J 153,J 154,J 155,J 156,J 157,J 158,J 159]
def lHA(x0 x2 x4 x7 x8 x9 x10 x11 x12 x13 x14 x15 x16 x17 x18 x19 x20 x21 x22:Value)(J:Nat→Value):Array Value:=iQ x0 x2 x4 x7 x8 x9 x10 x11 x12 x13 x14 x15 x16 x17 x18 x19 x20 x21 x22 J
def TlQ(F:(Nat→Value)→Array Value)(e:Exit)(a':Act):Prop:=e = .normal∧∃ J,a'=⟨F J,[]⟩
theorem iZ : ∀ l : List ByteArray, mM l l = true
  | []=>rfl
  | x::l=>by simp[mM,iZ l]
section
variable {w9 : World} {na : Nat} {l : List Dc} {p pt pb pc : Option Addr} {c nt ct nb cb nc cc : Nat} {d : Dc} {x7 x8 x9 x10 x11 x12 x13 x14 x15 x16 x17 x18 x19 x20 x21 x22 : Value}
noncomputable def tlOpenC:Code:=(xA (jA (jA (jA (jA (jA (jA (jA (jA (Tryz.f4.body.getD .skip))))))))))
theorem z2A{x2:Value}(hl:l.length≤100000)(hp:RowsV 6 DcRow w9 p l)(hd:Fine d)(hv:DcV w9 (.agg #[.int .i64 d.kind,.int .i64 d.level,.string d.name,.slice pt nt ct,.slice pb nb cb,.slice pc nc cc]) d)(hb:BoxAt w9 na 33 #[.int .i64 d.kind,.int .i64 d.level,.string d.name,.slice pt nt ct,.slice pb nb cb,.slice pc nc cc])(J:Nat→Value) :
 tlOpenC.wp Tryz.prog (fun e a' w'=>Under w9 w'∧TlQ (lHA (.slice p l.length c) (x2) (.pointer (some ⟨na,0,none⟩)) (x7) (x8) (x9) (x10) (x11) (x12) (x13) (x14) (.string ((bG l d).getD ⟨#[]⟩)) (.bool (bG l d).isSome) (x17) (x18) (x19) (x20) (x21) (x22)) e a') ⟨iQ (.slice p l.length c) (x2) (.pointer (some ⟨na,0,none⟩)) (x7) (x8) (x9) (x10) (x11) (x12) (x13) (x14) (x15) (x16) (x17) (x18) (x19) (x20) (x21) (x22) J,[]⟩ w9:=by
 have HS:=Lib.hid (fun w (h:Under w9 w)=>(show w.cell? ⟨na,0,none⟩=some (.int .i64 d.kind)∧w.cell? ⟨na,1,none⟩=some (.int .i64 d.level)∧w.cell? ⟨na,2,none⟩=some (.string d.name)∧w.cell? ⟨na,3,none⟩=some (.slice pt nt ct)∧w.cell? ⟨na,4,none⟩=some (.slice pb nb cb)∧w.cell? ⟨na,5,none⟩=some (.slice pc nc cc) from⟨(hb.under h).cell 0,(hb.under h).cell 1,(hb.under h).cell 2,(hb.under h).cell 3,(hb.under h).cell 4,(hb.under h).cell 5⟩));have hS0:=HS.out w9 (Under.refl _);have hdl:=hb.lt;have HL:=Lib.hid (fun w (h:Under w9 w)=>bR (w0:=w) (c:=c) hl (RowsV.under DcRow.mono hp h));have HT:=Lib.hid (fun w (h:Under w9 w)=>eG (w0:=w) d (DcV.mono _ _ _ _ h hv));have HC:=Lib.hid (fun w (h:Under w9 w) (q:Option Addr) (c':Nat) (h1:l.length≤c') (h0:q=none→c'=0) (hq:RowsV 6 DcRow w q l)=>aGA (w0:=w) (c:=c') l d hl hq hd.small hd.few hd.many (DcV.mono _ _ _ _ h hv));clear hp hv hb hd hl;unfold tlOpenC;simp only[Tryz.f4,Option.getD_some,xA,jA];unfold iQ;refine wp_region_noPanic ?_;refine wp_region_held_drew (S:=fun w=>w.cell? ⟨na,0,none⟩=some (.int .i64 d.kind)∧w.cell? ⟨na,1,none⟩=some (.int .i64 d.level)∧w.cell? ⟨na,2,none⟩=some (.string d.name)∧w.cell? ⟨na,3,none⟩=some (.slice pt nt ct)∧w.cell? ⟨na,4,none⟩=some (.slice pb nb cb)∧w.cell? ⟨na,5,none⟩=some (.slice pc nc cc)) (by kernel_rfl) hS0 (fun hHeld=>?_);co_applyP bA 0 rfl (by kernel_rfl) (by kernel_rfl) (fun _ _ _ h=>h) hHeld (fun w hSw=>?_) ?_;rotate_left
 · (try dsimp only at hSw);go_simp;try with_reducible rfl
 try walk_nrm
 co_applyP bA 2 rfl (by kernel_rfl) (by kernel_rfl) (fun _ _ _ h=>h) hHeld (fun w hSw=>?_) ?_;rotate_left
 · (try dsimp only at hSw);go_simp;try with_reducible rfl
 try walk_nrm
 refine iA 1 (by kernel_rfl) rfl fun K hK=>?_
 go_simp;go_at_call 12;refine(HL.out _ (fA (Under.refl w9))).mono ?_;rintro e w1 ⟨q,c',rfl,hc,h0,hq,hU⟩;have HUl:=Lib.hid ((fA (Under.refl w9)).trans hU);have HQ:=Lib.hid (And.intro hc (And.intro h0 hq));clear hU hc h0 hq;refine hK.out _ _ (HS.out _ HUl.out) (fun _=>?_);clear hK K hHeld;rename_i hHeld
 try walk_nrm
 refine iA 3 (by kernel_rfl) rfl fun K hK=>?_
 go_simp;go_at_call 14;refine(HT.out _ HUl.out).mono ?_;rintro e w2 ⟨rfl,hU⟩;have HUt:=Lib.hid (HUl.out.trans hU);have HQz:=Lib.hid (RowsV.under DcRow.mono HQ.out.2.2 hU);clear hU;refine hK.out _ _ (HS.out _ HUt.out) (fun _=>?_);clear hK K hHeld;rename_i hHeld
 try walk_nrm
 refine iA 4 (by kernel_rfl) rfl fun K hK=>?_
 go_simp;go_at_call 24;refine(HC.out _ HUt.out q c' HQ.out.1 HQ.out.2.1 HQz.out).mono ?_;rintro e w3 ⟨rfl,hU⟩;have HU3:=Lib.hid (HUt.out.trans hU);clear hU;refine hK.out _ _ (HS.out _ HU3.out) (fun _=>?_);clear hK K hHeld;rename_i hHeld
 try walk_nrm
 co_applyP bA 5 rfl (by kernel_rfl) (by kernel_rfl) (fun _ _ _ h=>h) hHeld (fun w hSw=>?_) ?_;rotate_left
 · (try dsimp only at hSw);go_simp;try with_reducible rfl
 try walk_nrm
 co_applyP bA 6 rfl (by kernel_rfl) (by kernel_rfl) (fun _ _ _ h=>h) hHeld (fun w hSw=>?_) ?_;rotate_left
 · (try dsimp only at hSw);go_simp;try with_reducible rfl
 try walk_nrm
 co_applyP bA 7 rfl (by kernel_rfl) (by kernel_rfl) (fun _ _ _ h=>h) hHeld (fun w hSw=>?_) ?_;rotate_left
 · (try dsimp only at hSw);go_simp;try with_reducible rfl
 try walk_nrm
 co_applyP bA 8 rfl (by kernel_rfl) (by kernel_rfl) (fun _ _ _ h=>h) hHeld (fun w hSw=>?_) ?_;rotate_left
 · (try dsimp only at hSw);go_simp;try with_reducible rfl
 try walk_nrm
 co_applyP bA 9 rfl (by kernel_rfl) (by kernel_rfl) (fun _ _ _ h=>h) hHeld (fun w hSw=>?_) ?_;rotate_left
 · (try dsimp only at hSw);go_simp;try with_reducible rfl
 try walk_nrm
 refine wpAnyH_done (by kernel_rfl) ?_ _;refine NoPanic.normal ?_;exact⟨HU3.out,rfl,_,zB (F:=lHA (.slice p l.length c) (x2) (.pointer (some ⟨na,0,none⟩)) (x7) (x8) (x9) (x10) (x11) (x12) (x13) (x14) (.string ((bG l d).getD ⟨#[]⟩)) (.bool (bG l d).isSome) (x17) (x18) (x19) (x20) (x21) (x22)) (by rfl)⟩
noncomputable def tlAddC:Code:=(xA (jA (jA (jA (jA (jA (jA (jA (jA (jA (jA (Tryz.f4.body.getD .skip))))))))))))
theorem a5A{x2:Value}(hl:l.length≤100000)(hp:RowsV 6 DcRow w9 p l)(hd:Fine d)(hv:DcV w9 (.agg #[.int .i64 d.kind,.int .i64 d.level,.string d.name,.slice pt nt ct,.slice pb nb cb,.slice pc nc cc]) d)(hb:BoxAt w9 na 33 #[.int .i64 d.kind,.int .i64 d.level,.string d.name,.slice pt nt ct,.slice pb nb cb,.slice pc nc cc])(J:Nat→Value) :
 tlAddC.wp Tryz.prog (fun e a' w'=>Under w9 w'∧∃ qy cy,TlQ (lHA (.slice p l.length c) (x2) (.pointer (some ⟨na,0,none⟩)) (x7) (x8) (x9) (x10) (x11) (x12) (x13) (x14) (x15) (x16) (x17) (x18) (.slice qy (wN l d).length cy) (.int .i64 (iJ l d)) (x21) (x22)) e a'∧(wN l d).length≤cy∧(qy=none→cy=0)∧RowsV 6 DcRow w' qy (wN l d)) ⟨iQ (.slice p l.length c) (x2) (.pointer (some ⟨na,0,none⟩)) (x7) (x8) (x9) (x10) (x11) (x12) (x13) (x14) (x15) (x16) (x17) (x18) (x19) (x20) (x21) (x22) J,[]⟩ w9:=by
 have HS:=Lib.hid (fun w (h:Under w9 w)=>(show w.cell? ⟨na,0,none⟩=some (.int .i64 d.kind)∧w.cell? ⟨na,1,none⟩=some (.int .i64 d.level)∧w.cell? ⟨na,2,none⟩=some (.string d.name)∧w.cell? ⟨na,3,none⟩=some (.slice pt nt ct)∧w.cell? ⟨na,4,none⟩=some (.slice pb nb cb)∧w.cell? ⟨na,5,none⟩=some (.slice pc nc cc) from⟨(hb.under h).cell 0,(hb.under h).cell 1,(hb.under h).cell 2,(hb.under h).cell 3,(hb.under h).cell 4,(hb.under h).cell 5⟩));have hS0:=HS.out w9 (Under.refl _);have hdl:=hb.lt;have HL:=Lib.hid (fun w (h:Under w9 w)=>bR (w0:=w) (c:=c) hl (RowsV.under DcRow.mono hp h));have HT:=Lib.hid (fun w (h:Under w9 w)=>eG (w0:=w) d (DcV.mono _ _ _ _ h hv));have HC:=Lib.hid (fun w (h:Under w9 w) (q:Option Addr) (c':Nat) (h1:l.length≤c') (h0:q=none→c'=0) (hq:RowsV 6 DcRow w q l)=>bFA (w0:=w) (c:=c') l d hl h1 h0 hq hd (DcV.mono _ _ _ _ h hv));clear hp hv hb hd hl;unfold tlAddC;simp only[Tryz.f4,Option.getD_some,xA,jA];unfold iQ;refine wp_region_noPanic ?_;refine wp_region_held_drew (S:=fun w=>w.cell? ⟨na,0,none⟩=some (.int .i64 d.kind)∧w.cell? ⟨na,1,none⟩=some (.int .i64 d.level)∧w.cell? ⟨na,2,none⟩=some (.string d.name)∧w.cell? ⟨na,3,none⟩=some (.slice pt nt ct)∧w.cell? ⟨na,4,none⟩=some (.slice pb nb cb)∧w.cell? ⟨na,5,none⟩=some (.slice pc nc cc)) (by kernel_rfl) hS0 (fun hHeld=>?_);co_applyP bA 0 rfl (by kernel_rfl) (by kernel_rfl) (fun _ _ _ h=>h) hHeld (fun w hSw=>?_) ?_;rotate_left
 · (try dsimp only at hSw);go_simp;try with_reducible rfl
 try walk_nrm
 co_applyP bA 2 rfl (by kernel_rfl) (by kernel_rfl) (fun _ _ _ h=>h) hHeld (fun w hSw=>?_) ?_;rotate_left
 · (try dsimp only at hSw);go_simp;try with_reducible rfl
 try walk_nrm
 refine iA 1 (by kernel_rfl) rfl fun K hK=>?_
 go_simp;go_at_call 12;refine(HL.out _ (fA (Under.refl w9))).mono ?_;rintro e w1 ⟨q,c',rfl,hc,h0,hq,hU⟩;have HUl:=Lib.hid ((fA (Under.refl w9)).trans hU);have HQ:=Lib.hid (And.intro hc (And.intro h0 hq));clear hU hc h0 hq;refine hK.out _ _ (HS.out _ HUl.out) (fun _=>?_);clear hK K hHeld;rename_i hHeld
 try walk_nrm
 refine iA 3 (by kernel_rfl) rfl fun K hK=>?_
 go_simp;go_at_call 14;refine(HT.out _ HUl.out).mono ?_;rintro e w2 ⟨rfl,hU⟩;have HUt:=Lib.hid (HUl.out.trans hU);have HQz:=Lib.hid (RowsV.under DcRow.mono HQ.out.2.2 hU);clear hU;refine hK.out _ _ (HS.out _ HUt.out) (fun _=>?_);clear hK K hHeld;rename_i hHeld
 try walk_nrm
 refine iA 4 (by kernel_rfl) rfl fun K hK=>?_
 go_simp;go_at_call 26;refine(HC.out _ HUt.out q c' HQ.out.1 HQ.out.2.1 HQz.out).mono ?_;rintro e w3 ⟨qy,cy,rfl,hy1,hy0,hyr,hU⟩;have HU3:=Lib.hid (HUt.out.trans hU);have HY:=Lib.hid (And.intro hy1 (And.intro hy0 hyr));clear hU hy1 hy0 hyr;refine hK.out _ _ (HS.out _ HU3.out) (fun _=>?_);clear hK K hHeld;rename_i hHeld
 try walk_nrm
 co_applyP bA 5 rfl (by kernel_rfl) (by kernel_rfl) (fun _ _ _ h=>h) hHeld (fun w hSw=>?_) ?_;rotate_left
 · (try dsimp only at hSw);go_simp;try with_reducible rfl
 try walk_nrm
 co_applyP bA 6 rfl (by kernel_rfl) (by kernel_rfl) (fun _ _ _ h=>h) hHeld (fun w hSw=>?_) ?_;rotate_left
 · (try dsimp only at hSw);go_simp;try with_reducible rfl
 try walk_nrm
 co_applyP bA 7 rfl (by kernel_rfl) (by kernel_rfl) (fun _ _ _ h=>h) hHeld (fun w hSw=>?_) ?_;rotate_left
 · (try dsimp only at hSw);go_simp;try with_reducible rfl
 try walk_nrm
 co_applyP bA 8 rfl (by kernel_rfl) (by kernel_rfl) (fun _ _ _ h=>h) hHeld (fun w hSw=>?_) ?_;rotate_left
 · (try dsimp only at hSw);go_simp;try with_reducible rfl
 try walk_nrm
 co_applyP bA 9 rfl (by kernel_rfl) (by kernel_rfl) (fun _ _ _ h=>h) hHeld (fun w hSw=>?_) ?_;rotate_left
 · (try dsimp only at hSw);go_simp;try with_reducible rfl
 try walk_nrm
 refine wpAnyH_done (by kernel_rfl) ?_ _;refine NoPanic.normal ?_;exact⟨HU3.out,qy,cy,⟨rfl,_,zB (F:=lHA (.slice p l.length c) (x2) (.pointer (some ⟨na,0,none⟩)) (x7) (x8) (x9) (x10) (x11) (x12) (x13) (x14) (x15) (x16) (x17) (x18) (.slice qy (wN l d).length cy) (.int .i64 (iJ l d)) (x21) (x22)) (by rfl)⟩,HY.out⟩
noncomputable def tlLastC:Code:=(xA (jA (jA (jA (jA (jA (jA (jA (jA (jA (jA (jA (jA (jA (jA (Tryz.f4.body.getD .skip))))))))))))))))
theorem m2A{x0 x2:Value}{fb:Nat}{qt qb qc:Option Addr}{mt dt mb db mc dc:Nat}(hl:Lite d)(hv:DcV w9 (.agg #[.int .i64 d.kind,.int .i64 d.level,.string d.name,.slice pt nt ct,.slice pb nb cb,.slice pc nc cc]) d)(hb:BoxAt w9 na 33 #[.int .i64 d.kind,.int .i64 d.level,.string d.name,.slice pt nt ct,.slice pb nb cb,.slice pc nc cc])(hv':DcV w9 (.agg #[.int .i64 d.kind,.int .i64 d.level,.string d.name,.slice qt mt dt,.slice qb mb db,.slice qc mc dc]) d)(hb':BoxAt w9 fb 33 #[.int .i64 d.kind,.int .i64 d.level,.string d.name,.slice qt mt dt,.slice qb mb db,.slice qc mc dc])(J:Nat→Value) :
 tlLastC.wp Tryz.prog (fun e a' w'=>Under w9 w'∧e = .normal∧a'.tmps.getD 6 undef = .bool true∧a'.defers=[]) ⟨iQ (x0) (x2) (.pointer (some ⟨na,0,none⟩)) (x7) (x8) (x9) (x10) (x11) (x12) (x13) (x14) (x15) (x16) (x17) (x18) (x19) (x20) (.pointer (some ⟨fb,0,none⟩)) (.bool true) J,[]⟩ w9:=by
 have HS:=Lib.hid (fun w (h:Under w9 w)=>(show w.cell? ⟨na,0,none⟩=some (.int .i64 d.kind)∧w.cell? ⟨na,1,none⟩=some (.int .i64 d.level)∧w.cell? ⟨na,2,none⟩=some (.string d.name)∧w.cell? ⟨na,3,none⟩=some (.slice pt nt ct)∧w.cell? ⟨na,4,none⟩=some (.slice pb nb cb)∧w.cell? ⟨na,5,none⟩=some (.slice pc nc cc)∧w.cell? ⟨fb,0,none⟩=some (.int .i64 d.kind)∧w.cell? ⟨fb,1,none⟩=some (.int .i64 d.level)∧w.cell? ⟨fb,2,none⟩=some (.string d.name)∧w.cell? ⟨fb,3,none⟩=some (.slice qt mt dt)∧w.cell? ⟨fb,4,none⟩=some (.slice qb mb db)∧w.cell? ⟨fb,5,none⟩=some (.slice qc mc dc) from⟨(hb.under h).cell 0,(hb.under h).cell 1,(hb.under h).cell 2,(hb.under h).cell 3,(hb.under h).cell 4,(hb.under h).cell 5,(hb'.under h).cell 0,(hb'.under h).cell 1,(hb'.under h).cell 2,(hb'.under h).cell 3,(hb'.under h).cell 4,(hb'.under h).cell 5⟩));have hS0:=HS.out w9 (Under.refl _);have hdl:=hb.lt;have hfl:=hb'.lt;have HT:=Lib.hid (fun w (h:Under w9 w)=>eG (w0:=w) d (DcV.mono _ _ _ _ h hv));have HT':=Lib.hid (fun w (h:Under w9 w)=>eG (w0:=w) d (DcV.mono _ _ _ _ h hv'));have HC:=Lib.hid (fun w (h:Under w9 w)=>eT (w0:=w) d hl (DcV.mono _ _ _ _ h hv') (DcV.mono _ _ _ _ h hv));clear hv hb hl hv' hb';unfold tlLastC;simp only[Tryz.f4,Option.getD_some,xA,jA];unfold iQ;refine wp_region_noPanic ?_;refine wp_region_held_drew (S:=fun w=>w.cell? ⟨na,0,none⟩=some (.int .i64 d.kind)∧w.cell? ⟨na,1,none⟩=some (.int .i64 d.level)∧w.cell? ⟨na,2,none⟩=some (.string d.name)∧w.cell? ⟨na,3,none⟩=some (.slice pt nt ct)∧w.cell? ⟨na,4,none⟩=some (.slice pb nb cb)∧w.cell? ⟨na,5,none⟩=some (.slice pc nc cc)∧w.cell? ⟨fb,0,none⟩=some (.int .i64 d.kind)∧w.cell? ⟨fb,1,none⟩=some (.int .i64 d.level)∧w.cell? ⟨fb,2,none⟩=some (.string d.name)∧w.cell? ⟨fb,3,none⟩=some (.slice qt mt dt)∧w.cell? ⟨fb,4,none⟩=some (.slice qb mb db)∧w.cell? ⟨fb,5,none⟩=some (.slice qc mc dc)) (by kernel_rfl) hS0 (fun hHeld=>?_);co_applyP bA 0 rfl (by kernel_rfl) (by kernel_rfl) (fun _ _ _ h=>h) hHeld (fun w hSw=>?_) ?_;rotate_left
 · (try dsimp only at hSw);go_simp;try with_reducible rfl
 try walk_nrm
 co_applyP bA 1 rfl (by kernel_rfl) (by kernel_rfl) (fun _ _ _ h=>h) hHeld (fun w hSw=>?_) ?_;rotate_left
 · (try dsimp only at hSw);go_simp;try with_reducible rfl
 try walk_nrm
 co_applyP bA 2 rfl (by kernel_rfl) (by kernel_rfl) (fun _ _ _ h=>h) hHeld (fun w hSw=>?_) ?_;rotate_left
 · (try dsimp only at hSw);go_simp;try with_reducible rfl
 try walk_nrm
 co_applyP bA 4 rfl (by kernel_rfl) (by kernel_rfl) (fun _ _ _ h=>h) hHeld (fun w hSw=>?_) ?_;rotate_left
 · (try dsimp only at hSw);go_simp;try with_reducible rfl
 try walk_nrm
 refine iA 3 (by kernel_rfl) rfl fun K hK=>?_
 go_simp;go_at_call 14;refine(HT'.out _ (fA (Under.refl w9))).mono ?_;rintro e w1 ⟨rfl,hU⟩;have HU1:=Lib.hid ((fA (Under.refl w9)).trans hU);clear hU;refine hK.out _ _ (HS.out _ HU1.out) (fun _=>?_);clear hK K hHeld;rename_i hHeld
 try walk_nrm
 refine iA 5 (by kernel_rfl) rfl fun K hK=>?_
 go_simp;go_at_call 14;refine(HT.out _ HU1.out).mono ?_;rintro e w2 ⟨rfl,hU⟩;have HU2:=Lib.hid (HU1.out.trans hU);clear hU;refine hK.out _ _ (HS.out _ HU2.out) (fun _=>?_);clear hK K hHeld;rename_i hHeld
 try walk_nrm
 refine iA 6 (by kernel_rfl) rfl fun K hK=>?_
 go_simp;go_at_call 13;refine(HC.out _ HU2.out).mono ?_;rintro e w3 ⟨rfl,hU⟩;have HU3:=Lib.hid (HU2.out.trans hU);clear hU;refine hK.out _ _ (HS.out _ HU3.out) (fun _=>?_);clear hK K hHeld;rename_i hHeld
 try walk_nrm
 co_applyP bA 7 rfl (by kernel_rfl) (by kernel_rfl) (fun _ _ _ h=>h) hHeld (fun w hSw=>?_) ?_;rotate_left
 · (try dsimp only at hSw);go_simp;try with_reducible rfl
 try walk_nrm
 co_applyP bA 8 rfl (by kernel_rfl) (by kernel_rfl) (fun _ _ _ h=>h) hHeld (fun w hSw=>?_) ?_;rotate_left
 · (try dsimp only at hSw);go_simp;try with_reducible rfl
 try walk_nrm
 refine wpAnyH_done (by kernel_rfl) ?_ _;refine NoPanic.normal ?_;exact⟨HU3.out,rfl,rfl,rfl⟩
noncomputable def tlBigC:Code:=(xA (xA (jA (jA (jA (jA (jA (jA (Tryz.f4.body.getD .skip)))))))))
theorem v3A {x0 x2 : Value} {bo : Bool} {a : Dc} {ks ms : List ByteArray} {ab bb kb mb' : Nat} {qt qb qc rt rb rc kq kr yq yr : Option Addr} {mt dt mb db mc dc ot et ob eb oc ec kn kc km kd yc yd : Nat} (hf : Fine d) (hla : Lite a) (hk : ks.length ≤ maxLen) (hm : ms.length ≤ maxLen) (hS : ShapesAt 3 w9)
    (hv:DcV w9 (.agg #[.int .i64 d.kind,.int .i64 d.level,.string d.name,.slice pt nt ct,.slice pb nb cb,.slice pc nc cc]) d) (hb:BoxAt w9 na 33 #[.int .i64 d.kind,.int .i64 d.level,.string d.name,.slice pt nt ct,.slice pb nb cb,.slice pc nc cc]) (hv1:DcV w9 (.agg #[.int .i64 a.kind,.int .i64 a.level,.string a.name,.slice qt mt dt,.slice qb mb db,.slice qc mc dc]) a) (hb1:BoxAt w9 ab 33 #[.int .i64 a.kind,.int .i64 a.level,.string a.name,.slice qt mt dt,.slice qb mb db,.slice qc mc dc]) (hv2:DcV w9 (.agg #[.int .i64 a.kind,.int .i64 a.level,.string a.name,.slice rt ot et,.slice rb ob eb,.slice rc oc ec]) a) (hb2:BoxAt w9 bb 37 #[.int .i64 a.kind,.int .i64 a.level,.string a.name,.slice rt ot et,.slice rb ob eb,.slice rc oc ec])
    (hk1:TextsV w9 (.slice kq kn kc) ks) (hk2:TextsV w9 (.slice kr km kd) ms) (hb3:BoxAt w9 kb 52 #[.slice kq kn kc,.slice kr km kd]) (hk3:TextsV w9 (.slice yq kn yc) ks) (hk4:TextsV w9 (.slice yr km yd) ms) (hb4:BoxAt w9 mb' 54 #[.slice yq kn yc,.slice yr km yd]) (J:Nat→Value) :
    tlBigC.wp Tryz.prog (fun e a' w'=>Under w9 w'∧e = .normal∧a'.tmps.getD 91 undef = .bool false∧∃ J,a'=⟨lHA (x0) (x2) (.pointer (some ⟨na,0,none⟩)) (.pointer (some ⟨ab,0,none⟩)) (.bool bo) (.pointer (some ⟨bb,0,none⟩)) (.bool bo) (.pointer (some ⟨kb,0,none⟩)) (.pointer (some ⟨mb',0,none⟩)) (x13) (x14) (x15) (x16) (x17) (x18) (x19) (x20) (x21) (x22) J,[]⟩) ⟨iQ (x0) (x2) (.pointer (some ⟨na,0,none⟩)) (.pointer (some ⟨ab,0,none⟩)) (.bool bo) (.pointer (some ⟨bb,0,none⟩)) (.bool bo) (.pointer (some ⟨kb,0,none⟩)) (.pointer (some ⟨mb',0,none⟩)) (x13) (x14) (x15) (x16) (x17) (x18) (x19) (x20) (x21) (x22) J,[]⟩ w9:=by
  have HS:=Lib.hid (fun w (h:Under w9 w)=>(show w.cell? ⟨na,0,none⟩=some (.int .i64 d.kind)∧w.cell? ⟨na,1,none⟩=some (.int .i64 d.level)∧w.cell? ⟨na,2,none⟩=some (.string d.name)∧w.cell? ⟨na,3,none⟩=some (.slice pt nt ct)∧w.cell? ⟨na,4,none⟩=some (.slice pb nb cb)∧w.cell? ⟨na,5,none⟩=some (.slice pc nc cc)∧w.cell? ⟨ab,0,none⟩=some (.int .i64 a.kind)∧w.cell? ⟨ab,1,none⟩=some (.int .i64 a.level)∧w.cell? ⟨ab,2,none⟩=some (.string a.name)∧w.cell? ⟨ab,3,none⟩=some (.slice qt mt dt)∧w.cell? ⟨ab,4,none⟩=some (.slice qb mb db)∧w.cell? ⟨ab,5,none⟩=some (.slice qc mc dc)∧w.cell? ⟨bb,0,none⟩=some (.int .i64 a.kind)∧w.cell? ⟨bb,1,none⟩=some (.int .i64 a.level)∧w.cell? ⟨bb,2,none⟩=some (.string a.name)∧w.cell? ⟨bb,3,none⟩=some (.slice rt ot et)∧w.cell? ⟨bb,4,none⟩=some (.slice rb ob eb)∧w.cell? ⟨bb,5,none⟩=some (.slice rc oc ec)∧w.cell? ⟨kb,0,none⟩=some (.slice kq kn kc)∧w.cell? ⟨kb,1,none⟩=some (.slice kr km kd)∧w.cell? ⟨mb',0,none⟩=some (.slice yq kn yc)∧w.cell? ⟨mb',1,none⟩=some (.slice yr km yd) from⟨(hb.under h).cell 0,(hb.under h).cell 1,(hb.under h).cell 2,(hb.under h).cell 3,(hb.under h).cell 4,(hb.under h).cell 5,(hb1.under h).cell 0,(hb1.under h).cell 1,(hb1.under h).cell 2,(hb1.under h).cell 3,(hb1.under h).cell 4,(hb1.under h).cell 5,(hb2.under h).cell 0,(hb2.under h).cell 1,(hb2.under h).cell 2,(hb2.under h).cell 3,(hb2.under h).cell 4,(hb2.under h).cell 5,(hb3.under h).cell 0,(hb3.under h).cell 1,(hb4.under h).cell 0,(hb4.under h).cell 1⟩));have hS0:=HS.out w9 (Under.refl _);have l1:=hb.lt;have l2:=hb1.lt;have l3:=hb2.lt;have l4:=hb3.lt;have l5:=hb4.lt;have HE:=Lib.hid (fun w (h:Under w9 w)=>jDA (w0:=w) hf.small (DcV.mono _ _ _ _ h hv) (hS.under h));have HT:=Lib.hid (fun w (h:Under w9 w)=>eG (w0:=w) d (DcV.mono _ _ _ _ h hv));have HF:=Lib.hid (fun w (h:Under w9 w)=>vZ (w0:=w) d hf.few hf.many (fun t ht=>by have:=(hf.small.terms t ht).1;simp only[maxLen];omega) (DcV.mono _ _ _ _ h hv));have HA:=Lib.hid (fun w (h:Under w9 w)=>eG (w0:=w) a (DcV.mono _ _ _ _ h hv1));have HC:=Lib.hid (fun w (h:Under w9 w)=>eT (w0:=w) a hla (DcV.mono _ _ _ _ h hv1) (DcV.mono _ _ _ _ h hv2));have HK1:=Lib.hid (fun w (h:Under w9 w)=>xEA (w0:=w) ks ks hk (hk1.under h) (hk3.under h));have HK2:=Lib.hid (fun w (h:Under w9 w)=>xEA (w0:=w) ms ms hm (hk2.under h) (hk4.under h));rw[iZ]at HK1 HK2;clear hv hb hv1 hb1 hv2 hb2 hb3 hb4 hk1 hk2 hk3 hk4 hf hla hk hm hS;generalize yH d=E at *;unfold tlBigC;simp only[Tryz.f4,Option.getD_some,xA,jA];unfold iQ;refine wp_region_noPanic ?_;refine wp_region_held_drew (S:=fun w=>w.cell? ⟨na,0,none⟩=some (.int .i64 d.kind)∧w.cell? ⟨na,1,none⟩=some (.int .i64 d.level)∧w.cell? ⟨na,2,none⟩=some (.string d.name)∧w.cell? ⟨na,3,none⟩=some (.slice pt nt ct)∧w.cell? ⟨na,4,none⟩=some (.slice pb nb cb)∧w.cell? ⟨na,5,none⟩=some (.slice pc nc cc)∧w.cell? ⟨ab,0,none⟩=some (.int .i64 a.kind)∧w.cell? ⟨ab,1,none⟩=some (.int .i64 a.level)∧w.cell? ⟨ab,2,none⟩=some (.string a.name)∧w.cell? ⟨ab,3,none⟩=some (.slice qt mt dt)∧w.cell? ⟨ab,4,none⟩=some (.slice qb mb db)∧w.cell? ⟨ab,5,none⟩=some (.slice qc mc dc)∧w.cell? ⟨bb,0,none⟩=some (.int .i64 a.kind)∧w.cell? ⟨bb,1,none⟩=some (.int .i64 a.level)∧w.cell? ⟨bb,2,none⟩=some (.string a.name)∧w.cell? ⟨bb,3,none⟩=some (.slice rt ot et)∧w.cell? ⟨bb,4,none⟩=some (.slice rb ob eb)∧w.cell? ⟨bb,5,none⟩=some (.slice rc oc ec)∧w.cell? ⟨kb,0,none⟩=some (.slice kq kn kc)∧w.cell? ⟨kb,1,none⟩=some (.slice kr km kd)∧w.cell? ⟨mb',0,none⟩=some (.slice yq kn yc)∧w.cell? ⟨mb',1,none⟩=some (.slice yr km yd)) (by kernel_rfl) hS0 (fun hHeld=>?_)
  co_applyP bA 0 rfl (by kernel_rfl) (by kernel_rfl) (fun _ _ _ h=>h) hHeld (fun w hSw=>?_) ?_;rotate_left
  · (try dsimp only at hSw);go_simp;try with_reducible rfl
  try walk_nrm
  co_applyP bA 2 rfl (by kernel_rfl) (by kernel_rfl) (fun _ _ _ h=>h) hHeld (fun w hSw=>?_) ?_;rotate_left
  · (try dsimp only at hSw);go_simp;try with_reducible rfl
  try walk_nrm
  refine iA 1 (by kernel_rfl) rfl fun K hK=>?_
  go_simp;go_at_call 20;refine(HE.out _ (fA (Under.refl w9))).mono ?_;rintro e w1 ⟨rfl,hU⟩;have HU1:=Lib.hid (((fA (Under.refl w9))).trans hU);clear hU;refine hK.out _ _ (HS.out _ HU1.out) (fun _=>?_);clear hK K hHeld;rename_i hHeld
  try walk_nrm
  refine iA 3 (by kernel_rfl) rfl fun K hK=>?_
  go_simp;go_at_call 14;refine(HT.out _ HU1.out).mono ?_;rintro e w2 ⟨rfl,hU⟩;have HU2:=Lib.hid ((HU1.out).trans hU);clear hU;refine hK.out _ _ (HS.out _ HU2.out) (fun _=>?_);clear hK K hHeld;rename_i hHeld
  try walk_nrm
  refine iA 4 (by kernel_rfl) rfl fun K hK=>?_
  go_simp;go_at_call 21;refine(HF.out _ HU2.out).mono ?_;rintro e w3 ⟨rfl,hU⟩;have HU3:=Lib.hid ((HU2.out).trans hU);clear hU;refine hK.out _ _ (HS.out _ HU3.out) (fun _=>?_);clear hK K hHeld;rename_i hHeld
  try walk_nrm
  co_applyP bA 5 rfl (by kernel_rfl) (by kernel_rfl) (fun _ _ _ h=>h) hHeld (fun w hSw=>?_) ?_;rotate_left
  · (try dsimp only at hSw);go_simp;try with_reducible rfl
  try walk_nrm
  co_applyP bA 6 rfl (by kernel_rfl) (by kernel_rfl) (fun _ _ _ h=>h) hHeld (fun w hSw=>?_) ?_;rotate_left
  · (try dsimp only at hSw);go_simp;try with_reducible rfl
  try walk_nrm
  co_applyP bA 7 rfl (by kernel_rfl) (by kernel_rfl) (fun _ _ _ h=>h) hHeld (fun w hSw=>?_) ?_;rotate_left
  · (try dsimp only at hSw);go_simp;try with_reducible rfl
  try walk_nrm
  co_applyP bA 8 rfl (by kernel_rfl) (by kernel_rfl) (fun _ _ _ h=>h) hHeld (fun w hSw=>?_) ?_;rotate_left
  · (try dsimp only at hSw);go_simp;try with_reducible rfl
  try walk_nrm
  co_applyP bA 9 rfl (by kernel_rfl) (by kernel_rfl) (fun _ _ _ h=>h) hHeld (fun w hSw=>?_) ?_;rotate_left
  · (try dsimp only at hSw);go_simp;try with_reducible rfl
  try walk_nrm
  co_applyP bA 10 rfl (by kernel_rfl) (by kernel_rfl) (fun _ _ _ h=>h) hHeld (fun w hSw=>?_) ?_;rotate_left
  · (try dsimp only at hSw);go_simp;try with_reducible rfl
  try walk_nrm
  co_applyP bA 11 rfl (by kernel_rfl) (by kernel_rfl) (fun _ _ _ h=>h) hHeld (fun w hSw=>?_) ?_;rotate_left
  · (try dsimp only at hSw);go_simp;try with_reducible rfl
  try walk_nrm
  co_applyP bA 12 rfl (by kernel_rfl) (by kernel_rfl) (fun _ _ _ h=>h) hHeld (fun w hSw=>?_) ?_;rotate_left
  · (try dsimp only at hSw);go_simp;try with_reducible rfl
  try walk_nrm
  co_applyP bA 14 rfl (by kernel_rfl) (by kernel_rfl) (fun _ _ _ h=>h) hHeld (fun w hSw=>?_) ?_;rotate_left
  · (try dsimp only at hSw);go_simp;try with_reducible rfl
  try walk_nrm
  refine iA 13 (by kernel_rfl) rfl fun K hK=>?_
  go_simp;go_at_call 14;refine(HA.out _ HU3.out).mono ?_;rintro e w4 ⟨rfl,hU⟩;have HU4:=Lib.hid ((HU3.out).trans hU);clear hU;refine hK.out _ _ (HS.out _ HU4.out) (fun _=>?_);clear hK K hHeld;rename_i hHeld
  try walk_nrm
  refine iA 15 (by kernel_rfl) rfl fun K hK=>?_
  go_simp;go_at_call 13;refine(HC.out _ HU4.out).mono ?_;rintro e w5 ⟨rfl,hU⟩;have HU5:=Lib.hid ((HU4.out).trans hU);clear hU;refine hK.out _ _ (HS.out _ HU5.out) (fun _=>?_);clear hK K hHeld;rename_i hHeld
  try walk_nrm
  co_applyP bA 16 rfl (by kernel_rfl) (by kernel_rfl) (fun _ _ _ h=>h) hHeld (fun w hSw=>?_) ?_;rotate_left
  · (try dsimp only at hSw);go_simp;try with_reducible rfl
  try walk_nrm
  co_applyP bA 17 rfl (by kernel_rfl) (by kernel_rfl) (fun _ _ _ h=>h) hHeld (fun w hSw=>?_) ?_;rotate_left
  · (try dsimp only at hSw);go_simp;try with_reducible rfl
  try walk_nrm
  co_applyP bA 18 rfl (by kernel_rfl) (by kernel_rfl) (fun _ _ _ h=>h) hHeld (fun w hSw=>?_) ?_;rotate_left
  · (try dsimp only at hSw);go_simp;try with_reducible rfl
  try walk_nrm
  co_applyP bA 19 rfl (by kernel_rfl) (by kernel_rfl) (fun _ _ _ h=>h) hHeld (fun w hSw=>?_) ?_;rotate_left
  · (try dsimp only at hSw);go_simp;try with_reducible rfl
  try walk_nrm
  co_applyP bA 20 rfl (by kernel_rfl) (by kernel_rfl) (fun _ _ _ h=>h) hHeld (fun w hSw=>?_) ?_;rotate_left
  · (try dsimp only at hSw);go_simp;try with_reducible rfl
  try walk_nrm
  co_applyP bA 21 rfl (by kernel_rfl) (by kernel_rfl) (fun _ _ _ h=>h) hHeld (fun w hSw=>?_) ?_;rotate_left
  · (try dsimp only at hSw);go_simp;try with_reducible rfl
  try walk_nrm
  co_applyP bA 22 rfl (by kernel_rfl) (by kernel_rfl) (fun _ _ _ h=>h) hHeld (fun w hSw=>?_) ?_;rotate_left
  · (try dsimp only at hSw);go_simp;try with_reducible rfl
  try walk_nrm
  refine iA 23 (by kernel_rfl) rfl fun K hK=>?_
  go_simp;go_at_call 22;refine(HK1.out _ HU5.out).mono ?_;rintro e w6 ⟨rfl,hU⟩;have HU6:=Lib.hid ((HU5.out).trans hU);clear hU;refine hK.out _ _ (HS.out _ HU6.out) (fun _=>?_);clear hK K hHeld;rename_i hHeld
  try walk_nrm
  co_applyP bA 24 rfl (by kernel_rfl) (by kernel_rfl) (fun _ _ _ h=>h) hHeld (fun w hSw=>?_) ?_;rotate_left
  · (try dsimp only at hSw);go_simp;try with_reducible rfl
  try walk_nrm
  co_applyP bA 25 rfl (by kernel_rfl) (by kernel_rfl) (fun _ _ _ h=>h) hHeld (fun w hSw=>?_) ?_;rotate_left
  · (try dsimp only at hSw);go_simp;try with_reducible rfl
  try walk_nrm
  co_applyP bA 26 rfl (by kernel_rfl) (by kernel_rfl) (fun _ _ _ h=>h) hHeld (fun w hSw=>?_) ?_;rotate_left
  · (try dsimp only at hSw);go_simp;try with_reducible rfl
  try walk_nrm
  co_applyP bA 27 rfl (by kernel_rfl) (by kernel_rfl) (fun _ _ _ h=>h) hHeld (fun w hSw=>?_) ?_;rotate_left
  · (try dsimp only at hSw);go_simp;try with_reducible rfl
  try walk_nrm
  co_applyP bA 28 rfl (by kernel_rfl) (by kernel_rfl) (fun _ _ _ h=>h) hHeld (fun w hSw=>?_) ?_;rotate_left
  · (try dsimp only at hSw);go_simp;try with_reducible rfl
  try walk_nrm
  co_applyP bA 29 rfl (by kernel_rfl) (by kernel_rfl) (fun _ _ _ h=>h) hHeld (fun w hSw=>?_) ?_;rotate_left
  · (try dsimp only at hSw);go_simp;try with_reducible rfl
  try walk_nrm
  co_applyP bA 30 rfl (by kernel_rfl) (by kernel_rfl) (fun _ _ _ h=>h) hHeld (fun w hSw=>?_) ?_;rotate_left
  · (try dsimp only at hSw);go_simp;try with_reducible rfl
  try walk_nrm
  refine iA 31 (by kernel_rfl) rfl fun K hK=>?_
  go_simp;go_at_call 22;refine(HK2.out _ HU6.out).mono ?_;rintro e w7 ⟨rfl,hU⟩;have HU7:=Lib.hid ((HU6.out).trans hU);clear hU;refine hK.out _ _ (HS.out _ HU7.out) (fun _=>?_);clear hK K hHeld;rename_i hHeld
  try walk_nrm
  co_applyP bA 32 rfl (by kernel_rfl) (by kernel_rfl) (fun _ _ _ h=>h) hHeld (fun w hSw=>?_) ?_;rotate_left
  · (try dsimp only at hSw);go_simp;try with_reducible rfl
  try walk_nrm
  co_applyP bA 33 rfl (by kernel_rfl) (by kernel_rfl) (fun _ _ _ h=>h) hHeld (fun w hSw=>?_) ?_;rotate_left
  · (try dsimp only at hSw);go_simp;try with_reducible rfl
  try walk_nrm
  refine wpAnyH_done (by kernel_rfl) ?_ _;refine NoPanic.normal ?_;exact⟨HU7.out,rfl,rfl,_,zB (F:=lHA (x0) (x2) (.pointer (some ⟨na,0,none⟩)) (.pointer (some ⟨ab,0,none⟩)) (.bool bo) (.pointer (some ⟨bb,0,none⟩)) (.bool bo) (.pointer (some ⟨kb,0,none⟩)) (.pointer (some ⟨mb',0,none⟩)) (x13) (x14) (x15) (x16) (x17) (x18) (x19) (x20) (x21) (x22)) (by rfl)⟩
end
end Go.Proofs.YtggjbblgoddnjaaGreatDoor
