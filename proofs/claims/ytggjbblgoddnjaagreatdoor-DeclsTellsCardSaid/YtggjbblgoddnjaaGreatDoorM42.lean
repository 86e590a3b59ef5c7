/- Part 42 of what the proof rests on. -/
import Derived.Conc.CompanyMem
import Derived.Conc.WalkWords
import Derived.Deep.RegionLawGrows
import Derived.Test.YtggjbblgoddnjaaGreatDoorM12
import Derived.Test.YtggjbblgoddnjaaGreatDoorM21
import Derived.Test.YtggjbblgoddnjaaGreatDoorM27
import Derived.Test.YtggjbblgoddnjaaGreatDoorM32
import Derived.Test.YtggjbblgoddnjaaGreatDoorM33
import Derived.Test.YtggjbblgoddnjaaGreatDoorM38
import Derived.Test.YtggjbblgoddnjaaGreatDoorM41
set_option linter.unusedSimpArgs false
set_option linter.unusedVariables false
set_option maxRecDepth 100000
set_option maxHeartbeats 4000000
namespace Go.Proofs.YtggjbblgoddnjaaGreatDoor
open Go.Lx Go.RowKit
theorem tKA : ∀ l : List (List (List Nd)), (∀ c ∈ l, c.length ≤ 5864062014634) → mV l ≤ 2047 → l.flatten.length = mV l ∨ (1024 ≤ mV l ∧ l.flatten.length + 1024 ≤ 5864062014634 + mV l)
  | [],_,_=>.inl rfl
  | c :: l, h, hc => by
    have h1:=h c (List.mem_cons_self ..);have:=tKA l (fun x hx=>h x (List.mem_cons_of_mem _ hx)) (by simp only[mV]at hc;omega);simp only[mV,List.flatten_cons,List.length_append]at hc ⊢;omega
theorem wPA{d:Dc}(hw:WB d)(hs:SzD d):Lite d :=
 ⟨by have:=hw.type;omega,by have:=hw.body;omega,hs.cons,fun c hc=>⟨hs.con c hc,fun t ht=>by have:=hw.terms c hc t ht;omega⟩⟩
theorem hQA{d:Dc}(hw:WB d)(hs:SzD d):Fine d:=by
 have hf:d.cons.flatten.length≤5864062015658:=by
  have:=tKA d.cons hs.con hw.caps;have:=hw.caps;omega
 have ht:∀ t∈nC d,t.length≤2048∧oN t:=by
  intro t ht;unfold nC at ht
  split at ht
  · simp only [List.mem_cons, List.not_mem_nil, or_false] at ht; rcases ht with rfl | rfl
    · exact⟨hw.type,hs.type⟩
    · exact⟨hw.body,hs.body⟩
  · split at ht
    · simp only[List.mem_cons,List.not_mem_nil,or_false]at ht;obtain rfl:=ht;exact⟨hw.type,hs.type⟩
    · split at ht
      · obtain⟨c,hc,ht⟩:=List.mem_flatten.1 ht;exact⟨hw.terms c hc t ht,hs.terms c hc t ht⟩
      · exact absurd ht (by simp)
 have hm:(nC d).length≤5864062015658:=by
  unfold nC
  split
  · simp
  · split
    · simp
    · split
      · exact hf
      · simp
 exact⟨⟨hs.name,hs.cons,hf,fun t h=>⟨by have:=(ht t h).1;omega,(ht t h).2.2⟩⟩,wPA hw hs,⟨hs.cons,hf⟩,hm⟩
section
variable {w0 : World}
theorem rUA{rb db j:Nat}{T:TypeId}{cs:Array Value}{v1 v2 x:Value}{t:List Nd}(hT:∀ w,Under w0 w→Calls Tryz.prog 103 #[.agg #[v1,v2],x] w (xPA w (.ok t)))(hB:BoxAt w0 db T cs)(hj:j < cs.size)(h1:v1.oneCell'=true)(h2:v2.oneCell'=true) :
 Calls Tryz.prog 72 #[.pointer (some ⟨rb,0,none⟩),.agg #[v1,v2],x,.pointer (some ⟨db,j,none⟩)] w0 fun e w=>e = .returned (.bool true)∧∃ u wm,Under w0 wm∧TermV wm u t∧w=wm.setCell ⟨db,j,none⟩ u:=by
 have HT:=Lib.hid (hT _ (aA (Under.refl w0) (.cells #[v1,v2] 52)));have HB:=Lib.hid hB;have HJ:=Lib.hid (show ∃ z,cs[j]? = some z from⟨_,Array.getElem?_eq_getElem hj⟩);clear hT hB hj;go_enter Tryz.func72,Tryz.ntmps72;go_wp2_with fail;refine HT.out.mono ?_;rintro e w1 ⟨hU1,u,rfl,hu⟩;have HV:=Lib.hid hu;have HU:=Lib.hid ((aA (Under.refl w0) _).trans hU1);have HB1:=Lib.hid ((HB.out.alloc _).under hU1);obtain⟨q,c,rfl,_⟩:=hu;obtain⟨z,hz⟩:=HJ.out;have cj:=(HB1.out.cell j).trans hz;have fj:=HB1.out.free j;have bl:=HB1.out.lt;clear hU1 hz HT HB;go_wp2;go_ret;exact⟨rfl,_,w1,HU.out,HV.out,rfl⟩
end
def xK(pos:Int):ST:=.word pos ⟨#[85,110,105,116]⟩
def unitT:List Nd:=[⟨16,0,0,⟨#[]⟩⟩]
section
variable {w0 : World}
theorem fOA{rb db b off m c:Nat}{pos at0 a1 a2:Int}{cs:Array Value}{q:Option Addr}{c1:Nat}(hr:BoxAt w0 rb 88 #[.slice none 0 0,.int .i64 a1,.int .i64 a2])(hB:BoxAt w0 db 33 cs)(hcs:3 < cs.size)(hn1:rb≠db)(hn2:b≠db)(hm:2 < m)(hp:w0.cell? ⟨b,off+2,none⟩=some (.slice q 1 c1))(hb:b < w0.heap.size)(hc1:1≤c1)(hq:SxArg w0 q (xB (xK pos)))(hE:StrcAt w0)(hS:ShapesAt 3 w0) :
 Calls Tryz.prog 73 #[.pointer (some ⟨rb,0,none⟩),.pointer (some ⟨db,0,none⟩),.slice (some ⟨b,off,none⟩) m c,.int .i64 at0] w0 fun e w=>e = .returned (.bool true)∧∃ u wm,Under w0 wm∧TermV wm u unitT∧w=wm.setCell ⟨db,3,none⟩ u:=by
 have HK:=Lib.hid (fun w=>bT (w0:=w) (p:=none) (c:=0) [] (by simp) RowsV.nil);have HT:=Lib.hid (fun w (h:Under w0 w) (v1 v2:Option Addr) (d1 d2:Nat) (g1:TextsV w (.slice v1 0 d1) []) (g2:TextsV w (.slice v2 0 d2) [])=>qZA (w0:=w) (cap:=c1) (xK pos) (nPA pos _) [] [] (by unfold xK okS;decide) (by simp[xK,xB]) (by simpa [xK,xB] using hc1) (hq.under h) (by intro x hx;simp[xK,xB]at hx;subst hx;exact show(4:Nat)≤1000000 by omega) (hE.under h) (hS.under h) g1 g2 (by simp) (by simp));have HR:=Lib.hid hr;have HB:=Lib.hid (And.intro hB hcs);have r0:w0.cell? ⟨rb,0,none⟩=some (.slice none 0 0):=hr.cell 0;have rl:=hr.lt;have hm2:(2:Int) < (m:Int):=by omega
 clear hr hB hcs hq hE hS hc1 hm;go_enter Tryz.func73,Tryz.ntmps73;go_wp2_with fail;rename_i K0 hK0;refine wp_region_noPanic ?_;refine wp_region_held_drew (S:=fun w'=>w'.cell? ⟨rb,0,none⟩=some (.slice none 0 0)∧w'.cell? ⟨b,off+2,none⟩=some (.slice q 1 c1)) (by kernel_rfl) ⟨r0,hp⟩ (fun hHeld=>?_);co_applyP bA 0 rfl (by kernel_rfl) (by kernel_rfl) (fun _ _ _ h=>h) hHeld (fun w hSw=>?_) ?_;rotate_left
 · (try dsimp only at hSw);go_simp;try with_reducible rfl
 try walk_nrm
 co_applyP bA 1 rfl (by kernel_rfl) (by kernel_rfl) (fun _ _ _ h=>h) hHeld (fun w hSw=>?_) ?_;rotate_left
 · (try dsimp only at hSw);go_simp;try with_reducible rfl
 try walk_nrm
 co_applyP bA 2 rfl (by kernel_rfl) (by kernel_rfl) (fun _ _ _ h=>h) hHeld (fun w hSw=>?_) ?_;rotate_left
 · (try dsimp only at hSw);go_simp;try with_reducible rfl
 try walk_nrm
 co_applyP bA 3 rfl (by kernel_rfl) (by kernel_rfl) (fun _ _ _ h=>h) hHeld (fun w hSw=>?_) ?_;rotate_left
 · (try dsimp only at hSw);go_simp;try with_reducible rfl
 try walk_nrm
 co_applyP bA 4 rfl (by kernel_rfl) (by kernel_rfl) (fun _ _ _ h=>h) hHeld (fun w hSw=>?_) ?_;rotate_left
 · (try dsimp only at hSw);go_simp;try with_reducible rfl
 try walk_nrm
 co_applyP bA 6 rfl (by kernel_rfl) (by kernel_rfl) (fun _ _ _ h=>h) hHeld (fun w hSw=>?_) ?_;rotate_left
 · (try dsimp only at hSw);go_simp;try with_reducible rfl
 try walk_nrm
 co_applyP bA 7 rfl (by kernel_rfl) (by kernel_rfl) (fun _ _ _ h=>h) hHeld (fun w hSw=>?_) ?_;rotate_left
 · (try dsimp only at hSw);go_simp;try with_reducible rfl
 try walk_nrm
 co_applyP bA 8 rfl (by kernel_rfl) (by kernel_rfl) (fun _ _ _ h=>h) hHeld (fun w hSw=>?_) ?_;rotate_left
 · (try dsimp only at hSw);go_simp;try with_reducible rfl
 try walk_nrm
 co_applyP bA 9 rfl (by kernel_rfl) (by kernel_rfl) (fun _ _ _ h=>h) hHeld (fun w hSw=>?_) ?_;rotate_left
 · (try dsimp only at hSw);go_simp;try with_reducible rfl
 try walk_nrm
 co_applyP bA 10 rfl (by kernel_rfl) (by kernel_rfl) (fun _ _ _ h=>h) hHeld (fun w hSw=>?_) ?_;rotate_left
 · (try dsimp only at hSw);go_simp;try with_reducible rfl
 try walk_nrm
 co_applyP bA 11 rfl (by kernel_rfl) (by kernel_rfl) (fun _ _ _ h=>h) hHeld (fun w hSw=>?_) ?_;rotate_left
 · (try dsimp only at hSw);go_simp;try with_reducible rfl
 try walk_nrm
 refine iA 5 (by kernel_rfl) rfl fun K hK=>?_
 go_simp;go_at_call 18;refine(HK.out _).mono ?_;rintro e w1 ⟨vc,vd,rfl,hT2,hU1⟩;obtain⟨v1,d1,rfl,h1c,h10,h1r⟩:=TextsV.of_own hT2.one;obtain⟨v2,d2,rfl,h2c,h20,h2r⟩:=TextsV.of_own hT2.two;have HU1:=Lib.hid ((fA (Under.refl w0)).trans hU1);have HG1:=Lib.hid (show TextsV w1 (.slice v1 0 d1) [] from⟨v1,d1,rfl,h1c,h10,h1r⟩);have HG2:=Lib.hid (show TextsV w1 (.slice v2 0 d2) [] from⟨v2,d2,rfl,h2c,h20,h2r⟩);simp only[show knC []=[] from rfl,show knD []=[] from rfl,List.length_nil]at *;clear hT2 hU1 h1c h10 h1r h2c h20 h2r;refine hK.out _ _ ⟨(dA HU1.out rl 0).trans r0,(dA HU1.out hb _).trans hp⟩ (fun _=>?_);clear hK K hHeld;rename_i hHeld
 try walk_nrm
 have HC:=Lib.hid (rUA (w0:=w1) (rb:=rb) (fun w h=>HT.out w (HU1.out.trans h) v1 v2 d1 d2 (HG1.out.under h) (HG2.out.under h)) (HB.out.1.under HU1.out) HB.out.2 (v1:=.slice v1 0 d1) (v2:=.slice v2 0 d2) (x:=.slice q 1 c1) rfl rfl);refine iA 12 (by kernel_rfl) rfl fun K hK=>?_
 go_simp;go_at_call 72;refine HC.out.mono ?_;rintro e w2 ⟨rfl,u,wm,hU2,hu,rfl⟩;have HU2:=Lib.hid (HU1.out.trans hU2);have HV:=Lib.hid hu;clear hU2 hu;refine hK.out _ _ ⟨?_,?_⟩ (fun _=>?_)
 · rw[World.cell?_setCell_other _ _ _ _ (by intro h;simp only[Addr.mk.injEq]at h;omega)];exact(dA HU2.out rl 0).trans r0
 · rw[World.cell?_setCell_other _ _ _ _ (by intro h;simp only[Addr.mk.injEq]at h;omega)];exact(dA HU2.out hb _).trans hp
 clear hK K hHeld;rename_i hHeld
 try walk_nrm
 co_applyP bA 13 rfl (by kernel_rfl) (by kernel_rfl) (fun _ _ _ h=>h) hHeld (fun w hSw=>?_) ?_;rotate_left
 · (try dsimp only at hSw);go_simp;try with_reducible rfl
 try walk_nrm
 refine wpAnyH_done (by kernel_rfl) ?_ _;refine NoPanic.normal ?_;refine hK0 _ _ ?_;go_wp2;go_ret;exact⟨rfl,u,wm,HU2.out,HV.out,rfl⟩
end
section
variable {W0 w0 : World} {d : Dc}
theorem oVA{db:Nat}{cs:Array Value}(hd:Small d)(hv:DcV W0 (.agg cs) d)(hU:Under W0 w0)(hS:ShapesAt 3 W0)(hB:BoxAt w0 db 33 cs) :
 Calls Tryz.prog 56 #[.pointer (some ⟨db,0,none⟩)] w0 fun e w=>e = .returned (.int .i64 (yH d))∧Under w0 w:=by
 have HC:=Lib.hid (jDA (w0:=w0) hd (DcV.mono _ _ _ _ hU hv) (hS.under hU));obtain⟨vt,vb,vc,hcs,⟨pt,ct,rfl,_⟩,⟨pb,cb,rfl,_⟩,⟨pc,cc,us,rfl,_⟩⟩:=hv
 cases hcs;have b0:=hB.cell 0;have b1:=hB.cell 1;have b2:=hB.cell 2;have b3:=hB.cell 3;have b4:=hB.cell 4;have b5:=hB.cell 5;have bl:=hB.lt;clear hd hU hS hB;go_enter Tryz.func56,Tryz.ntmps56;go_wp2_with fail;refine HC.out.mono ?_;rintro e w1 ⟨rfl,hU1⟩;have HU1:=Lib.hid hU1;clear hU1;go_wp2;go_ret;exact⟨rfl,HU1.out⟩
theorem jWA{lb db:Nat}{cs:Array Value}{l:List Dc}{p:Option Addr}{c:Nat}(hl:l.length≤100000)(hp:RowsV 6 DcRow W0 p l)(hd:Small d)(hn:(nC d).length≤5864062015658)(hv:DcV W0 (.agg cs) d)(hU:Under W0 w0)(hB:BoxAt w0 db 33 cs)(hA:BoxAt w0 lb 22 #[.slice p l.length c]) :
 Calls Tryz.prog 57 #[.pointer (some ⟨lb,0,none⟩),.pointer (some ⟨db,0,none⟩)] w0 fun e w=>e = .returned (.int .i64 (jC (!(bG l d).isSome) 80))∧Under w0 w:=by
 have HO:=Lib.hid (uCA (w0:=w0) (c:=c) l d hl (RowsV.under DcRow.mono hp hU) hd hn (DcV.mono _ _ _ _ hU hv));obtain⟨vt,vb,vc,hcs,⟨pt,ct,rfl,_⟩,⟨pb,cb,rfl,_⟩,⟨pc,cc,us,rfl,_⟩⟩:=hv
 cases hcs;have b0:=hB.cell 0;have b1:=hB.cell 1;have b2:=hB.cell 2;have b3:=hB.cell 3;have b4:=hB.cell 4;have b5:=hB.cell 5;have bl:=hB.lt;have a0:=hA.cell 0;have al:=hA.lt;clear hd hU hp hB hA hn;go_enter Tryz.func57,Tryz.ntmps57;go_wp2_with fail;refine HO.out.mono ?_;rintro e w1 ⟨rfl,hU1⟩;have HU1:=Lib.hid hU1;clear hU1 b0 b1 b2 b3 b4 b5 bl a0 al HO;generalize (bG l d).getD ⟨#[]⟩=os at *;generalize hbb:(bG l d).isSome=b at *;have HBb:=Lib.hid hbb;clear hbb;have HN:=Lib.hid (qG (w0:=w1) (!b) 80);go_wp2_with fail;refine HN.out.mono ?_;rintro e w2 ⟨b1,b2,rfl,hS,hU2⟩;obtain⟨f,caps,hfv,hen,hcall⟩:=hS
 cases hfv;have HU2:=Lib.hid (HU1.out.trans hU2);have HC:=Lib.hid (hcall w2 (Under.refl _));clear hU2 hcall HN;go_wp2_with fail;refine HC.out.mono ?_;rintro e w3 ⟨rfl,hU3⟩;have HU3:=Lib.hid (HU2.out.trans hU3);clear hU3;go_wp2;go_ret;exact⟨by rw[HBb.out];rfl,HU3.out⟩
theorem gPA(l:List Dc)(d:Dc):kD [yH d,jC (!(lD d.name l).isSome) 4,jC (decide ((l.length:Int) < 40)) 21,jC (!(bG l d).isSome) 80]=iJ l d:=by
 unfold iJ;by_cases h:yH d=0
 · rw [if_neg (by rw [h]; decide)]
   cases hf:(lD d.name l).isSome<;>by_cases h4:l.length < 40<;>cases ho:(bG l d).isSome<;>simp[kD,jC,h,h4]<;>omega
 · rw[if_pos h];simp[kD,h]
def DcR(B:Nat)(w:World)(cs:List Value)(d:Dc):Prop:=∃ vt vb vc,cs=[.int .i64 d.kind,.int .i64 d.level,.string d.name,vt,vb,vc]∧Ow1 B w vt d.type∧Ow1 B w vb d.body∧Ow3 B w vc d.cons
theorem DcO.rowE{B:Nat}{w:World}{a0 a1 a2 a3 a4 a5:Value}{d:Dc}(h:DcO B w (.agg #[a0,a1,a2,a3,a4,a5]) d):DcR B w [a0,a1,a2,a3,a4,a5] d:=by
 obtain⟨vt,vb,vc,e,h1,h2,h3⟩:=h
 cases e;exact⟨_,_,_,rfl,h1,h2,h3⟩
theorem DcR.under{B:Nat}{w w':World}{cs:List Value}{d:Dc}(h:DcR B w cs d)(hU:Under w w'):DcR B w' cs d:=by
 obtain⟨vt,vb,vc,e,h1,h2,h3⟩:=h;exact⟨vt,vb,vc,e,h1.under hU,h2.under hU,h3.under hU⟩
theorem DcR.base{B B':Nat}{w:World}{cs:List Value}{d:Dc}(h:DcR B w cs d)(hB:B'≤B):DcR B' w cs d:=by
 obtain⟨vt,vb,vc,e,h1,h2,h3⟩:=h;exact⟨vt,vb,vc,e,h1.base hB,h2.base hB,h3.base hB⟩
theorem DcR.grown{B:Nat}{w w':World}{cs:List Value}{d:Dc}(h:DcR B w cs d){b e s n:Nat}{v:Value}{xs:List Value}(k:w.ownsRow b e s v n xs)(hg:w.grownBy w' v.ownBlock)(he:112≠e)(he2:30≠e)(he3:96≠e):DcR B w' cs d:=by
 obtain⟨vt,vb,vc,e,h1,h2,⟨vs,h3,h4⟩⟩:=h;exact⟨vt,vb,vc,e,h1.grown k hg he,h2.grown k hg he,vs,oC h3 hg (own_ne h3 k he3),h4.mono fun v x h=>h.grown k hg he he2⟩
theorem DcR.row{B:Nat}{w:World}{cs:List Value}{d:Dc}(h:DcR B w cs d):DcRow w cs d:=by
 obtain⟨vt,vb,vc,e,h1,h2,h3⟩:=h;exact⟨vt,vb,vc,e,dN h1,dN h2,h3.cons⟩
theorem rPA{w:World}{p:Option Addr}{cs:List Value}(h:RowArg w p cs):∀ b,p=some b→∀ j u,cs[j]? = some u→w.cell? (b.add j)=some u:=by
 intro b hb j u hj;obtain⟨b',off,e,_,hc⟩:=h (fun e=>by rw[e]at hj;simp at hj);rw[hb]at e
 cases e;rw[jJ];exact hc j u hj
theorem Tryz.infoDeclP:(Tryz.prog.info? 33).map (fun i=>(i.zero,i.size,i.bytes))=some (some (.agg #[.int .i64 0,.int .i64 0,.string ⟨#[]⟩,.slice none 0 0,.slice none 0 0,.slice none 0 0]),6,104):=by kernel_rfl
def hYA(v:Value)(n:Nat)(J:Nat→Value):Array Value:=#[J 0,J 1,J 2,J 3,.slice none 0 0,.int .i64 0,J 6,J 7,J 8,.slice none 0 0,J 10,J 11,J 12,J 13,J 14,J 15,J 16,J 17,J 18,J 19,J 20,J 21,J 22,J 23,J 24,J 25,J 26,J 27,J 28,J 29,J 30,J 31,J 32,J 33,J 34,J 35,J 36,J 37,J 38,J 39,J 40,v,.int .i64 (n:Int),.int .i64 0,J 44,J 45,J 46,J 47,J 48,J 49,J 50,J 51,J 52,J 53]
def ClR(w5:World)(ls:List Dc)(va i:Value)(wr:World):Prop:=∃(k:Nat) (rows:List (List Value)),k≤ls.length∧i = .int .i64 (k:Int)∧wr.ownsRow w5.heap.size 33 6 va k rows.flatten∧(∀ r∈rows,r.length=6)∧Zip (DcR w5.heap.size wr) rows (ls.take k)∧Under w5 wr
def y5A(w0 w3:World)(l:List Dc)(d:Dc)(e:Exit)(a':Act)(w':World):Prop:=e = .normal∧∃ q k,(∃ J,a'=⟨hYA (.slice q (l.length+1) k) (l.length+1) J,[]⟩)∧RowsV 6 DcRow w' q (l++[d])∧Under w0 w'
def d2A(lb db:Nat)(r:Int)(J:Nat→Value):Array Value:=#[J 0,J 1,.pointer (some ⟨lb,0,none⟩),.pointer (some ⟨db,0,none⟩),.slice none 0 0,.int .i64 0,J 6,J 7,.int .i64 r,J 9,J 10,J 11,J 12,J 13,J 14,J 15,J 16,J 17,J 18,J 19,J 20,J 21,J 22,J 23,J 24,J 25,J 26,J 27,J 28,J 29,J 30,J 31,J 32,J 33,J 34,J 35,J 36,J 37,J 38,J 39,J 40,J 41,J 42,J 43,J 44,J 45,J 46,J 47,J 48,J 49,J 50,J 51,J 52,J 53]
def AdQ(w2:World)(lb db:Nat)(r:Int)(e:Exit)(a':Act)(w':World):Prop:=e = .normal∧(∃ J,a'=⟨d2A lb db r J,[]⟩)∧Under w2 w'
theorem oCA(l:List Dc)(d:Dc){p:Option Addr}{c:Nat}{v:Value}(hl:l.length≤100000)(hlc:l.length≤c)(hp0:p=none→c=0)(hp:RowsV 6 DcRow w0 p l)(hla:∀ x∈l,Lite x)(hd:Fine d)(hv:DcV w0 v d)(hS:ShapesAt 3 w0):Calls Tryz.prog 25 #[.slice p l.length c,v] w0 (qHA w0 l d):=by
 have HF := Lib.hid (fun w (h : Under w0 w) => jP (w0 := w) (c := c) l d.name hl hla (RowsV.under DcRow.mono hp h)); have HV := Lib.hid hv; have HSh := Lib.hid hS; have HDf := Lib.hid hd; have HP := Lib.hid (And.intro hlc (And.intro hp0 hp)); have HLa := Lib.hid hla; have HE := Lib.hid (gPA l d); have HL := Lib.hid hl; obtain ⟨vt, vb, vc, rfl, ⟨pt, ct, rfl, _⟩, ⟨pb, cb, rfl, _⟩, ⟨pc, cc, us, rfl, _⟩⟩ := hv; have HA := Lib.hid ((qA w0 #[.slice p l.length c] 22).alloc (.cells #[.int .i64 d.kind, .int .i64 d.level, .string d.name, .slice pt d.type.length ct, .slice pb d.body.length cb, .slice pc d.cons.length cc] 33)); have HB := Lib.hid (show BoxAt ((w0.alloc (.cells #[.slice p l.length c] 22)).alloc (.cells #[.int .i64 d.kind, .int .i64 d.level, .string d.name, .slice pt d.type.length ct, .slice pb d.body.length cb, .slice pc d.cons.length cc] 33)) (w0.heap.size + 1) 33 #[.int .i64 d.kind, .int .i64 d.level, .string d.name, .slice pt d.type.length ct, .slice pb d.body.length cb, .slice pc d.cons.length cc] from by
   have:=qA (w0.alloc (.cells #[.slice p l.length c] 22)) #[.int .i64 d.kind,.int .i64 d.level,.string d.name,.slice pt d.type.length ct,.slice pb d.body.length cb,.slice pc d.cons.length cc] 33
   simpa using this)
 have HU0:=Lib.hid (aA (aA (Under.refl w0) (.cells #[.slice p l.length c] 22)) (.cells #[.int .i64 d.kind,.int .i64 d.level,.string d.name,.slice pt d.type.length ct,.slice pb d.body.length cb,.slice pc d.cons.length cc] 33));have hl0:(0:Int)≤(l.length:Int):=by omega
 have hl9:(l.length:Int)≤100000:=by omega
 clear hlc hp0 hp hd hl hla hS;go_enter Tryz.func25,Tryz.ntmps25;go_wp2_with fail;refine(HF.out _ HU0.out).mono ?_;rintro e w1 ⟨fv,rfl,hfv,hU1⟩;obtain⟨ft,fb,fc,rfl,⟨fpt,fct,rfl,_⟩,⟨fpb,fcb,rfl,_⟩,⟨fpc,fcc,fus,rfl,_⟩⟩:=hfv;generalize (lD d.name l).getD uT=fd at *;have HA1:=Lib.hid ((HA.out.under hU1).alloc (.cells #[.int .i64 fd.kind,.int .i64 fd.level,.string fd.name,.slice fpt fd.type.length fct,.slice fpb fd.body.length fcb,.slice fpc fd.cons.length fcc] 33));have HB1:=Lib.hid ((HB.out.under hU1).alloc (.cells #[.int .i64 fd.kind,.int .i64 fd.level,.string fd.name,.slice fpt fd.type.length fct,.slice fpb fd.body.length fcb,.slice fpc fd.cons.length fcc] 33));have HU1:=Lib.hid (aA (HU0.out.trans hU1) (.cells #[.int .i64 fd.kind,.int .i64 fd.level,.string fd.name,.slice fpt fd.type.length fct,.slice fpb fd.body.length fcb,.slice fpc fd.cons.length fcc] 33));clear hU1 HF HA HB HU0;generalize hfs:(lD d.name l).isSome=fs at *;clear hfs;go_wp2_with fail;rename_i K hK;generalize w1.alloc (.cells #[.int .i64 fd.kind,.int .i64 fd.level,.string fd.name,.slice fpt fd.type.length fct,.slice fpb fd.body.length fcb,.slice fpc fd.cons.length fcc] 33)=w2 at *;refine wp_mono (Q:=AdQ w2 w0.heap.size (w0.heap.size+1) (iJ l d)) ?_ ?_
 · clear hK; have a0 := HA1.out.cell 0; have al := HA1.out.lt; refine wp_region_noPanic ?_; refine wp_region_held_drew (S := fun w' => w'.cell? ⟨w0.heap.size, 0, none⟩ = some (.slice p l.length c)) (by kernel_rfl) a0 (fun hHeld => ?_); co_applyP bA 0 rfl (by kernel_rfl) (by kernel_rfl) (fun _ _ _ h => h) hHeld (fun w hSw => ?_) ?_; rotate_left
   · (try dsimp only at hSw);go_simp;try with_reducible rfl
   try walk_nrm
   co_applyP bA 1 rfl (by kernel_rfl) (by kernel_rfl) (fun _ _ _ h=>h) hHeld (fun w hSw=>?_) ?_;rotate_left
   · (try dsimp only at hSw);go_simp;try with_reducible rfl
   try walk_nrm
   co_applyP bA 2 rfl (by kernel_rfl) (by kernel_rfl) (fun _ _ _ h=>h) hHeld (fun w hSw=>?_) ?_;rotate_left
   · (try dsimp only at hSw);go_simp;try with_reducible rfl
   try walk_nrm
   co_applyP bA 4 rfl (by kernel_rfl) (by kernel_rfl) (fun _ _ _ h=>h) hHeld (fun w hSw=>?_) ?_;rotate_left
   · (try dsimp only at hSw);go_simp;try with_reducible rfl
   try walk_nrm
   co_applyP bA 5 rfl (by kernel_rfl) (by kernel_rfl) (fun _ _ _ h=>h) hHeld (fun w hSw=>?_) ?_;rotate_left
   · (try dsimp only at hSw);go_simp;try with_reducible rfl
   try walk_nrm
   co_applyP bA 6 rfl (by kernel_rfl) (by kernel_rfl) (fun _ _ _ h=>h) hHeld (fun w hSw=>?_) ?_;rotate_left
   · (try dsimp only at hSw);go_simp;try with_reducible rfl
   try walk_nrm
   co_applyP bA 8 rfl (by kernel_rfl) (by kernel_rfl) (fun _ _ _ h=>h) hHeld (fun w hSw=>?_) ?_;rotate_left
   · (try dsimp only at hSw);go_simp;try with_reducible rfl
   try walk_nrm
   refine iA 3 (by kernel_rfl) rfl fun K hK=>?_
   go_simp;go_at_call 48;refine(qG _ _).mono ?_;rintro e w3 ⟨b3,c3,rfl,hS3,hU3⟩;refine hK.out _ _ ((dA ((fA (Under.refl w2)).trans hU3) al 0).trans a0) (fun _=>?_);clear hK K hHeld;rename_i hHeld
   try walk_nrm
   refine iA 7 (by kernel_rfl) rfl fun K hK=>?_
   go_simp;go_at_call 48;refine(qG _ _).mono ?_;rintro e w4 ⟨b4,c4,rfl,hS4,hU4⟩;refine hK.out _ _ ((dA (((fA (Under.refl w2)).trans hU3).trans hU4) al 0).trans a0) (fun _=>?_);clear hK K hHeld;rename_i hHeld
   try walk_nrm
   refine iA 9 (by kernel_rfl) rfl fun K hK=>?_
   go_simp;refine hK.out _ _ ((dA (aA (((fA (Under.refl w2)).trans hU3).trans hU4) _) al 0).trans a0) (fun _=>?_);clear hK K hHeld;rename_i hHeld
   try walk_nrm
   refine iA 10 (by kernel_rfl) rfl fun K hK=>?_
   go_simp;go_at_call 47;have hUw:=aA (((fA (Under.refl w2)).trans hU3).trans hU4);have hS1:=fun o=>(show StepOk (w4.alloc o) (.func (.func 56) #[] #[.pointer (some ⟨w0.heap.size+1,0,none⟩)]) (yH d) from⟨_,_,rfl,enters_of Tryz.func56 (by kernel_rfl) rfl,fun w' hU'=>oVA HDf.out.small HV.out (HU1.out.trans ((hUw o).trans hU')) HSh.out (HB1.out.under ((hUw o).trans hU'))⟩)
   have hS2:=fun o=>(show StepOk (w4.alloc o) (.func (.func 57) #[] #[.pointer (some ⟨w0.heap.size,0,none⟩),.pointer (some ⟨w0.heap.size+1,0,none⟩)]) (jC (!(bG l d).isSome) 80) from⟨_,_,rfl,enters_of Tryz.func57 (by kernel_rfl) rfl,fun w' hU'=>jWA HL.out HP.out.2.2 HDf.out.small (by have:=HDf.out.many;omega) HV.out (HU1.out.trans ((hUw o).trans hU')) (HB1.out.under ((hUw o).trans hU')) (HA1.out.under ((hUw o).trans hU'))⟩)
   refine(nFA (c:=4) [(.func (.func 56) #[] #[.pointer (some ⟨w0.heap.size+1,0,none⟩)],yH d),(.func (.func 81) #[] #[.pointer (some ⟨b3,0,none⟩),.pointer (some ⟨c3,0,none⟩)],jC (!fs) 4),(.func (.func 81) #[] #[.pointer (some ⟨b4,0,none⟩),.pointer (some ⟨c4,0,none⟩)],jC (decide ((l.length:Int) < 40)) 21),(.func (.func 57) #[] #[.pointer (some ⟨w0.heap.size,0,none⟩),.pointer (some ⟨w0.heap.size+1,0,none⟩)],jC (!(bG l d).isSome) 80)] (by simp) (nJ w4 _ _ _) (fun x hx=>?_)).mono ?_
   · simp only [List.mem_cons, List.not_mem_nil, or_false] at hx; rcases hx with rfl | rfl | rfl | rfl
     · exact hS1 _
     · exact hS3.under (hU4.trans (aA (Under.refl _) _))
     · exact hS4.under (aA (Under.refl _) _)
     · exact hS2 _
   rintro e w6 ⟨rfl,hU6⟩;simp only[List.map_cons,List.map_nil];rw[HE.out];refine hK.out _ _ ((dA ((hUw _).trans hU6) al 0).trans a0) (fun _=>?_);clear hK K hHeld;rename_i hHeld
   try walk_nrm
   co_applyP bA 11 rfl (by kernel_rfl) (by kernel_rfl) (fun _ _ _ h=>h) hHeld (fun w hSw=>?_) ?_;rotate_left
   · (try dsimp only at hSw);go_simp;try with_reducible rfl
   try walk_nrm
   refine wpAnyH_done (by kernel_rfl) ?_ _;refine NoPanic.normal ?_;exact⟨rfl,⟨_,zB (F:=d2A w0.heap.size (w0.heap.size+1) (iJ l d)) (by rfl)⟩,(hUw _).trans hU6⟩
 rintro e a' w3 ⟨rfl,⟨J,rfl⟩,hU3⟩;have HU3:=Lib.hid (HU1.out.trans hU3);have HA3:=Lib.hid (HA1.out.under hU3);have HB3:=Lib.hid (HB1.out.under hU3);clear hU3 HA1 HB1 HU1 HE HSh;simp only[Exit.then];refine hK _ _ ?_;clear hK K;unfold d2A;by_cases he:iJ l d=0;rotate_left
 · have he' : (iJ l d != 0) = true := by simpa using he
   obtain⟨ee,hee⟩:∃ ee,iJ l d=ee:=⟨_,rfl⟩;rw[hee]at he he' ⊢;have HEe:=Lib.hid (And.intro hee he);clear hee he;go_wp2;go_ret2;exact kM HEe.out.1 HEe.out.2 HU3.out
 rw [he]; have HE0 := Lib.hid he; clear he; obtain ⟨hlc, hp0, rows, hr1, hr2, hr3⟩ := HP.out; have HRw := Lib.hid (And.intro hr1 (And.intro hr2 hr3)); have HRd := Lib.hid (show DcRow w0 [.int .i64 d.kind, .int .i64 d.level, .string d.name, .slice pt d.type.length ct, .slice pb d.body.length cb, .slice pc d.cons.length cc] d from by
   obtain⟨rc,hrc,hrow⟩:=HV.out.row;have:=congrArg (fun z=>match z with | Value.agg cs=>cs.toList | _=>[]) hrc;simp only at this;rw[this]
   simpa using hrow)
 obtain⟨j0,hj,hy0,hy1,hy2⟩:=info_parts Tryz.infoDeclP;have hlc':(l.length:Int)≤(c:Int):=by omega
 clear hr1 hr2 hr3;go_wp2_with fail;rename_i K hK;refine wp_mono (Q:=y5A w0 w3 l d) ?_ ?_
 · clear hK; have a0 := HA3.out.cell 0; have al := HA3.out.lt; have b0 := HB3.out.cell 0; have b1 := HB3.out.cell 1; have b2 := HB3.out.cell 2; have b3 := HB3.out.cell 3; have b4 := HB3.out.cell 4; have b5 := HB3.out.cell 5; have bl := HB3.out.lt; refine wp_region_noPanic ?_; refine wp_region_held_drew (S := fun w' => w'.cell? ⟨w0.heap.size, 0, none⟩ = some (.slice p l.length c) ∧ w'.cell? ⟨w0.heap.size + 1, 0, none⟩ = some (.int .i64 d.kind) ∧ w'.cell? ⟨w0.heap.size + 1, 1, none⟩ = some (.int .i64 d.level) ∧ w'.cell? ⟨w0.heap.size + 1, 2, none⟩ = some (.string d.name) ∧ w'.cell? ⟨w0.heap.size + 1, 3, none⟩ = some (.slice pt d.type.length ct) ∧ w'.cell? ⟨w0.heap.size + 1, 4, none⟩ = some (.slice pb d.body.length cb) ∧ w'.cell? ⟨w0.heap.size + 1, 5, none⟩ = some (.slice pc d.cons.length cc)) (by kernel_rfl) ⟨a0, b0, b1, b2, b3, b4, b5⟩ (fun hHeld => ?_); co_applyP bA 0 rfl (by kernel_rfl) (by kernel_rfl) (fun _ _ _ h => h) hHeld (fun w hSw => ?_) ?_; rotate_left
   · (try dsimp only at hSw);go_simp;try with_reducible rfl
   try walk_nrm
   co_applyP bA 1 rfl (by kernel_rfl) (by kernel_rfl) (fun _ _ _ h=>h) hHeld (fun w hSw=>?_) ?_;rotate_left
   · (try dsimp only at hSw);go_simp;try with_reducible rfl
   try walk_nrm
   co_applyP bA 2 rfl (by kernel_rfl) (by kernel_rfl) (fun _ _ _ h=>h) hHeld (fun w hSw=>?_) ?_;rotate_left
   · (try dsimp only at hSw);go_simp;try with_reducible rfl
   try walk_nrm
   co_applyP bA 3 rfl (by kernel_rfl) (by kernel_rfl) (fun _ _ _ h=>h) hHeld (fun w hSw=>?_) ?_;rotate_left
   · (try dsimp only at hSw);go_simp;try with_reducible rfl
   try walk_nrm
   co_applyP bA 4 rfl (by kernel_rfl) (by kernel_rfl) (fun _ _ _ h=>h) hHeld (fun w hSw=>?_) ?_;rotate_left
   · (try dsimp only at hSw);go_simp;try with_reducible rfl
   try walk_nrm
   co_applyP bA 5 rfl (by kernel_rfl) (by kernel_rfl) (fun _ _ _ h=>h) hHeld (fun w hSw=>?_) ?_;rotate_left
   · (try dsimp only at hSw);go_simp;try with_reducible rfl
   try walk_nrm
   co_applyP bA 6 rfl (by kernel_rfl) (by kernel_rfl) (fun _ _ _ h=>h) hHeld (fun w hSw=>?_) ?_;rotate_left
   · (try dsimp only at hSw);go_simp;try with_reducible rfl
   try walk_nrm
   co_applyP bA 10 rfl (by kernel_rfl) (by kernel_rfl) (fun _ _ _ h=>h) hHeld (fun w hSw=>?_) ?_;rotate_left
   · (try dsimp only at hSw);go_simp;try with_reducible rfl
   try walk_nrm
   have HX := fun w' (h : Under w3 w') => (show w'.cell? ⟨w0.heap.size, 0, none⟩ = some (.slice p l.length c) ∧ w'.cell? ⟨w0.heap.size + 1, 0, none⟩ = some (.int .i64 d.kind) ∧ w'.cell? ⟨w0.heap.size + 1, 1, none⟩ = some (.int .i64 d.level) ∧ w'.cell? ⟨w0.heap.size + 1, 2, none⟩ = some (.string d.name) ∧ w'.cell? ⟨w0.heap.size + 1, 3, none⟩ = some (.slice pt d.type.length ct) ∧ w'.cell? ⟨w0.heap.size + 1, 4, none⟩ = some (.slice pb d.body.length cb) ∧ w'.cell? ⟨w0.heap.size + 1, 5, none⟩ = some (.slice pc d.cons.length cc) from
     ⟨(dA h al _).trans a0,(dA h bl _).trans b0,(dA h bl _).trans b1,(dA h bl _).trans b2,(dA h bl _).trans b3,(dA h bl _).trans b4,(dA h bl _).trans b5⟩)
   have hUa:=fA (aA (Under.refl w3) (.cells #[.int .i64 d.kind,.int .i64 d.level,.string d.name,.slice pt d.type.length ct,.slice pb d.body.length cb,.slice pc d.cons.length cc] 33));refine iA 7 (by kernel_rfl) rfl fun K hK=>?_
   go_simp;refine hK.out _ _ (HX _ hUa) (fun _=>?_);clear hK K hHeld;rename_i hHeld
   try walk_nrm
   refine iA 8 (by kernel_rfl) rfl fun K hK=>?_
   refine step_append_grows rfl _ _ _ rfl 33 j0 _ 6 104 Tryz.underlying22 hj hy0 hy1 hy2 rfl (by decide) p l.length l.length rows.flatten rfl (fun e=>⟨by have:=hp0 e;omega,by have:=hp0 e;omega⟩) (by rw[wP HRw.out.2.1,HRw.out.2.2.1]) (rPA (HRw.out.1.under (HU3.out.trans hUa))) ⟨w3.heap.size,0,none⟩ 1 1 [.int .i64 d.kind,.int .i64 d.level,.string d.name,.slice pt d.type.length ct,.slice pb d.body.length cb,.slice pc d.cons.length cc] rfl rfl (rPA (RowArg.under (nJ w3 _ _ (0,0)) (fA (Under.refl _))) _ rfl) (fun u hu=>by simp at hu;rcases hu with rfl | rfl | rfl | rfl | rfl | rfl<;>rfl) (by omega) (by simp only[maxLen];omega) (by omega) ?_;intro v5 w5 hown hgrow;have hU5:=rA hUa hgrow fun g e=>by cases e
   obtain ⟨q5, k5, rfl, hk5, hr5⟩ := RowsV.of_own (R := DcRow) (xs := l ++ [d]) (rows := rows ++ [[.int .i64 d.kind, .int .i64 d.level, .string d.name, .slice pt d.type.length ct, .slice pb d.body.length cb, .slice pc d.cons.length cc]]) (by rw [List.flatten_append]; simpa using hown) (fun r hr => by
     rcases List.mem_append.1 hr with hr | hr
     · exact HRw.out.2.1 r hr
     · rw[List.mem_singleton.1 hr];rfl) ((HRw.out.2.2.mono fun v x h=>DcRow.mono _ _ _ _ (HU3.out.trans hU5) h).app (Zip.one (DcRow.mono _ _ _ _ (HU3.out.trans hU5) HRd.out)))
   refine hK.out _ _ (HX _ hU5) (fun _=>?_);clear hK K hHeld;rename_i hHeld
   try walk_nrm
   co_applyP bA 9 rfl (by kernel_rfl) (by kernel_rfl) (fun _ _ _ h=>h) hHeld (fun w hSw=>?_) ?_;rotate_left
   · (try dsimp only at hSw);go_simp;try with_reducible rfl
   try walk_nrm
   refine wpAnyH_done (by kernel_rfl) ?_ _;refine NoPanic.normal ?_;exact⟨rfl,q5,k5,⟨_,zB (F:=hYA (.slice q5 (l.length+1) k5) (l.length+1)) (by rfl)⟩,hr5,HU3.out.trans hU5⟩
 rintro e a' w5 ⟨rfl, q5, k5, ⟨J, rfl⟩, hr5, hU5⟩; have HR5 := Lib.hid hr5; have HU5 := Lib.hid hU5; have HLx := Lib.hid (show ∀ x ∈ l ++ [d], Lite x from fun x hx => by
   rcases List.mem_append.1 hx with hx | hx
   · exact HLa.out x hx
   · rw[List.mem_singleton.1 hx];exact HDf.out.lite)
 clear hr5 hU5 HA3 HB3 HU3 HRw HRd hlc hp0 HP;simp only[Exit.then];refine hK _ _ ?_;clear hK K;unfold hYA;have hxl:(l++[d]).length=l.length+1:=by simp
 have HAo:=Lib.hid (fun(q:Option Addr) (n k:Nat) (w:World)=>sEA (w0:=w0) (w:=w) (q:=q) (n:=n) (c:=k) HE0.out);rw[← hxl];generalize l++[d]=ls at *;have hls9:(ls.length:Int)≤2000001:=by omega
 have hls0:(0:Int)≤(ls.length:Int):=by omega
 go_wp2;go_loopw [9,43] (fun va i wr=>ClR w5 ls va i wr) (fun _ i _=>ls.length - (intOf i).toNat)
 case atStart=>exact⟨0,[],Nat.zero_le _,rfl,World.ownsRow_nil _ _ _ _,fun r h=>(List.not_mem_nil h).elim,by simpa using Zip.nil _,Under.refl _⟩
 case round =>
   obtain⟨k,rows,hk,rfl,hown,hrows,hzip,hU⟩:=hrel;have HO:=Lib.hid hown;have HRs:=Lib.hid hrows;have HZ:=Lib.hid hzip;have HU:=Lib.hid hU;have hk0:(0:Int)≤(k:Int):=by omega
   clear hown hrows hzip hU;by_cases hlt:k < ls.length
   · obtain ⟨b, off, r, rfl, hb, hrl, hr, hc⟩ := HR5.out.at (List.getElem?_eq_getElem hlt) (by decide); have HC := Lib.hid (fun w (h : Under w5 w) => jCA (w0 := w) ls[k] (HLx.out _ (List.getElem_mem hlt)) (DcV.mono _ _ _ _ h (DcRow.val hr))); obtain ⟨v1, v2, v3, rfl, ⟨p1, c1, rfl, _⟩, ⟨p2, c2, rfl, _⟩, ⟨p3, c3, us3, rfl, _⟩⟩ := hr; have cc0 := hc 0 _ rfl; have cc1 := hc 1 _ rfl; have cc2 := hc 2 _ rfl; have cc3 := hc 3 _ rfl; have cc4 := hc 4 _ rfl; have cc5 := hc 5 _ rfl; simp only [Nat.add_zero, ← Nat.add_assoc] at cc0 cc1 cc2 cc3 cc4 cc5; rw [← dA HU.out hb] at cc0 cc1 cc2 cc3 cc4 cc5; have hb' := Nat.lt_of_lt_of_le hb HU.out.size; have hlt' : (k : Int) < (ls.length : Int) := by omega
     have HTk:=Lib.hid (show ls.take (k+1)=ls.take k++[ls[k]] from List.take_succ_eq_append_getElem hlt);clear hc hrl;generalize ls[k]=x at *;have HU6:=Lib.hid (aA HU.out (.cells #[.int .i64 x.kind,.int .i64 x.level,.string x.name,.slice p1 x.type.length c1,.slice p2 x.body.length c2,.slice p3 x.cons.length c3] 33));have HV6:=Lib.hid (aA (Under.refl wr) (.cells #[.int .i64 x.kind,.int .i64 x.level,.string x.name,.slice p1 x.type.length c1,.slice p2 x.body.length c2,.slice p3 x.cons.length c3] 33));go_wp2_with fail;refine(HC.out _ HU6.out).mono ?_;rintro e w7 ⟨v7,rfl,hv7,hU7⟩;obtain⟨y1,z1,y2,z2,y3,z3,rfl⟩:=hv7.agg;have HX7:=Lib.hid (DcR.base (B':=w5.heap.size) hv7.rowE HU6.out.size);have HO7:=Lib.hid (dC HO.out (HV6.out.trans hU7));have HZ7:=Lib.hid (HZ.out.mono fun v x h=>DcR.under h (HV6.out.trans hU7));have HU7:=Lib.hid (HU6.out.trans hU7);clear hv7 hU7 HC cc0 cc1 cc2 cc3 cc4 cc5 hb' HZ HO;go_wp2_with (at_builtin;refine vC rfl _ _ 22 rfl w5.heap.size 33 j0 _ 6 104 Tryz.underlying22 hj hy0 hy1 hy2 rfl (by decide) _ _ _ rfl (HO7.out.alloc _) _ 1 1 [.int .i64 x.kind,.int .i64 x.level,.string x.name,.slice y1 x.type.length z1,.slice y2 x.body.length z2,.slice y3 x.cons.length z3] rfl rfl (Nat.le_refl _) (fun h=>by cases h) (nJ w7 _ _ _) (fun u hu=>by simp at hu;rcases hu with rfl | rfl | rfl | rfl | rfl | rfl<;>rfl) (by simp only[maxLen];omega) (by omega) (by have:=HU7.out.size;simp;omega) ?_);intro v8 w8 hown hgrow;have HO8:=Lib.hid hown;have HU8:=Lib.hid (rA (aA HU7.out _) hgrow fun g e=>(vB HO7.out e).1);have HZ8:=Lib.hid ((HZ7.out.mono fun v x h=>(DcR.under h (aA (Under.refl _) _)).grown (HO7.out.alloc _) hgrow (by decide) (by decide) (by decide)).app (Zip.one ((DcR.under HX7.out (aA (Under.refl _) _)).grown (HO7.out.alloc _) hgrow (by decide) (by decide) (by decide))));clear hown hgrow;go_wp2;go_roundw
     case rel => exact ⟨k + 1, rows ++ [_], by omega, by go_num, by rw [List.flatten_append]; simpa using HO8.out, by
       intro r hr;rcases List.mem_append.1 hr with hr | hr
       · exact HRs.out r hr
       · rw[List.mem_singleton.1 hr];rfl,by rw[HTk.out];exact HZ8.out,HU8.out⟩
     case measure=>simp[intOf];omega
   · obtain rfl : k = ls.length := by omega
     have hz:=HZ.out;rw[List.take_length]at hz;have hown:=HO.out;obtain⟨q9,k9,rfl,hk9,hr9⟩:=RowsV.of_own (R:=DcRow) (xs:=ls) hown HRs.out (hz.mono fun v x h=>DcR.row h);have HN9:=Lib.hid (And.intro hk9 (And.intro (jAA hown) hr9));clear hz hown hk9 hr9;go_wp2;go_ret2;exact HAo.out q9 _ k9 _ rfl HN9.out.1 HN9.out.2.1 HN9.out.2.2 (HU5.out.trans HU.out)
end
end Go.Proofs.YtggjbblgoddnjaaGreatDoor
