/- Part 30 of what the proof rests on. -/
import Derived.Conc.CompanyMem
import Derived.Conc.WalkWords
import Derived.Test.YtggjbblgoddnjaaGreatDoorM02
import Derived.Test.YtggjbblgoddnjaaGreatDoorM12
import Derived.Test.YtggjbblgoddnjaaGreatDoorM13
import Derived.Test.YtggjbblgoddnjaaGreatDoorM14
import Derived.Test.YtggjbblgoddnjaaGreatDoorM21
import Derived.Test.YtggjbblgoddnjaaGreatDoorM27
import Derived.Test.YtggjbblgoddnjaaGreatDoorM29
set_option linter.unusedSimpArgs false
set_option linter.unusedVariables false
set_option maxRecDepth 100000
set_option maxHeartbeats 4000000
namespace Go.Proofs.YtggjbblgoddnjaaGreatDoor
open Go.Lx Go.RowKit
structure Lite (d:Dc):Prop where
 type:d.type.length≤2000000
 body:d.body.length≤2000000
 cons:d.cons.length≤5864062014634
 con:∀ c∈d.cons,c.length≤5864062014634∧∀ t∈c,t.length≤2000000
theorem Tryz.infoNdsC:(Tryz.prog.info? 30).map (fun i=>(i.zero,i.size,i.bytes))=some (some (.slice none 0 0),1,24):=by kernel_rfl
theorem Tryz.infoNds2C:(Tryz.prog.info? 96).map (fun i=>(i.zero,i.size,i.bytes))=some (some (.slice none 0 0),1,24):=by kernel_rfl
def jUA(db rb:Nat)(J:Nat→Value):Array Value:=#[J 0,.pointer (some ⟨db,0,none⟩),.pointer (some ⟨rb,0,none⟩),J 3,J 4,J 5,J 6,J 7,J 8,J 9,J 10,J 11,J 12,J 13,J 14,J 15,J 16,J 17,J 18,J 19,J 20,J 21,J 22,J 23,J 24,J 25,J 26,J 27,J 28,J 29,J 30,J 31,J 32,J 33,J 34,J 35,J 36,J 37,J 38,J 39,J 40,J 41,J 42,J 43]
abbrev dcZ:Array Value:=#[.int .i64 0,.int .i64 0,.string ⟨#[]⟩,.slice none 0 0,.slice none 0 0,.slice none 0 0]
def b6A(w0:World)(t b:List Nd)(k l:Int)(s:ByteArray)(vc:Value)(e:Exit)(a':Act)(w':World):Prop:=e = .normal∧∃ vt vb,(∃ J,a'=⟨jUA w0.heap.size (w0.heap.size+1) J,[]⟩)∧BoxAt w' w0.heap.size 33 #[.int .i64 k,.int .i64 l,.string s,vt,vb,vc]∧BoxAt w' (w0.heap.size+1) 33 dcZ∧w'.ownsRow (w0.heap.size+2) 112 4 vt t.length (aC t)∧w'.ownsRow (w0.heap.size+2) 112 4 vb b.length (aC b)∧Under w0 w'
def Ow1(B:Nat)(w:World)(u:Value)(t:List Nd):Prop:=w.ownsRow B 112 4 u t.length (aC t)
def Ow2(B:Nat)(w:World)(u:Value)(c:List (List Nd)):Prop:=∃ vs,w.ownsRow B 30 1 u c.length vs∧Zip (Ow1 B w) vs c
section
variable {B : Nat} {w w' : World} {u : Value}
theorem Ow1.under{t:List Nd}(h:Ow1 B w u t)(hU:Under w w'):Ow1 B w' u t:=dC h hU
theorem Ow2.under{c:List (List Nd)}(h:Ow2 B w u c)(hU:Under w w'):Ow2 B w' u c:=by
 obtain⟨vs,h1,h2⟩:=h;exact⟨vs,dC h1 hU,h2.mono fun v x h=>h.under hU⟩
theorem Ow1.grown{t:List Nd}(h:Ow1 B w u t){b e s n:Nat}{v:Value}{xs:List Value}(k:w.ownsRow b e s v n xs)(hg:w.grownBy w' v.ownBlock)(he:112≠e):Ow1 B w' u t:=oC h hg (own_ne h k he)
theorem Ow2.grown{c:List (List Nd)}(h:Ow2 B w u c){b e s n:Nat}{v:Value}{xs:List Value}(k:w.ownsRow b e s v n xs)(hg:w.grownBy w' v.ownBlock)(he:112≠e)(he2:30≠e):Ow2 B w' u c:=by
 obtain⟨vs,h1,h2⟩:=h;exact⟨vs,oC h1 hg (own_ne h1 k he2),h2.mono fun v x h=>h.grown k hg he⟩
theorem Ow1.ch{t:List Nd}(h:Ow1 B w u t){C:Nat→Prop}(k:Ch C w w')(hC:∀ b,C b→b < B):Ow1 B w' u t:=qO h k fun g hg hc=>by have:=(vB h hg).1;have:=hC g hc;omega
theorem Ow2.ch{c:List (List Nd)}(h:Ow2 B w u c){C:Nat→Prop}(k:Ch C w w')(hC:∀ b,C b→b < B):Ow2 B w' u c:=by
 obtain⟨vs,h1,h2⟩:=h;exact⟨vs,qO h1 k fun g hg hc=>by have:=(vB h1 hg).1;have:=hC g hc;omega,h2.mono fun v x h=>h.ch k hC⟩
theorem Ow2.terms{c:List (List Nd)}(h:Ow2 B w u c):TermsV w u c:=by
 obtain⟨vs,h1,h2⟩:=h;exact ListV.of_own h1 (h2.mono fun v x h=>dN h)
end
def Ow3(B:Nat)(w:World)(u:Value)(c:List (List (List Nd))):Prop:=∃ vs,w.ownsRow B 96 1 u c.length vs∧Zip (Ow2 B w) vs c
def DcO(B:Nat)(w:World)(v:Value)(d:Dc):Prop:=∃ vt vb vc,v = .agg #[.int .i64 d.kind,.int .i64 d.level,.string d.name,vt,vb,vc]∧Ow1 B w vt d.type∧Ow1 B w vb d.body∧Ow3 B w vc d.cons
section
variable {B : Nat} {w w' : World} {u : Value}
theorem Ow1.base{B':Nat}{t:List Nd}(h:Ow1 B w u t)(hB:B'≤B):Ow1 B' w u t:=oD h hB
theorem Ow2.base{B':Nat}{c:List (List Nd)}(h:Ow2 B w u c)(hB:B'≤B):Ow2 B' w u c:=by
 obtain⟨vs,h1,h2⟩:=h;exact⟨vs,oD h1 hB,h2.mono fun v x h=>h.base hB⟩
theorem Ow3.base{B':Nat}{c:List (List (List Nd))}(h:Ow3 B w u c)(hB:B'≤B):Ow3 B' w u c:=by
 obtain⟨vs,h1,h2⟩:=h;exact⟨vs,oD h1 hB,h2.mono fun v x h=>h.base hB⟩
theorem Ow3.under{c:List (List (List Nd))}(h:Ow3 B w u c)(hU:Under w w'):Ow3 B w' u c:=by
 obtain⟨vs,h1,h2⟩:=h;exact⟨vs,dC h1 hU,h2.mono fun v x h=>h.under hU⟩
theorem Ow3.ch{c:List (List (List Nd))}(h:Ow3 B w u c){C:Nat→Prop}(k:Ch C w w')(hC:∀ b,C b→b < B):Ow3 B w' u c:=by
 obtain⟨vs,h1,h2⟩:=h;exact⟨vs,qO h1 k fun g hg hc=>by have:=(vB h1 hg).1;have:=hC g hc;omega,h2.mono fun v x h=>h.ch k hC⟩
theorem Ow3.cons{c:List (List (List Nd))}(h:Ow3 B w u c):ConsV w u c:=by
 obtain⟨vs,h1,h2⟩:=h;exact ListV.of_own h1 (h2.mono fun v x h=>h.terms)
theorem DcO.under{d:Dc}(h:DcO B w u d)(hU:Under w w'):DcO B w' u d:=by
 obtain⟨vt,vb,vc,e,h1,h2,h3⟩:=h;exact⟨vt,vb,vc,e,h1.under hU,h2.under hU,h3.under hU⟩
theorem DcO.ch{d:Dc}(h:DcO B w u d){C:Nat→Prop}(k:Ch C w w')(hC:∀ b,C b→b < B):DcO B w' u d:=by
 obtain⟨vt,vb,vc,e,h1,h2,h3⟩:=h;exact⟨vt,vb,vc,e,h1.ch k hC,h2.ch k hC,h3.ch k hC⟩
theorem DcO.base{B':Nat}{d:Dc}(h:DcO B w u d)(hB:B'≤B):DcO B' w u d:=by
 obtain⟨vt,vb,vc,e,h1,h2,h3⟩:=h;exact⟨vt,vb,vc,e,h1.base hB,h2.base hB,h3.base hB⟩
theorem DcO.val{d:Dc}(h:DcO B w u d):DcV w u d:=by
 obtain⟨vt,vb,vc,e,h1,h2,h3⟩:=h;exact⟨vt,vb,vc,e,dN h1,dN h2,h3.cons⟩
theorem DcO.agg{d:Dc}(h:DcO B w u d):∃ q k q' k' r c,u = .agg #[.int .i64 d.kind,.int .i64 d.level,.string d.name,.slice q d.type.length k,.slice q' d.body.length k',.slice r d.cons.length c]:=by
 obtain⟨vt,vb,vc,e,h1,h2,⟨vs,h3,_⟩⟩:=h;obtain⟨q,k,rfl,_⟩:=RowArg.of_own h1;obtain⟨q',k',rfl,_⟩:=RowArg.of_own h2;obtain⟨r,c,rfl,_⟩:=RowArg.of_own h3;exact⟨q,k,q',k',r,c,e⟩
end
def CaR(B:Nat)(w1:World)(c:List (List Nd))(va i:Value)(wr:World):Prop:=∃(k:Nat) (us:List Value),k≤c.length∧i = .int .i64 (k:Int)∧wr.ownsRow w1.heap.size 30 1 va k us∧Zip (Ow1 B wr) us (c.take k)∧Under w1 wr
def CoR(B:Nat)(w1:World)(cs:List (List (List Nd)))(va i:Value)(wr:World):Prop:=∃(k:Nat) (us:List Value),k≤cs.length∧i = .int .i64 (k:Int)∧wr.ownsRow w1.heap.size 96 1 va k us∧Zip (Ow2 B wr) us (cs.take k)∧Under w1 wr
section
variable {w0 : World}
theorem jCA(d:Dc){v:Value}(hd:Lite d)(hv:DcV w0 v d):Calls Tryz.prog 44 #[v] w0 fun e w=>∃ v',e = .returned v'∧DcO w0.heap.size w v' d∧Under w0 w:=by
 obtain⟨i0,hi,hz0,hz1,hz2⟩:=info_parts Tryz.infoNdsC;obtain⟨j0,hj,hy0,hy1,hy2⟩:=info_parts Tryz.infoNds2C;obtain⟨vt,vb,vc,rfl,h1,h2,h3⟩:=hv;have HT:=Lib.hid (fun w (h:Under w0 w)=>sU (w0:=w) d.type hd.type (TermV.mono _ _ _ _ h h1));have HBd:=Lib.hid (fun w (h:Under w0 w)=>sU (w0:=w) d.body hd.body (TermV.mono _ _ _ _ h h2));obtain⟨pt,ct,rfl,_⟩:=h1;obtain⟨pb,cb,rfl,_⟩:=h2;obtain⟨pc,cc,vs,rfl,hcc,hc0,hrc,hzc⟩:=h3;have HRc:=Lib.hid hrc;have HZc:=Lib.hid hzc;have HD:=Lib.hid hd;clear hcc hc0 hrc hzc hd;go_enter Tryz.func44,Tryz.ntmps44;go_wp2;rename_i K hK;obtain⟨w1,hw1⟩:∃ w1,w1=(w0.alloc (.cells #[.int .i64 d.kind,.int .i64 d.level,.string d.name,.slice pt d.type.length ct,.slice pb d.body.length cb,.slice pc d.cons.length cc] 33)).alloc (.cells dcZ 33):=⟨_,rfl⟩;have HB1:=Lib.hid (show BoxAt w1 w0.heap.size 33 #[.int .i64 d.kind,.int .i64 d.level,.string d.name,.slice pt d.type.length ct,.slice pb d.body.length cb,.slice pc d.cons.length cc] by rw[hw1];exact(qA w0 _ _).alloc _);have HB2:=Lib.hid (show BoxAt w1 (w0.heap.size+1) 33 dcZ by rw[hw1];have:=qA (w0.alloc (.cells #[.int .i64 d.kind,.int .i64 d.level,.string d.name,.slice pt d.type.length ct,.slice pb d.body.length cb,.slice pc d.cons.length cc] 33)) dcZ 33;simpa using this);have HU:=Lib.hid (show Under w0 w1 by rw[hw1];exact aA (aA (Under.refl w0) _) _);have HSz:=Lib.hid (show w0.heap.size+2≤w1.heap.size by rw[hw1];simp);rw[← hw1];clear hw1;refine wp_mono (Q:=b6A w0 d.type d.body d.kind d.level d.name (.slice pc d.cons.length cc)) ?_ ?_
 · clear hK; have c3 := HB1.out.cell 3; have c4 := HB1.out.cell 4; have cl := HB1.out.lt; refine wp_region_noPanic ?_; refine wp_region_held_drew (S := fun _ => True) (by kernel_rfl) trivial (fun hHeld => ?_); co_applyP bA 0 rfl (by kernel_rfl) (by kernel_rfl) (fun _ _ _ h => h) hHeld (fun w hSw => ?_) ?_; rotate_left
   · (try dsimp only at hSw);go_simp;try with_reducible rfl
   try walk_nrm
   co_applyP bA 3 rfl (by kernel_rfl) (by kernel_rfl) (fun _ _ _ h=>h) hHeld (fun w hSw=>?_) ?_;rotate_left
   · (try dsimp only at hSw);go_simp;try with_reducible rfl
   try walk_nrm
   refine bH 1 4 (by kernel_rfl) rfl rfl (fun K hK=>?_) (fun K hK=>?_)
   · go_simp; refine hK.out _ _ trivial (fun _ => ?_); clear hK K hHeld; rename_i hHeld
     try walk_nrm
     refine bH 2 4 (by kernel_rfl) rfl rfl (fun K hK=>?_) (fun K hK=>?_)
     · go_simp; go_at_call 79; refine (HT.out _ (fA HU.out)).mono ?_; rintro e w3 ⟨v3, rfl, hv3, hU3⟩; obtain ⟨q3, k3, rfl, _, _⟩ := RowArg.of_own hv3; have hO3 := oD (base' := w0.heap.size + 2) hv3 (by have := HSz.out; simpa using this); have HU3 := Lib.hid ((fA HU.out).trans hU3); have HB3 := Lib.hid (HB1.out.under ((fA (Under.refl _)).trans hU3)); have HZ3 := Lib.hid (HB2.out.under ((fA (Under.refl _)).trans hU3)); have HO3 := Lib.hid hO3; have hS3 : w0.heap.size + 2 ≤ w3.heap.size := Nat.le_trans (by have := HSz.out; simpa using this) hU3.size; clear hv3 hO3 hU3; refine hK.out _ _ trivial (fun _ => ?_); clear hK K hHeld; rename_i hHeld
       try walk_nrm
       have c4:=HB3.out.cell 4;have cl:=HB3.out.lt;refine iA 4 (by kernel_rfl) rfl fun K hK=>?_
       go_simp;refine hK.out _ _ trivial (fun _=>?_);clear hK K hHeld;rename_i hHeld
       try walk_nrm
       clear c3 c4 cl;co_applyP bA 6 rfl (by kernel_rfl) (by kernel_rfl) (fun _ _ _ h=>h) hHeld (fun w hSw=>?_) ?_;rotate_left
       · (try dsimp only at hSw);go_simp;try with_reducible rfl
       try walk_nrm
       refine iA 5 (by kernel_rfl) rfl fun K hK=>?_
       go_simp;go_at_call 79;refine(HBd.out _ HU3.out).mono ?_;rintro e w4 ⟨v4,rfl,hv4,hU4⟩;obtain⟨q4,k4,rfl,_,_⟩:=RowArg.of_own hv4;have HO4:=Lib.hid (oD (base':=w0.heap.size+2) hv4 hS3);have HB4:=Lib.hid (HB3.out.under hU4);have HZ4:=Lib.hid (HZ3.out.under hU4);have HP4:=Lib.hid (dC HO3.out hU4);have HU4:=Lib.hid (HU3.out.trans hU4);clear hv4 hU4;refine hK.out _ _ trivial (fun _=>?_);clear hK K hHeld;rename_i hHeld
       try walk_nrm
       have b3:=HB4.out.cell 3;have bf:=HB4.out.free 3;have bl:=HB4.out.lt;refine iA 7 (by kernel_rfl) rfl fun K hK=>?_
       go_simp;obtain⟨w5,hw5⟩:∃ w5,w5=w4.setCell ⟨w0.heap.size,3,none⟩ (.slice q3 d.type.length k3):=⟨_,rfl⟩;have HB5:=Lib.hid (show BoxAt w5 w0.heap.size 33 #[.int .i64 d.kind,.int .i64 d.level,.string d.name,.slice q3 d.type.length k3,.slice pb d.body.length cb,.slice pc d.cons.length cc] by rw[hw5];exact HB4.out.set 3 _);have HZ5:=Lib.hid (show BoxAt w5 (w0.heap.size+1) 33 dcZ by rw[hw5];exact HZ4.out.other (by omega) _ _);have HO5:=Lib.hid (show w5.ownsRow (w0.heap.size+2) 112 4 (.slice q4 d.body.length k4) d.body.length (aC d.body) by rw[hw5];exact yB HO4.out (gB HB4.out HO4.out (by decide)) _ _);have HP5:=Lib.hid (show w5.ownsRow (w0.heap.size+2) 112 4 (.slice q3 d.type.length k3) d.type.length (aC d.type) by rw[hw5];exact yB HP4.out (gB HB4.out HP4.out (by decide)) _ _);have HU5:=Lib.hid (show Under w0 w5 by rw[hw5];exact uA HU4.out (Nat.le_refl _) _ _);rw[← hw5];clear hw5 b3 bf bl;refine hK.out _ _ trivial (fun _=>?_);clear hK K hHeld;rename_i hHeld
       try walk_nrm
       co_applyP bA 8 rfl (by kernel_rfl) (by kernel_rfl) (fun _ _ _ h=>h) hHeld (fun w hSw=>?_) ?_;rotate_left
       · (try dsimp only at hSw);go_simp;try with_reducible rfl
       try walk_nrm
       have b3:=HB5.out.cell 4;have bf:=HB5.out.free 4;have bl:=HB5.out.lt;refine iA 9 (by kernel_rfl) rfl fun K hK=>?_
       go_simp;refine hK.out _ _ trivial (fun _=>?_);clear hK K hHeld;rename_i hHeld
       try walk_nrm
       refine wpAnyH_done (by kernel_rfl) ?_ _;refine NoPanic.normal ?_;exact⟨rfl,.slice q3 d.type.length k3,.slice q4 d.body.length k4,⟨_,zB (F:=jUA w0.heap.size (w0.heap.size+1)) (by rfl)⟩,HB5.out.set 4 _,HZ5.out.other (by omega) _ _,yB HP5.out (gB HB5.out HP5.out (by decide)) _ _,yB HO5.out (gB HB5.out HO5.out (by decide)) _ _,uA HU5.out (Nat.le_refl _) _ _⟩
     · go_simp; refine hK.out _ _ trivial (fun _ => ?_); clear hK K hHeld; rename_i hHeld
       try walk_nrm
       refine iA 2 (by kernel_rfl) rfl fun K hK=>?_
       clear c3 c4 cl;go_simp;go_at_call 79;refine(HT.out _ (fA HU.out)).mono ?_;rintro e w3 ⟨v3,rfl,hv3,hU3⟩;obtain⟨q3,k3,rfl,_,_⟩:=RowArg.of_own hv3;have hO3:=oD (base':=w0.heap.size+2) hv3 (by have:=HSz.out;simpa using this);have HU3:=Lib.hid ((fA HU.out).trans hU3);have HB3:=Lib.hid (HB1.out.under ((fA (Under.refl _)).trans hU3));have HZ3:=Lib.hid (HB2.out.under ((fA (Under.refl _)).trans hU3));have HO3:=Lib.hid hO3;have hS3:w0.heap.size+2≤w3.heap.size:=Nat.le_trans (by have:=HSz.out;simpa using this) hU3.size;clear hv3 hO3 hU3;refine hK.out _ _ trivial (fun _=>?_);clear hK K hHeld;rename_i hHeld
       try walk_nrm
       co_applyP bA 6 rfl (by kernel_rfl) (by kernel_rfl) (fun _ _ _ h=>h) hHeld (fun w hSw=>?_) ?_;rotate_left
       · (try dsimp only at hSw);go_simp;try with_reducible rfl
       try walk_nrm
       refine iA 5 (by kernel_rfl) rfl fun K hK=>?_
       go_simp;go_at_call 79;refine(HBd.out _ HU3.out).mono ?_;rintro e w4 ⟨v4,rfl,hv4,hU4⟩;obtain⟨q4,k4,rfl,_,_⟩:=RowArg.of_own hv4;have HO4:=Lib.hid (oD (base':=w0.heap.size+2) hv4 hS3);have HB4:=Lib.hid (HB3.out.under hU4);have HZ4:=Lib.hid (HZ3.out.under hU4);have HP4:=Lib.hid (dC HO3.out hU4);have HU4:=Lib.hid (HU3.out.trans hU4);clear hv4 hU4;refine hK.out _ _ trivial (fun _=>?_);clear hK K hHeld;rename_i hHeld
       try walk_nrm
       have b3:=HB4.out.cell 3;have bf:=HB4.out.free 3;have bl:=HB4.out.lt;refine iA 7 (by kernel_rfl) rfl fun K hK=>?_
       go_simp;obtain⟨w5,hw5⟩:∃ w5,w5=w4.setCell ⟨w0.heap.size,3,none⟩ (.slice q3 d.type.length k3):=⟨_,rfl⟩;have HB5:=Lib.hid (show BoxAt w5 w0.heap.size 33 #[.int .i64 d.kind,.int .i64 d.level,.string d.name,.slice q3 d.type.length k3,.slice pb d.body.length cb,.slice pc d.cons.length cc] by rw[hw5];exact HB4.out.set 3 _);have HZ5:=Lib.hid (show BoxAt w5 (w0.heap.size+1) 33 dcZ by rw[hw5];exact HZ4.out.other (by omega) _ _);have HO5:=Lib.hid (show w5.ownsRow (w0.heap.size+2) 112 4 (.slice q4 d.body.length k4) d.body.length (aC d.body) by rw[hw5];exact yB HO4.out (gB HB4.out HO4.out (by decide)) _ _);have HP5:=Lib.hid (show w5.ownsRow (w0.heap.size+2) 112 4 (.slice q3 d.type.length k3) d.type.length (aC d.type) by rw[hw5];exact yB HP4.out (gB HB4.out HP4.out (by decide)) _ _);have HU5:=Lib.hid (show Under w0 w5 by rw[hw5];exact uA HU4.out (Nat.le_refl _) _ _);rw[← hw5];clear hw5 b3 bf bl;refine hK.out _ _ trivial (fun _=>?_);clear hK K hHeld;rename_i hHeld
       try walk_nrm
       co_applyP bA 8 rfl (by kernel_rfl) (by kernel_rfl) (fun _ _ _ h=>h) hHeld (fun w hSw=>?_) ?_;rotate_left
       · (try dsimp only at hSw);go_simp;try with_reducible rfl
       try walk_nrm
       have b3:=HB5.out.cell 4;have bf:=HB5.out.free 4;have bl:=HB5.out.lt;refine iA 9 (by kernel_rfl) rfl fun K hK=>?_
       go_simp;refine hK.out _ _ trivial (fun _=>?_);clear hK K hHeld;rename_i hHeld
       try walk_nrm
       refine wpAnyH_done (by kernel_rfl) ?_ _;refine NoPanic.normal ?_;exact⟨rfl,.slice q3 d.type.length k3,.slice q4 d.body.length k4,⟨_,zB (F:=jUA w0.heap.size (w0.heap.size+1)) (by rfl)⟩,HB5.out.set 4 _,HZ5.out.other (by omega) _ _,yB HP5.out (gB HB5.out HP5.out (by decide)) _ _,yB HO5.out (gB HB5.out HO5.out (by decide)) _ _,uA HU5.out (Nat.le_refl _) _ _⟩
   · go_simp; refine hK.out _ _ trivial (fun _ => ?_); clear hK K hHeld; rename_i hHeld
     try walk_nrm
     refine iA 1 (by kernel_rfl) rfl fun K hK=>?_
     go_simp;refine hK.out _ _ trivial (fun _=>?_);clear hK K hHeld;rename_i hHeld
     try walk_nrm
     clear c3 c4 cl;refine iA 2 (by kernel_rfl) rfl fun K hK=>?_
     go_simp;go_at_call 79;refine(HT.out _ (fA HU.out)).mono ?_;rintro e w3 ⟨v3,rfl,hv3,hU3⟩;obtain⟨q3,k3,rfl,_,_⟩:=RowArg.of_own hv3;have hO3:=oD (base':=w0.heap.size+2) hv3 (by have:=HSz.out;simpa using this);have HU3:=Lib.hid ((fA HU.out).trans hU3);have HB3:=Lib.hid (HB1.out.under ((fA (Under.refl _)).trans hU3));have HZ3:=Lib.hid (HB2.out.under ((fA (Under.refl _)).trans hU3));have HO3:=Lib.hid hO3;have hS3:w0.heap.size+2≤w3.heap.size:=Nat.le_trans (by have:=HSz.out;simpa using this) hU3.size;clear hv3 hO3 hU3;refine hK.out _ _ trivial (fun _=>?_);clear hK K hHeld;rename_i hHeld
     try walk_nrm
     co_applyP bA 6 rfl (by kernel_rfl) (by kernel_rfl) (fun _ _ _ h=>h) hHeld (fun w hSw=>?_) ?_;rotate_left
     · (try dsimp only at hSw);go_simp;try with_reducible rfl
     try walk_nrm
     refine iA 5 (by kernel_rfl) rfl fun K hK=>?_
     go_simp;go_at_call 79;refine(HBd.out _ HU3.out).mono ?_;rintro e w4 ⟨v4,rfl,hv4,hU4⟩;obtain⟨q4,k4,rfl,_,_⟩:=RowArg.of_own hv4;have HO4:=Lib.hid (oD (base':=w0.heap.size+2) hv4 hS3);have HB4:=Lib.hid (HB3.out.under hU4);have HZ4:=Lib.hid (HZ3.out.under hU4);have HP4:=Lib.hid (dC HO3.out hU4);have HU4:=Lib.hid (HU3.out.trans hU4);clear hv4 hU4;refine hK.out _ _ trivial (fun _=>?_);clear hK K hHeld;rename_i hHeld
     try walk_nrm
     have b3:=HB4.out.cell 3;have bf:=HB4.out.free 3;have bl:=HB4.out.lt;refine iA 7 (by kernel_rfl) rfl fun K hK=>?_
     go_simp;obtain⟨w5,hw5⟩:∃ w5,w5=w4.setCell ⟨w0.heap.size,3,none⟩ (.slice q3 d.type.length k3):=⟨_,rfl⟩;have HB5:=Lib.hid (show BoxAt w5 w0.heap.size 33 #[.int .i64 d.kind,.int .i64 d.level,.string d.name,.slice q3 d.type.length k3,.slice pb d.body.length cb,.slice pc d.cons.length cc] by rw[hw5];exact HB4.out.set 3 _);have HZ5:=Lib.hid (show BoxAt w5 (w0.heap.size+1) 33 dcZ by rw[hw5];exact HZ4.out.other (by omega) _ _);have HO5:=Lib.hid (show w5.ownsRow (w0.heap.size+2) 112 4 (.slice q4 d.body.length k4) d.body.length (aC d.body) by rw[hw5];exact yB HO4.out (gB HB4.out HO4.out (by decide)) _ _);have HP5:=Lib.hid (show w5.ownsRow (w0.heap.size+2) 112 4 (.slice q3 d.type.length k3) d.type.length (aC d.type) by rw[hw5];exact yB HP4.out (gB HB4.out HP4.out (by decide)) _ _);have HU5:=Lib.hid (show Under w0 w5 by rw[hw5];exact uA HU4.out (Nat.le_refl _) _ _);rw[← hw5];clear hw5 b3 bf bl;refine hK.out _ _ trivial (fun _=>?_);clear hK K hHeld;rename_i hHeld
     try walk_nrm
     co_applyP bA 8 rfl (by kernel_rfl) (by kernel_rfl) (fun _ _ _ h=>h) hHeld (fun w hSw=>?_) ?_;rotate_left
     · (try dsimp only at hSw);go_simp;try with_reducible rfl
     try walk_nrm
     have b3:=HB5.out.cell 4;have bf:=HB5.out.free 4;have bl:=HB5.out.lt;refine iA 9 (by kernel_rfl) rfl fun K hK=>?_
     go_simp;refine hK.out _ _ trivial (fun _=>?_);clear hK K hHeld;rename_i hHeld
     try walk_nrm
     refine wpAnyH_done (by kernel_rfl) ?_ _;refine NoPanic.normal ?_;exact⟨rfl,.slice q3 d.type.length k3,.slice q4 d.body.length k4,⟨_,zB (F:=jUA w0.heap.size (w0.heap.size+1)) (by rfl)⟩,HB5.out.set 4 _,HZ5.out.other (by omega) _ _,yB HP5.out (gB HB5.out HP5.out (by decide)) _ _,yB HO5.out (gB HB5.out HO5.out (by decide)) _ _,uA HU5.out (Nat.le_refl _) _ _⟩
 rintro e a' w2 ⟨rfl,ut,ub,⟨J,rfl⟩,hB,hZ,hO,hP,hU2⟩;have HB:=Lib.hid hB;have HZ:=Lib.hid hZ;have HO:=Lib.hid hO;have HP:=Lib.hid hP;have HU:=Lib.hid hU2;clear hB hZ hO hP hU2 HB1 HB2 HT HBd;simp only[Exit.then];refine hK _ _ ?_;clear hK K;have HS2:=Lib.hid (show w0.heap.size+2≤w2.heap.size from by have:=HZ.out.lt;omega);have c5:=HB.out.cell 5;have cl:=HB.out.lt;have hn9:(d.cons.length:Int)≤5864062014634:=by have:=HD.out.cons;omega
 have hn0:(0:Int)≤(d.cons.length:Int):=by omega
 unfold jUA;go_wp2;go_loopw [3,20] (fun va i wr=>CoR (w0.heap.size+2) w2 d.cons va i wr) (fun _ i _=>d.cons.length - (intOf i).toNat)
 case atStart=>exact⟨0,[],Nat.zero_le _,rfl,World.ownsRow_nil _ _ _ _,by simpa using Zip.nil _,Under.refl _⟩
 case round =>
   obtain⟨k,us,hk,rfl,hown,hz,hU⟩:=hrel;have HO2:=Lib.hid hown;have HZ2:=Lib.hid hz;have HUr:=Lib.hid hU;have hk0:(0:Int)≤(k:Int):=by omega
   clear hown hz hU;by_cases hlt:k < d.cons.length
   · obtain ⟨u, hu, hcv⟩ := HZc.out.at (List.getElem?_eq_getElem hlt); obtain ⟨b, off, rfl, hb, hcs⟩ := HRc.out (fun e => by rw [e] at hu; simp at hu); have cc := hcs k _ hu; rw [← dA (HU.out.trans HUr.out) hb] at cc; have hb' := Nat.lt_of_lt_of_le hb (HU.out.trans HUr.out).size; obtain ⟨q, cq, ws, rfl, hq1, hq2, hq3, hq4⟩ := hcv; have HQ3 := Lib.hid hq3; have HQ4 := Lib.hid hq4; obtain ⟨hm, htl⟩ := HD.out.con _ (List.getElem_mem hlt); have HTl := Lib.hid htl; have HTk := Lib.hid (show d.cons.take (k + 1) = d.cons.take k ++ [d.cons[k]] from List.take_succ_eq_append_getElem hlt); clear hcs hu hq1 hq2 hq3 hq4 htl; generalize d.cons[k] = c at *; have hm0 : (0 : Int) ≤ (c.length : Int) := by omega
     have hm9:(c.length:Int)≤5864062014634:=by omega
     have hlt':(k:Int) < (d.cons.length:Int):=by omega
     go_wp2;generalize wr=wo at *;go_loopw [6,26] (fun va i w3=>CaR (w0.heap.size+2) wo c va i w3) (fun _ i _=>c.length - (intOf i).toNat)
     case atStart=>exact⟨0,[],Nat.zero_le _,rfl,World.ownsRow_nil _ _ _ _,by simpa using Zip.nil _,Under.refl _⟩
     case round =>
       obtain⟨k2,us2,hk2,rfl,hown2,hz2,hU2⟩:=hrel;have HO3:=Lib.hid hown2;have HZ3:=Lib.hid hz2;have HU3:=Lib.hid hU2;have hk20:(0:Int)≤(k2:Int):=by omega
       by_cases hlt2:k2 < c.length
       · obtain ⟨u2, hu2, htv⟩ := HQ4.out.at (List.getElem?_eq_getElem hlt2); obtain ⟨b2, off2, rfl, hb2, hcs2⟩ := HQ3.out (fun e => by rw [e] at hu2; simp at hu2); have cc2 := hcs2 k2 _ hu2; have hUall := (HU.out.trans HUr.out).trans HU3.out; rw [← dA hUall hb2] at cc2; have hb2' := Nat.lt_of_lt_of_le hb2 hUall.size; have hsz : w0.heap.size + 2 ≤ wr.heap.size := Nat.le_trans HS2.out (Nat.le_trans HUr.out.size HU3.out.size); have HC := Lib.hid (sU (w0 := wr) c[k2] (HTl.out _ (List.getElem_mem hlt2)) (TermV.mono _ _ _ _ hUall htv)); obtain ⟨pt2, ct2, rfl, _⟩ := htv; have HTk2 := Lib.hid (show c.take (k2 + 1) = c.take k2 ++ [c[k2]] from List.take_succ_eq_append_getElem hlt2); have hlt2' : (k2 : Int) < (c.length : Int) := by omega
         have HSz:=Lib.hid (And.intro hsz HU3.out.size);clear hcs2 hu2 hUall hsz hU2 hown2 hz2;generalize c[k2]=t2 at *;go_wp2_with fail;refine HC.out.mono ?_;rintro e w4 ⟨v4,rfl,hO4,hU4⟩;have HO4:=Lib.hid (show Ow1 (w0.heap.size+2) w4 v4 t2 from oD (base':=w0.heap.size+2) hO4 HSz.out.1);obtain⟨q4,k4,rfl,_,_⟩:=RowArg.of_own hO4;have HO3:=Lib.hid (dC HO3.out hU4);have HZ3:=Lib.hid (HZ3.out.mono fun v x h=>h.under hU4);have HU4:=Lib.hid (HU3.out.trans hU4);clear hO4 hU4 HC cc2 hb2';go_wp2_with (at_builtin;refine vC rfl _ _ 96 rfl wo.heap.size 30 i0 _ 1 24 Tryz.underlying96 hi hz0 hz1 hz2 rfl (by decide) _ _ _ rfl (HO3.out.alloc _) _ 1 1 [.slice q4 t2.length k4] rfl rfl (Nat.le_refl _) (fun h=>by cases h) (nJ w4 [.slice q4 t2.length k4] _ _) (fun u hu=>by simp at hu;subst hu;rfl) (by simp only[maxLen];omega) (by omega) (by have:=HU4.out.size;simp;omega) ?_);intro v5 w5 hown hgrow;have HO5:=Lib.hid hown;have HU5:=Lib.hid (rA (aA HU4.out _) hgrow fun g e=>(vB HO3.out e).1);have HZ5:=Lib.hid ((HZ3.out.mono fun v x h=>(h.under (aA (Under.refl _) _)).grown (HO3.out.alloc _) hgrow (by decide)).app (Zip.one ((HO4.out.under (aA (Under.refl _) _)).grown (HO3.out.alloc _) hgrow (by decide))));clear hown hgrow;go_wp2;go_roundw
         case rel=>exact⟨k2+1,us2++[_],by omega,by go_num,HO5.out,by rw[HTk2.out];exact HZ5.out,HU5.out⟩
         case measure=>simp[intOf];omega
       · obtain rfl : k2 = c.length := by omega
         have hz3:=HZ3.out;rw[List.take_length]at hz3;have HR2:=Lib.hid (show Ow2 (w0.heap.size+2) wr _ c from⟨us2,oD HO3.out (Nat.le_trans HS2.out HUr.out.size),hz3⟩);obtain⟨q6,k6,rfl,_,_⟩:=RowArg.of_own HO3.out;have HO2:=Lib.hid (dC HO2.out HU3.out);have HZ2:=Lib.hid (HZ2.out.mono fun v x h=>h.under HU3.out);have HU4:=Lib.hid (HUr.out.trans HU3.out);clear hz3 HZ3 HO3 hown2 hz2 hU2;go_wp2_with (at_builtin;refine vC rfl _ _ 31 rfl w2.heap.size 96 j0 _ 1 24 Tryz.underlying31 hj hy0 hy1 hy2 rfl (by decide) _ _ _ rfl (HO2.out.alloc _) _ 1 1 [.slice q6 c.length k6] rfl rfl (Nat.le_refl _) (fun h=>by cases h) (nJ wr [.slice q6 c.length k6] _ _) (fun u hu=>by simp at hu;subst hu;rfl) (by simp only[maxLen];omega) (by omega) (by have:=HU4.out.size;simp;omega) ?_);intro v5 w5 hown hgrow;have HO5:=Lib.hid hown;have HU5:=Lib.hid (rA (aA HU4.out _) hgrow fun g e=>(vB HO2.out e).1);have HZ5:=Lib.hid ((HZ2.out.mono fun v x h=>(h.under (aA (Under.refl _) _)).grown (HO2.out.alloc _) hgrow (by decide) (by decide)).app (Zip.one ((HR2.out.under (aA (Under.refl _) _)).grown (HO2.out.alloc _) hgrow (by decide) (by decide))));clear hown hgrow;go_wp2;go_roundw
         case rel=>exact⟨k+1,us++[_],by omega,by go_num,HO5.out,by rw[HTk.out];exact HZ5.out,HU5.out⟩
         case measure=>simp[intOf];omega
   · obtain rfl : k = d.cons.length := by omega
     have hz2:=HZ2.out;rw[List.take_length]at hz2;have HZ2:=Lib.hid hz2;obtain⟨q6,k6,rfl,_,_⟩:=RowArg.of_own HO2.out;obtain⟨q3,k3,rfl,_,_⟩:=RowArg.of_own HO.out;obtain⟨q4,k4,rfl,_,_⟩:=RowArg.of_own HP.out;have HB:=Lib.hid (HB.out.under HUr.out);have HZb:=Lib.hid (HZ.out.under HUr.out);have c0:=HB.out.cell 0;have c1:=HB.out.cell 1;have c2:=HB.out.cell 2;have c3:=HB.out.cell 3;have c4:=HB.out.cell 4;have c5:=HB.out.cell 5;have f5:=HB.out.free 5;have cl:=HB.out.lt;have d0:=HZb.out.cell 0;have d1:=HZb.out.cell 1;have d2:=HZb.out.cell 2;have d3:=HZb.out.cell 3;have d4:=HZb.out.cell 4;have d5:=HZb.out.cell 5;have g0:=HZb.out.free 0;have g1:=HZb.out.free 1;have g2:=HZb.out.free 2;have g3:=HZb.out.free 3;have g4:=HZb.out.free 4;have g5:=HZb.out.free 5;have dl:=HZb.out.lt;clear hz2;go_wp2;clear c0 c1 c2 c3 c4 c5 d0 d1 d2 d3 d4 d5 f5 g0 g1 g2 g3 g4 g5 hi hj hz0 hz1 hz2 hy0 hy1 hy2;obtain⟨wf,hwf⟩:∃ wf,wf=((((((wr.setCell ⟨w0.heap.size,5,none⟩ (.slice q6 d.cons.length k6)).setCell ⟨w0.heap.size+1,0,none⟩ (.int .i64 d.kind)).setCell ⟨w0.heap.size+1,1,none⟩ (.int .i64 d.level)).setCell ⟨w0.heap.size+1,2,none⟩ (.string d.name)).setCell ⟨w0.heap.size+1,3,none⟩ (.slice q3 d.type.length k3)).setCell ⟨w0.heap.size+1,4,none⟩ (.slice q4 d.body.length k4)).setCell ⟨w0.heap.size+1,5,none⟩ (.slice q6 d.cons.length k6):=⟨_,rfl⟩;have HF:=Lib.hid (show BoxAt wf (w0.heap.size+1) 33 #[.int .i64 d.kind,.int .i64 d.level,.string d.name,.slice q3 d.type.length k3,.slice q4 d.body.length k4,.slice q6 d.cons.length k6] by rw[hwf];exact((((((HZb.out.other (by omega) _ _).set 0 _).set 1 _).set 2 _).set 3 _).set 4 _).set 5 _);have HC:=Lib.hid (show Ch (fun b=>b=w0.heap.size∨b=w0.heap.size+1) wr wf by rw[hwf];exact(((((((Ch.refl wr).set (fun _=>.inl rfl) _ _).set (fun _=>.inr rfl) _ _).set (fun _=>.inr rfl) _ _).set (fun _=>.inr rfl) _ _).set (fun _=>.inr rfl) _ _).set (fun _=>.inr rfl) _ _).set (fun _=>.inr rfl) _ _);rw[← hwf];clear hwf;have e0:=HF.out.cell 0;have e1:=HF.out.cell 1;have e2:=HF.out.cell 2;have e3:=HF.out.cell 3;have e4:=HF.out.cell 4;have e5:=HF.out.cell 5;have hlow:∀ b,(b=w0.heap.size∨b=w0.heap.size+1)→b < w0.heap.size+2:=fun b hb=>by omega
     refine bodyPost_ret (v:=.agg #[.int .i64 d.kind,.int .i64 d.level,.string d.name,.slice q3 d.type.length k3,.slice q4 d.body.length k4,.slice q6 d.cons.length k6]) ((oO rfl _ _ _).trans (by simp[go_sem,e0,e1,e2,e3,e4,e5])) rfl ⟨_,rfl,⟨_,_,_,rfl,?_,?_,?_⟩,uK (HU.out.trans HUr.out) HC.out fun b hb=>by omega⟩
     · exact((Ow1.under (show Ow1 _ w2 _ _ from HO.out) HUr.out).ch HC.out hlow).base (by omega)
     · exact((Ow1.under (show Ow1 _ w2 _ _ from HP.out) HUr.out).ch HC.out hlow).base (by omega)
     · exact Ow3.base (B:=w0.heap.size+2) ⟨_,qO (oD HO2.out HS2.out) HC.out fun g hg hc=>by have:=(vB HO2.out hg).1;have:=HS2.out;have:=hlow g hc;omega,HZ2.out.mono fun v x h=>h.ch HC.out hlow⟩ (by omega)
end
end Go.Proofs.YtggjbblgoddnjaaGreatDoor
namespace Go.Proofs.YtggjbblgoddnjaaGreatDoor
open Go.ChangeShapes Go.WideShapes Go.ChangeAt Go.WideMaps Go.WideElems Go.RowKit Go.Lx Go.Deep Go.Conc
theorem jY{H:Type}{P:Program}{ts:List TypeId}{ds:List (DataW H)}(h:(DataW.weightsEach P ts ds).all (· ≤ reachBytes)=true){j:Nat}{t:TypeId}{d:DataW H}(ht:ts[j]? = some t)(hd:ds[j]? = some d):Go.Lx.Reach P t d :=
 fun n hn=>of_decide_eq_true (List.all_eq_true.1 h n (DataW.weights_mem_each ht hd n hn))
section
variable {H : Type} {enc : TypeId × Value → H} {w : World} {spare : Nat → Bool} {held : Bool} {fuel : Nat} {cs : List Value} {x : DataW H × List MemPlace}
theorem jPA(h:DataW.trod enc Tryz.prog w 0 spare held fuel 30 cs=some x)(hz:Go.Lx.Reach Tryz.prog 30 x.1):∃ v l,cs=[v]∧TermV w v l∧oN l :=
 kEA Tryz.underlying30 Tryz.underlying112 (by kernel_rfl) (by kernel_rfl) (by rw[show Tryz.prog.bytesOf 112=40 by kernel_rfl];decide) Tryz.underlying3 Tryz.underlying3 Tryz.underlying3 Tryz.underlying9 h hz
theorem q2A(h:DataW.trod enc Tryz.prog w 0 spare held fuel 31 cs=some x)(hz:Go.Lx.Reach Tryz.prog 31 x.1):∃ v l,cs=[v]∧ConsV w v l∧l.length≤5864062014634∧∀ c∈l,c.length≤5864062014634∧∀ t∈c,oN t :=
 mEA (e3:=112) Tryz.underlying31 (by kernel_rfl) (by kernel_rfl) Tryz.underlying96 (by kernel_rfl) (by kernel_rfl) (fun _ _ _ h hz=>jPA h hz) h hz
theorem aWA(hcl:cs.length=6)(h:DataW.trod enc Tryz.prog w 0 spare held fuel 33 cs=some x)(hz:Go.Lx.Reach Tryz.prog 33 x.1):∃ d,DcRow w cs d∧SzD d :=
 fEA Tryz.underlying33 (by kernel_rfl) Tryz.underlying3 Tryz.underlying3 Tryz.underlying9 (fun _ _ _ h hz=>jPA h hz) (fun _ _ _ h hz=>jPA h hz) (fun _ _ _ h hz=>q2A h hz) hcl h hz
theorem vWA(h:DataW.trod enc Tryz.prog w 0 spare held fuel 22 cs=some x)(hz:Go.Lx.Reach Tryz.prog 22 x.1):∃(p:Option Addr) (c:Nat) (ds:List Dc),cs=[.slice p ds.length c]∧ds.length≤c∧(p=none→c=0)∧RowsV 6 DcRow w p ds∧(∀ d∈ds,SzD d)∧ds.length≤9223372036854775807:=by
 obtain⟨p,c,xs,rfl,hc,h0,hr,hb⟩:=zP (R:=fun w cs d=>DcRow w cs d∧SzD d) Tryz.underlying22 (by kernel_rfl) (by decide) (fun fuel cs x hcl hx hz=>aWA hcl hx hz) h hz;obtain⟨h1,h2⟩:=RowsV.split hr;have hb':Tryz.prog.bytesOf 33=104:=by kernel_rfl
 rw[hb']at hb;exact⟨p,c,xs,rfl,hc,h0,h1,h2,by unfold reachBytes at hb;omega⟩
end
end Go.Proofs.YtggjbblgoddnjaaGreatDoor
