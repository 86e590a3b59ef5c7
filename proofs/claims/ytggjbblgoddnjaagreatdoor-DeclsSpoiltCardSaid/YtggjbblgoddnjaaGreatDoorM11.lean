/- Part 11 of what the proof rests on. -/
import Derived.Lib.SliceRun
import Derived.Laws.AppendOwnNone
import Derived.Conc.CompanyMem
import Derived.Conc.WalkWords
import Derived.Lib.AtoiAllCases
import Derived.Lib.ItoaLen
import Derived.Maps.AppendAt
import Derived.LaidOnce
import Derived.Test.YtggjbblgoddnjaaGreatDoorM00
import Derived.Test.YtggjbblgoddnjaaGreatDoorM04
import Derived.Test.YtggjbblgoddnjaaGreatDoorM05
import Derived.Test.YtggjbblgoddnjaaGreatDoorM06
import Derived.Test.YtggjbblgoddnjaaGreatDoorM08
import Derived.Test.YtggjbblgoddnjaaGreatDoorM10
set_option linter.unusedSimpArgs false
set_option linter.unusedVariables false
set_option maxRecDepth 100000
set_option maxHeartbeats 4000000
namespace Go.Proofs.YtggjbblgoddnjaaGreatDoor
open Go.Lx Go.RowKit
theorem Tryz.info30:(Tryz.prog.info? 30).map (fun i=>(i.zero,i.size,i.bytes))=some (some (.slice none 0 0),1,24):=by kernel_rfl
section
variable {w0 : World}
theorem aJA(n:Nat)(hn:n≤5864062015658):Calls Tryz.prog 116 #[.slice none 0 0,.int .i64 (n:Int)] w0 fun e w=>∃ v,e = .returned v∧w.ownsRow w0.heap.size 30 1 v 0 []∧Under w0 w:=by
 obtain⟨i0,hi,hz0,hz1,hz2⟩:=info_parts Tryz.info30;by_cases h0:n=0
 · subst h0;go_enter Tryz.func116,Tryz.ntmps116;go_wp2;go_ret;exact⟨_,rfl,World.ownsRow_nil _ _ _ _,Under.refl _⟩
 · have h1 : (0 : Int) < n := by omega
   have h2:(n:Int)≤5864062015658:=by omega
   have h3:n * i0.bytes≤281474976710656:=by rw[hz2];omega
   have h4:1≤n:=by omega
   clear h0;go_enter Tryz.func116,Tryz.ntmps116;go_wp2_with (at_builtin;refine aR rfl _ _ w0.heap.size 96 3 30 rfl i0 (.slice none 0 0) Tryz.underlying96 Tryz.underlying3 hi hz0 hz1 rfl n rfl rfl h4 h3 (by simp only[maxLen];omega) (Nat.le_refl _) ?_;intro g c w1 hown hgrow);have hc:=pQ hown (Nat.zero_le n);have HC:=aA hc;have HU:=aA (xA (Under.refl w0) hgrow fun g e=>by cases e);clear hown hgrow hc;go_wp2;go_ret;refine⟨_,rfl,?_,HU.out⟩;have:=HC.out;rw[Nat.zero_mul,List.take_zero]at this;exact this
theorem vJA{α:Type}(css:List (List α))(k:Nat)(h:k < css.length):(css.take (k+1)).flatten=(css.take k).flatten++css[k]:=by
 rw[List.take_succ_eq_append_getElem h,List.flatten_append];simp
theorem cEA{α:Type}(css:List (List α))(k:Nat):(css.take k).flatten.length≤css.flatten.length:=by
 have:css.flatten=(css.take k).flatten++(css.drop k).flatten:=by rw[← List.flatten_append,List.take_append_drop]
 rw[this,List.length_append];omega
def CI(w0:World)(css:List (List (List Nd)))(v i:Value)(w:World):Prop :=
 ∃ k vs N,k≤css.length∧i = .int .i64 (k:Nat)∧N=(css.take k).flatten.length∧w.ownsRow w0.heap.size 30 1 v N vs∧Zip (TermV w0) vs (css.take k).flatten∧Under w0 w
theorem qDA(css:List (List (List Nd))){v:Value}(hn:css.length≤5864062014634)(ht:css.flatten.length≤5864062015658)(hv:ConsV w0 v css) :
 Calls Tryz.prog 89 #[v] w0 fun e w=>∃ v vs,e = .returned v∧w.ownsRow w0.heap.size 30 1 v css.flatten.length vs∧Zip (TermV w) vs css.flatten∧Under w0 w:=by
 obtain⟨i0,hi,hz0,hz1,hz2⟩:=info_parts Tryz.info30;obtain⟨p,c,us,rfl,hc,_,hr,hz⟩:=hv;have HR:=aA hr;have HZ:=aA hz;have HT:=aA ht;clear hr hz ht;go_enter Tryz.func89,Tryz.ntmps89;go_wp2
 go_loop [3,11] (fun sz i=>∃(k:Nat) (N:Nat),k≤css.length∧i = .int .i64 k∧sz = .int .i64 N∧N=(css.take k).flatten.length) (fun _ i=>css.length - (intOf i).toNat)
 case atStart=>exact⟨0,0,Nat.zero_le _,rfl,rfl,rfl⟩
 case round =>
   obtain⟨k,f,hk,rfl,rfl,hf0⟩:=hrel;have hb1:f≤5864062015658:=by rw[hf0];exact Nat.le_trans (cEA css k) HT.out
   have hfp:(0:Int)≤f:=Int.natCast_nonneg _;have HF0:=aA hf0;clear hf0;by_cases hlt:k < css.length
   · obtain ⟨u, hu, q, c', us', rfl, hc', h0', hr', hz'⟩ := HZ.out.at (List.getElem?_eq_getElem hlt); obtain ⟨b, off, rfl, hb, hcs⟩ := HR.out (fun e => by rw [e] at hu; simp at hu); have cc := hcs k _ hu; have hb2 := Nat.le_trans (cEA css (k + 1)) HT.out; have hf := congrArg List.length (vJA css k hlt); rw [List.length_append, ← HF0.out] at hf; have hb3 : f + css[k].length ≤ 5864062015658 := by omega
     have HF:=aA hf;clear hcs hr' hz' hf hb2 hu;generalize css[k].length=m at *;have hm0:(0:Int)≤m:=Int.natCast_nonneg _;have hb4:(f:Int)+m≤5864062015658:=by omega
     have hb5:¬(f:Int)+m < 0:=by omega
     go_wp2
     go_round
     case rel=>exact⟨k+1,f+m,by omega,by go_num,by go_num,by rw[HF.out]⟩
     case measure=>simp[intOf];omega
   · obtain rfl : k = css.length := by omega
     have HG:=aA (aJA (w0:=w0) f (by omega));clear hlt;go_wp2_with fail;refine HG.out.mono ?_;rintro e w1 ⟨v,rfl,hown,hU⟩;have HO:=aA hown;have HU:=aA hU;clear hown hU;go_wp2;go_loopw [6,27] (fun v i wr=>CI w0 css v i wr) (fun _ i _=>css.length - (intOf i).toNat)
     case atStart=>exact⟨0,[],0,Nat.zero_le _,rfl,rfl,HO.out,Zip.nil _,HU.out⟩
     case round =>
       obtain⟨k,vs,N,hk,rfl,hN,hown,hzip,hU⟩:=hrel;by_cases hlt:k < css.length
       · obtain ⟨u, hu, q, c', us', rfl, hc', h0', hr', hz'⟩ := HZ.out.at (List.getElem?_eq_getElem hlt); obtain ⟨b, off, rfl, hb, hcs⟩ := HR.out (fun e => by rw [e] at hu; simp at hu); have cc := hcs k _ hu; rw [← fA hU hb] at cc; have hb' := Nat.lt_of_lt_of_le hb hU.size; have hf := vJA css k hlt; have hb2 := Nat.le_trans (cEA css (k + 1)) HT.out; rw [hf, List.length_append, ← hN] at hb2; have HN := aA hN; have HF := aA hf; have HO2 := aA hown; have HU2 := aA hU; have HZ2 := aA hzip; have HR' := aA (hr'.under hU); have HZ' := aA hz'; have hmx : N + css[k].length ≤ maxLen := by simp only [maxLen]; omega
         have hby:((N+css[k].length)+(N+css[k].length) / 4+192) * 24≤281474976710656:=by omega
         have HL:=aA hz'.1;clear hcs hr' hz' hf hN hown hU hzip hu;generalize hm:css[k].length=m at *;have HM:=aA hm;clear hm
         cases q with
         | none =>
           obtain rfl:c'=0:=h0' rfl;obtain rfl:m=0:=by omega
           go_wp2_with (at_builtin;refine wpList_append_own_none rfl _ _ 96 rfl w0.heap.size 30 i0 1 Tryz.underlying96 hi _ N vs rfl HO2.out rfl ?_);go_roundw
           case rel=>exact⟨k+1,vs,N,by omega,by go_num,by rw[HF.out,List.length_append,← HN.out,HM.out];rfl,HO2.out,by rw[HF.out,List.eq_nil_of_length_eq_zero HM.out,List.append_nil];exact HZ2.out,HU2.out⟩
           case measure=>simp[intOf];omega
         | some a =>
           go_wp2_with (at_builtin;refine wpList_append_own_wide _ rfl _ _ 96 rfl w0.heap.size 30 i0 _ 1 24 Tryz.underlying96 hi hz0 hz1 hz2 rfl (by decide) _ N vs rfl HO2.out a m c' us' rfl ?c1 ?c2 ?c3 hmx hby ?c5 ?_)
           case c1=>rw[HL.out];omega
           case c2 =>
             intro j u hj;obtain⟨b2,off2,e,hb2,hc2⟩:=HR'.out (fun e=>by rw[e]at hj;cases hj)
             cases e;rw[zM];exact hc2 j u hj
           case c3 =>
             intro u hu;obtain⟨i,hi⟩:=List.getElem?_of_mem hu;have hil:i < css[k].length:=by rw[HM.out,← HL.out];exact(List.getElem?_eq_some_iff.1 hi).1
             exact(HZ'.out.2 i u _ hi (List.getElem?_eq_getElem hil)).one
           case c5=>exact HU2.out.size
           intro v' w2 hown2 hgrow2 hnil2;have hU3:=xA HU2.out hgrow2 fun g e=>(jB HO2.out e).1
           have HO3:=aA hown2;have HU3:=aA hU3;clear hown2 hnil2 hU3;go_wp2;go_roundw
           case rel=>exact⟨k+1,vs++us',N+m,by omega,by go_num,by rw[HF.out,List.length_append,← HN.out,HM.out],HO3.out,by rw[HF.out];exact HZ2.out.app HZ'.out,HU3.out⟩
           case measure=>simp[intOf];omega
       · obtain rfl : k = css.length := by omega
         have HO2:=aA hown;have HU2:=aA hU;have HZ2:=aA hzip;have HN:=aA hN;clear hown hU hzip hN;go_wp2;go_ret;have e1:=HN.out;have e2:=HZ2.out;have e3:=HO2.out;rw[List.take_length]at e1 e2;rw[e1]at e3;exact⟨_,vs,rfl,e3,e2.mono fun v x h=>TermV.mono _ _ v x HU2.out h,HU2.out⟩
end
section
variable {w0 : World} {d : Dc} {v : Value}
theorem b1A{w:World}{u v:Value}{t s:List Nd}(hu:TermV w u t)(hv:TermV w v s)(T:TypeId):TermsV (w.alloc (.cells #[u,v] T)) (.slice (some ⟨w.heap.size,0,none⟩) 2 2) [t,s] :=
 ⟨_,2,[u,v],rfl,Nat.le_refl _,fun h=>by(cases h),cO w [u,v] T (0,0),(Zip.one (TermV.mono _ _ _ _ (bA (Under.refl w) _) hu)).app (Zip.one (TermV.mono _ _ _ _ (bA (Under.refl w) _) hv))⟩
theorem q5A{w:World}{u:Value}{t:List Nd}(hu:TermV w u t)(T:TypeId):TermsV (w.alloc (.cells #[u] T)) (.slice (some ⟨w.heap.size,0,none⟩) 1 1) [t] :=
 ⟨_,1,[u],rfl,Nat.le_refl _,fun h=>by(cases h),cO w [u] T (0,0),Zip.one (TermV.mono _ _ _ _ (bA (Under.refl w) _) hu)⟩
theorem jKA(hd:Small d)(hv:DcV w0 v d):Calls Tryz.prog 54 #[v] w0 fun e w=>∃ u,e = .returned u∧TermsV w u (aB d)∧Under w0 w:=by
 obtain⟨vt,vb,vc,rfl,ht,hb,hc⟩:=hv;have hU:=bA (Under.refl w0) (.cells #[.int .i64 d.kind,.int .i64 d.level,.string d.name,vt,vb,vc] 33);have HT:=aA (TermV.mono _ _ _ _ hU ht);have HB:=aA (TermV.mono _ _ _ _ hU hb);have HC:=aA (qDA d.cons hd.cons hd.flat (ConsV.mono _ _ _ _ hU hc));have hT:aB d=if d.kind=1 then [d.type,d.body] else if d.kind=2 then [d.type] else if d.kind=3 then d.cons.flatten else []:=rfl
 have HU:=aA hU;obtain⟨pt,ct,rfl,_⟩:=ht;obtain⟨pb,cb,rfl,_⟩:=hb;obtain⟨pc,cc,us,rfl,_⟩:=hc;clear hd hU;by_cases h1:d.kind=1
 · rw [if_pos h1] at hT; have HTm := aA hT; have b1 : (d.kind == 1) = true := by simpa using h1
   clear hT h1;go_enter Tryz.func54,Tryz.ntmps54;go_wp2;go_ret;refine⟨_,rfl,?_,HU.out.trans (bA (Under.refl _) _)⟩;rw[HTm.out]
   simpa using b1A HT.out HB.out 30
 rw[if_neg h1]at hT;have b1:(d.kind==1)=false:=by simpa using h1
 by_cases h2:d.kind=2
 · rw [if_pos h2] at hT; have HTm := aA hT; have b2 : (d.kind == 2) = true := by simpa using h2
   clear hT h1 h2;go_enter Tryz.func54,Tryz.ntmps54;go_wp2;go_ret;refine⟨_,rfl,?_,HU.out.trans (bA (Under.refl _) _)⟩;rw[HTm.out]
   simpa using q5A HT.out 30
 rw[if_neg h2]at hT;have b2:(d.kind==2)=false:=by simpa using h2
 by_cases h3:d.kind=3
 · rw [if_pos h3] at hT; have HTm := aA hT; have b3 : (d.kind == 3) = true := by simpa using h3
   clear hT h1 h2 h3;go_enter Tryz.func54,Tryz.ntmps54;go_wp2_with fail;refine HC.out.mono ?_;rintro e w1 ⟨u,vs,rfl,hown,hz,hU1⟩;have HV:=aA (ListV.of_own hown hz);have HU1:=aA hU1;clear hown hz hU1;go_wp2;go_ret;exact⟨_,rfl,by rw[HTm.out];exact HV.out,HU.out.trans HU1.out⟩
 · rw [if_neg h3] at hT; have HTm := aA hT; have b3 : (d.kind == 3) = false := by simpa using h3
   clear hT h1 h2 h3;go_enter Tryz.func54,Tryz.ntmps54;go_wp2;go_ret;exact⟨_,rfl,by rw[HTm.out];exact⟨none,0,[],rfl,Nat.le_refl _,fun _=>rfl,fun h=>absurd rfl h,Zip.nil _⟩,HU.out⟩
end
structure Lite (d:Dc):Prop where
 type:d.type.length≤2000000
 body:d.body.length≤2000000
 cons:d.cons.length≤5864062014634
 con:∀ c∈d.cons,c.length≤5864062014634∧∀ t∈c,t.length≤2000000
theorem Tryz.infoNdsC:(Tryz.prog.info? 30).map (fun i=>(i.zero,i.size,i.bytes))=some (some (.slice none 0 0),1,24):=by kernel_rfl
theorem Tryz.infoNds2C:(Tryz.prog.info? 96).map (fun i=>(i.zero,i.size,i.bytes))=some (some (.slice none 0 0),1,24):=by kernel_rfl
def g4A(db rb:Nat)(J:Nat→Value):Array Value:=#[J 0,.pointer (some ⟨db,0,none⟩),.pointer (some ⟨rb,0,none⟩),J 3,J 4,J 5,J 6,J 7,J 8,J 9,J 10,J 11,J 12,J 13,J 14,J 15,J 16,J 17,J 18,J 19,J 20,J 21,J 22,J 23,J 24,J 25,J 26,J 27,J 28,J 29,J 30,J 31,J 32,J 33,J 34,J 35,J 36,J 37,J 38,J 39,J 40,J 41,J 42,J 43]
abbrev dcZ:Array Value:=#[.int .i64 0,.int .i64 0,.string ⟨#[]⟩,.slice none 0 0,.slice none 0 0,.slice none 0 0]
def xEB(w0:World)(t b:List Nd)(k l:Int)(s:ByteArray)(vc:Value)(e:Exit)(a':Act)(w':World):Prop:=e = .normal∧∃ vt vb,(∃ J,a'=⟨g4A w0.heap.size (w0.heap.size+1) J,[]⟩)∧BoxAt w' w0.heap.size 33 #[.int .i64 k,.int .i64 l,.string s,vt,vb,vc]∧BoxAt w' (w0.heap.size+1) 33 dcZ∧w'.ownsRow (w0.heap.size+2) 112 4 vt t.length (wB t)∧w'.ownsRow (w0.heap.size+2) 112 4 vb b.length (wB b)∧Under w0 w'
def Ow1(B:Nat)(w:World)(u:Value)(t:List Nd):Prop:=w.ownsRow B 112 4 u t.length (wB t)
def Ow2(B:Nat)(w:World)(u:Value)(c:List (List Nd)):Prop:=∃ vs,w.ownsRow B 30 1 u c.length vs∧Zip (Ow1 B w) vs c
section
variable {B : Nat} {w w' : World} {u : Value}
theorem Ow1.under{t:List Nd}(h:Ow1 B w u t)(hU:Under w w'):Ow1 B w' u t:=uA h hU
theorem Ow2.under{c:List (List Nd)}(h:Ow2 B w u c)(hU:Under w w'):Ow2 B w' u c:=by
 obtain⟨vs,h1,h2⟩:=h;exact⟨vs,uA h1 hU,h2.mono fun v x h=>h.under hU⟩
theorem Ow1.grown{t:List Nd}(h:Ow1 B w u t){b e s n:Nat}{v:Value}{xs:List Value}(k:w.ownsRow b e s v n xs)(hg:w.grownBy w' v.ownBlock)(he:112≠e):Ow1 B w' u t:=vE h hg (own_ne h k he)
theorem Ow2.grown{c:List (List Nd)}(h:Ow2 B w u c){b e s n:Nat}{v:Value}{xs:List Value}(k:w.ownsRow b e s v n xs)(hg:w.grownBy w' v.ownBlock)(he:112≠e)(he2:30≠e):Ow2 B w' u c:=by
 obtain⟨vs,h1,h2⟩:=h;exact⟨vs,vE h1 hg (own_ne h1 k he2),h2.mono fun v x h=>h.grown k hg he⟩
theorem Ow1.ch{t:List Nd}(h:Ow1 B w u t){C:Nat→Prop}(k:Ch C w w')(hC:∀ b,C b→b < B):Ow1 B w' u t:=xJ h k fun g hg hc=>by have:=(jB h hg).1;have:=hC g hc;omega
theorem Ow2.ch{c:List (List Nd)}(h:Ow2 B w u c){C:Nat→Prop}(k:Ch C w w')(hC:∀ b,C b→b < B):Ow2 B w' u c:=by
 obtain⟨vs,h1,h2⟩:=h;exact⟨vs,xJ h1 k fun g hg hc=>by have:=(jB h1 hg).1;have:=hC g hc;omega,h2.mono fun v x h=>h.ch k hC⟩
theorem Ow2.terms{c:List (List Nd)}(h:Ow2 B w u c):TermsV w u c:=by
 obtain⟨vs,h1,h2⟩:=h;exact ListV.of_own h1 (h2.mono fun v x h=>vP h)
end
def Ow3(B:Nat)(w:World)(u:Value)(c:List (List (List Nd))):Prop:=∃ vs,w.ownsRow B 96 1 u c.length vs∧Zip (Ow2 B w) vs c
def DcO(B:Nat)(w:World)(v:Value)(d:Dc):Prop:=∃ vt vb vc,v = .agg #[.int .i64 d.kind,.int .i64 d.level,.string d.name,vt,vb,vc]∧Ow1 B w vt d.type∧Ow1 B w vb d.body∧Ow3 B w vc d.cons
section
variable {B : Nat} {w w' : World} {u : Value}
theorem Ow1.base{B':Nat}{t:List Nd}(h:Ow1 B w u t)(hB:B'≤B):Ow1 B' w u t:=wD h hB
theorem Ow2.base{B':Nat}{c:List (List Nd)}(h:Ow2 B w u c)(hB:B'≤B):Ow2 B' w u c:=by
 obtain⟨vs,h1,h2⟩:=h;exact⟨vs,wD h1 hB,h2.mono fun v x h=>h.base hB⟩
theorem Ow3.base{B':Nat}{c:List (List (List Nd))}(h:Ow3 B w u c)(hB:B'≤B):Ow3 B' w u c:=by
 obtain⟨vs,h1,h2⟩:=h;exact⟨vs,wD h1 hB,h2.mono fun v x h=>h.base hB⟩
theorem Ow3.under{c:List (List (List Nd))}(h:Ow3 B w u c)(hU:Under w w'):Ow3 B w' u c:=by
 obtain⟨vs,h1,h2⟩:=h;exact⟨vs,uA h1 hU,h2.mono fun v x h=>h.under hU⟩
theorem Ow3.ch{c:List (List (List Nd))}(h:Ow3 B w u c){C:Nat→Prop}(k:Ch C w w')(hC:∀ b,C b→b < B):Ow3 B w' u c:=by
 obtain⟨vs,h1,h2⟩:=h;exact⟨vs,xJ h1 k fun g hg hc=>by have:=(jB h1 hg).1;have:=hC g hc;omega,h2.mono fun v x h=>h.ch k hC⟩
theorem Ow3.cons{c:List (List (List Nd))}(h:Ow3 B w u c):ConsV w u c:=by
 obtain⟨vs,h1,h2⟩:=h;exact ListV.of_own h1 (h2.mono fun v x h=>h.terms)
theorem DcO.under{d:Dc}(h:DcO B w u d)(hU:Under w w'):DcO B w' u d:=by
 obtain⟨vt,vb,vc,e,h1,h2,h3⟩:=h;exact⟨vt,vb,vc,e,h1.under hU,h2.under hU,h3.under hU⟩
theorem DcO.ch{d:Dc}(h:DcO B w u d){C:Nat→Prop}(k:Ch C w w')(hC:∀ b,C b→b < B):DcO B w' u d:=by
 obtain⟨vt,vb,vc,e,h1,h2,h3⟩:=h;exact⟨vt,vb,vc,e,h1.ch k hC,h2.ch k hC,h3.ch k hC⟩
theorem DcO.base{B':Nat}{d:Dc}(h:DcO B w u d)(hB:B'≤B):DcO B' w u d:=by
 obtain⟨vt,vb,vc,e,h1,h2,h3⟩:=h;exact⟨vt,vb,vc,e,h1.base hB,h2.base hB,h3.base hB⟩
theorem DcO.val{d:Dc}(h:DcO B w u d):DcV w u d:=by
 obtain⟨vt,vb,vc,e,h1,h2,h3⟩:=h;exact⟨vt,vb,vc,e,vP h1,vP h2,h3.cons⟩
theorem DcO.agg{d:Dc}(h:DcO B w u d):∃ q k q' k' r c,u = .agg #[.int .i64 d.kind,.int .i64 d.level,.string d.name,.slice q d.type.length k,.slice q' d.body.length k',.slice r d.cons.length c]:=by
 obtain⟨vt,vb,vc,e,h1,h2,⟨vs,h3,_⟩⟩:=h;obtain⟨q,k,rfl,_⟩:=RowArg.of_own h1;obtain⟨q',k',rfl,_⟩:=RowArg.of_own h2;obtain⟨r,c,rfl,_⟩:=RowArg.of_own h3;exact⟨q,k,q',k',r,c,e⟩
end
def CaR(B:Nat)(w1:World)(c:List (List Nd))(va i:Value)(wr:World):Prop:=∃(k:Nat) (us:List Value),k≤c.length∧i = .int .i64 (k:Int)∧wr.ownsRow w1.heap.size 30 1 va k us∧Zip (Ow1 B wr) us (c.take k)∧Under w1 wr
def CoR(B:Nat)(w1:World)(cs:List (List (List Nd)))(va i:Value)(wr:World):Prop:=∃(k:Nat) (us:List Value),k≤cs.length∧i = .int .i64 (k:Int)∧wr.ownsRow w1.heap.size 96 1 va k us∧Zip (Ow2 B wr) us (cs.take k)∧Under w1 wr
section
variable {w0 : World}
theorem cVA(d:Dc){v:Value}(hd:Lite d)(hv:DcV w0 v d):Calls Tryz.prog 44 #[v] w0 fun e w=>∃ v',e = .returned v'∧DcO w0.heap.size w v' d∧Under w0 w:=by
 obtain⟨i0,hi,hz0,hz1,hz2⟩:=info_parts Tryz.infoNdsC;obtain⟨j0,hj,hy0,hy1,hy2⟩:=info_parts Tryz.infoNds2C;obtain⟨vt,vb,vc,rfl,h1,h2,h3⟩:=hv;have HT:=aA (fun w (h:Under w0 w)=>nY (w0:=w) d.type hd.type (TermV.mono _ _ _ _ h h1));have HBd:=aA (fun w (h:Under w0 w)=>nY (w0:=w) d.body hd.body (TermV.mono _ _ _ _ h h2));obtain⟨pt,ct,rfl,_⟩:=h1;obtain⟨pb,cb,rfl,_⟩:=h2;obtain⟨pc,cc,vs,rfl,hcc,hc0,hrc,hzc⟩:=h3;have HRc:=aA hrc;have HZc:=aA hzc;have HD:=aA hd;clear hcc hc0 hrc hzc hd;go_enter Tryz.func44,Tryz.ntmps44;go_wp2;rename_i K hK;obtain⟨w1,hw1⟩:∃ w1,w1=(w0.alloc (.cells #[.int .i64 d.kind,.int .i64 d.level,.string d.name,.slice pt d.type.length ct,.slice pb d.body.length cb,.slice pc d.cons.length cc] 33)).alloc (.cells dcZ 33):=⟨_,rfl⟩;have HB1:=aA (show BoxAt w1 w0.heap.size 33 #[.int .i64 d.kind,.int .i64 d.level,.string d.name,.slice pt d.type.length ct,.slice pb d.body.length cb,.slice pc d.cons.length cc] by rw[hw1];exact(rA w0 _ _).alloc _);have HB2:=aA (show BoxAt w1 (w0.heap.size+1) 33 dcZ by rw[hw1];have:=rA (w0.alloc (.cells #[.int .i64 d.kind,.int .i64 d.level,.string d.name,.slice pt d.type.length ct,.slice pb d.body.length cb,.slice pc d.cons.length cc] 33)) dcZ 33;simpa using this);have HU:=aA (show Under w0 w1 by rw[hw1];exact bA (bA (Under.refl w0) _) _);have HSz:=aA (show w0.heap.size+2≤w1.heap.size by rw[hw1];simp);rw[← hw1];clear hw1;refine wp_mono (Q:=xEB w0 d.type d.body d.kind d.level d.name (.slice pc d.cons.length cc)) ?_ ?_
 · clear hK; have c3 := HB1.out.cell 3; have c4 := HB1.out.cell 4; have cl := HB1.out.lt; refine wp_region_noPanic ?_; refine wp_region_held_drew (S := fun _ => True) (by kernel_rfl) trivial (fun hHeld => ?_); refine dA 0 rfl ?_; refine dA 3 rfl ?_
   try walk_nrm
   refine oM 1 4 (by kernel_rfl) rfl rfl (fun K hK=>?_) (fun K hK=>?_)
   · go_simp; refine hK.out _ _ trivial (fun _ => ?_); clear hK K hHeld; rename_i hHeld
     try walk_nrm
     refine oM 2 4 (by kernel_rfl) rfl rfl (fun K hK=>?_) (fun K hK=>?_)
     · go_simp; go_at_call 79; refine (HT.out _ (nA HU.out)).mono ?_; rintro e w3 ⟨v3, rfl, hv3, hU3⟩; obtain ⟨q3, k3, rfl, _, _⟩ := RowArg.of_own hv3; have hO3 := wD (base' := w0.heap.size + 2) hv3 (by have := HSz.out; simpa using this); have HU3 := aA ((nA HU.out).trans hU3); have HB3 := aA (HB1.out.under ((nA (Under.refl _)).trans hU3)); have HZ3 := aA (HB2.out.under ((nA (Under.refl _)).trans hU3)); have HO3 := aA hO3; have hS3 : w0.heap.size + 2 ≤ w3.heap.size := Nat.le_trans (by have := HSz.out; simpa using this) hU3.size; clear hv3 hO3 hU3; refine hK.out _ _ trivial (fun _ => ?_); clear hK K hHeld; rename_i hHeld
       try walk_nrm
       have c4:=HB3.out.cell 4;have cl:=HB3.out.lt;refine yA 4 (by kernel_rfl) rfl fun K hK=>?_
       go_simp;refine hK.out _ _ trivial (fun _=>?_);clear hK K hHeld;rename_i hHeld
       try walk_nrm
       clear c3 c4 cl;refine dA 6 rfl ?_
       try walk_nrm
       refine yA 5 (by kernel_rfl) rfl fun K hK=>?_
       go_simp;go_at_call 79;refine(HBd.out _ HU3.out).mono ?_;rintro e w4 ⟨v4,rfl,hv4,hU4⟩;obtain⟨q4,k4,rfl,_,_⟩:=RowArg.of_own hv4;have HO4:=aA (wD (base':=w0.heap.size+2) hv4 hS3);have HB4:=aA (HB3.out.under hU4);have HZ4:=aA (HZ3.out.under hU4);have HP4:=aA (uA HO3.out hU4);have HU4:=aA (HU3.out.trans hU4);clear hv4 hU4;refine hK.out _ _ trivial (fun _=>?_);clear hK K hHeld;rename_i hHeld
       try walk_nrm
       have b3:=HB4.out.cell 3;have bf:=HB4.out.free 3;have bl:=HB4.out.lt;refine yA 7 (by kernel_rfl) rfl fun K hK=>?_
       go_simp;obtain⟨w5,hw5⟩:∃ w5,w5=w4.setCell ⟨w0.heap.size,3,none⟩ (.slice q3 d.type.length k3):=⟨_,rfl⟩;have HB5:=aA (show BoxAt w5 w0.heap.size 33 #[.int .i64 d.kind,.int .i64 d.level,.string d.name,.slice q3 d.type.length k3,.slice pb d.body.length cb,.slice pc d.cons.length cc] by rw[hw5];exact HB4.out.set 3 _);have HZ5:=aA (show BoxAt w5 (w0.heap.size+1) 33 dcZ by rw[hw5];exact HZ4.out.other (by omega) _ _);have HO5:=aA (show w5.ownsRow (w0.heap.size+2) 112 4 (.slice q4 d.body.length k4) d.body.length (wB d.body) by rw[hw5];exact rD HO4.out (oD HB4.out HO4.out (by decide)) _ _);have HP5:=aA (show w5.ownsRow (w0.heap.size+2) 112 4 (.slice q3 d.type.length k3) d.type.length (wB d.type) by rw[hw5];exact rD HP4.out (oD HB4.out HP4.out (by decide)) _ _);have HU5:=aA (show Under w0 w5 by rw[hw5];exact bC HU4.out (Nat.le_refl _) _ _);rw[← hw5];clear hw5 b3 bf bl;refine hK.out _ _ trivial (fun _=>?_);clear hK K hHeld;rename_i hHeld
       try walk_nrm
       refine dA 8 rfl ?_
       try walk_nrm
       have b3:=HB5.out.cell 4;have bf:=HB5.out.free 4;have bl:=HB5.out.lt;refine yA 9 (by kernel_rfl) rfl fun K hK=>?_
       go_simp;refine hK.out _ _ trivial (fun _=>?_);clear hK K hHeld;rename_i hHeld
       try walk_nrm
       refine wpAnyH_done (by kernel_rfl) ?_ _;refine NoPanic.normal ?_;exact⟨rfl,.slice q3 d.type.length k3,.slice q4 d.body.length k4,⟨_,nD (F:=g4A w0.heap.size (w0.heap.size+1)) (by rfl)⟩,HB5.out.set 4 _,HZ5.out.other (by omega) _ _,rD HP5.out (oD HB5.out HP5.out (by decide)) _ _,rD HO5.out (oD HB5.out HO5.out (by decide)) _ _,bC HU5.out (Nat.le_refl _) _ _⟩
     · go_simp; refine hK.out _ _ trivial (fun _ => ?_); clear hK K hHeld; rename_i hHeld
       try walk_nrm
       refine yA 2 (by kernel_rfl) rfl fun K hK=>?_
       clear c3 c4 cl;go_simp;go_at_call 79;refine(HT.out _ (nA HU.out)).mono ?_;rintro e w3 ⟨v3,rfl,hv3,hU3⟩;obtain⟨q3,k3,rfl,_,_⟩:=RowArg.of_own hv3;have hO3:=wD (base':=w0.heap.size+2) hv3 (by have:=HSz.out;simpa using this);have HU3:=aA ((nA HU.out).trans hU3);have HB3:=aA (HB1.out.under ((nA (Under.refl _)).trans hU3));have HZ3:=aA (HB2.out.under ((nA (Under.refl _)).trans hU3));have HO3:=aA hO3;have hS3:w0.heap.size+2≤w3.heap.size:=Nat.le_trans (by have:=HSz.out;simpa using this) hU3.size;clear hv3 hO3 hU3;refine hK.out _ _ trivial (fun _=>?_);clear hK K hHeld;rename_i hHeld
       try walk_nrm
       refine dA 6 rfl ?_
       try walk_nrm
       refine yA 5 (by kernel_rfl) rfl fun K hK=>?_
       go_simp;go_at_call 79;refine(HBd.out _ HU3.out).mono ?_;rintro e w4 ⟨v4,rfl,hv4,hU4⟩;obtain⟨q4,k4,rfl,_,_⟩:=RowArg.of_own hv4;have HO4:=aA (wD (base':=w0.heap.size+2) hv4 hS3);have HB4:=aA (HB3.out.under hU4);have HZ4:=aA (HZ3.out.under hU4);have HP4:=aA (uA HO3.out hU4);have HU4:=aA (HU3.out.trans hU4);clear hv4 hU4;refine hK.out _ _ trivial (fun _=>?_);clear hK K hHeld;rename_i hHeld
       try walk_nrm
       have b3:=HB4.out.cell 3;have bf:=HB4.out.free 3;have bl:=HB4.out.lt;refine yA 7 (by kernel_rfl) rfl fun K hK=>?_
       go_simp;obtain⟨w5,hw5⟩:∃ w5,w5=w4.setCell ⟨w0.heap.size,3,none⟩ (.slice q3 d.type.length k3):=⟨_,rfl⟩;have HB5:=aA (show BoxAt w5 w0.heap.size 33 #[.int .i64 d.kind,.int .i64 d.level,.string d.name,.slice q3 d.type.length k3,.slice pb d.body.length cb,.slice pc d.cons.length cc] by rw[hw5];exact HB4.out.set 3 _);have HZ5:=aA (show BoxAt w5 (w0.heap.size+1) 33 dcZ by rw[hw5];exact HZ4.out.other (by omega) _ _);have HO5:=aA (show w5.ownsRow (w0.heap.size+2) 112 4 (.slice q4 d.body.length k4) d.body.length (wB d.body) by rw[hw5];exact rD HO4.out (oD HB4.out HO4.out (by decide)) _ _);have HP5:=aA (show w5.ownsRow (w0.heap.size+2) 112 4 (.slice q3 d.type.length k3) d.type.length (wB d.type) by rw[hw5];exact rD HP4.out (oD HB4.out HP4.out (by decide)) _ _);have HU5:=aA (show Under w0 w5 by rw[hw5];exact bC HU4.out (Nat.le_refl _) _ _);rw[← hw5];clear hw5 b3 bf bl;refine hK.out _ _ trivial (fun _=>?_);clear hK K hHeld;rename_i hHeld
       try walk_nrm
       refine dA 8 rfl ?_
       try walk_nrm
       have b3:=HB5.out.cell 4;have bf:=HB5.out.free 4;have bl:=HB5.out.lt;refine yA 9 (by kernel_rfl) rfl fun K hK=>?_
       go_simp;refine hK.out _ _ trivial (fun _=>?_);clear hK K hHeld;rename_i hHeld
       try walk_nrm
       refine wpAnyH_done (by kernel_rfl) ?_ _;refine NoPanic.normal ?_;exact⟨rfl,.slice q3 d.type.length k3,.slice q4 d.body.length k4,⟨_,nD (F:=g4A w0.heap.size (w0.heap.size+1)) (by rfl)⟩,HB5.out.set 4 _,HZ5.out.other (by omega) _ _,rD HP5.out (oD HB5.out HP5.out (by decide)) _ _,rD HO5.out (oD HB5.out HO5.out (by decide)) _ _,bC HU5.out (Nat.le_refl _) _ _⟩
   · go_simp; refine hK.out _ _ trivial (fun _ => ?_); clear hK K hHeld; rename_i hHeld
     try walk_nrm
     refine yA 1 (by kernel_rfl) rfl fun K hK=>?_
     go_simp;refine hK.out _ _ trivial (fun _=>?_);clear hK K hHeld;rename_i hHeld
     try walk_nrm
     clear c3 c4 cl;refine yA 2 (by kernel_rfl) rfl fun K hK=>?_
     go_simp;go_at_call 79;refine(HT.out _ (nA HU.out)).mono ?_;rintro e w3 ⟨v3,rfl,hv3,hU3⟩;obtain⟨q3,k3,rfl,_,_⟩:=RowArg.of_own hv3;have hO3:=wD (base':=w0.heap.size+2) hv3 (by have:=HSz.out;simpa using this);have HU3:=aA ((nA HU.out).trans hU3);have HB3:=aA (HB1.out.under ((nA (Under.refl _)).trans hU3));have HZ3:=aA (HB2.out.under ((nA (Under.refl _)).trans hU3));have HO3:=aA hO3;have hS3:w0.heap.size+2≤w3.heap.size:=Nat.le_trans (by have:=HSz.out;simpa using this) hU3.size;clear hv3 hO3 hU3;refine hK.out _ _ trivial (fun _=>?_);clear hK K hHeld;rename_i hHeld
     try walk_nrm
     refine dA 6 rfl ?_
     try walk_nrm
     refine yA 5 (by kernel_rfl) rfl fun K hK=>?_
     go_simp;go_at_call 79;refine(HBd.out _ HU3.out).mono ?_;rintro e w4 ⟨v4,rfl,hv4,hU4⟩;obtain⟨q4,k4,rfl,_,_⟩:=RowArg.of_own hv4;have HO4:=aA (wD (base':=w0.heap.size+2) hv4 hS3);have HB4:=aA (HB3.out.under hU4);have HZ4:=aA (HZ3.out.under hU4);have HP4:=aA (uA HO3.out hU4);have HU4:=aA (HU3.out.trans hU4);clear hv4 hU4;refine hK.out _ _ trivial (fun _=>?_);clear hK K hHeld;rename_i hHeld
     try walk_nrm
     have b3:=HB4.out.cell 3;have bf:=HB4.out.free 3;have bl:=HB4.out.lt;refine yA 7 (by kernel_rfl) rfl fun K hK=>?_
     go_simp;obtain⟨w5,hw5⟩:∃ w5,w5=w4.setCell ⟨w0.heap.size,3,none⟩ (.slice q3 d.type.length k3):=⟨_,rfl⟩;have HB5:=aA (show BoxAt w5 w0.heap.size 33 #[.int .i64 d.kind,.int .i64 d.level,.string d.name,.slice q3 d.type.length k3,.slice pb d.body.length cb,.slice pc d.cons.length cc] by rw[hw5];exact HB4.out.set 3 _);have HZ5:=aA (show BoxAt w5 (w0.heap.size+1) 33 dcZ by rw[hw5];exact HZ4.out.other (by omega) _ _);have HO5:=aA (show w5.ownsRow (w0.heap.size+2) 112 4 (.slice q4 d.body.length k4) d.body.length (wB d.body) by rw[hw5];exact rD HO4.out (oD HB4.out HO4.out (by decide)) _ _);have HP5:=aA (show w5.ownsRow (w0.heap.size+2) 112 4 (.slice q3 d.type.length k3) d.type.length (wB d.type) by rw[hw5];exact rD HP4.out (oD HB4.out HP4.out (by decide)) _ _);have HU5:=aA (show Under w0 w5 by rw[hw5];exact bC HU4.out (Nat.le_refl _) _ _);rw[← hw5];clear hw5 b3 bf bl;refine hK.out _ _ trivial (fun _=>?_);clear hK K hHeld;rename_i hHeld
     try walk_nrm
     refine dA 8 rfl ?_
     try walk_nrm
     have b3:=HB5.out.cell 4;have bf:=HB5.out.free 4;have bl:=HB5.out.lt;refine yA 9 (by kernel_rfl) rfl fun K hK=>?_
     go_simp;refine hK.out _ _ trivial (fun _=>?_);clear hK K hHeld;rename_i hHeld
     try walk_nrm
     refine wpAnyH_done (by kernel_rfl) ?_ _;refine NoPanic.normal ?_;exact⟨rfl,.slice q3 d.type.length k3,.slice q4 d.body.length k4,⟨_,nD (F:=g4A w0.heap.size (w0.heap.size+1)) (by rfl)⟩,HB5.out.set 4 _,HZ5.out.other (by omega) _ _,rD HP5.out (oD HB5.out HP5.out (by decide)) _ _,rD HO5.out (oD HB5.out HO5.out (by decide)) _ _,bC HU5.out (Nat.le_refl _) _ _⟩
 rintro e a' w2 ⟨rfl,ut,ub,⟨J,rfl⟩,hB,hZ,hO,hP,hU2⟩;have HB:=aA hB;have HZ:=aA hZ;have HO:=aA hO;have HP:=aA hP;have HU:=aA hU2;clear hB hZ hO hP hU2 HB1 HB2 HT HBd;simp only[Exit.then];refine hK _ _ ?_;clear hK K;have HS2:=aA (show w0.heap.size+2≤w2.heap.size from by have:=HZ.out.lt;omega);have c5:=HB.out.cell 5;have cl:=HB.out.lt;have hn9:(d.cons.length:Int)≤5864062014634:=by have:=HD.out.cons;omega
 have hn0:(0:Int)≤(d.cons.length:Int):=by omega
 unfold g4A;go_wp2;go_loopw [3,20] (fun va i wr=>CoR (w0.heap.size+2) w2 d.cons va i wr) (fun _ i _=>d.cons.length - (intOf i).toNat)
 case atStart=>exact⟨0,[],Nat.zero_le _,rfl,World.ownsRow_nil _ _ _ _,by simpa using Zip.nil _,Under.refl _⟩
 case round =>
   obtain⟨k,us,hk,rfl,hown,hz,hU⟩:=hrel;have HO2:=aA hown;have HZ2:=aA hz;have HUr:=aA hU;have hk0:(0:Int)≤(k:Int):=by omega
   clear hown hz hU;by_cases hlt:k < d.cons.length
   · obtain ⟨u, hu, hcv⟩ := HZc.out.at (List.getElem?_eq_getElem hlt); obtain ⟨b, off, rfl, hb, hcs⟩ := HRc.out (fun e => by rw [e] at hu; simp at hu); have cc := hcs k _ hu; rw [← fA (HU.out.trans HUr.out) hb] at cc; have hb' := Nat.lt_of_lt_of_le hb (HU.out.trans HUr.out).size; obtain ⟨q, cq, ws, rfl, hq1, hq2, hq3, hq4⟩ := hcv; have HQ3 := aA hq3; have HQ4 := aA hq4; obtain ⟨hm, htl⟩ := HD.out.con _ (List.getElem_mem hlt); have HTl := aA htl; have HTk := aA (show d.cons.take (k + 1) = d.cons.take k ++ [d.cons[k]] from List.take_succ_eq_append_getElem hlt); clear hcs hu hq1 hq2 hq3 hq4 htl; generalize d.cons[k] = c at *; have hm0 : (0 : Int) ≤ (c.length : Int) := by omega
     have hm9:(c.length:Int)≤5864062014634:=by omega
     have hlt':(k:Int) < (d.cons.length:Int):=by omega
     go_wp2;generalize wr=wo at *;go_loopw [6,26] (fun va i w3=>CaR (w0.heap.size+2) wo c va i w3) (fun _ i _=>c.length - (intOf i).toNat)
     case atStart=>exact⟨0,[],Nat.zero_le _,rfl,World.ownsRow_nil _ _ _ _,by simpa using Zip.nil _,Under.refl _⟩
     case round =>
       obtain⟨k2,us2,hk2,rfl,hown2,hz2,hU2⟩:=hrel;have HO3:=aA hown2;have HZ3:=aA hz2;have HU3:=aA hU2;have hk20:(0:Int)≤(k2:Int):=by omega
       by_cases hlt2:k2 < c.length
       · obtain ⟨u2, hu2, htv⟩ := HQ4.out.at (List.getElem?_eq_getElem hlt2); obtain ⟨b2, off2, rfl, hb2, hcs2⟩ := HQ3.out (fun e => by rw [e] at hu2; simp at hu2); have cc2 := hcs2 k2 _ hu2; have hUall := (HU.out.trans HUr.out).trans HU3.out; rw [← fA hUall hb2] at cc2; have hb2' := Nat.lt_of_lt_of_le hb2 hUall.size; have hsz : w0.heap.size + 2 ≤ wr.heap.size := Nat.le_trans HS2.out (Nat.le_trans HUr.out.size HU3.out.size); have HC := aA (nY (w0 := wr) c[k2] (HTl.out _ (List.getElem_mem hlt2)) (TermV.mono _ _ _ _ hUall htv)); obtain ⟨pt2, ct2, rfl, _⟩ := htv; have HTk2 := aA (show c.take (k2 + 1) = c.take k2 ++ [c[k2]] from List.take_succ_eq_append_getElem hlt2); have hlt2' : (k2 : Int) < (c.length : Int) := by omega
         have HSz:=aA (And.intro hsz HU3.out.size);clear hcs2 hu2 hUall hsz hU2 hown2 hz2;generalize c[k2]=t2 at *;go_wp2_with fail;refine HC.out.mono ?_;rintro e w4 ⟨v4,rfl,hO4,hU4⟩;have HO4:=aA (show Ow1 (w0.heap.size+2) w4 v4 t2 from wD (base':=w0.heap.size+2) hO4 HSz.out.1);obtain⟨q4,k4,rfl,_,_⟩:=RowArg.of_own hO4;have HO3:=aA (uA HO3.out hU4);have HZ3:=aA (HZ3.out.mono fun v x h=>h.under hU4);have HU4:=aA (HU3.out.trans hU4);clear hO4 hU4 HC cc2 hb2';go_wp2_with (at_builtin;refine nE rfl _ _ 96 rfl wo.heap.size 30 i0 _ 1 24 Tryz.underlying96 hi hz0 hz1 hz2 rfl (by decide) _ _ _ rfl (HO3.out.alloc _) _ 1 1 [.slice q4 t2.length k4] rfl rfl (Nat.le_refl _) (fun h=>by cases h) (cO w4 [.slice q4 t2.length k4] _ _) (fun u hu=>by simp at hu;subst hu;rfl) (by simp only[maxLen];omega) (by omega) (by have:=HU4.out.size;simp;omega) ?_);intro v5 w5 hown hgrow;have HO5:=aA hown;have HU5:=aA (xA (bA HU4.out _) hgrow fun g e=>(jB HO3.out e).1);have HZ5:=aA ((HZ3.out.mono fun v x h=>(h.under (bA (Under.refl _) _)).grown (HO3.out.alloc _) hgrow (by decide)).app (Zip.one ((HO4.out.under (bA (Under.refl _) _)).grown (HO3.out.alloc _) hgrow (by decide))));clear hown hgrow;go_wp2;go_roundw
         case rel=>exact⟨k2+1,us2++[_],by omega,by go_num,HO5.out,by rw[HTk2.out];exact HZ5.out,HU5.out⟩
         case measure=>simp[intOf];omega
       · obtain rfl : k2 = c.length := by omega
         have hz3:=HZ3.out;rw[List.take_length]at hz3;have HR2:=aA (show Ow2 (w0.heap.size+2) wr _ c from⟨us2,wD HO3.out (Nat.le_trans HS2.out HUr.out.size),hz3⟩);obtain⟨q6,k6,rfl,_,_⟩:=RowArg.of_own HO3.out;have HO2:=aA (uA HO2.out HU3.out);have HZ2:=aA (HZ2.out.mono fun v x h=>h.under HU3.out);have HU4:=aA (HUr.out.trans HU3.out);clear hz3 HZ3 HO3 hown2 hz2 hU2;go_wp2_with (at_builtin;refine nE rfl _ _ 31 rfl w2.heap.size 96 j0 _ 1 24 Tryz.underlying31 hj hy0 hy1 hy2 rfl (by decide) _ _ _ rfl (HO2.out.alloc _) _ 1 1 [.slice q6 c.length k6] rfl rfl (Nat.le_refl _) (fun h=>by cases h) (cO wr [.slice q6 c.length k6] _ _) (fun u hu=>by simp at hu;subst hu;rfl) (by simp only[maxLen];omega) (by omega) (by have:=HU4.out.size;simp;omega) ?_);intro v5 w5 hown hgrow;have HO5:=aA hown;have HU5:=aA (xA (bA HU4.out _) hgrow fun g e=>(jB HO2.out e).1);have HZ5:=aA ((HZ2.out.mono fun v x h=>(h.under (bA (Under.refl _) _)).grown (HO2.out.alloc _) hgrow (by decide) (by decide)).app (Zip.one ((HR2.out.under (bA (Under.refl _) _)).grown (HO2.out.alloc _) hgrow (by decide) (by decide))));clear hown hgrow;go_wp2;go_roundw
         case rel=>exact⟨k+1,us++[_],by omega,by go_num,HO5.out,by rw[HTk.out];exact HZ5.out,HU5.out⟩
         case measure=>simp[intOf];omega
   · obtain rfl : k = d.cons.length := by omega
     have hz2:=HZ2.out;rw[List.take_length]at hz2;have HZ2:=aA hz2;obtain⟨q6,k6,rfl,_,_⟩:=RowArg.of_own HO2.out;obtain⟨q3,k3,rfl,_,_⟩:=RowArg.of_own HO.out;obtain⟨q4,k4,rfl,_,_⟩:=RowArg.of_own HP.out;have HB:=aA (HB.out.under HUr.out);have HZb:=aA (HZ.out.under HUr.out);have c0:=HB.out.cell 0;have c1:=HB.out.cell 1;have c2:=HB.out.cell 2;have c3:=HB.out.cell 3;have c4:=HB.out.cell 4;have c5:=HB.out.cell 5;have f5:=HB.out.free 5;have cl:=HB.out.lt;have d0:=HZb.out.cell 0;have d1:=HZb.out.cell 1;have d2:=HZb.out.cell 2;have d3:=HZb.out.cell 3;have d4:=HZb.out.cell 4;have d5:=HZb.out.cell 5;have g0:=HZb.out.free 0;have g1:=HZb.out.free 1;have g2:=HZb.out.free 2;have g3:=HZb.out.free 3;have g4:=HZb.out.free 4;have g5:=HZb.out.free 5;have dl:=HZb.out.lt;clear hz2;go_wp2;clear c0 c1 c2 c3 c4 c5 d0 d1 d2 d3 d4 d5 f5 g0 g1 g2 g3 g4 g5 hi hj hz0 hz1 hz2 hy0 hy1 hy2;obtain⟨wf,hwf⟩:∃ wf,wf=((((((wr.setCell ⟨w0.heap.size,5,none⟩ (.slice q6 d.cons.length k6)).setCell ⟨w0.heap.size+1,0,none⟩ (.int .i64 d.kind)).setCell ⟨w0.heap.size+1,1,none⟩ (.int .i64 d.level)).setCell ⟨w0.heap.size+1,2,none⟩ (.string d.name)).setCell ⟨w0.heap.size+1,3,none⟩ (.slice q3 d.type.length k3)).setCell ⟨w0.heap.size+1,4,none⟩ (.slice q4 d.body.length k4)).setCell ⟨w0.heap.size+1,5,none⟩ (.slice q6 d.cons.length k6):=⟨_,rfl⟩;have HF:=aA (show BoxAt wf (w0.heap.size+1) 33 #[.int .i64 d.kind,.int .i64 d.level,.string d.name,.slice q3 d.type.length k3,.slice q4 d.body.length k4,.slice q6 d.cons.length k6] by rw[hwf];exact((((((HZb.out.other (by omega) _ _).set 0 _).set 1 _).set 2 _).set 3 _).set 4 _).set 5 _);have HC:=aA (show Ch (fun b=>b=w0.heap.size∨b=w0.heap.size+1) wr wf by rw[hwf];exact(((((((Ch.refl wr).set (fun _=>.inl rfl) _ _).set (fun _=>.inr rfl) _ _).set (fun _=>.inr rfl) _ _).set (fun _=>.inr rfl) _ _).set (fun _=>.inr rfl) _ _).set (fun _=>.inr rfl) _ _).set (fun _=>.inr rfl) _ _);rw[← hwf];clear hwf;have e0:=HF.out.cell 0;have e1:=HF.out.cell 1;have e2:=HF.out.cell 2;have e3:=HF.out.cell 3;have e4:=HF.out.cell 4;have e5:=HF.out.cell 5;have hlow:∀ b,(b=w0.heap.size∨b=w0.heap.size+1)→b < w0.heap.size+2:=fun b hb=>by omega
     refine bodyPost_ret (v:=.agg #[.int .i64 d.kind,.int .i64 d.level,.string d.name,.slice q3 d.type.length k3,.slice q4 d.body.length k4,.slice q6 d.cons.length k6]) ((mX rfl _ _ _).trans (by simp[go_sem,e0,e1,e2,e3,e4,e5])) rfl ⟨_,rfl,⟨_,_,_,rfl,?_,?_,?_⟩,jC (HU.out.trans HUr.out) HC.out fun b hb=>by omega⟩
     · exact((Ow1.under (show Ow1 _ w2 _ _ from HO.out) HUr.out).ch HC.out hlow).base (by omega)
     · exact((Ow1.under (show Ow1 _ w2 _ _ from HP.out) HUr.out).ch HC.out hlow).base (by omega)
     · exact Ow3.base (B:=w0.heap.size+2) ⟨_,xJ (wD HO2.out HS2.out) HC.out fun g hg hc=>by have:=(jB HO2.out hg).1;have:=HS2.out;have:=hlow g hc;omega,HZ2.out.mono fun v x h=>h.ch HC.out hlow⟩ (by omega)
end
end Go.Proofs.YtggjbblgoddnjaaGreatDoor
namespace Go.Proofs.YtggjbblgoddnjaaGreatDoor
open Go.ChangeShapes Go.WideShapes Go.ChangeAt Go.WideMaps Go.WideElems Go.RowKit Go.Lx Go.Deep Go.Conc
theorem mCA{H:Type}{P:Program}{ts:List TypeId}{ds:List (DataW H)}(h:(DataW.weightsEach P ts ds).all (· ≤ reachBytes)=true){j:Nat}{t:TypeId}{d:DataW H}(ht:ts[j]? = some t)(hd:ds[j]? = some d):Go.Lx.Reach P t d :=
 fun n hn=>of_decide_eq_true (List.all_eq_true.1 h n (DataW.weights_mem_each ht hd n hn))
section
variable {H : Type} {enc : TypeId × Value → H} {w : World} {spare : Nat → Bool} {held : Bool} {fuel : Nat} {cs : List Value} {x : DataW H × List MemPlace}
theorem nVA(h:DataW.trod enc Tryz.prog w 0 spare held fuel 30 cs=some x)(hz:Go.Lx.Reach Tryz.prog 30 x.1):∃ v l,cs=[v]∧TermV w v l∧gQ l :=
 zIA Tryz.underlying30 Tryz.underlying112 (by kernel_rfl) (by kernel_rfl) (by rw[show Tryz.prog.bytesOf 112=40 by kernel_rfl];decide) Tryz.underlying3 Tryz.underlying3 Tryz.underlying3 Tryz.underlying9 h hz
theorem aCB(h:DataW.trod enc Tryz.prog w 0 spare held fuel 31 cs=some x)(hz:Go.Lx.Reach Tryz.prog 31 x.1):∃ v l,cs=[v]∧ConsV w v l∧l.length≤5864062014634∧∀ c∈l,c.length≤5864062014634∧∀ t∈c,gQ t :=
 wIA (e3:=112) Tryz.underlying31 (by kernel_rfl) (by kernel_rfl) Tryz.underlying96 (by kernel_rfl) (by kernel_rfl) (fun _ _ _ h hz=>nVA h hz) h hz
theorem cUA(hcl:cs.length=6)(h:DataW.trod enc Tryz.prog w 0 spare held fuel 33 cs=some x)(hz:Go.Lx.Reach Tryz.prog 33 x.1):∃ d,DcRow w cs d∧SzD d :=
 eJA Tryz.underlying33 (by kernel_rfl) Tryz.underlying3 Tryz.underlying3 Tryz.underlying9 (fun _ _ _ h hz=>nVA h hz) (fun _ _ _ h hz=>nVA h hz) (fun _ _ _ h hz=>aCB h hz) hcl h hz
end
end Go.Proofs.YtggjbblgoddnjaaGreatDoor
namespace Go.Proofs.YtggjbblgoddnjaaGreatDoor
open Go.Lx Go.RowKit
abbrev Left:=Option (List UInt8)
def takeB (n : Nat) : Left → List UInt8 × Left
  | none=>([],none)
  | some s=>if n≤s.length then(s.take n,some (s.drop n)) else([],none)
def zF : Left → Int
  | none => -1
  | some s=>s.length
def zZ : List UInt8 → Nat
  | []=>0
  | b::l=>b.toNat+256 * zZ l
theorem bits_nat(x y:Nat)(hx:x < 2 ^ 32)(hy:y < 2 ^ 32):bits BinOp.or IntKind.i64 (x:Int) (y:Int)=((x ||| y:Nat):Int):=by
 have hb:IntKind.i64.bits=64:=rfl;have h:x ||| y < 2 ^ 32:=Nat.or_lt_two_pow hx hy
 simp only[bits,hb,BitVec.ofInt_natCast,BitVec.toNat_or,BitVec.toNat_ofNat];rw[Nat.mod_eq_of_lt (by omega),Nat.mod_eq_of_lt (by omega),IntKind.wrap_i64];omega
theorem t7A(n:Int)(h : -9223372036854775808≤n∧n≤9223372036854775807):wrap64 n=n:=by unfold wrap64;omega
theorem or_one(a:UInt8):bits BinOp.or IntKind.i64 0 (wrap64 (wrap64 (a.toNat:Int)))=a.toNat:=by
 have:=a.toNat_lt;rw[t7A (a.toNat:Int) (by omega),t7A _ (by omega)];have:=bits_nat 0 a.toNat (by omega) (by omega)
 simpa using this
theorem rBB(a b:UInt8):bits BinOp.or IntKind.i64 (a.toNat:Int) (wrap64 (wrap64 (b.toNat:Int) * 256))=a.toNat+256 * b.toNat:=by
 have ha:=a.toNat_lt;have hb:=b.toNat_lt;rw[t7A (b.toNat:Int) (by omega),t7A _ (by omega)];have h:=bits_nat a.toNat (2 ^ 8 * b.toNat) (by omega) (by omega);rw[Nat.or_comm,← Nat.two_pow_add_eq_or_of_lt (i:=8) (by omega)]at h;have e:((2 ^ 8 * b.toNat:Nat):Int)=(b.toNat:Int) * 256:=by omega
 rw[e]at h;rw[h];omega
theorem bOA(s:ByteArray)(n:Nat):s.extract 0 n=⟨(s.data.toList.take n).toArray⟩:=by
 apply ByteArray.ext;apply Array.ext';rw[ByteArray.data_extract,Array.toList_extract,List.extract_eq_take_drop];rfl
theorem aPA(s:ByteArray)(n:Nat):(s.extract n s.size).data.toList=s.data.toList.drop n:=by
 rw[ByteArray.data_extract,Array.toList_extract,List.extract_eq_take_drop];refine List.take_of_length_le ?_;rw[List.length_drop];exact Nat.le_refl _
theorem ext_size(s:ByteArray)(n:Nat):(s.extract n s.size).size=s.size - n:=by
 have:=congrArg List.length (aPA s n);rw[List.length_drop]at this;exact this
section
variable {w0 : World}
theorem k3A(u:ByteArray)(hu:u.size≤2):Calls Tryz.prog 123 #[.string u] w0 fun e w=>e = .returned (.int .i64 (zZ u.data.toList:Nat))∧w=w0:=by
 obtain⟨⟨l⟩⟩:=u;have hl:l.length≤2:=hu;have hs:(⟨⟨l⟩⟩:ByteArray).size=l.length:=rfl;clear hu;go_enter Tryz.func123,Tryz.ntmps123
 match l,hl with
 | [], _ =>
   go_wp2;go_loopw [3,7] (fun n i wr=>n = .int .i64 0∧i = .int .i64 0∧w0=wr) (fun _ i _=>0)
   case atStart=>exact⟨rfl,rfl,rfl⟩
   case round =>
     obtain⟨rfl,rfl,rfl⟩:=hrel;go_wp2;go_ret;exact⟨rfl,rfl⟩
 | [a], _ =>
   go_wp2;go_loopw [3,7] (fun n i wr=>((n = .int .i64 0∧i = .int .i64 0)∨(n = .int .i64 a.toNat∧i = .int .i64 1))∧w0=wr) (fun _ i _=>1 - (intOf i).toNat)
   case atStart=>exact⟨.inl ⟨rfl,rfl⟩,rfl⟩
   case round =>
     obtain⟨⟨rfl,rfl⟩ | ⟨rfl,rfl⟩,rfl⟩:=hrel
     · go_wp2; go_roundw
       case rel=>exact⟨.inr ⟨congrArg _ (or_one a),rfl⟩,trivial⟩
       case measure=>simp[intOf]
     · go_wp2;go_ret;exact⟨by simp[zZ],rfl⟩
 | [a, b], _ =>
   go_wp2;go_loopw [3,7] (fun n i wr=>((n = .int .i64 0∧i = .int .i64 0)∨(n = .int .i64 a.toNat∧i = .int .i64 1)∨(n = .int .i64 (a.toNat+256 * b.toNat)∧i = .int .i64 2))∧w0=wr) (fun _ i _=>2 - (intOf i).toNat)
   case atStart=>exact⟨.inl ⟨rfl,rfl⟩,rfl⟩
   case round =>
     obtain⟨⟨rfl,rfl⟩ | ⟨rfl,rfl⟩ | ⟨rfl,rfl⟩,rfl⟩:=hrel
     · go_wp2; go_roundw
       case rel=>exact⟨.inr (.inl ⟨congrArg _ (or_one a),rfl⟩),trivial⟩
       case measure=>simp[intOf]
     · go_wp2; go_roundw
       case rel=>exact⟨.inr (.inr ⟨congrArg _ (rBB a b),rfl⟩),trivial⟩
       case measure=>simp[intOf]
     · go_wp2;go_ret;exact⟨by simp[zZ],rfl⟩
structure TkAt (W:World) (ob sb:Nat) (st:Left) (w:World):Prop where
 ok:BoxAt w ob 4 #[.bool st.isSome]
 txt:∃ s:ByteArray,s.size≤1000000∧BoxAt w sb 9 #[.string s]∧∀ r,st=some r→s.data.toList=r
 ne:ob≠sb
 und:Under W w
 lo:W.heap.size≤ob
 hi:W.heap.size≤sb
theorem TkAt.under{W w w':World}{ob sb:Nat}{st:Left}(h:TkAt W ob sb st w)(hU:Under w w'):TkAt W ob sb st w':=by
 obtain⟨s,h1,h2,h3⟩:=h.txt;exact⟨h.ok.under hU,⟨s,h1,h2.under hU,h3⟩,h.ne,h.und.trans hU,h.lo,h.hi⟩
theorem TkAt.fail{W w:World}{ob sb:Nat}{st:Left}(h:TkAt W ob sb st w):TkAt W ob sb none (w.setCell ⟨ob,0,none⟩ (.bool false)):=by
 obtain⟨s,h1,h2,h3⟩:=h.txt;exact⟨h.ok.set 0 _,⟨s,h1,h2.other (fun e=>h.ne e.symm) 0 _,fun r hr=>by cases hr⟩,h.ne,bC h.und h.lo _ _,h.lo,h.hi⟩
theorem TkAt.took{W w:World}{ob sb:Nat}{st:Left}(h:TkAt W ob sb st w)(s':ByteArray)(hs:s'.size≤1000000):TkAt W ob sb (some s'.data.toList) ((w.setCell ⟨ob,0,none⟩ (.bool true)).setCell ⟨sb,0,none⟩ (.string s')):=by
 obtain⟨s,h1,h2,h3⟩:=h.txt;exact⟨(h.ok.set 0 _).other h.ne 0 _,⟨s',hs,(h2.other (fun e=>h.ne e.symm) 0 _).set 0 _,fun r hr=>by cases hr;rfl⟩,h.ne,bC (bC h.und h.lo _ _) h.hi _ _,h.lo,h.hi⟩
def TkC(ob sb:Nat)(b:Nat):Prop:=b=ob∨b=sb
theorem xJA(s:ByteArray)(hs:s.size≤1000000):Calls Tryz.prog 122 #[.string s] w0 fun e w=>e = .returned (.tuple #[.func (.func 147) #[] #[.pointer (some ⟨w0.heap.size+1,0,none⟩),.pointer (some ⟨w0.heap.size,0,none⟩)],.func (.func 148) #[] #[.pointer (some ⟨w0.heap.size+1,0,none⟩),.pointer (some ⟨w0.heap.size,0,none⟩)]])∧TkAt w0 (w0.heap.size+1) w0.heap.size (some s.data.toList) w:=by
 have HS:=aA hs;clear hs;go_enter Tryz.func122,Tryz.ntmps122;go_wp2;go_ret2;have h1:=rA (w0.alloc (.cells #[.string s] 9)) #[.bool true] 4;have hz:(w0.alloc (.cells #[.string s] 9)).heap.size=w0.heap.size+1:=by simp
 rw[hz]at h1;exact⟨rfl,h1,⟨s,HS.out,(rA w0 _ _).alloc _,fun r hr=>by cases hr;rfl⟩,by omega,bA (bA (Under.refl _) _) _,by omega,Nat.le_refl _⟩
theorem zV{W w:World}{ob sb:Nat}{st:Left}(h:TkAt W ob sb st w):Calls Tryz.prog 148 #[.pointer (some ⟨ob,0,none⟩),.pointer (some ⟨sb,0,none⟩)] w fun e w'=>e = .returned (.int .i64 (zF st))∧w'=w:=by
 obtain⟨s,h1,h2,h3⟩:=h.txt;have o0:=h.ok.cell 0;have ol:=h.ok.lt;have s0:=h2.cell 0;have sl:=h2.lt
 cases st with
 | none =>
   go_enter Tryz.func148,Tryz.ntmps148;go_wp2;go_ret;exact⟨rfl,rfl⟩
 | some r =>
   have hl:zF (some r)=(s.size:Int):=by rw[← h3 r rfl];rfl
   have HL:=aA hl;clear hl h3;go_enter Tryz.func148,Tryz.ntmps148;go_wp2;go_ret;exact⟨by rw[HL.out];rfl,rfl⟩
theorem t3A{W w:World}{ob sb:Nat}{st:Left}(n:Nat)(hn:n≤1000000)(h:TkAt W ob sb st w):Calls Tryz.prog 147 #[.int .i64 n,.pointer (some ⟨ob,0,none⟩),.pointer (some ⟨sb,0,none⟩)] w fun e w'=>e = .returned (.string ⟨(takeB n st).1.toArray⟩)∧TkAt W ob sb (takeB n st).2 w'∧Ch (TkC ob sb) w w':=by
 obtain⟨s,h1,h2,h3⟩:=h.txt;have o0:=h.ok.cell 0;have ol:=h.ok.lt;have of:=h.ok.free 0;have s0:=h2.cell 0;have sl:=h2.lt;have sf:=h2.free 0;have hne:=h.ne;have HT:=aA h
 cases st with
 | none =>
   clear h h2 h3;go_enter Tryz.func147,Tryz.ntmps147;go_wp2;go_ret;exact⟨rfl,HT.out.fail,(Ch.refl _).set (fun _=>.inl rfl) _ _⟩
 | some r =>
   have hr:=h3 r rfl;have hsz:s.size=r.length:=by rw[← hr];rfl
   by_cases hle:n≤r.length
   · have hle' : (n : Int) ≤ (s.size : Int) := by omega
     have hn0:(0:Int)≤(n:Int):=by omega
     have HR:=aA (And.intro hr (And.intro hsz hle));clear h h2 h3 hr hsz hle hn;go_enter Tryz.func147,Tryz.ntmps147;go_wp2;go_ret;rw[show takeB n (some r)=(r.take n,some (r.drop n)) by simp only[takeB,if_pos HR.out.2.2]];have hx:=HT.out.took (s.extract n s.size) (by rw[ext_size];omega);rw[(aPA s n).trans (by rw[HR.out.1])]at hx;refine⟨?_,hx,((Ch.refl _).set (fun _=>.inl rfl) _ _).set (fun _=>.inr rfl) _ _⟩;rw[← HR.out.1,← bOA];rfl
   · have hle' : ¬ (n : Int) ≤ (s.size : Int) := by omega
     have HR:=aA (show takeB n (some r)=([],none) by simp only[takeB,if_neg hle]);clear h h2 h3 hr hsz hle;go_enter Tryz.func147,Tryz.ntmps147;go_wp2;go_ret;rw[HR.out];exact⟨rfl,HT.out.fail,(Ch.refl _).set (fun _=>.inl rfl) _ _⟩
end
def gL(k:Nat):Nat:=(if fN k then 1 else 0)+(if fM k then 2 else 0)+(if fS k then 4 else 0)
structure FieldsAll (g:Nat) (w:World):Prop where
 lt:g < w.heap.size
 cell:∀ k,k < 256→w.cell? ⟨g,k,none⟩=some (.int .u8 (gL k:Nat))
theorem FieldsAll.under{g:Nat}{W w:World}(h:FieldsAll g W)(hU:Under W w):FieldsAll g w :=
 ⟨Nat.lt_of_lt_of_le h.lt hU.size,fun k hk=>(fA hU h.lt _).trans (h.cell k hk)⟩
theorem vX(k:Nat)(hk:k < 256):(fN k=false∧fM k=false∧fS k=false∧gL k=0)∨(fN k=true∧fM k=false∧fS k=false∧gL k=1)∨(fN k=false∧fM k=false∧fS k=true∧gL k=4) ∨
    (fN k=true∧fM k=true∧fS k=true∧gL k=7)∨(fN k=false∧fM k=true∧fS k=true∧gL k=6):=by
  revert hk;revert k;decide +kernel
def iB(n:Nat)(st:Left):Nat:=zZ (takeB n st).1
def iA(n:Nat)(st:Left):Left:=(takeB n st).2
theorem lS(n:Nat)(st:Left):(takeB n st).1.length≤n:=by
 cases st with
 | none=>exact Nat.zero_le _
 | some s =>
   simp only[takeB]
   split
   · rw[List.length_take];exact Nat.min_le_left _ _
   · exact Nat.zero_le _
theorem rV(st:Left):iB 1 st < 256:=by
 have h:=lS 1 st;unfold iB
 match (takeB 1 st).1,h with
 | [],_=>simp[zZ]
 | [a],_=>simp only[zZ];have:=a.toNat_lt;omega
theorem bPA(st:Left):iB 2 st < 65536:=by
 have h:=lS 2 st;unfold iB
 match (takeB 2 st).1,h with
 | [],_=>simp[zZ]
 | [a],_=>simp only[zZ];have:=a.toNat_lt;omega
 | [a,b],_=>simp only[zZ];have:=a.toNat_lt;have:=b.toNat_lt;omega
def sI(st:Left):Nd×Left :=
 let k:=iB 1 st;let s1:=iA 1 st
 let n:=if fN k then iB 1 s1 else 0;let s2:=if fN k then iA 1 s1 else s1
 let m:=if fM k then iB 1 s2 else 0;let s3:=if fM k then iA 1 s2 else s2
 if fS k then(⟨k,n,m,⟨(takeB (iB 1 s3) (iA 1 s3)).1.toArray⟩⟩,iA (iB 1 s3) (iA 1 s3)) else(⟨k,n,m,⟨#[]⟩⟩,s3)
def lI : Nat → Left → List Nd → List Nd × Left
  | 0,st,acc=>(acc,st)
  | m+1,st,acc=>if zF st < 1 then([],st) else lI m (sI st).2 (acc++[(sI st).1])
def nG(s:ByteArray):Option (List Nd) :=
 let r:=lI (iB 2 (some s.data.toList)) (iA 2 (some s.data.toList)) []
 if zF r.2≠0 then none else if gB r.1≠0 then none else some r.1
def q3A(w0:World)(R:Option (List Nd))(e:Ending)(w:World):Prop:=Under w0 w∧match R with
 | none=>e = .returned (.tuple #[.slice none 0 0,.int .i64 50])
 | some t=>∃ v,e = .returned (.tuple #[v,.int .i64 0])∧Ow1 w0.heap.size w v t
structure DeS (w0:World) (st:Left) (acc:List Nd) (v:Value) (nb:Nat) (x:Nd) (w:World):Prop where
 tk:TkAt w0 (w0.heap.size+1) w0.heap.size st w
 row:w.ownsRow (w0.heap.size+2) 112 4 v acc.length (wB acc)
 box:BoxAt w nb 112 (fJ x)
 ne:v.ownBlock≠some nb
 lo:w0.heap.size+2≤nb
section
variable {w0 w : World} {st : Left} {acc : List Nd} {v : Value} {nb : Nat} {x : Nd}
theorem DeS.take{st':Left}{w':World}(h:DeS w0 st acc v nb x w)(hT:TkAt w0 (w0.heap.size+1) w0.heap.size st' w')(hC:Ch (TkC (w0.heap.size+1) w0.heap.size) w w'):DeS w0 st' acc v nb x w' :=
 ⟨hT,xJ h.row hC fun g hg hc=>by have:=(jB h.row hg).1;rcases hc with hc | hc<;>omega,kUA h.box hC fun hc=>by have:=h.lo;rcases hc with hc | hc<;>omega,h.ne,h.lo⟩
theorem TkAt.other{W w:World}{ob sb:Nat}{st:Left}(h:TkAt W ob sb st w){g:Nat}(h1:g≠ob)(h2:g≠sb)(h3:W.heap.size≤g)(j:Nat)(u:Value):TkAt W ob sb st (w.setCell ⟨g,j,none⟩ u):=by
 obtain⟨s,k1,k2,k3⟩:=h.txt;exact⟨h.ok.other (fun e=>h1 e.symm) j u,⟨s,k1,k2.other (fun e=>h2 e.symm) j u,k3⟩,h.ne,bC h.und h3 j u,h.lo,h.hi⟩
theorem DeS.set{j:Nat}{u:Value}{y:Nd}(h:DeS w0 st acc v nb x w)(he:(fJ x).setIfInBounds j u=fJ y):DeS w0 st acc v nb y (w.setCell ⟨nb,j,none⟩ u) :=
 ⟨h.tk.other (by have:=h.lo;omega) (by have:=h.lo;omega) (by have:=h.lo;omega) j u,rD h.row h.ne j u,by have:=h.box.set j u;rwa [he]at this,h.ne,h.lo⟩
theorem TkAt.grown{W w w':World}{ob sb:Nat}{st:Left}(h:TkAt W ob sb st w){r:Option Nat}(hg:w.grownBy w' r)(hr:∀ g,r=some g→W.heap.size≤g∧g≠ob∧g≠sb):TkAt W ob sb st w':=by
 obtain⟨s,k1,k2,k3⟩:=h.txt;exact⟨h.ok.grown hg (fun e=>(hr _ e.symm).2.1 rfl),⟨s,k1,k2.grown hg (fun e=>(hr _ e.symm).2.2 rfl),k3⟩,h.ne,xA h.und hg fun g e=>(hr g e).1,h.lo,h.hi⟩
def iF(n:Nat)(st:Left):ByteArray:=⟨(takeB n st).1.toArray⟩
theorem sF{W w:World}{ob sb:Nat}{st:Left}(n:Nat)(hn:n≤1000000)(h:TkAt W ob sb st w):Calls Tryz.prog 147 #[.int .i64 n,.pointer (some ⟨ob,0,none⟩),.pointer (some ⟨sb,0,none⟩)] w fun e w'=>e = .returned (.string (iF n st))∧TkAt W ob sb (iA n st) w'∧Ch (TkC ob sb) w w':=t3A n hn h
theorem qI{w:World}(n:Nat)(hn:n≤2)(st:Left):Calls Tryz.prog 123 #[.string (iF n st)] w fun e w'=>e = .returned (.int .i64 (iB n st:Nat))∧w'=w :=
 k3A (iF n st) (Nat.le_trans (lS n st) hn)
theorem mW(st:Left):(iF (iB 1 st) (iA 1 st)).size≤255:=by
 have:=rV st;have:=lS (iB 1 st) (iA 1 st)
 show(takeB (iB 1 st) (iA 1 st)).1.length≤255
 omega
theorem lLA(st:Left):iB 1 st≤1000000:=by have:=rV st;omega
theorem tH{w:World}{n:Nat}(h:w.heap.size=n)(l:List Value)(t:TypeId):∀ j u,l[j]? = some u→(w.alloc (.cells l.toArray t)).cell? ((⟨n,0,none⟩:Addr).add j)=some u:=by
 subst h;exact World.news_of_block (fr:=(0,0)) (heap_alloc_new _ _)
def dDB(w0:World)(M:Nat)(S:Left)(v m:Value)(wr:World):Prop:=∃(st:Left) (acc:List Nd) (n:Nat),m = .int .i64 (n:Int)∧lI M S []=lI n st acc∧acc.length+n≤65535∧(∀ x∈acc,x.s.size≤255)∧TkAt w0 (w0.heap.size+1) w0.heap.size st wr∧wr.ownsRow (w0.heap.size+2) 112 4 v acc.length (wB acc)
theorem vQA(s:ByteArray)(hs:s.size≤1000000)(hS:ShapesAt 3 w0)(hF:FieldsAll 0 w0):Calls Tryz.prog 124 #[.string s] w0 (q3A w0 (nG s)):=by
 have HTk:=aA (xJA (w0:=w0) s hs);have HX:=aA (And.intro hS hF);have HD:RowKit.Hid (nG s=if zF (lI (iB 2 (some s.data.toList)) (iA 2 (some s.data.toList)) []).2≠0 then none else if gB (lI (iB 2 (some s.data.toList)) (iA 2 (some s.data.toList)) []).1≠0 then none else some (lI (iB 2 (some s.data.toList)) (iA 2 (some s.data.toList)) []).1):=aA rfl;generalize nG s=PD at *;clear hS hF hs;go_enter Tryz.func124,Tryz.ntmps124;go_wp2_with fail
 go_step3
 go_wp2_with fail;refine HTk.out.mono ?_;rintro e w1 ⟨rfl,hT⟩;generalize some s.data.toList=S at *;have HT:=aA hT;clear hT HTk;go_wp2_with fail
 go_step3
 go_wp2_with fail;refine(sF 2 (by decide) HT.out).mono ?_;rintro e w2 ⟨rfl,hT,hC⟩;have HT:=aA hT;clear hT hC;go_wp2_with fail;refine(qI 2 (by decide) _).mono ?_;rintro e wN ⟨rfl,rfl⟩;have hm2:=bPA S;generalize iB 2 S=M at *;generalize iA 2 S=S2 at *;have hF:=HX.out.2;go_wp2;go_loopw [6,7] (fun v m wr=>dDB w0 M S2 v m wr) (fun _ m _=>(intOf m).toNat)
 case atStart=>exact⟨S2,[],M,rfl,rfl,by simp;omega,fun x hx=>(List.not_mem_nil hx).elim,HT.out,lF _ _ _ _⟩
 case round =>
   obtain⟨st,acc,n,rfl,hpd,hlen,hsz,hT,hrow⟩:=hrel;have HT:=aA hT;have HRow:=aA hrow;have HPd:=aA hpd;have HSz:=aA hsz;have hn0:(0:Int)≤(n:Int):=by omega
   have hn9:(n:Int)≤65535:=by omega
   clear hT hrow hpd hsz
   cases n with
   | zero =>
     have HPD:=aA (show PD=if zF st≠0 then none else if gB acc≠0 then none else some acc by rw[HD.out,HPd.out];rfl);obtain⟨q,c,rfl,hc,hra⟩:=RowArg.of_own HRow.out;have HOw:=aA (show Ow1 w0.heap.size wr (.slice q acc.length c) acc from wD HRow.out (by omega));have HLn:=aA hlen;have HRa:=aA hra;have HSm:=aA (show ∀ x∈acc,x.s.size≤maxLen from fun x hx=>by simp only[maxLen];have:=HSz.out x hx;omega);clear hc hra hlen hn0 hn9 HD HPd HRow;have HLf:=aA (zV HT.out);have HCk:=aA (qO (w0:=wr) (c:=c) acc (by simp only[maxLen];have:=HLn.out;omega) HSm.out HRa.out (HX.out.1.under HT.out.und));by_cases hL:zF st=0
     · rw [hL] at HLf; have HPD := aA (show PD = if gB acc ≠ 0 then none else some acc by rw [HPD.out, if_neg (by omega)]); clear hL; go_wp2_with fail; refine HLf.out.mono ?_; rintro e wL ⟨rfl, rfl⟩; go_wp2_with fail; refine HCk.out.mono ?_; rintro e wC ⟨rfl, hUc⟩; have HUc := aA (HT.out.und.trans hUc); have HOw := aA (HOw.out.under hUc); clear hUc HLf HCk; by_cases hE : gB acc = 0
       · have HPE:=aA (show PD=some acc by rw[HPD.out,if_neg (by omega)]);rw[hE];clear hE;go_wp2;go_ret2;rw[HPE.out];exact⟨HUc.out,_,rfl,HOw.out⟩
       · have HPE := aA (show PD = none by rw [HPD.out, if_pos hE]); have hE' : (gB acc != 0) = true := by simpa using hE
         clear hE;go_wp2;go_ret2;rw[HPE.out];exact⟨HUc.out,rfl⟩
     · have HPE := aA (show PD = none by rw [HPD.out, if_pos hL]); have hL' : (zF st != 0) = true := by simpa using hL
       clear hL;go_wp2_with fail;refine HLf.out.mono ?_;rintro e wL ⟨rfl,rfl⟩;go_wp2;go_ret2;rw[HPE.out];exact⟨HT.out.und,rfl⟩
   | succ n =>
     by_cases hlt:zF st < 1
     · have HPD := aA (show PD = if zF st ≠ 0 then none else if gB ([] : List Nd) ≠ 0 then none else some [] by rw [HD.out, HPd.out]; simp only [lI, if_pos hlt]); have HOw := aA (show Ow1 w0.heap.size wr (.slice none 0 0) [] from lF _ _ _ _); have HLn := aA (show ([] : List Nd).length ≤ 0 from Nat.le_refl _); have HRa := aA (show RowArg wr none (wB []) from RowArg.nil); have HSm := aA (show ∀ x ∈ ([] : List Nd), x.s.size ≤ maxLen from fun x hx => (List.not_mem_nil hx).elim); have HLh := aA (zV HT.out); clear hlen HD HPd HRow; go_wp2_with fail; refine HLh.out.mono ?_; rintro e wL ⟨rfl, rfl⟩; have HLf := aA (zV HT.out); have HCk := aA (qO (w0 := wL) (c := 0) ([] : List Nd) (by simp only [maxLen]; have := HLn.out; omega) HSm.out HRa.out (HX.out.1.under HT.out.und)); by_cases hL : zF st = 0
       · rw [hL] at HLf; have HPD := aA (show PD = if gB ([] : List Nd) ≠ 0 then none else some ([] : List Nd) by rw [HPD.out, if_neg (by omega)]); clear hL; go_wp2_with fail; refine HLf.out.mono ?_; rintro e wL ⟨rfl, rfl⟩; go_wp2_with fail; refine HCk.out.mono ?_; rintro e wC ⟨rfl, hUc⟩; have HUc := aA (HT.out.und.trans hUc); have HOw := aA (HOw.out.under hUc); clear hUc HLf HCk; by_cases hE : gB ([] : List Nd) = 0
         · have HPE:=aA (show PD=some ([]:List Nd) by rw[HPD.out,if_neg (by omega)]);rw[hE];clear hE;go_wp2;go_ret2;rw[HPE.out];exact⟨HUc.out,_,rfl,HOw.out⟩
         · have HPE := aA (show PD = none by rw [HPD.out, if_pos hE]); have hE' : (gB ([] : List Nd) != 0) = true := by simpa using hE
           clear hE;go_wp2;go_ret2;rw[HPE.out];exact⟨HUc.out,rfl⟩
       · have HPE := aA (show PD = none by rw [HPD.out, if_pos hL]); have hL' : (zF st != 0) = true := by simpa using hL
         clear hL;go_wp2_with fail;refine HLf.out.mono ?_;rintro e wL ⟨rfl,rfl⟩;go_wp2;go_ret2;rw[HPE.out];exact⟨HT.out.und,rfl⟩
     · have hd : ¬ zF st < (1 : Int) := hlt; have HLt := aA (show ¬ zF st < 1 from hlt); have HPd := aA (show lI M S2 [] = lI n (sI st).2 (acc ++ [(sI st).1]) by rw [HPd.out]; simp only [lI, if_neg hlt]); have HLe := aA hlen; have hN0 : (0 : Int) ≤ (n : Int) := by omega
       have hN9:(n:Int)≤65534:=by omega
       clear hlt hlen hn0 hn9;have HLh:=aA (zV HT.out);generalize zF st=lf at *;obtain⟨i0,hi,hz0,hz1,hz2⟩:=info_parts Tryz.infoNdZ;go_wp2_with fail;refine HLh.out.mono ?_;rintro e wL ⟨rfl,rfl⟩;clear HLh;go_wp2_with fail;refine(sF 1 (by decide) HT.out).mono ?_;rintro e w3 ⟨rfl,hT,hC⟩;have HT3:=aA hT;have HR3:=aA (xJ HRow.out hC fun g hg hc=>by have:=(jB HRow.out hg).1;rcases hc with hc | hc<;>omega);clear hT hC;go_wp2_with fail;refine(qI 1 (by decide) _).mono ?_;rintro e wN ⟨rfl,rfl⟩;have hk:=rV st;have hmx:acc.length+1≤maxLen:=by simp only[maxLen];have:=HLe.out;omega
       have hby:(acc.length+1) * 40≤140737488355328:=by have:=HLe.out;omega
       have HS:=aA (show DeS w0 (iA 1 st) acc u6 wN.heap.size ⟨iB 1 st,0,0,⟨#[]⟩⟩ (wN.alloc (.cells #[.int .i64 (iB 1 st:Nat),.int .i64 0,.int .i64 0,.string ⟨#[]⟩] 112)) from⟨HT3.out.under (bA (Under.refl _) _),uA HR3.out (bA (Under.refl _) _),rA wN _ _,fun e=>by have:=(jB HR3.out e).2;omega,by have h1:=HT3.out.ok.lt;omega⟩);clear HT3 HR3;have cf:=(hF.under HS.out.tk.und).cell (iB 1 st) hk;have gl:=(hF.under HS.out.tk.und).lt;have hk0:(0:Int)≤(iB 1 st:Int):=by omega
       have hk9:(iB 1 st:Int) < 256:=by omega
       rcases vX (iB 1 st) hk with⟨h1,h2,h3,h4⟩ | ⟨h1,h2,h3,h4⟩ | ⟨h1,h2,h3,h4⟩ | ⟨h1,h2,h3,h4⟩ | ⟨h1,h2,h3,h4⟩
       · rw [h4] at cf; have b1 : bits BinOp.and IntKind.u8 0 1 = 0 := by decide
         have b2:bits BinOp.and IntKind.u8 0 2=0:=by decide
         have b4:bits BinOp.and IntKind.u8 0 4=0:=by decide
         have HPn:RowKit.Hid (sI st=(⟨(iB 1 st:Int),0,0,⟨#[]⟩⟩,iA 1 st)):=aA (by simp only[sI,h1,h2,h3,if_true,Bool.false_eq_true,if_false];rfl);have HPq:=aA (show lI M S2 []=lI n (iA 1 st) (acc++[⟨(iB 1 st:Int),0,0,⟨#[]⟩⟩]) by rw[HPd.out,HPn.out]);go_wp2_with (at_builtin;refine wpList_append_own_at _ rfl _ _ 30 rfl (w0.heap.size+2) 112 i0 _ 4 40 Tryz.underlying30 hi hz0 hz1 hz2 rfl (by decide) _ _ _ rfl (uA HS.out.row (bA (Under.refl _) _)) ⟨wN.heap.size+1,0,none⟩ 1 1 [.int .i64 (iB 1 st:Int),.int .i64 0,.int .i64 0,.string ⟨#[]⟩] rfl rfl ?c1 ?c2 hmx hby ?c5 ?_)
         case c1=>exact tH (by simp) _ _
         case c2=>intro u hu;simp at hu;rcases hu with rfl | rfl | rfl | rfl<;>rfl
         case c5=>have:=HS.out.tk.ok.lt;simp at this ⊢;omega
         intro v' w' hown hgrow hnil hat;have HT':=aA (show TkAt w0 (w0.heap.size+1) w0.heap.size (iA 1 st) w' from(HS.out.tk.under (bA (Under.refl _) _)).grown hgrow fun g hg=>by have:=(jB HS.out.row hg).1;omega);have HO':=aA (show w'.ownsRow (w0.heap.size+2) 112 4 v' (acc++[(⟨(iB 1 st:Int),0,0,⟨#[]⟩⟩:Nd)]).length (wB (acc++[⟨(iB 1 st:Int),0,0,⟨#[]⟩⟩])) by rw[gF,List.length_append];exact hown);clear hown hgrow hnil hat;go_wp2;go_roundw
         case rel => exact ⟨_, _, n, by go_num, HPq.out, by rw [List.length_append]; have := HLe.out; simp; omega, fun y hy => by
           rcases List.mem_append.1 hy with hy | hy
           · exact HSz.out y hy
           · rw[List.mem_singleton.1 hy];exact(Nat.zero_le _),HT'.out,HO'.out⟩
         case measure=>first | (simp[intOf];done) | (simp[intOf];omega)
       · rw [h4] at cf; have b1 : bits BinOp.and IntKind.u8 1 1 = 1 := by decide
         have b2:bits BinOp.and IntKind.u8 1 2=0:=by decide
         have b4:bits BinOp.and IntKind.u8 1 4=0:=by decide
         go_wp2_with fail;refine(sF 1 (by decide) HS.out.tk).mono ?_;rintro e wT ⟨rfl,hT,hC⟩;have HS:=aA (HS.out.take hT hC);clear hT hC;go_wp2_with fail;refine(qI 1 (by decide) _).mono ?_;rintro e wN ⟨rfl,rfl⟩;have n0:=HS.out.box.cell 0;have n1:=HS.out.box.cell 1;have n2:=HS.out.box.cell 2;have n3:=HS.out.box.cell 3;have f1:=HS.out.box.free 1;have f2:=HS.out.box.free 2;have f3:=HS.out.box.free 3;have nl:=HS.out.box.lt;dsimp only[fJ]at n0 n1 n2 n3;have HS:=aA (HS.out.set (j:=1) (u:=.int .i64 (iB 1 (iA 1 st):Nat)) (y:=⟨((iB 1 st:Nat):Int),((iB 1 (iA 1 st):Nat):Int),0,⟨#[]⟩⟩) rfl);have HPn:RowKit.Hid (sI st=(⟨((iB 1 st:Nat):Int),((iB 1 (iA 1 st):Nat):Int),0,⟨#[]⟩⟩,iA 1 (iA 1 st))):=aA (by simp only[sI,h1,h2,h3,if_true,Bool.false_eq_true,if_false];rfl);have HPq:=aA (show lI M S2 []=lI n (iA 1 (iA 1 st)) (acc++[⟨((iB 1 st:Nat):Int),((iB 1 (iA 1 st):Nat):Int),0,⟨#[]⟩⟩]) by rw[HPd.out,HPn.out]);go_wp2_with (at_builtin;refine wpList_append_own_at _ rfl _ _ 30 rfl (w0.heap.size+2) 112 i0 _ 4 40 Tryz.underlying30 hi hz0 hz1 hz2 rfl (by decide) _ _ _ rfl (uA HS.out.row (bA (Under.refl _) _)) ⟨wN.heap.size,0,none⟩ 1 1 [.int .i64 ((iB 1 st:Nat):Int),.int .i64 ((iB 1 (iA 1 st):Nat):Int),.int .i64 0,.string ⟨#[]⟩] rfl rfl ?c1 ?c2 hmx hby ?c5 ?_)
         case c1=>exact tH (by simp) _ _
         case c2=>intro u hu;simp at hu;rcases hu with rfl | rfl | rfl | rfl<;>rfl
         case c5=>have:=HS.out.tk.ok.lt;simp at this ⊢;omega
         intro v' w' hown hgrow hnil hat;have HT':=aA (show TkAt w0 (w0.heap.size+1) w0.heap.size (iA 1 (iA 1 st)) w' from(HS.out.tk.under (bA (Under.refl _) _)).grown hgrow fun g hg=>by have:=(jB HS.out.row hg).1;omega);have HO':=aA (show w'.ownsRow (w0.heap.size+2) 112 4 v' (acc++[(⟨((iB 1 st:Nat):Int),((iB 1 (iA 1 st):Nat):Int),0,⟨#[]⟩⟩:Nd)]).length (wB (acc++[⟨((iB 1 st:Nat):Int),((iB 1 (iA 1 st):Nat):Int),0,⟨#[]⟩⟩])) by rw[gF,List.length_append];exact hown);clear hown hgrow hnil hat;go_wp2;go_roundw
         case rel => exact ⟨_, _, n, by go_num, HPq.out, by rw [List.length_append]; have := HLe.out; simp; omega, fun y hy => by
           rcases List.mem_append.1 hy with hy | hy
           · exact HSz.out y hy
           · rw[List.mem_singleton.1 hy];exact(Nat.zero_le _),HT'.out,HO'.out⟩
         case measure=>first | (simp[intOf];done) | (simp[intOf];omega)
       · rw [h4] at cf; have b1 : bits BinOp.and IntKind.u8 4 1 = 0 := by decide
         have b2:bits BinOp.and IntKind.u8 4 2=0:=by decide
         have b4:bits BinOp.and IntKind.u8 4 4=4:=by decide
         go_wp2_with fail;refine(sF 1 (by decide) HS.out.tk).mono ?_;rintro e wT ⟨rfl,hT,hC⟩;have HS:=aA (HS.out.take hT hC);clear hT hC;go_wp2_with fail;refine(qI 1 (by decide) _).mono ?_;rintro e wN ⟨rfl,rfl⟩;go_wp2_with fail;refine(sF _ (lLA (iA 1 st)) HS.out.tk).mono ?_;rintro e wT ⟨rfl,hT,hC⟩;have HS:=aA (HS.out.take hT hC);clear hT hC;have n0:=HS.out.box.cell 0;have n1:=HS.out.box.cell 1;have n2:=HS.out.box.cell 2;have n3:=HS.out.box.cell 3;have f1:=HS.out.box.free 1;have f2:=HS.out.box.free 2;have f3:=HS.out.box.free 3;have nl:=HS.out.box.lt;dsimp only[fJ]at n0 n1 n2 n3;have HS:=aA (HS.out.set (j:=3) (u:=.string (iF (iB 1 (iA 1 st)) (iA 1 (iA 1 st)))) (y:=⟨((iB 1 st:Nat):Int),0,0,iF (iB 1 (iA 1 st)) (iA 1 (iA 1 st))⟩) rfl);have HPn:RowKit.Hid (sI st=(⟨((iB 1 st:Nat):Int),0,0,(iF (iB 1 (iA 1 st)) (iA 1 (iA 1 st)))⟩,iA (iB 1 (iA 1 st)) (iA 1 (iA 1 st)))):=aA (by simp only[sI,h1,h2,h3,if_true,Bool.false_eq_true,if_false];rfl);have HPq:=aA (show lI M S2 []=lI n (iA (iB 1 (iA 1 st)) (iA 1 (iA 1 st))) (acc++[⟨((iB 1 st:Nat):Int),0,0,(iF (iB 1 (iA 1 st)) (iA 1 (iA 1 st)))⟩]) by rw[HPd.out,HPn.out]);go_wp2_with (at_builtin;refine wpList_append_own_at _ rfl _ _ 30 rfl (w0.heap.size+2) 112 i0 _ 4 40 Tryz.underlying30 hi hz0 hz1 hz2 rfl (by decide) _ _ _ rfl (uA HS.out.row (bA (Under.refl _) _)) ⟨wT.heap.size,0,none⟩ 1 1 [.int .i64 ((iB 1 st:Nat):Int),.int .i64 0,.int .i64 0,.string (iF (iB 1 (iA 1 st)) (iA 1 (iA 1 st)))] rfl rfl ?c1 ?c2 hmx hby ?c5 ?_)
         case c1=>exact tH (by simp) _ _
         case c2=>intro u hu;simp at hu;rcases hu with rfl | rfl | rfl | rfl<;>rfl
         case c5=>have:=HS.out.tk.ok.lt;simp at this ⊢;omega
         intro v' w' hown hgrow hnil hat;have HT':=aA (show TkAt w0 (w0.heap.size+1) w0.heap.size (iA (iB 1 (iA 1 st)) (iA 1 (iA 1 st))) w' from(HS.out.tk.under (bA (Under.refl _) _)).grown hgrow fun g hg=>by have:=(jB HS.out.row hg).1;omega);have HO':=aA (show w'.ownsRow (w0.heap.size+2) 112 4 v' (acc++[(⟨((iB 1 st:Nat):Int),0,0,(iF (iB 1 (iA 1 st)) (iA 1 (iA 1 st)))⟩:Nd)]).length (wB (acc++[⟨((iB 1 st:Nat):Int),0,0,(iF (iB 1 (iA 1 st)) (iA 1 (iA 1 st)))⟩])) by rw[gF,List.length_append];exact hown);clear hown hgrow hnil hat;go_wp2;go_roundw
         case rel => exact ⟨_, _, n, by go_num, HPq.out, by rw [List.length_append]; have := HLe.out; simp; omega, fun y hy => by
           rcases List.mem_append.1 hy with hy | hy
           · exact HSz.out y hy
           · rw[List.mem_singleton.1 hy];exact(mW (iA 1 st)),HT'.out,HO'.out⟩
         case measure=>first | (simp[intOf];done) | (simp[intOf];omega)
       · rw [h4] at cf; have b1 : bits BinOp.and IntKind.u8 7 1 = 1 := by decide
         have b2:bits BinOp.and IntKind.u8 7 2=2:=by decide
         have b4:bits BinOp.and IntKind.u8 7 4=4:=by decide
         go_wp2_with fail;refine(sF 1 (by decide) HS.out.tk).mono ?_;rintro e wT ⟨rfl,hT,hC⟩;have HS:=aA (HS.out.take hT hC);clear hT hC;go_wp2_with fail;refine(qI 1 (by decide) _).mono ?_;rintro e wN ⟨rfl,rfl⟩;have n0:=HS.out.box.cell 0;have n1:=HS.out.box.cell 1;have n2:=HS.out.box.cell 2;have n3:=HS.out.box.cell 3;have f1:=HS.out.box.free 1;have f2:=HS.out.box.free 2;have f3:=HS.out.box.free 3;have nl:=HS.out.box.lt;dsimp only[fJ]at n0 n1 n2 n3;have HS:=aA (HS.out.set (j:=1) (u:=.int .i64 (iB 1 (iA 1 st):Nat)) (y:=⟨((iB 1 st:Nat):Int),((iB 1 (iA 1 st):Nat):Int),0,⟨#[]⟩⟩) rfl);go_wp2_with fail;refine(sF 1 (by decide) HS.out.tk).mono ?_;rintro e wT ⟨rfl,hT,hC⟩;have HS:=aA (HS.out.take hT hC);clear hT hC;go_wp2_with fail;refine(qI 1 (by decide) _).mono ?_;rintro e wN ⟨rfl,rfl⟩;have n0:=HS.out.box.cell 0;have n1:=HS.out.box.cell 1;have n2:=HS.out.box.cell 2;have n3:=HS.out.box.cell 3;have f1:=HS.out.box.free 1;have f2:=HS.out.box.free 2;have f3:=HS.out.box.free 3;have nl:=HS.out.box.lt;dsimp only[fJ]at n0 n1 n2 n3;have HS:=aA (HS.out.set (j:=2) (u:=.int .i64 (iB 1 (iA 1 (iA 1 st)):Nat)) (y:=⟨((iB 1 st:Nat):Int),((iB 1 (iA 1 st):Nat):Int),((iB 1 (iA 1 (iA 1 st)):Nat):Int),⟨#[]⟩⟩) rfl);go_wp2_with fail;refine(sF 1 (by decide) HS.out.tk).mono ?_;rintro e wT ⟨rfl,hT,hC⟩;have HS:=aA (HS.out.take hT hC);clear hT hC;go_wp2_with fail;refine(qI 1 (by decide) _).mono ?_;rintro e wN ⟨rfl,rfl⟩;go_wp2_with fail;refine(sF _ (lLA (iA 1 (iA 1 (iA 1 st)))) HS.out.tk).mono ?_;rintro e wT ⟨rfl,hT,hC⟩;have HS:=aA (HS.out.take hT hC);clear hT hC;have n0:=HS.out.box.cell 0;have n1:=HS.out.box.cell 1;have n2:=HS.out.box.cell 2;have n3:=HS.out.box.cell 3;have f1:=HS.out.box.free 1;have f2:=HS.out.box.free 2;have f3:=HS.out.box.free 3;have nl:=HS.out.box.lt;dsimp only[fJ]at n0 n1 n2 n3;have HS:=aA (HS.out.set (j:=3) (u:=.string (iF (iB 1 (iA 1 (iA 1 (iA 1 st)))) (iA 1 (iA 1 (iA 1 (iA 1 st)))))) (y:=⟨((iB 1 st:Nat):Int),((iB 1 (iA 1 st):Nat):Int),((iB 1 (iA 1 (iA 1 st)):Nat):Int),iF (iB 1 (iA 1 (iA 1 (iA 1 st)))) (iA 1 (iA 1 (iA 1 (iA 1 st))))⟩) rfl);have HPn:RowKit.Hid (sI st=(⟨((iB 1 st:Nat):Int),((iB 1 (iA 1 st):Nat):Int),((iB 1 (iA 1 (iA 1 st)):Nat):Int),(iF (iB 1 (iA 1 (iA 1 (iA 1 st)))) (iA 1 (iA 1 (iA 1 (iA 1 st)))))⟩,iA (iB 1 (iA 1 (iA 1 (iA 1 st)))) (iA 1 (iA 1 (iA 1 (iA 1 st)))))):=aA (by simp only[sI,h1,h2,h3,if_true,Bool.false_eq_true,if_false];rfl);have HPq:=aA (show lI M S2 []=lI n (iA (iB 1 (iA 1 (iA 1 (iA 1 st)))) (iA 1 (iA 1 (iA 1 (iA 1 st))))) (acc++[⟨((iB 1 st:Nat):Int),((iB 1 (iA 1 st):Nat):Int),((iB 1 (iA 1 (iA 1 st)):Nat):Int),(iF (iB 1 (iA 1 (iA 1 (iA 1 st)))) (iA 1 (iA 1 (iA 1 (iA 1 st)))))⟩]) by rw[HPd.out,HPn.out]);go_wp2_with (at_builtin;refine wpList_append_own_at _ rfl _ _ 30 rfl (w0.heap.size+2) 112 i0 _ 4 40 Tryz.underlying30 hi hz0 hz1 hz2 rfl (by decide) _ _ _ rfl (uA HS.out.row (bA (Under.refl _) _)) ⟨wT.heap.size,0,none⟩ 1 1 [.int .i64 ((iB 1 st:Nat):Int),.int .i64 ((iB 1 (iA 1 st):Nat):Int),.int .i64 ((iB 1 (iA 1 (iA 1 st)):Nat):Int),.string (iF (iB 1 (iA 1 (iA 1 (iA 1 st)))) (iA 1 (iA 1 (iA 1 (iA 1 st)))))] rfl rfl ?c1 ?c2 hmx hby ?c5 ?_)
         case c1=>exact tH (by simp) _ _
         case c2=>intro u hu;simp at hu;rcases hu with rfl | rfl | rfl | rfl<;>rfl
         case c5=>have:=HS.out.tk.ok.lt;simp at this ⊢;omega
         intro v' w' hown hgrow hnil hat;have HT':=aA (show TkAt w0 (w0.heap.size+1) w0.heap.size (iA (iB 1 (iA 1 (iA 1 (iA 1 st)))) (iA 1 (iA 1 (iA 1 (iA 1 st))))) w' from(HS.out.tk.under (bA (Under.refl _) _)).grown hgrow fun g hg=>by have:=(jB HS.out.row hg).1;omega);have HO':=aA (show w'.ownsRow (w0.heap.size+2) 112 4 v' (acc++[(⟨((iB 1 st:Nat):Int),((iB 1 (iA 1 st):Nat):Int),((iB 1 (iA 1 (iA 1 st)):Nat):Int),(iF (iB 1 (iA 1 (iA 1 (iA 1 st)))) (iA 1 (iA 1 (iA 1 (iA 1 st)))))⟩:Nd)]).length (wB (acc++[⟨((iB 1 st:Nat):Int),((iB 1 (iA 1 st):Nat):Int),((iB 1 (iA 1 (iA 1 st)):Nat):Int),(iF (iB 1 (iA 1 (iA 1 (iA 1 st)))) (iA 1 (iA 1 (iA 1 (iA 1 st)))))⟩])) by rw[gF,List.length_append];exact hown);clear hown hgrow hnil hat;go_wp2;go_roundw
         case rel => exact ⟨_, _, n, by go_num, HPq.out, by rw [List.length_append]; have := HLe.out; simp; omega, fun y hy => by
           rcases List.mem_append.1 hy with hy | hy
           · exact HSz.out y hy
           · rw[List.mem_singleton.1 hy];exact(mW (iA 1 (iA 1 (iA 1 st)))),HT'.out,HO'.out⟩
         case measure=>first | (simp[intOf];done) | (simp[intOf];omega)
       · rw [h4] at cf; have b1 : bits BinOp.and IntKind.u8 6 1 = 0 := by decide
         have b2:bits BinOp.and IntKind.u8 6 2=2:=by decide
         have b4:bits BinOp.and IntKind.u8 6 4=4:=by decide
         go_wp2_with fail;refine(sF 1 (by decide) HS.out.tk).mono ?_;rintro e wT ⟨rfl,hT,hC⟩;have HS:=aA (HS.out.take hT hC);clear hT hC;go_wp2_with fail;refine(qI 1 (by decide) _).mono ?_;rintro e wN ⟨rfl,rfl⟩;have n0:=HS.out.box.cell 0;have n1:=HS.out.box.cell 1;have n2:=HS.out.box.cell 2;have n3:=HS.out.box.cell 3;have f1:=HS.out.box.free 1;have f2:=HS.out.box.free 2;have f3:=HS.out.box.free 3;have nl:=HS.out.box.lt;dsimp only[fJ]at n0 n1 n2 n3;have HS:=aA (HS.out.set (j:=2) (u:=.int .i64 (iB 1 (iA 1 st):Nat)) (y:=⟨((iB 1 st:Nat):Int),0,((iB 1 (iA 1 st):Nat):Int),⟨#[]⟩⟩) rfl);go_wp2_with fail;refine(sF 1 (by decide) HS.out.tk).mono ?_;rintro e wT ⟨rfl,hT,hC⟩;have HS:=aA (HS.out.take hT hC);clear hT hC;go_wp2_with fail;refine(qI 1 (by decide) _).mono ?_;rintro e wN ⟨rfl,rfl⟩;go_wp2_with fail;refine(sF _ (lLA (iA 1 (iA 1 st))) HS.out.tk).mono ?_;rintro e wT ⟨rfl,hT,hC⟩;have HS:=aA (HS.out.take hT hC);clear hT hC;have n0:=HS.out.box.cell 0;have n1:=HS.out.box.cell 1;have n2:=HS.out.box.cell 2;have n3:=HS.out.box.cell 3;have f1:=HS.out.box.free 1;have f2:=HS.out.box.free 2;have f3:=HS.out.box.free 3;have nl:=HS.out.box.lt;dsimp only[fJ]at n0 n1 n2 n3;have HS:=aA (HS.out.set (j:=3) (u:=.string (iF (iB 1 (iA 1 (iA 1 st))) (iA 1 (iA 1 (iA 1 st))))) (y:=⟨((iB 1 st:Nat):Int),0,((iB 1 (iA 1 st):Nat):Int),iF (iB 1 (iA 1 (iA 1 st))) (iA 1 (iA 1 (iA 1 st)))⟩) rfl);have HPn:RowKit.Hid (sI st=(⟨((iB 1 st:Nat):Int),0,((iB 1 (iA 1 st):Nat):Int),(iF (iB 1 (iA 1 (iA 1 st))) (iA 1 (iA 1 (iA 1 st))))⟩,iA (iB 1 (iA 1 (iA 1 st))) (iA 1 (iA 1 (iA 1 st))))):=aA (by simp only[sI,h1,h2,h3,if_true,Bool.false_eq_true,if_false];rfl);have HPq:=aA (show lI M S2 []=lI n (iA (iB 1 (iA 1 (iA 1 st))) (iA 1 (iA 1 (iA 1 st)))) (acc++[⟨((iB 1 st:Nat):Int),0,((iB 1 (iA 1 st):Nat):Int),(iF (iB 1 (iA 1 (iA 1 st))) (iA 1 (iA 1 (iA 1 st))))⟩]) by rw[HPd.out,HPn.out]);go_wp2_with (at_builtin;refine wpList_append_own_at _ rfl _ _ 30 rfl (w0.heap.size+2) 112 i0 _ 4 40 Tryz.underlying30 hi hz0 hz1 hz2 rfl (by decide) _ _ _ rfl (uA HS.out.row (bA (Under.refl _) _)) ⟨wT.heap.size,0,none⟩ 1 1 [.int .i64 ((iB 1 st:Nat):Int),.int .i64 0,.int .i64 ((iB 1 (iA 1 st):Nat):Int),.string (iF (iB 1 (iA 1 (iA 1 st))) (iA 1 (iA 1 (iA 1 st))))] rfl rfl ?c1 ?c2 hmx hby ?c5 ?_)
         case c1=>exact tH (by simp) _ _
         case c2=>intro u hu;simp at hu;rcases hu with rfl | rfl | rfl | rfl<;>rfl
         case c5=>have:=HS.out.tk.ok.lt;simp at this ⊢;omega
         intro v' w' hown hgrow hnil hat;have HT':=aA (show TkAt w0 (w0.heap.size+1) w0.heap.size (iA (iB 1 (iA 1 (iA 1 st))) (iA 1 (iA 1 (iA 1 st)))) w' from(HS.out.tk.under (bA (Under.refl _) _)).grown hgrow fun g hg=>by have:=(jB HS.out.row hg).1;omega);have HO':=aA (show w'.ownsRow (w0.heap.size+2) 112 4 v' (acc++[(⟨((iB 1 st:Nat):Int),0,((iB 1 (iA 1 st):Nat):Int),(iF (iB 1 (iA 1 (iA 1 st))) (iA 1 (iA 1 (iA 1 st))))⟩:Nd)]).length (wB (acc++[⟨((iB 1 st:Nat):Int),0,((iB 1 (iA 1 st):Nat):Int),(iF (iB 1 (iA 1 (iA 1 st))) (iA 1 (iA 1 (iA 1 st))))⟩])) by rw[gF,List.length_append];exact hown);clear hown hgrow hnil hat;go_wp2;go_roundw
         case rel => exact ⟨_, _, n, by go_num, HPq.out, by rw [List.length_append]; have := HLe.out; simp; omega, fun y hy => by
           rcases List.mem_append.1 hy with hy | hy
           · exact HSz.out y hy
           · rw[List.mem_singleton.1 hy];exact(mW (iA 1 (iA 1 st))),HT'.out,HO'.out⟩
         case measure=>first | (simp[intOf];done) | (simp[intOf];omega)
end
end Go.Proofs.YtggjbblgoddnjaaGreatDoor
namespace Go.Proofs.YtggjbblgoddnjaaGreatDoor
open Go.ChangeShapes Go.WideShapes Go.ChangeAt Go.WideMaps Go.WideElems Go.RowKit Go.Lx Go.Deep Go.Conc
theorem gFields : Tryz.prog.globalNamed "cornice/wire.fields" = some 0 := by kernel_rfl
theorem tFields:(Tryz.prog.globals[0]?).map (·.type)=some 187:=by kernel_rfl
def nP {H : Type} : List (String × DataW H) := [("math/bits.deBruijn32tab", Rows.laid_math_bits_deBruijn32tab), ("math/bits.deBruijn64tab", Rows.laid_math_bits_deBruijn64tab), ("internal/strconv.uint64pow10", Rows.laid_internal_strconv_uint64pow10), ("cornice/term.shapes", Rows.laid_cornice_term_shapes), ("strconv.ErrRange", Rows.laid_strconv_ErrRange), ("strconv.ErrSyntax", Rows.laid_strconv_ErrSyntax), ("cornice/wire.fields", Rows.laid_cornice_wire_fields)]
theorem rRA{H:Type}:(Rows.laid_cornice_wire_fields:DataW H) = .agg (((List.range 256).map gL).map fun(n:Nat)=>.lit (.int .u8 (n:Int))):=by kernel_rfl
theorem lMA{P:Program}{w:World}{l:List (String×DataW Unit)}(fuel M:Nat)(h:((DataW.laidRun P w fuel (l.map (·.1))).bind fun x=>if(nodupBits M x.2 0&&laidRowsB P w x.2)=true then some x.1 else none)=some l):laidMet P l w:=by
 obtain⟨x,hx,h⟩:=Option.bind_eq_some_iff.1 h
 split at h
 · rename_i hb; simp only [Bool.and_eq_true] at hb
   cases h;exact laidMet_of_run (ps:=x.2) fuel hx (decide_eq_true (nodupBits_sound hb.1).1) hb.2
 · cases h
theorem dCB(os:Os)(args:Array Value):((DataW.laidRun Tryz.prog ((World.doorLaid Tryz.prog 400 os).forCall (fun _ _=>0) ⟨#[],args,[]⟩).memory 8 ((nP (H:=Unit)).map (·.1))).bind fun x=>if(nodupBits 300 x.2 0&&laidRowsB Tryz.prog ((World.doorLaid Tryz.prog 400 os).forCall (fun _ _=>0) ⟨#[],args,[]⟩).memory x.2)=true then some x.1 else none)=some nP:=by kernel_rfl
theorem cLA(os:Os)(args:Array Value):laidMetH Tryz.prog nP ((World.doorLaid Tryz.prog 400 os).forCall (fun _ _=>0) ⟨#[],args,[]⟩).memory :=
 laidMetH_of_parts3 (fuel:=8) (show laidMet Tryz.prog nP _ from lMA 8 300 (dCB os args)) (by kernel_rfl) (by kernel_rfl)
section
variable {H : Type} {enc : TypeId × Value → H} {w : World} {base : Nat} {spare : Nat → Bool} {held : Bool} {fuel : Nat} {cs : List Value} {q : List MemPlace}
theorem gLA(hcell:∀ j,w.cell? ⟨0,j,none⟩=cs[j]?)(h:DataW.trod enc Tryz.prog w base spare held fuel 187 cs=some (Rows.laid_cornice_wire_fields,q)):FieldsAll 0 w:=by
 rw[rRA]at h;have each:∀ k,k < 256→w.cell? ⟨0,k,none⟩=some (.int .u8 (gL k:Nat)):=by
  intro k hk;obtain⟨d,q',m,hd,htr⟩:=e7A (m':=0) (size:=1) Tryz.underlying187 (by kernel_rfl) h (i:=k) (by omega);obtain⟨z,e1,e2,_⟩:=DataW.trod_int Tryz.underlying5 htr;have e3:d = .lit (.int .u8 z):=congrArg Prod.fst e2;rw[List.getElem?_map]at hd;have hf:((List.range 256).map gL)[k]? = some (gL k):=by
   rw[List.getElem?_map,List.getElem?_range (by omega)];rfl
  rw[hf,Option.map_some]at hd;rw[e3]at hd
  cases hd;have h0:((cs.drop (k * 1)).take 1)[0]? = some (.int .u8 (gL k:Nat)):=by rw[e1];rfl
  have:=q8 h0;rw[hcell]
  simpa using this
 exact⟨uT (each 0 (by decide)),each⟩
end
theorem zPA{W:World}(h:laidMetH Tryz.prog nP W):StrcAt W∧ShapesAt 3 W∧FieldsAll 0 W:=by
 rw[MakeChecks.laidMetH_plain _ _ _ (by kernel_rfl)]at h;obtain⟨ps,⟨_,_,_,_,_,_,_,_,_,_,⟨_,_,_,_,_,_,_,_,_,_,⟨g2,t2,cs2,f2,p2,q2,hg2,ht2,hv2,hd2,⟨g3,t3,cs3,f3,p3,q3,hg3,ht3,hv3,hd3,⟨g4,t4,cs4,f4,p4,q4,hg4,ht4,hv4,hd4,⟨g5,t5,cs5,f5,p5,q5,hg5,ht5,hv5,hd5,⟨g6,t6,cs6,f6,p6,q6,hg6,ht6,hv6,hd6,_,_⟩,_⟩,_⟩,_⟩,_⟩,_⟩,_⟩,_,_⟩:=h;obtain rfl:=Option.some.inj (gShapes.symm.trans hg3);obtain rfl:=Option.some.inj (gPow.symm.trans hg2);obtain rfl:=Option.some.inj (gErrR.symm.trans hg4);obtain rfl:=Option.some.inj (gErrS.symm.trans hg5);obtain rfl:=Option.some.inj (gFields.symm.trans hg6);obtain rfl:=Option.some.inj (tShapes.symm.trans ht3);obtain rfl:=Option.some.inj (tPow.symm.trans ht2);obtain rfl:=Option.some.inj (tErrR.symm.trans ht4);obtain rfl:=Option.some.inj (tErrS.symm.trans ht5);obtain rfl:=Option.some.inj (tFields.symm.trans ht6);refine⟨⟨bQA hg5 hv5 hd5,bQA hg4 hv4 hd4,?_⟩,?_,?_⟩
 · rw [jBB] at hd2
   show W.var? Tryz.prog "internal/strconv.uint64pow10" = _
   rw[hv2,← Lib.cells_of_tab Tryz.underlying289 Tryz.underlying263 (by kernel_rfl) (by kernel_rfl) hd2]
 · rw[bYA]at hd3;exact fPA (cs:=cs3.toList) (fun j=>by rw[World.var?_cell hg3 hv3 j];simp) Tryz.underlying272 (by kernel_rfl) Tryz.underlying271 (by kernel_rfl) Tryz.underlying123 Tryz.underlying3 (by kernel_rfl) Tryz.underlying4 Tryz.underlying4 Tryz.underlying4 hd3
 · exact gLA (cs:=cs6.toList) (fun j=>by rw[World.var?_cell hg6 hv6 j];simp) hd6
end Go.Proofs.YtggjbblgoddnjaaGreatDoor
