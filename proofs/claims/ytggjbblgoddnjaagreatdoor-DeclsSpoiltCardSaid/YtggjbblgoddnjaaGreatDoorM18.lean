/- Part 18 of what the proof rests on. -/
import Derived.Test.YtggjbblgoddnjaaGreatDoorM04
import Derived.Test.YtggjbblgoddnjaaGreatDoorM05
import Derived.Test.YtggjbblgoddnjaaGreatDoorM16
import Derived.Test.YtggjbblgoddnjaaGreatDoorM17
import Derived.Test.YtggjbblgoddnjaaGreatDoorM00
set_option linter.unusedSimpArgs false
set_option linter.unusedVariables false
set_option maxRecDepth 100000
set_option maxHeartbeats 4000000
namespace Go.Proofs.YtggjbblgoddnjaaGreatDoor
open Go.Conc Go.Lx Go.RowKit
theorem oKA{p:UInt8→Bool}(h:(List.range 256).all (fun n=>p n.toUInt8)=true)(c:UInt8):p c=true:=by
 have:=List.all_eq_true.1 h c.toNat (List.mem_range.2 c.toNat_lt);have e:c.toNat.toUInt8=c:=by simp
 rwa [e]at this
def xV(c:UInt8):Bool:=inB [9,10,13,32] c
theorem cQA(c:UInt8)(h:xV c=true):gN c=false:=by
 have:=oKA (p:=fun c => !xV c || !gN c) (by decide +kernel) c
 simpa [h] using this
theorem pOA(c:UInt8)(h:gN c=true):xV c=false:=by
 have:=oKA (p:=fun c => !xV c || !gN c) (by decide +kernel) c
 simpa [h] using this
theorem rPA(c:UInt8)(h:gN c=true):First 0 c:=⟨by decide,h,fun j hj=>absurd hj (by omega)⟩
theorem gMA(c:UInt8)(h:xV c=true):First 1 c:=⟨by decide,h,fun j hj=>by
  obtain rfl:j=0:=by omega
  exact cQA c h⟩
theorem hPA:First 2 40:=⟨by decide,by decide,by decide⟩
theorem iQA:First 3 41:=⟨by decide,by decide,by decide⟩
theorem fBA (p : UInt8 → Bool) : ∀ (l r : List UInt8), (∀ c ∈ l, p c = true) → (∀ c, r.head? = some c → p c = false) → many p (l ++ r) = l.length
  | [], r, _, hr => by
    cases r with
    | nil=>rfl
    | cons c r=>simp[many,hr c rfl]
  | c :: l, r, hl, hr => by
    have:=fBA p l r (fun x hx=>hl x (List.mem_cons_of_mem _ hx)) hr;simp only[many,List.cons_append,List.takeWhile_cons,hl c List.mem_cons_self,if_true,List.length_cons]at this ⊢;omega
def hBA(t:PTok):Tok:=⟨t.kind,t.pos.toNat,t.text⟩
def noW(r:List UInt8):Prop:=∀ c,r.head? = some c→gN c=false
section
variable {s : ByteArray}
theorem vW{k:Nat}{c:UInt8}{l:List UInt8}(hd:s.data.toList.drop k=c::l):∃ hlt:k < s.size,s[k]'hlt=c:=by
 have hlen:(s.data.toList.drop k).length=s.size - k:=by rw[List.length_drop];rfl
 have hlen2:=congrArg List.length hd;rw[hlen,List.length_cons]at hlen2;have hlt:k < s.size:=by omega
 refine⟨hlt,?_⟩;have:(s.data.toList.drop k).head? = some c:=by rw[hd];rfl
 rw[List.head?_drop]at this;have e:s.data.toList[k]? = some (s[k]'hlt):=by
  rw[List.getElem?_eq_getElem (by exact hlt)];rfl
 rw[e]at this;exact Option.some.inj this
theorem aAA{k:Nat}{a r:List UInt8}(hd:s.data.toList.drop k=a++r):s.data.toList.drop (k+a.length)=r:=by
 rw[← List.drop_drop,hd,List.drop_left]
theorem lM{k:Nat}{a r:List UInt8}(hd:s.data.toList.drop k=a++r)(hk:k≤s.size):k+a.length≤s.size:=by
 have hlen:(s.data.toList.drop k).length=s.size - k:=by rw[List.length_drop];rfl
 have hlen2:=congrArg List.length hd;rw[hlen,List.length_append]at hlen2;omega
theorem eU{k:Nat}{a r:List UInt8}(hd:s.data.toList.drop k=a++r):s.extract k (k+a.length)=⟨a.toArray⟩:=by
 apply ByteArray.ext;apply Array.ext';rw[ByteArray.data_extract,Array.toList_extract,List.extract_eq_take_drop,hd,Nat.add_sub_cancel_left,List.take_left]
theorem pMA{k:Nat}{acts:List SAct}(l r:List UInt8)(hd:s.data.toList.drop k=l++r)(hk:k≤s.size)(hl:∀ c∈l,xV c=true)(hr:∀ c,r.head? = some c→xV c=false)(h:Scans s (k+l.length) acts) :
 ∃ acts',Scans s k acts'∧sends acts'=sends acts:=by
 cases l with
 | nil=>exact⟨acts,by simpa using h,rfl⟩
 | cons c l =>
   obtain⟨hlt,hc⟩:=vW hd;have hsz:=lM hd hk;have hm:goN 1 (s.data.toList.drop k)=(c::l).length:=by rw[hd];exact fBA _ _ _ hl hr
   exact⟨_,.blank hlt (by rw[hc];exact gMA c (hl c List.mem_cons_self)) rfl hm hsz h,rfl⟩
theorem iOA{k:Nat}{acts:List SAct}(x:ByteArray)(r:List UInt8)(hd:s.data.toList.drop k=x.data.toList++r)(hk:k≤s.size)(hne:x.size≠0)(hl:∀ c∈x.data.toList,gN c=true)(hr:noW r)(h:Scans s (k+x.data.toList.length) acts) :
 ∃ acts',Scans s k acts'∧sends acts'=iQ ⟨1,k,x⟩::sends acts:=by
 have hsz:=lM hd hk;have hex:=eU hd;have hex2:s.extract k (k+x.data.toList.length)=x:=by rw[hex]
 cases hx:x.data.toList with
 | nil =>
   have:x.data.toList.length=x.size:=by rw[Array.length_toList];rfl
   rw[hx]at this;exact absurd this.symm hne
 | cons c l =>
   have hd':=hd;rw[hx,List.cons_append]at hd';obtain⟨hlt,hc⟩:=vW hd';have hm:goN 0 (s.data.toList.drop k)=x.data.toList.length:=by rw[hd];exact fBA _ _ _ hl hr
   refine⟨_,.token hlt (by rw[hc];exact rPA c (hl c (by rw[hx];exact List.mem_cons_self))) rfl hm hsz h,?_⟩;rw[hex2];rfl
theorem ySA{k:Nat}{acts:List SAct}(r:List UInt8)(hd:s.data.toList.drop k=40::r)(h:Scans s (k+1) acts):∃ acts',Scans s k acts'∧sends acts'=iQ ⟨2,k,⟨#[40]⟩⟩::sends acts:=by
 obtain⟨hlt,hc⟩:=vW hd;have hex:=eU (s:=s) (a:=[40]) (r:=r) hd;refine⟨_,.token (i:=2) (m:=1) hlt (by rw[hc];exact hPA) (by decide) rfl (by omega) h,?_⟩;rw[show s.extract k (k+1)=⟨#[40]⟩ from hex];rfl
theorem dTA{k:Nat}{acts:List SAct}(r:List UInt8)(hd:s.data.toList.drop k=41::r)(h:Scans s (k+1) acts):∃ acts',Scans s k acts'∧sends acts'=iQ ⟨3,k,⟨#[41]⟩⟩::sends acts:=by
 obtain⟨hlt,hc⟩:=vW hd;have hex:=eU (s:=s) (a:=[41]) (r:=r) hd;refine⟨_,.token (i:=3) (m:=1) hlt (by rw[hc];exact iQA) (by decide) rfl (by omega) h,?_⟩;rw[show s.extract k (k+1)=⟨#[41]⟩ from hex];rfl
theorem pYA{p:UInt8→Bool}(hp:∀ c,p c=true→gN c=true)(x:SX)(h:okX p x)(r:List UInt8):∀ c,(mG x++r).head? = some c→xV c=false:=by
 intro c hc
 cases x with
 | w s =>
   unfold okX at h;unfold mG at hc
   cases hs:s.data.toList with
   | nil =>
     have:s.data.toList.length=s.size:=by rw[Array.length_toList];rfl
     rw[hs]at this;exact absurd this.symm h.1
   | cons a l =>
     rw[hs]at hc h;obtain rfl:a=c:=by simpa using hc
     exact pOA _ (hp _ (h.2 _ List.mem_cons_self))
 | l xs =>
   unfold mG at hc;obtain rfl:(40:UInt8)=c:=by simpa using hc
   decide
def zSA(s:ByteArray)(x:SX):Prop:=∀(k:Nat) (r:List UInt8) (acts:List SAct),s.data.toList.drop k=mG x++r→noW r→k≤s.size→Scans s (k+(mG x).length) acts→∃ acts',Scans s k acts'∧sends acts'=(qH k x).map (fun t=>iQ (hBA t))++sends acts
theorem kOA(l:List SX){r:List UInt8}(h:noW r):noW (bS l++r):=by
 cases l with
 | nil=>exact h
 | cons a l =>
   intro c hc;unfold bS at hc;obtain rfl:(32:UInt8)=c:=by simpa using hc
   decide
theorem uEA{p:UInt8→Bool}(hp:∀ c,p c=true→gN c=true):∀(l:List SX),l0A p l→(∀ a∈l,zSA s a)→∀(k:Nat) (r:List UInt8) (acts:List SAct),s.data.toList.drop k=bS l++r→noW r→k≤s.size→Scans s (k+(bS l).length) acts →
 ∃ acts',Scans s k acts'∧sends acts'=(nK k l).map (fun t=>iQ (hBA t))++sends acts
 | [],_,_,k,r,acts,hd,hr,hk,h=>⟨acts,by simpa [bS] using h,by simp[nK]⟩
 | a :: l, ho, ha, k, r, acts, hd, hr, hk, h => by
   unfold bS at hd h;have hd0:s.data.toList.drop k=[32]++(mG a++(bS l++r)):=by rw[hd];simp
   have hd1 := aAA hd0; have hk1 := lM hd0 hk; have hd2 := aAA hd1; have hk2 := lM hd1 hk1; obtain ⟨a1, h1, g1⟩ := uEA hp l ho.2 (fun b hb => ha b (List.mem_cons_of_mem _ hb)) _ r acts hd2 hr hk2 (by
     rw[show k+[(32:UInt8)].length+(mG a).length+(bS l).length=k+(32::(mG a++bS l)).length by simp;omega];exact h)
   obtain⟨a2,h2,g2⟩:=ha a List.mem_cons_self _ _ a1 hd1 (kOA l hr) hk1 h1;obtain⟨a3,h3,g3⟩:=pMA [32] _ hd0 hk (by intro c hc;rw[List.mem_singleton.1 hc];decide) (pYA hp a ho.1 _) h2;refine⟨a3,h3,?_⟩;rw[g3,g2,g1,nK,List.map_append,List.append_assoc];rfl
theorem lPA{p:UInt8→Bool}(hp:∀ c,p c=true→gN c=true)(x:SX):okX p x→zSA s x:=by
 induction x using SX.rec (motive_2:=fun l=>l0A p l→∀ a∈l,zSA s a) with
 | w y =>
   intro h k r acts hd hr hk hs;unfold mG at hd hs;obtain⟨a,h1,g1⟩:=iOA y r hd hk h.1 (fun c hc=>hp c (h.2 c hc)) hr hs;exact⟨a,h1,by rw[g1];simp[qH,hBA]⟩
 | l xs ih =>
   intro h k r acts hd hr hk hs;have hX:=ih h;unfold mG at hd hs;have hd0:s.data.toList.drop k=[40]++(vN xs++41::r):=by rw[hd];simp
   have hd1:=aAA hd0;have hk1:=lM hd0 hk;have hd2:=aAA hd1;have hk2:=lM hd1 hk1;obtain⟨a1,h1,g1⟩:=dTA r hd2 (by rw[show k+[(40:UInt8)].length+(vN xs).length+1=k+(40::(vN xs++[41])).length by simp;omega];exact hs);have hn:noW (41::r):=fun c hc=>by
    obtain rfl:(41:UInt8)=c:=by simpa using hc
    decide
   have mid:∃ acts',Scans s (k+[(40:UInt8)].length) acts'∧sends acts'=(sP (k+1) xs).map (fun t=>iQ (hBA t))++sends a1:=by
    cases xs with
    | nil=>exact⟨a1,by simpa [vN] using h1,by simp[sP]⟩
    | cons a l =>
      unfold vN at hd1 h1;rw[List.append_assoc]at hd1;have hd3:=aAA hd1;have hk3:=lM hd1 hk1;obtain⟨a2,h2,g2⟩:=uEA hp l h.2 (fun b hb=>hX b (List.mem_cons_of_mem _ hb)) _ _ a1 hd3 hn hk3 (by rw[List.length_append,← Nat.add_assoc]at h1;exact h1);obtain⟨a3,h3,g3⟩:=hX a List.mem_cons_self _ _ a2 hd1 (kOA l hn) hk1 h2;refine⟨a3,h3,?_⟩;rw[g3,g2,sP,List.map_append,List.append_assoc];rfl
   obtain⟨a2,h2,g2⟩:=mid;obtain⟨a3,h3,g3⟩:=ySA _ hd h2;refine⟨a3,h3,?_⟩;rw[g3,g2,g1,qH,List.map_cons,List.map_append,List.cons_append,List.append_assoc];rfl
 | nil=>rename_i h a ha;cases ha
 | cons a l iha ihl =>
   rename_i h b hb;rcases List.mem_cons.1 hb with rfl | hb
   · exact iha h.1
   · exact ihl h.2 b hb
end
theorem zGA : ∀ (l : List SX), (∀ a ∈ l, ∀ k, ∀ t ∈ qH k a, (hBA t).p = t ∧ (t.kind = 1 ∨ t.kind = 2 ∨ t.kind = 3)) → ∀ k, ∀ t ∈ nK k l, (hBA t).p = t ∧ (t.kind = 1 ∨ t.kind = 2 ∨ t.kind = 3)
  | [],_,k,t,ht=>by simp[nK]at ht
  | a :: l, h, k, t, ht => by
    unfold nK at ht;rcases List.mem_append.1 ht with ht | ht
    · exact h a List.mem_cons_self _ t ht
    · exact zGA l (fun b hb=>h b (List.mem_cons_of_mem _ hb)) _ t ht
theorem zKA(x:SX):∀ k,∀ t∈qH k x,(hBA t).p=t∧(t.kind=1∨t.kind=2∨t.kind=3):=by
 induction x using SX.rec (motive_2:=fun l=>∀ a∈l,∀ k,∀ t∈qH k a,(hBA t).p=t∧(t.kind=1∨t.kind=2∨t.kind=3)) with
 | w s =>
   intro k t ht;unfold qH at ht;rw[List.mem_singleton.1 ht];exact⟨rfl,.inl rfl⟩
 | l xs ih =>
   intro k t ht;unfold qH at ht;rcases List.mem_cons.1 ht with rfl | ht
   · exact⟨rfl,.inr (.inl rfl)⟩
   rcases List.mem_append.1 ht with ht | ht
   · cases xs with
     | nil=>simp[sP]at ht
     | cons a l =>
       unfold sP at ht;rcases List.mem_append.1 ht with ht | ht
       · exact ih a List.mem_cons_self _ t ht
       · exact zGA l (fun b hb=>ih b (List.mem_cons_of_mem _ hb)) _ t ht
   · rw[List.mem_singleton.1 ht];exact⟨rfl,.inr (.inr rfl)⟩
 | nil=>rename_i a ha k t ht;cases ha
 | cons a l iha ihl =>
   rename_i b hb k t ht;rcases List.mem_cons.1 hb with rfl | hb
   · exact iha k t ht
   · exact ihl b hb k t ht
theorem wNA{x:SX}(h:okX gN x)(hn:(mG x).length≤20000):Lexes ⟨(mG x).toArray⟩ ((qH 0 x).map hBA):=by
 have hsz:(⟨(mG x).toArray⟩:ByteArray).size=(mG x).length:=by simp[ByteArray.size]
 obtain⟨acts,h1,h2⟩:=lPA (s:=⟨(mG x).toArray⟩) (fun c hc=>hc) x h 0 [] [] (by simp) (fun c hc=>by cases hc) (Nat.zero_le _) (by rw[Nat.zero_add,← hsz];exact .done);have hl:(qH 0 x).length≤(mG x).length:=z1A x h 0;refine⟨by rw[hsz];exact hn,⟨acts,h1,?_⟩,by rw[List.length_map];omega⟩;rw[h2];simp[sends]
theorem nNA{x:SX}(h:okX gN x)(hn:(mG x).length≤20000)(hd:hQA x≤60):Lexes ⟨(mG x).toArray⟩ ((qH 0 x).map hBA)∧(∀ t∈(qH 0 x).map hBA,t.kind=1∨t.kind=2∨t.kind=3)∧wF (((qH 0 x).map hBA).map Tok.p) [] [] ⟨0,0,⟨#[]⟩⟩ = .ok (fC (tQA 0 x)):=by
 refine⟨wNA h hn,fun t ht=>?_,?_⟩
 · obtain⟨u,hu,rfl⟩:=List.mem_map.1 ht;exact(zKA x 0 u hu).2
 · have e : ((qH 0 x).map hBA).map Tok.p = qH 0 x := by
     rw[List.map_map]
     conv=>rhs;rw[← List.map_id (qH 0 x)]
     exact List.map_congr_left fun t ht=>(zKA x 0 t ht).1
   rw[e];exact fTA x hd 0
def axX:SX:=.l [.w ⟨#[97,120,105,111,109]⟩,.w ⟨#[97]⟩,.w ⟨#[85,110,105,116]⟩]
def AxPost(W:World)(v:Value)(w:World):Prop:=Under W w∧∃ g c,v = .tuple #[.slice (some ⟨g,0,none⟩) 1 c,.int .i64 0,.int .i64 0]∧g < w.heap.size∧w.cell? ⟨g,0,none⟩=some (.int .i64 2)
theorem AxPost.re{W:World}(v:Value)(w:World)(τ:Nat→Question→Nat)(d:Nat)(h:AxPost W v w):AxPost W v (re w τ d):=⟨h.1.re τ d,h.2⟩
theorem mAB:∃ p p1 p2 p3,tQA 0 axX=tJ p p1 p2 p3:=⟨_,_,_,_,rfl⟩
theorem gPA(W:World)(hE:StrcAt W)(hS:ShapesAt 3 W):CallsG Tryz.prog 33 #[.string ⟨#[40,97,120,105,111,109,32,97,32,85,110,105,116,41]⟩] W (AxPost W):=by
 obtain⟨h1,h2,h3⟩:=nNA (x:=axX) (by unfold axX;simp[okX,l0A];decide) (by decide) (by decide);rw[show(⟨(mG axX).toArray⟩:ByteArray)=⟨#[40,97,120,105,111,109,32,97,32,85,110,105,116,41]⟩ by decide]at h1;obtain⟨p,p1,p2,p3,hT⟩:=mAB;rw[hT]at h3;refine bK rC Tryz.func33 rfl ?_ AxPost.re;simp only[Tryz.ntmps33,List.size_toArray,List.length_cons,List.length_nil,Nat.reduceAdd,Nat.reduceSub,Array.replicate_succ,Array.replicate_zero,List.push_toArray,List.append_toArray,List.nil_append,List.cons_append];refine dH rC (jE rC fun τ d=>?_);go_wp2;refine lK ?_ τ d;refine dH rC ?_;refine rW rC 1 (by decide) fun τ d=>?_
 simp only[List.take_succ_cons,List.take_zero];go_wp2;refine cXA ?_ τ d;refine zI (i:=1) (rest:=List.range' 2 7) rC rfl (by rfl) (qG (vs:=#[.string ⟨#[40,97,120,105,111,109,32,97,32,85,110,105,116,41]⟩]) rfl Tryz.func65 (by kernel_rfl) rfl (by simp[Act.eval])) (zTA h1 h2 W) ?_;rintro v w3 ⟨hU3,hR⟩;rw[h3]at hR;obtain⟨vr,rfl,hown⟩:=hR;obtain⟨q,cap,rfl,hcap,hsx⟩:=pWA hown;have hf:(fC (tJ p p1 p2 p3)).length=4:=rfl;have hIt:iL (fC (tJ p p1 p2 p3))=some [fC (tJ p p1 p2 p3)]:=by
  have:=bP (ts:=[tJ p p1 p2 p3]) (by simp only[oMA,okS,tJ,nN];decide)
  simpa [kC] using this
 have HI:=aA (fun τ d=>cBA (w0:=re w3 τ d) (cap:=cap) (p:=q) (fC (tJ p p1 p2 p3)) (by rw[hf];decide) hcap hsx);have HU3:=aA hU3;rw[hf]at hcap;rw[hf,hIt]at HI;have HES:=aA (And.intro hE hS);clear hU3 hown hsx hIt hE hS;refine bF rC 2 7 0 (by decide) fun τ d=>?_
 simp only[List.drop_succ_cons,List.drop_zero,List.take_succ_cons,List.take_zero];walk_nrm;go_wp2;refine uG rC ?_;simp only[Exit.then];refine lK ?_ τ d;refine jE rC fun τ d=>?_
 go_wp2_with fail;refine(HI.out τ d).mono ?_;rintro e w4 ⟨hU4,vo,vs,rfl,g1,g2⟩;obtain⟨pq,pc,rfl,hrows⟩:=mQA g1 g2;obtain⟨b,off,rfl,hb,hcs⟩:=hrows (by simp);obtain⟨q0,c0,a0,ac0,aq0⟩:=hcs 0 _ rfl;rw[hf,Nat.add_zero]at a0;rw[hf]at ac0;simp only[List.length_singleton];have HU4:=aA ((HU3.out.re τ d).trans hU4);have HA:=aA (And.intro a0 (And.intro hb (And.intro ac0 aq0)));have HRb:=aA (rA w4 #[.slice none 0 0,.int .i64 0,.int .i64 0] 88);have HFo:=aA (pVA (w0:=w4.alloc (.cells #[.slice none 0 0,.int .i64 0,.int .i64 0] 88)));clear hU4 g1 g2 hrows hcs a0 ac0 aq0 hb HI HU3;go_wp2_with fail;refine HFo.out.mono ?_;rintro e w6 ⟨rfl,hM,hU6⟩;have hs4:(w4.alloc (.cells #[.slice none 0 0,.int .i64 0,.int .i64 0] 88)).heap.size=w4.heap.size+1:=by simp
 rw[hs4]at hM ⊢;have HM:=aA hM;clear hs4;have HR6:=aA (HRb.out.under hU6);have HU6:=aA (Under.trans (bA (Under.refl w4) (.cells #[.slice none 0 0,.int .i64 0,.int .i64 0] 88)) hU6);have HA6:=aA ((fA HU6.out HA.out.2.1 off).trans HA.out.1);have HL6:=aA (Nat.lt_of_lt_of_le HA.out.2.1 HU6.out.size);have HTh:=aA (oUA HR6.out HM.out HA.out.2.2.1 (HA.out.2.2.2.under HU6.out) (HES.out.1.under (HU4.out.trans HU6.out)) (HES.out.2.under (HU4.out.trans HU6.out)));clear hM hU6 HFo HRb;go_wp2;go_loopw [34] (fun i wr=>(i = .int .i64 0∧w6=wr)∨(i = .int .i64 1∧∃ g c wm,Under w6 wm∧g≠w4.heap.size∧w6.heap.size≤g∧wm.cell? ⟨g,0,none⟩=some (.int .i64 2)∧wr=wm.setCell ⟨w4.heap.size,0,none⟩ (.slice (some ⟨g,0,none⟩) 1 c))) (fun i _=>1 - (intOf i).toNat)
 case atStart=>exact .inl ⟨rfl,rfl⟩
 case round =>
   rcases hrel with⟨rfl,rfl⟩ | ⟨rfl,g,c,wm,hUm,hne,hg,hc,rfl⟩
   · have a0 := HA6.out; have al := HL6.out; go_wp2_with fail; refine HTh.out.mono ?_; rintro e w7 ⟨rfl, g, c, wm, hUm, hne, hg, hc, rfl⟩; have HP := aA (And.intro hUm (And.intro hne (And.intro hg hc))); clear hUm hne hg hc HTh; go_wp2; go_roundw
     case rel=>exact .inr ⟨rfl,g,c,wm,HP.out.1,HP.out.2.1,HP.out.2.2.1,HP.out.2.2.2,rfl⟩
     case measure=>simp[intOf]
   · have HB:=aA ((HR6.out.under hUm).set 0 (.slice (some ⟨g,0,none⟩) 1 c));have HUe:=aA (show Under W (wm.setCell ⟨w4.heap.size,0,none⟩ (.slice (some ⟨g,0,none⟩) 1 c)) from bC (HU4.out.trans (HU6.out.trans hUm)) (HU4.out.size) _ _);have HC:=aA (show(wm.setCell ⟨w4.heap.size,0,none⟩ (.slice (some ⟨g,0,none⟩) 1 c)).cell? ⟨g,0,none⟩=some (.int .i64 2) by rw[World.cell?_setCell_other _ _ _ _ (by intro h;simp only[Addr.mk.injEq]at h;omega)];exact hc);generalize wm.setCell ⟨w4.heap.size,0,none⟩ (.slice (some ⟨g,0,none⟩) 1 c)=w8 at *;clear hUm hne hg hc;have c0:w8.cell? ⟨w4.heap.size,0,none⟩=some (.slice (some ⟨g,0,none⟩) 1 c):=HB.out.cell 0;have bl:=HB.out.lt;go_wp2;exact mZ rfl rfl ⟨HUe.out,g,c,rfl,uT HC.out,HC.out⟩
theorem jR(W:World)(hE:StrcAt W)(hS:ShapesAt 3 W):CallsG Tryz.prog 9 #[] W (TrueU W):=by
 have hR:=gPA W hE hS;refine bK rC Tryz.func9 rfl ?_ TrueU.re;simp only[Tryz.ntmps9,List.size_toArray,List.length_cons,List.length_nil,Nat.reduceAdd,Nat.reduceSub,Array.replicate_succ,Array.replicate_zero,List.push_toArray,List.append_toArray,List.nil_append,List.cons_append];refine dH rC (jE rC fun τ d=>?_);go_wp2;refine lK ?_ τ d;refine dH rC ?_;refine mK rC ?_;refine zI (i:=0) (rest:=List.range' 1 7) rC rfl (by rfl) (qG (vs:=#[.string ⟨#[40,97,120,105,111,109,32,97,32,85,110,105,116,41]⟩]) rfl Tryz.func33 (by kernel_rfl) rfl (by simp[Act.eval])) hR ?_;rintro v w1 ⟨hU1,g,c,rfl,hg,hc⟩;refine bF rC 1 7 0 (by decide) fun τ d=>?_
 simp only[List.drop_succ_cons,List.drop_zero,List.take_succ_cons,List.take_zero];walk_nrm;go_wp2;refine uG rC ?_;simp only[Exit.then];refine lK ?_ τ d;refine jE rC fun τ d=>?_
 have hU1':=aA (hU1.re τ d);have c0:(re w1 τ d).cell? ⟨g,0,none⟩=some (.int .i64 2):=hc;have gl:g < (re w1 τ d).heap.size:=hg;clear hR hU1 hc hg;go_wp2;exact uH rfl rfl ⟨rfl,hU1'.out⟩
noncomputable def enRest:Code:=qA (qA (Tryz.f6.body.getD .skip))
def EnQ(W:World)(e:Exit)(a:Act)(w:World):Prop:=xS Tryz.prog Tryz.f6 (TrueU W) e a w
def eCB(s:ByteArray)(na:Nat)(J:Nat→Value):Array Value:=#[J 0,.string s,.pointer (some ⟨na,0,none⟩),J 3,J 4,J 5,J 6,J 7,J 8,J 9,J 10,J 11,J 12,J 13,J 14,J 15,J 16,J 17,J 18,J 19,J 20,J 21,J 22,J 23,J 24,J 25,J 26,J 27,J 28,J 29,J 30,J 31,J 32,J 33,J 34,J 35,J 36,J 37,J 38,J 39,J 40,J 41,J 42,J 43,J 44,J 45,J 46,J 47,J 48,J 49,J 50,J 51,J 52,J 53,J 54,J 55,J 56,J 57,J 58,J 59,J 60,J 61,J 62,J 63,J 64,J 65,J 66,J 67,J 68,J 69,J 70,J 71,J 72,J 73,J 74,J 75,J 76,J 77,J 78,J 79,J 80,J 81,J 82,J 83,J 84,J 85,J 86,J 87,J 88,J 89]
theorem zVA(s:ByteArray):GoodD ((vH s).getD dcNo):=by
 unfold vH
 cases h:mV s with
 | none=>exact rLA
 | some d =>
   rw[Option.bind_some]
   split
   · exact bWA h
   · exact rLA
theorem xEA{d:Dc}(hw:WB d):∀ t∈aB d,t.length≤2048:=by
 intro t ht;unfold aB at ht
 split at ht
 · simp only [List.mem_cons, List.not_mem_nil, or_false] at ht; rcases ht with rfl | rfl
   · exact hw.type
   · exact hw.body
 · split at ht
   · simp only[List.mem_cons,List.not_mem_nil,or_false]at ht;obtain rfl:=ht;exact hw.type
   · split at ht
     · obtain⟨c,hc,ht⟩:=List.mem_flatten.1 ht;exact hw.terms c hc t ht
     · exact absurd ht (by simp)
theorem yY(d:Dc):(xD d).size≤200000:=by
 by_cases h:kF d=0
 · exact(zJA h).2
 · unfold xD
   split
   · rename_i hd; unfold kF at h; rw [if_pos hd] at h
     cases hp:xL d with
     | none=>exact Nat.zero_le _
     | some l=>rw[hp]at h;exact absurd rfl h
   · exact Nat.zero_le _
theorem fIA{d:Dc}(h:kF d≠0):xD d=⟨#[]⟩:=by
 unfold kF at h;unfold xD
 split
 · rename_i hd; rw [if_pos hd] at h
   cases hp:xL d with
   | none=>rfl
   | some l=>rw[hp]at h;exact absurd rfl h
 · rfl
theorem gRA:vH ⟨#[]⟩=none:=by
 have h:zC ⟨#[]⟩=none:=by unfold zC;rw[if_pos (by rw[ByteArray.toList_eq])]
 unfold vH mV;rw[h];rfl
section
variable {W w : World}
theorem hAB {na nt ct nb cb nc cc : Nat} {d : Dc} {s : ByteArray} {pt pb pc : Option Addr} (hf : Fine d) (hT : ∀ t ∈ aB d, t.length ≤ 2048) (hs : s.size ≤ 2048)
    (hv:DcV w (.agg #[.int .i64 d.kind,.int .i64 d.level,.string d.name,.slice pt nt ct,.slice pb nb cb,.slice pc nc cc]) d) (hb:BoxAt w na 33 #[.int .i64 d.kind,.int .i64 d.level,.string d.name,.slice pt nt ct,.slice pb nb cb,.slice pc nc cc]) (hS:ShapesAt 3 w) (hF:FieldsAll 0 w) (hU:Under W w) (J:Nat→Value) :
    enRest.wp Tryz.prog (EnQ W) ⟨eCB s na J,[]⟩ w:=by
  have HEn:=aA (fun w' (h:Under w w')=>eQ (w0:=w') hf.small (fun t ht=>by have:=hT t ht;omega) (DcV.mono _ _ _ _ h hv) (hS.under h) (nO (hF.under h)));have HRn:=aA (fun w' (h:Under w w')=>yQ (w0:=w') hf.small hf.few hf.many (fun t ht=>by have:=hT t ht;omega) (DcV.mono _ _ _ _ h hv));have HTh:=aA (fun w' (h:Under w w')=>yK (w0:=w') d (DcV.mono _ _ _ _ h hv));have HDs:=aA (fun w' (h:Under w w')=>iO (w0:=w') s (by omega) (hS.under h) (hF.under h));have HRs:=aA (fun w'=>qIA (w0:=w') s (by omega));have HDa:=aA (fun w' (h:Under w w')=>iO (w0:=w') (xD d) (Nat.le_trans (yY d) (by decide)) (hS.under h) (hF.under h));have HX:=aA (zVA s).lite;have HL:=aA hf.lite;have HV:=aA hv;have HBa:=aA hb;have HU:=aA hU;have HEc:=aA (fun(h:kF d=0)=>xW h);have HEn0:=aA (fun(h:¬ kF d=0)=>(show vH (xD d)=none by rw[fIA h];exact gRA));unfold tT at HDs HRs HDa;unfold yM at HEn HRn;generalize (vH s).getD dcNo=x at *;generalize (if(vH s).isSome=true then(0:Int) else 50)=c0 at *;generalize vH (xD d)=DA at *;generalize xD d=BB at *;generalize kF d=E at *;have n0:=hb.cell 0;have n1:=hb.cell 1;have n2:=hb.cell 2;have n3:=hb.cell 3;have n4:=hb.cell 4;have n5:=hb.cell 5;have nl:=hb.lt;clear hf hT hs hv hb hS hF hU;generalize hQ:EnQ W=Q;have HQ:=aA hQ;clear hQ;unfold enRest;simp only[Tryz.f6,Option.getD_some,qA];unfold eCB;go_wp2_with fail;refine(HEn.out _ (Under.refl _)).mono ?_;rintro e w1 ⟨rfl,hU1⟩;have HU1:=aA hU1;have n0:=(HBa.out.under hU1).cell 0;have n1:=(HBa.out.under hU1).cell 1;have n2:=(HBa.out.under hU1).cell 2;have n3:=(HBa.out.under hU1).cell 3;have n4:=(HBa.out.under hU1).cell 4;have n5:=(HBa.out.under hU1).cell 5;have nl:=(HBa.out.under hU1).lt;clear hU1 HEn;go_wp2_with fail;refine(HTh.out _ HU1.out).mono ?_;rintro e w2 ⟨rfl,hU2⟩;have HU2:=aA (HU1.out.trans hU2);clear hU2 n0 n1 n2 n3 n4 n5 nl;go_wp2_with fail;refine(HRn.out _ HU2.out).mono ?_;rintro e w3 ⟨rfl,hU3⟩;have HU3:=aA (HU2.out.trans hU3);clear hU3 HRn HU1 HU2;go_wp2_with fail;refine(HDs.out _ HU3.out).mono ?_;rintro e w4 ⟨v4,rfl,hv4,hU4⟩;have HV4:=aA hv4;obtain⟨vt,vb,vc,rfl,⟨p4,c4,rfl,_⟩,⟨q4,k4,rfl,_⟩,⟨r4,m4,us4,rfl,_⟩⟩:=hv4;have hA4:=bA (Under.refl w4) (.cells #[.int .i64 x.kind,.int .i64 x.level,.string x.name,.slice p4 x.type.length c4,.slice q4 x.body.length k4,.slice r4 x.cons.length m4] 33);have HB4:=aA (rA w4 #[.int .i64 x.kind,.int .i64 x.level,.string x.name,.slice p4 x.type.length c4,.slice q4 x.body.length k4,.slice r4 x.cons.length m4] 33);have HU4:=aA ((HU3.out.trans hU4).trans hA4);have HV4:=aA (DcV.mono _ _ _ _ hA4 HV4.out);clear hU4 hA4 HDs HU3;go_wp2_with fail;refine(HRs.out _).mono ?_;rintro e w5 ⟨v5,rfl,hv5,hU5⟩;have HV5:=aA hv5;obtain⟨vt,vb,vc,rfl,⟨p5,c5,rfl,_⟩,⟨q5,k5,rfl,_⟩,⟨r5,m5,us5,rfl,_⟩⟩:=hv5;have hA5:=hU5.trans (bA (Under.refl w5) (.cells #[.int .i64 x.kind,.int .i64 x.level,.string x.name,.slice p5 x.type.length c5,.slice q5 x.body.length k5,.slice r5 x.cons.length m5] 37))
  have HB5:=aA (rA w5 #[.int .i64 x.kind,.int .i64 x.level,.string x.name,.slice p5 x.type.length c5,.slice q5 x.body.length k5,.slice r5 x.cons.length m5] 37);have HU5:=aA (HU4.out.trans hA5);have HB4:=aA (HB4.out.under hA5);have HV4:=aA (DcV.mono _ _ _ _ hA5 HV4.out);have HV5:=aA (DcV.mono _ _ _ _ (bA (Under.refl w5) (.cells #[.int .i64 x.kind,.int .i64 x.level,.string x.name,.slice p5 x.type.length c5,.slice q5 x.body.length k5,.slice r5 x.cons.length m5] 37)) HV5.out);clear hU5 hA5 HRs HU4;go_wp2_with fail;rename_i K0 hK0;obtain⟨w6,hw6⟩:∃ w6,w6=w5.alloc (.cells #[.int .i64 x.kind,.int .i64 x.level,.string x.name,.slice p5 x.type.length c5,.slice q5 x.body.length k5,.slice r5 x.cons.length m5] 37):=⟨_,rfl⟩;rw[← hw6]at HB5 HU5 HB4 HV4 HV5 ⊢;clear hw6;have HS:=aA (fun w' (h:Under w6 w')=>(show w'.cell? ⟨w4.heap.size,0,none⟩=some (.int .i64 x.kind)∧w'.cell? ⟨w4.heap.size,1,none⟩=some (.int .i64 x.level)∧w'.cell? ⟨w4.heap.size,2,none⟩=some (.string x.name)∧w'.cell? ⟨w4.heap.size,3,none⟩=some (.slice p4 x.type.length c4)∧w'.cell? ⟨w4.heap.size,4,none⟩=some (.slice q4 x.body.length k4)∧w'.cell? ⟨w4.heap.size,5,none⟩=some (.slice r4 x.cons.length m4)∧w'.cell? ⟨w5.heap.size,0,none⟩=some (.int .i64 x.kind)∧w'.cell? ⟨w5.heap.size,1,none⟩=some (.int .i64 x.level)∧w'.cell? ⟨w5.heap.size,2,none⟩=some (.string x.name)∧w'.cell? ⟨w5.heap.size,3,none⟩=some (.slice p5 x.type.length c5)∧w'.cell? ⟨w5.heap.size,4,none⟩=some (.slice q5 x.body.length k5)∧w'.cell? ⟨w5.heap.size,5,none⟩=some (.slice r5 x.cons.length m5) from⟨(HB4.out.under h).cell 0,(HB4.out.under h).cell 1,(HB4.out.under h).cell 2,(HB4.out.under h).cell 3,(HB4.out.under h).cell 4,(HB4.out.under h).cell 5,(HB5.out.under h).cell 0,(HB5.out.under h).cell 1,(HB5.out.under h).cell 2,(HB5.out.under h).cell 3,(HB5.out.under h).cell 4,(HB5.out.under h).cell 5⟩));have HT6:=aA (fun w' (h:Under w6 w')=>yK (w0:=w') x (DcV.mono _ _ _ _ h HV4.out));have HC6:=aA (fun w' (h:Under w6 w')=>rKA (w0:=w') x HX.out (DcV.mono _ _ _ _ h HV4.out) (DcV.mono _ _ _ _ h HV5.out));have l4:=HB4.out.lt;have l5:=HB5.out.lt;refine wp_region_noPanic ?_;refine wp_region_held_drew (S:=fun w'=>w'.cell? ⟨w4.heap.size,0,none⟩=some (.int .i64 x.kind)∧w'.cell? ⟨w4.heap.size,1,none⟩=some (.int .i64 x.level)∧w'.cell? ⟨w4.heap.size,2,none⟩=some (.string x.name)∧w'.cell? ⟨w4.heap.size,3,none⟩=some (.slice p4 x.type.length c4)∧w'.cell? ⟨w4.heap.size,4,none⟩=some (.slice q4 x.body.length k4)∧w'.cell? ⟨w4.heap.size,5,none⟩=some (.slice r4 x.cons.length m4)∧w'.cell? ⟨w5.heap.size,0,none⟩=some (.int .i64 x.kind)∧w'.cell? ⟨w5.heap.size,1,none⟩=some (.int .i64 x.level)∧w'.cell? ⟨w5.heap.size,2,none⟩=some (.string x.name)∧w'.cell? ⟨w5.heap.size,3,none⟩=some (.slice p5 x.type.length c5)∧w'.cell? ⟨w5.heap.size,4,none⟩=some (.slice q5 x.body.length k5)∧w'.cell? ⟨w5.heap.size,5,none⟩=some (.slice r5 x.cons.length m5)) (by kernel_rfl) (HS.out _ (nA (Under.refl _))) (fun hHeld=>?_)
  refine dA 0 rfl ?_;refine dA 1 rfl ?_;refine dA 2 rfl ?_;refine dA 3 rfl ?_;refine dA 4 rfl ?_;refine dA 5 rfl ?_;refine dA 6 rfl ?_;refine dA 7 rfl ?_;refine dA 8 rfl ?_;refine dA 9 rfl ?_;refine dA 10 rfl ?_;refine dA 11 rfl ?_;refine dA 12 rfl ?_;refine dA 13 rfl ?_;refine dA 14 rfl ?_;refine dA 16 rfl ?_
  try walk_nrm
  refine yA 15 (by kernel_rfl) rfl fun K hK=>?_
  go_simp;go_at_call 14;refine(HT6.out _ (nA (Under.refl w6))).mono ?_;rintro e w7 ⟨rfl,hU⟩;have HU7:=aA ((nA (Under.refl w6)).trans hU);clear hU;refine hK.out _ _ (HS.out _ HU7.out) (fun _=>?_);clear hK K hHeld;rename_i hHeld
  try walk_nrm
  refine yA 17 (by kernel_rfl) rfl fun K hK=>?_
  go_simp;go_at_call 13;refine(HC6.out _ HU7.out).mono ?_;rintro e w8 ⟨rfl,hU⟩;have HU8:=aA (HU7.out.trans hU);clear hU;refine hK.out _ _ (HS.out _ HU8.out) (fun _=>?_);clear hK K hHeld;rename_i hHeld
  try walk_nrm
  refine dA 18 rfl ?_;refine dA 19 rfl ?_
  try walk_nrm
  refine wpAnyH_done (by kernel_rfl) ?_ _;refine NoPanic.normal ?_;have HW8:=aA (HU5.out.trans HU8.out);clear HS HT6 HC6 HU7 HU8 HB4 HB5 HV4 HV5 HX l4 l5 hHeld HU5;refine hK0 _ _ ?_;clear hK0 K0;go_wp2_with fail;refine(HDa.out _ HW8.out).mono ?_;rintro e w9 ⟨v9,rfl,hv9,hU9⟩;by_cases hE:E=0
  · subst hE; obtain rfl : DA = some d := HEc.out rfl; simp only [Option.isSome_some, Option.getD_some, if_true] at hv9 ⊢; have HV9 := aA hv9; obtain ⟨vt, vb, vc, rfl, ⟨p9, c9, rfl, _⟩, ⟨q9, k9, rfl, _⟩, ⟨r9, m9, us9, rfl, _⟩⟩ := hv9; have hA9 := hU9.trans (bA (Under.refl w9) (.cells #[.int .i64 d.kind, .int .i64 d.level, .string d.name, .slice p9 d.type.length c9, .slice q9 d.body.length k9, .slice r9 d.cons.length m9] 33)); have HB9 := aA (rA w9 #[.int .i64 d.kind, .int .i64 d.level, .string d.name, .slice p9 d.type.length c9, .slice q9 d.body.length k9, .slice r9 d.cons.length m9] 33); have HV9 := aA (DcV.mono _ _ _ _ (bA (Under.refl w9) (.cells #[.int .i64 d.kind, .int .i64 d.level, .string d.name, .slice p9 d.type.length c9, .slice q9 d.body.length k9, .slice r9 d.cons.length m9] 33)) HV9.out); have HU9 := aA (HW8.out.trans hA9); clear hU9 hA9 HDa HEc HEn0 HW8; go_wp2_with fail; rename_i K0 hK0; obtain ⟨w10, hw10⟩ : ∃ w10, w10 = w9.alloc (.cells #[.int .i64 d.kind, .int .i64 d.level, .string d.name, .slice p9 d.type.length c9, .slice q9 d.body.length k9, .slice r9 d.cons.length m9] 33) := ⟨_, rfl⟩; rw [← hw10] at HB9 HV9 HU9 ⊢; clear hw10; have HBa := aA (HBa.out.under HU9.out); have HV := aA (DcV.mono _ _ _ _ HU9.out HV.out); have HS := aA (fun w' (h : Under w10 w') => (show w'.cell? ⟨w9.heap.size, 0, none⟩ = some (.int .i64 d.kind) ∧ w'.cell? ⟨w9.heap.size, 1, none⟩ = some (.int .i64 d.level) ∧ w'.cell? ⟨w9.heap.size, 2, none⟩ = some (.string d.name) ∧ w'.cell? ⟨w9.heap.size, 3, none⟩ = some (.slice p9 d.type.length c9) ∧ w'.cell? ⟨w9.heap.size, 4, none⟩ = some (.slice q9 d.body.length k9) ∧ w'.cell? ⟨w9.heap.size, 5, none⟩ = some (.slice r9 d.cons.length m9) ∧ w'.cell? ⟨na, 0, none⟩ = some (.int .i64 d.kind) ∧ w'.cell? ⟨na, 1, none⟩ = some (.int .i64 d.level) ∧ w'.cell? ⟨na, 2, none⟩ = some (.string d.name) ∧ w'.cell? ⟨na, 3, none⟩ = some (.slice pt nt ct) ∧ w'.cell? ⟨na, 4, none⟩ = some (.slice pb nb cb) ∧ w'.cell? ⟨na, 5, none⟩ = some (.slice pc nc cc) from ⟨(HB9.out.under h).cell 0, (HB9.out.under h).cell 1, (HB9.out.under h).cell 2, (HB9.out.under h).cell 3, (HB9.out.under h).cell 4, (HB9.out.under h).cell 5, (HBa.out.under h).cell 0, (HBa.out.under h).cell 1, (HBa.out.under h).cell 2, (HBa.out.under h).cell 3, (HBa.out.under h).cell 4, (HBa.out.under h).cell 5⟩)); have HT6 := aA (fun w' (h : Under w10 w') => yK (w0 := w') d (DcV.mono _ _ _ _ h HV9.out)); have HT7 := aA (fun w' (h : Under w10 w') => yK (w0 := w') d (DcV.mono _ _ _ _ h HV.out)); have HC6 := aA (fun w' (h : Under w10 w') => rKA (w0 := w') d HL.out (DcV.mono _ _ _ _ h HV9.out) (DcV.mono _ _ _ _ h HV.out)); have l9 := HB9.out.lt; have la := HBa.out.lt; refine wp_region_noPanic ?_; refine wp_region_held_drew (S := fun w' => w'.cell? ⟨w9.heap.size, 0, none⟩ = some (.int .i64 d.kind) ∧ w'.cell? ⟨w9.heap.size, 1, none⟩ = some (.int .i64 d.level) ∧ w'.cell? ⟨w9.heap.size, 2, none⟩ = some (.string d.name) ∧ w'.cell? ⟨w9.heap.size, 3, none⟩ = some (.slice p9 d.type.length c9) ∧ w'.cell? ⟨w9.heap.size, 4, none⟩ = some (.slice q9 d.body.length k9) ∧ w'.cell? ⟨w9.heap.size, 5, none⟩ = some (.slice r9 d.cons.length m9) ∧ w'.cell? ⟨na, 0, none⟩ = some (.int .i64 d.kind) ∧ w'.cell? ⟨na, 1, none⟩ = some (.int .i64 d.level) ∧ w'.cell? ⟨na, 2, none⟩ = some (.string d.name) ∧ w'.cell? ⟨na, 3, none⟩ = some (.slice pt nt ct) ∧ w'.cell? ⟨na, 4, none⟩ = some (.slice pb nb cb) ∧ w'.cell? ⟨na, 5, none⟩ = some (.slice pc nc cc)) (by kernel_rfl) (HS.out _ (nA (Under.refl _))) (fun hHeld => ?_)
    refine dA 0 rfl ?_;refine dA 1 rfl ?_;refine dA 2 rfl ?_;refine dA 3 rfl ?_;refine dA 4 rfl ?_;refine dA 5 rfl ?_;refine dA 6 rfl ?_;refine dA 7 rfl ?_;refine dA 8 rfl ?_;refine dA 9 rfl ?_;refine dA 11 rfl ?_
    try walk_nrm
    refine yA 10 (by kernel_rfl) rfl fun K hK=>?_
    go_simp;go_at_call 14;refine(HT6.out _ (nA (Under.refl w10))).mono ?_;rintro e w11 ⟨rfl,hU⟩;have HU11:=aA ((nA (Under.refl w10)).trans hU);clear hU;refine hK.out _ _ (HS.out _ HU11.out) (fun _=>?_);clear hK K hHeld;rename_i hHeld
    try walk_nrm
    refine yA 12 (by kernel_rfl) rfl fun K hK=>?_
    go_simp;go_at_call 14;refine(HT7.out _ HU11.out).mono ?_;rintro e w12 ⟨rfl,hU⟩;have HU12:=aA (HU11.out.trans hU);clear hU;refine hK.out _ _ (HS.out _ HU12.out) (fun _=>?_);clear hK K hHeld;rename_i hHeld
    try walk_nrm
    refine yA 13 (by kernel_rfl) rfl fun K hK=>?_
    go_simp;go_at_call 13;refine(HC6.out _ HU12.out).mono ?_;rintro e w13 ⟨rfl,hU⟩;have HU13:=aA (HU12.out.trans hU);clear hU;refine hK.out _ _ (HS.out _ HU13.out) (fun _=>?_);clear hK K hHeld;rename_i hHeld
    try walk_nrm
    refine dA 14 rfl ?_;refine dA 15 rfl ?_;refine dA 16 rfl ?_
    try walk_nrm
    refine wpAnyH_done (by kernel_rfl) ?_ _;refine NoPanic.normal ?_;have HW13:=aA (HU9.out.trans HU13.out);clear HS HT6 HT7 HC6 HU11 HU12 HU13 HB9 HBa HV9 HV HL l9 la hHeld HU9;refine hK0 _ _ ?_;clear hK0 K0;go_wp2;rw[← HQ.out];exact uH rfl rfl ⟨rfl,HU.out.trans HW13.out⟩
  · obtain rfl : DA = none := HEn0.out hE; simp only [Option.isSome_none, Option.getD_none, Bool.false_eq_true, if_false] at hv9 ⊢; obtain ⟨vt, vb, vc, rfl, ⟨p9, c9, rfl, _⟩, ⟨q9, k9, rfl, _⟩, ⟨r9, m9, us9, rfl, _⟩⟩ := hv9; have hE' : (E == 0) = false := by simpa using hE
    have hE2:(E != 0)=true:=by simpa using hE
    have HU9:=aA (HW8.out.trans hU9);clear hU9 HDa HEc HEn0 HW8 hE;go_wp2_with fail;go_quiet (fail);go_wp2;rw[← HQ.out];exact uH rfl rfl ⟨rfl,HU.out.trans (bB (HU9.out.trans (bA (Under.refl _) _)) _)⟩
end
end Go.Proofs.YtggjbblgoddnjaaGreatDoor
