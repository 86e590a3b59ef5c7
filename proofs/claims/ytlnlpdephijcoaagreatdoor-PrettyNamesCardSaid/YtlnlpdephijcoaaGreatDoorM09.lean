/- Part 9 of what the proof rests on. -/
import Derived.Test.YtlnlpdephijcoaaGreatDoorM08
set_option linter.unusedSimpArgs false
set_option linter.unusedVariables false
namespace Go.Lx
open Go.Conc
open Go.ConcN (sumTo upd sumTo_upd upd_ne upd_same)
variable {X : Shared} {n top : Nat} {cl : Bool} {gs : Array Goroutine} {w w' : World} {t u : Trace} {qs : Nat → Nat} {M S : Nat → Prop} {o0 o1 o0' o1' : Option Nat}
theorem sP{P:Program}{main:Bool}{R:World→World→Prop}{D:World→World→Array Event→Prop}{Stop:Goroutine→World→Prop}{m:Nat}{g:Goroutine}{w:World}(h:Goes P main R D Stop m g w) :
 (∀ w₁,R w w₁→Stop g w₁)∨∃ m',m=m'+1∧g.status = .running∧∀ w₁,R w w₁→∃ g' w' es,stepG P main g w₁ = .go g' w' es∧D w₁ w' es∧Goes P main R D Stop m' g' w':=by
 cases m with
 | zero=>exact .inl h
 | succ m =>
   rcases h with h | ⟨hs,h⟩
   · exact .inl h
   · refine .inr ⟨m, rfl, hs, fun w₁ h₁ => ?_⟩; have := h w₁ h₁
     revert this
     cases stepG P main g w₁<;>simp only[GStep.goes,false_implies];rename_i g' w' es;exact fun⟨a,b⟩=>⟨g',w',es,rfl,a,b⟩
theorem StopM.running{l:List MAct}{o:Option Nat}{g:Goroutine}{w:World}(h:StopM X l o g w):g.status = .running:=by
 cases l with
 | nil=>exact h.1
 | cons a l=>cases a<;>exact h.1
theorem StopS.running{l:List SAct}{o:Option Nat}{g:Goroutine}{w:World}(h:StopS X l o g w):g.status = .running:=by
 cases l with
 | nil=>exact h.1
 | cons a l=>cases a<;>exact h.1
theorem GoM.running{l:List MAct}{o:Option Nat}{m:Nat}{g:Goroutine}{w:World}(h:GoM X l o m g w):g.status = .running :=
 (sP h).elim (fun h=>(h w (Rely.refl w)).running) fun⟨_,_,h,_⟩=>h
theorem GoS.running{l:List SAct}{o:Option Nat}{m:Nat}{g:Goroutine}{w:World}(h:GoS X l o m g w):g.status = .running :=
 (sP h).elim (fun h=>(h w (Rely.refl w)).running) fun⟨_,_,h,_⟩=>h
theorem gT{i k m:Nat}(hlt:i < m)(hq:qs i=k+1):sumTo m (upd qs i k) < sumTo m qs:=by
 have h:sumTo m (upd qs i k)+(k+1)=sumTo m qs+k:=by
  have:=sumTo_upd qs k id hlt
  simpa [hq] using this
 omega
theorem uCB{Q:Nat→Nat→Nat→Prop}(h:∀ A K L,(∀ A' K' L',(A' < A∨(A'=A∧(K' < K∨(K'=K∧L' < L))))→Q A' K' L')→Q A K L):∀ A K L,Q A K L:=by
 intro A
 induction A using Nat.strongRecOn with
 | ind A ihA =>
 intro K
 induction K using Nat.strongRecOn with
 | ind K ihK =>
 intro L
 induction L using Nat.strongRecOn with
 | ind L ihL =>
 refine h A K L fun A' K' L' hlt=>?_
 rcases hlt with h | ⟨rfl,h | ⟨rfl,h⟩⟩
 · exact ihA A' h K' L'
 · exact ihK K' h L'
 · exact ihL L' h
theorem rQ{P:Program}{k e r:Nat}{x:Goroutine}{send:Bool}(h:QuitsD P k e x):offersAt x r send=[] :=
 offersAt_of_not_blocked (by rcases h.status with h | h<;>rw[h]<;>simp) r send
inductive IsB (X : Shared) (l : List MAct) (o : Option Nat) (g : Goroutine) (w : World) : Nat → Prop
  | walks {m:Nat} (h:GoM X l o m g w):IsB X l o g w (m+1)
  | woken {g₀:Goroutine} (hl:l=[]) (e:g={ parked g₀ X.rcv (.recv true) with status:=.running }) (h:∀ w₁,Rely X.d X.T0 o w w₁→AtEnd X g₀ w₁):IsB X l o g w 0
theorem IsB.running{l:List MAct}{o:Option Nat}{m:Nat}{g:Goroutine}{w:World}(h:IsB X l o g w m):g.status = .running:=by
 cases h with
 | walks h=>exact GoM.running h
 | woken _ e _=>rw[e]
theorem IsB.rely{l:List MAct}{o:Option Nat}{m:Nat}{g:Goroutine}{w w₁:World}(h:IsB X l o g w m)(r:Rely X.d X.T0 o w w₁):IsB X l o g w₁ m:=by
 cases h with
 | walks h=>exact .walks (Goes.rely (R:=Rely X.d X.T0 o) (fun _ _ _ a b=>a.trans b) h r)
 | woken hl e h=>exact .woken hl e fun w₂ h₂=>h w₂ (r.trans h₂)
theorem cCA {g g₀ : Goroutine} {p : Nat} {sl : Option (Nat × Nat)} (hI : Inv X n (n + 1) true gs w t qs M S o0 o1) (hS : Shut n X.d.c p t) (h0 : gs[0]? = some g)
    (hst:stepG X.P true g w = .comm g₀ X.rcv true (.recv true) w #[]) (hFin:X.Fin (g₀.finishComm X.P X.rcv (.recv true) 0 X.z false) w) {sl0:Option (Nat×Nat)} {w0:World}
    (hstep:stepT X.P (crowd gs w0 sl0)=runT X.P (crowd gs w sl) 0):Gets X.P X.Fin gs w0 sl0 t:=by
  obtain⟨s,r,tm,hc⟩:=hI.chan;have hp:partners (gs.setIfInBounds 0 ph) X.d.c true=[]:=by
   refine partners_nil fun j x hj=>?_
   rcases getElem?_stand gs 0 j x hj with⟨_,rfl⟩ | ⟨hj0,hx⟩
   · rfl
   · have hjl:=(Array.getElem?_eq_some_iff.1 hx).1;have:=hI.size;exact rQ (hI.old j x (by omega) (by omega) hx)
  have hrun:=crowd_recv_closed (P:=X.P) (sl:=sl) (i:=0) h0 (show stepG X.P (0==0) g w=_ from hst) hc hp;rw[hrun]at hstep;refine Gets.step hstep ?_;have h0l:0 < gs.size:=(Array.getElem?_eq_some_iff.1 h0).1;have hev:(MemOp.ofEvents 0 g.frame.fn g.frame.place #[])=#[]:=rfl;rw[hev,Array.empty_append];have hu:∀ op∈(#[{ g:=0,fn:=g₀.frame.fn,pos:=g₀.frame.place,act:=.recvClosed X.d.c }]:Array MemOp),op.g=0:=by simp
  refine⟨0,_,_,_,_,_,qs,rfl,by simp[h0l];rfl,hFin,⟨fun j x hj hx=>?_,fun j hj=>?_⟩,b4A hI.pair hI.hears0 hS⟩
  · rw[Array.getElem?_setIfInBounds_ne (by omega)]at hx;rw[Deaf_other t (by omega) _ hu];have hjl:=(Array.getElem?_eq_some_iff.1 hx).1;have:=hI.size;exact hI.old j x hj (by omega) hx
  · have := hI.size; have hj' : gs.size ≤ j := by simpa using hj
    rw[Deaf_other t (g:=j) (g':=0) (by omega) _ hu];exact hI.above j (by omega)
theorem kT{g:Goroutine}(hI:Inv X n (n+1) cl gs w t qs M S o0 o1)(h0:gs[0]? = some g)(hr:g.status = .running):∀(i j:Nat) (x:Goroutine),j≠i→gs[j]? = some x→x.status = .running∨x.status = .finished∨x.again w'=x:=by
 intro i j x _ hx;rcases Nat.eq_zero_or_pos j with rfl | hj
 · rw[h0]at hx;obtain rfl:=Option.some.inj hx;exact .inl hr
 · have hjl:=(Array.getElem?_eq_some_iff.1 hx).1;have:=hI.size;exact(hI.old j x hj (by omega) hx).status.imp id .inl
theorem j3A(F:X.Fit):∀(A K L:Nat),∀(l:List MAct) (g:Goroutine) (gs:Array Goroutine) (w:World) (sl:Option (Nat×Nat)) (t:Trace) (qs:Nat→Nat) (M S:Nat→Prop) (o0 o1:Option Nat) (p:Nat),
 l.length=A→recvs l=[]→IsB X l o0 g w K→sumTo gs.size qs=L→gs[0]? = some g→Inv X n (n+1) true gs w t qs M S o0 o1→Shut n X.d.c p t→Gets X.P X.Fin gs w sl t:=by
 refine uCB fun A K L ih=>?_
 intro l g gs w sl t qs M S o0 o1 p hA hr hB hL h0 hI hS;have hrun:=hB.running;have h0l:0 < gs.size:=(Array.getElem?_eq_some_iff.1 h0).1;have haw:∀ x∈gs,awake x:=by
  intro x hx;obtain⟨j,hj,rfl⟩:=Array.mem_iff_getElem.1 hx;rcases Nat.eq_zero_or_pos j with rfl | hpos
  · have : gs[0] = g := by simpa [Array.getElem?_eq_getElem hj] using h0
    rw[this];exact awake_of (.inl hrun)
  · have:=hI.size;exact awake_of ((hI.old j _ hpos (by omega) (Array.getElem?_eq_getElem hj)).status.elim .inl fun x=>.inr (.inr x))
 obtain⟨i,x,e,sl',hi,hx,hst⟩:=crowd_pick (P:=X.P) (w:=w) (sl:=sl) haw ⟨0,g,h0,hrun⟩;have hIe:=hI.at e;have hR:Rely X.d X.T0 o0 w (w.at e):=Rely.at w e;rcases Nat.eq_zero_or_pos i with rfl | hpos
 · rw [h0] at hi; obtain rfl := Option.some.inj hi
   cases hB with
   | woken hl eg hE =>
     obtain⟨h1,h2,h3⟩:=hE _ hR;refine cCA hIe hS h0 ?_ h3 hst;rw[eg,stepG_tries];have:({ g with status:=.running }:Goroutine)=g:=by cases g;simp_all
     exact h2
   | walks hG =>
     rename_i m;rcases sP hG with hstop | ⟨m',rfl,_,hgo⟩
     · have hs := hstop _ hR
       cases l with
       | nil=>exact cCA hIe hS h0 hs.2.1 hs.2.2 hst
       | cons a l =>
         cases a with
         | recv v=>simp[recvs]at hr
         | box =>
           obtain ⟨_, g', w', es, hstep, hbx, hev, m2, hG2⟩ := hs; rw [runT_crowd_go (P := X.P) (i := 0) h0 (show stepG X.P (0 == 0) _ (w.at e) = _ from hstep), qH (kT hIe h0 hrun 0)] at hst; refine Gets.step hst ?_; have hs' := hIe.split.box F.tb0 F.tb1 hbx; have hI' := hIe.step0 F (fun b hb => hbx.old (Nat.lt_of_lt_of_le hb hIe.split.bsize)) hs' hev g.frame.fn g.frame.place g'; exact ih l.length (m2 + 1) (sumTo (gs.setIfInBounds 0 g').size qs) (.inl (by rw [← hA]; simp)) l g' _ w' sl' _ qs _ S _ o1 p rfl (by simpa [recvs] using hr) (.walks hG2) rfl (by simp [h0l]) hI'
             (hS.app fun op hop hg => by
               obtain⟨e,_,rfl⟩:=Conc.mem_ofEvents hop;exact absurd hg (Nat.ne_of_lt hI.pos))
     · obtain ⟨g', w', es, hstep, ⟨hT, hev⟩, hG2⟩ := hgo _ hR; rw [runT_crowd_go (P := X.P) (i := 0) h0 (show stepG X.P (0 == 0) _ (w.at e) = _ from hstep), qH (kT hIe h0 hrun 0)] at hst; refine Gets.step hst ?_; have hs' := hIe.split.turn F.dis hT; have hI' := hIe.step0 F (fun b hb => hIe.split.low hIe.pair.highM hT hb) hs' hev g.frame.fn g.frame.place g'; exact ih A (m' + 1) (sumTo (gs.setIfInBounds 0 g').size qs) (.inr ⟨rfl, .inl (by omega)⟩) l g' _ w' sl' _ qs _ S _ o1 p hA hr (.walks hG2) rfl (by simp [h0l]) hI'
         (hS.app fun op hop hg => by
           obtain⟨e,_,rfl⟩:=Conc.mem_ofEvents hop;exact absurd hg (Nat.ne_of_lt hI.pos))
 · have hil := (Array.getElem?_eq_some_iff.1 hi).1; have hsz := hI.size; have hq := hI.old i x hpos (by omega) hi
   cases hqi:qs i with
   | zero=>rw[hqi]at hq;rw[hq.1]at hx;cases hx
   | succ k =>
     rw[hqi]at hq;rcases hq with⟨hf,_⟩ | ⟨_,g',es,hm,hstp,hq'⟩
     · rw[hf]at hx;cases hx
     have hi0:(i==0)=false:=by simp;omega
     rw[runT_crowd_go (P:=X.P) (i:=i) hi (by rw[hi0];exact hstp (w.at e)),qH (kT hIe h0 hrun i)]at hst;refine Gets.step hst ?_;have hI':=hIe.slip hpos (by omega) hm (fun _=>rfl) hq' x.frame.fn x.frame.place;have hdec:sumTo (gs.setIfInBounds i g').size (upd qs i k) < L:=by
      rw[← hL,Array.size_setIfInBounds];exact gT hil hqi
     exact ih A K (sumTo (gs.setIfInBounds i g').size (upd qs i k)) (.inr ⟨rfl, .inr ⟨rfl, hdec⟩⟩) l g _ (w.at e) sl' _ _ M S o0 o1 p hA hr (hB.rely hR) rfl (by rw [Array.getElem?_setIfInBounds_ne (by omega)]; exact h0) hI'
       (hS.app fun op hop _ => by
         obtain⟨e,he,rfl⟩:=Conc.mem_ofEvents hop;exact touch_mute (hm e he))
open Go.ConcN (sumTo upd sumTo_upd upd_ne upd_same)
variable {X : Shared} {n top : Nat} {cl : Bool} {gs arr : Array Goroutine} {w w' : World} {t u : Trace} {qs : Nat → Nat} {M S : Nat → Prop} {o0 o1 o0' o1' : Option Nat}
theorem Inv.crew(h:Inv X n n cl gs w t qs M S o0 o1)(hs:arr.size=n+1)(ho:∀ j x,0 < j→j < n→arr[j]? = some x→gs[j]? = some x):Inv X n n cl arr w t qs M S o0 o1 :=
 ⟨h.pos,hs,h.topl,fun j x hj hjt hx=>h.old j x hj hjt (ho j x hj hjt hx),h.above,h.pair,h.hears0,h.hearsN,h.split,h.quit,h.chan⟩
theorem Inv.dull(F:X.Fit)(h:Inv X n n false gs w t qs M S o0 o1)(hn:∀ op∈u,op.act.touch? = none)(hd:∀ op∈u,op.act≠.mark .disable∧op.act≠.mark .enable){s r:Nat}{tm:Bool} :
 Inv X n n false gs (w.setChan X.d.c 0 #[] false s r tm) (t++u) qs M S o0 o1:=by
 have hlt:X.d.c < w.heap.size:=Nat.lt_of_lt_of_le F.cB h.split.bsize;refine⟨h.pos,h.size,h.topl,fun j x hj hjt hx=>?_,fun j hj=>?_,h.pair.dull hn,(Deaf_still t 0 u hd).trans h.hears0,fun hc=>(Deaf_still t n u hd).trans (h.hearsN hc),h.split.chan F.cB,?_,?_⟩
 · rw[Deaf_still t j u hd];exact h.old j x hj hjt hx
 · rw[Deaf_still t j u hd];exact h.above j hj
 · simp only[World.setChan];rw[Array.getElem?_setIfInBounds_ne F.cq];exact h.quit
 · exact⟨s,r,tm,by simp only[World.setChan];rw[Array.getElem?_setIfInBounds_self_of_lt hlt]⟩
theorem Inv.shut (F : X.Fit) (h : Inv X n n false gs w t qs M S o0 o1) (hs : arr.size = n + 1) (ho : ∀ j x, 0 < j → j < n → arr[j]? = some x → gs[j]? = some x) {g' : Goroutine} {k : Nat} (hg : arr[n]? = some g')
    (hq:QuitsD X.P k 0 g') (fn:FuncId) (pos:String) {s r:Nat} {tm:Bool} :
    Inv X n (n+1) true arr (w.setChan X.d.c 0 #[] true s r tm) (t++#[{ g:=n,fn,pos,act:=.close X.d.c }]) (upd qs n k) M S o0 o1∧Shut n X.d.c t.size (t++#[{ g:=n,fn,pos,act:=.close X.d.c }]):=by
  have hlt:X.d.c < w.heap.size:=Nat.lt_of_lt_of_le F.cB h.split.bsize;have hd:∀ op∈(#[{ g:=n,fn,pos,act:=.close X.d.c }]:Array MemOp),op.act≠.mark .disable∧op.act≠.mark .enable:=by simp
  have hy:(t++#[({ g:=n,fn,pos,act:=.close X.d.c }:MemOp)])[t.size]? = some { g:=n,fn,pos,act:=.close X.d.c }:=by rw[Array.getElem?_append_right (Nat.le_refl _)];simp
  refine⟨⟨h.pos,hs,Nat.le_refl _,fun j x hj hjt hx=>?_,fun j hj=>?_,h.pair.dull (by simp[MemAct.touch?]),(Deaf_still t 0 _ hd).trans h.hears0,(fun hc=>by cases hc),h.split.chan F.cB,?_,?_⟩,?_⟩
  · rw [Deaf_still t j _ hd]; by_cases hjn : j = n
    · subst hjn;rw[hg]at hx;obtain rfl:=Option.some.inj hx;rw[upd_same,h.hearsN rfl];exact hq
    · rw[upd_ne qs k hjn];exact h.old j x hj (by omega) (ho j x hj (by omega) hx)
  · rw[Deaf_still t j _ hd];exact h.above j hj
  · simp only[World.setChan];rw[Array.getElem?_setIfInBounds_ne F.cq];exact h.quit
  · exact⟨s,r,tm,by simp only[World.setChan];rw[Array.getElem?_setIfInBounds_self_of_lt hlt]⟩
  · refine ⟨by rw [act?_of hy], g?_of hy, ⟨n, g?_of hy, ?_⟩, fun i x hx hgi => ?_⟩
    · rw[deaf_old (Nat.le_refl _)];exact h.hearsN rfl
    · obtain ⟨y, hy', hyx⟩ := touch_of hx; rcases getElem?_append_cases hy' with ⟨hi, _⟩ | ⟨_, hyu⟩
      · exact hi
      · simp at hyu; subst hyu
        cases hyx
theorem vXA{v:Value}{g:Goroutine}{sh:CommShape}{s r s' r':Nat}{tm tm':Bool}(hc:w.heap[X.d.c]? = some (.chan 0 #[] false s r tm))(hq:w.heap[X.q]? = some (.chan 0 #[] false s' r' tm')) :
 (parked g (X.sel v) sh).again w=parked g (X.sel v) sh:=by
 simp[Goroutine.again,parked,Shared.sel,scase,rcase,hc,hq]
theorem jTA{v:Value}{g:Goroutine}{sh:CommShape}(F:X.Fit):offersAt (parked g (X.sel v) sh) X.d.c true=[0]∧offersAt (parked g (X.sel v) sh) X.d.c false=[]∧offersAt (parked g (X.sel v) sh) X.q true=[]:=by
 have h1:¬ X.q=X.d.c:=fun e=>F.cq e.symm
 have h2:¬ X.d.c=X.q:=F.cq;refine⟨?_,?_,?_⟩<;>simp[offersAt,parked,Shared.sel,scase,rcase,h1,h2]
theorem IsM.status{l:List MAct}{o:Option Nat}{g:Goroutine}{k:Nat}(h:IsM X l o g w k):(g.status = .running∧0 < k)∨(g.status = .blocked∧k=0):=by
 cases h with
 | walks h=>exact .inl ⟨GoM.running h,by omega⟩
 | waits e _ _=>exact .inr ⟨by rw[e];rfl,rfl⟩
theorem IsS.status{l:List SAct}{o:Option Nat}{g:Goroutine}{k:Nat}(h:IsS X l o g w k):(g.status = .running∧0 < k)∨(g.status = .blocked∧k=0):=by
 cases h with
 | walks h=>exact .inl ⟨GoS.running h,by omega⟩
 | waits _ e _=>exact .inr ⟨by rw[e];rfl,rfl⟩
theorem IsM.rely{l:List MAct}{o:Option Nat}{g:Goroutine}{k:Nat}{w₁:World}(h:IsM X l o g w k)(r:Rely X.d X.T0 o w w₁):IsM X l o g w₁ k:=by
 cases h with
 | walks h=>exact .walks (Goes.rely (R:=Rely X.d X.T0 o) (fun _ _ _ a b=>a.trans b) h r)
 | waits e h hl=>exact .waits e (fun w₂ h₂=>h w₂ (r.trans h₂)) hl
theorem IsS.rely{l:List SAct}{o:Option Nat}{g:Goroutine}{k:Nat}{w₁:World}(h:IsS X l o g w k)(r:Rely X.d X.T1 o w w₁):IsS X l o g w₁ k:=by
 cases h with
 | walks h=>exact .walks (Goes.rely (R:=Rely X.d X.T1 o) (fun _ _ _ a b=>a.trans b) h r)
 | waits hl e h=>exact .waits hl e fun w₂ h₂=>h w₂ (r.trans h₂)
theorem tRA {as : List MAct} {bs : List SAct} {g0 g1 : Goroutine} {k0 k1 : Nat} (hI : Inv X n n cl gs w t qs M S o0 o1) (h0 : gs[0]? = some g0) (hn : gs[n]? = some g1) (hM : IsM X as o0 g0 w k0) (hS : IsS X bs o1 g1 w k1)
    (hc:∃ s r tm,w'.heap[X.d.c]? = some (.chan 0 #[] false s r tm)) (hq:∃ s r tm,w'.heap[X.q]? = some (.chan 0 #[] false s r tm)) (i:Nat) :
    ∀ j x,j≠i→gs[j]? = some x→x.status = .running∨x.status = .finished∨x.again w'=x:=by
  intro j x _ hx;obtain⟨s,r,tm,hc⟩:=hc;obtain⟨s',r',tm',hq⟩:=hq;rcases Nat.eq_zero_or_pos j with rfl | hj
  · rw [h0] at hx; obtain rfl := Option.some.inj hx
    cases hM with
    | walks h=>exact .inl (GoM.running h)
    | waits e _ _=>exact .inr (.inr (by rw[e];exact again_recv_open hc))
  · by_cases hjn : j = n
    · subst hjn; rw [hn] at hx; obtain rfl := Option.some.inj hx
      cases hS with
      | walks h=>exact .inl (GoS.running h)
      | waits _ e _=>exact .inr (.inr (by rw[e];exact vXA hc hq))
    · have hjl:=(Array.getElem?_eq_some_iff.1 hx).1;have:=hI.size;exact(hI.old j x hj (by omega) hx).status.imp id .inl
open Go.ConcN (sumTo upd sumTo_upd upd_ne upd_same)
variable {X : Shared} {n top : Nat} {cl : Bool} {gs : Array Goroutine} {w w' : World} {t u : Trace} {qs : Nat → Nat} {M S : Nat → Prop} {o0 o1 o0' o1' : Option Nat}
structure Both (X:Shared) (n:Nat) (as:List MAct) (bs:List SAct) (k0 k1:Nat) (gs:Array Goroutine) (w:World) (t:Trace) (qs:Nat→Nat) (M S:Nat→Prop) (o0 o1:Option Nat) (g0 g1:Goroutine):Prop where
 inv:Inv X n n false gs w t qs M S o0 o1
 h0:gs[0]? = some g0
 hn:gs[n]? = some g1
 isM:IsM X as o0 g0 w k0
 isS:IsS X bs o1 g1 w k1
 same:recvs as=sends bs
 alive:0 < k0+k1
theorem Both.at{as:List MAct}{bs:List SAct}{k0 k1:Nat}{g0 g1:Goroutine}(h:Both X n as bs k0 k1 gs w t qs M S o0 o1 g0 g1)(e:Nat):Both X n as bs k0 k1 gs (w.at e) t qs M S o0 o1 g0 g1 :=
 ⟨h.inv.at e,h.h0,h.hn,h.isM.rely (Rely.at w e),h.isS.rely (Rely.at w e),h.same,h.alive⟩
def Done(X:Shared)(n:Nat)(A K L:Nat):Prop :=
 ∀(as:List MAct) (bs:List SAct) (k0 k1:Nat) (gs:Array Goroutine) (w:World) (sl:Option (Nat×Nat)) (t:Trace) (qs:Nat→Nat) (M S:Nat→Prop) (o0 o1:Option Nat) (g0 g1:Goroutine),
  as.length+bs.length=A→k0+k1=K→sumTo gs.size qs=L→Both X n as bs k0 k1 gs w t qs M S o0 o1 g0 g1→Gets X.P X.Fin gs w sl t
section
variable {as : List MAct} {bs : List SAct} {k0 k1 : Nat} {g0 g1 : Goroutine} {A K L : Nat} {sl sl' : Option (Nat × Nat)} {w0 : World}
theorem wH{i:Nat}{y:Goroutine}(hi:i < gs.size):(gs.setIfInBounds i y)[i]? = some y:=Array.getElem?_setIfInBounds_self_of_lt hi
theorem vFA (F : X.Fit) (h : Both X n as bs k0 k1 gs w t qs M S o0 o1 g0 g1) (hlow : ∀ b, b < X.d.B → w'.heap[b]? = w.heap[b]?) (hs : Split X.d X.T0 X.T1 w'.heap (More M w w') S o0' o1)
    (hR:Rely X.d X.T1 o1 w w') {es:Array Event} (hev:∀ e∈es,uX X.d X.T0 o0' w' e) {g':Goroutine} (hst:stepG X.P true g0 w = .go g' w' es)
    (hstep:stepT X.P (crowd gs w0 sl)=runT X.P (crowd gs w sl') 0) {as':List MAct} {m:Nat} (hG:GoM X as' o0' m g' w') (hsame:recvs as'=sends bs)
    (hD:Done X n (as'.length+bs.length) (m+1+k1) (sumTo gs.size qs)):Gets X.P X.Fin gs w0 sl t:=by
  have hq':∃ s r tm,w'.heap[X.q]? = some (.chan 0 #[] false s r tm):=by rw[hlow _ F.qB];exact h.inv.quit
  have hc':∃ s r tm,w'.heap[X.d.c]? = some (.chan 0 #[] false s r tm):=by rw[hlow _ F.cB];exact h.inv.chan
  rw[runT_crowd_go (P:=X.P) (i:=0) h.h0 (show stepG X.P (0==0) _ _=_ from hst),qH (tRA h.inv h.h0 h.hn h.isM h.isS hc' hq' 0)]at hstep;refine Gets.step hstep ?_;have h0l:0 < gs.size:=(Array.getElem?_eq_some_iff.1 h.h0).1;have hp:=h.inv.pos;refine hD as' bs (m+1) k1 _ w' _ _ qs _ S o0' o1 g' g1 rfl rfl (by simp) ⟨h.inv.step0 F hlow hs hev _ _ g',wH h0l,?_,.walks hG,h.isS.rely hR,hsame,by omega⟩;rw[Array.getElem?_setIfInBounds_ne (by omega)];exact h.hn
theorem fFA (F : X.Fit) (h : Both X n as bs k0 k1 gs w t qs M S o0 o1 g0 g1) (hlow : ∀ b, b < X.d.B → w'.heap[b]? = w.heap[b]?) (hs : Split X.d X.T1 X.T0 w'.heap (More S w w') M o1' o0)
    (hR:Rely X.d X.T0 o0 w w') {es:Array Event} (hev:∀ e∈es,uX X.d X.T1 o1' w' e) {g':Goroutine} (hst:stepG X.P false g1 w = .go g' w' es)
    (hstep:stepT X.P (crowd gs w0 sl)=runT X.P (crowd gs w sl') n) {bs':List SAct} {m:Nat} (hG:GoS X bs' o1' m g' w') (hsame:recvs as=sends bs')
    (hD:Done X n (as.length+bs'.length) (k0+(m+1)) (sumTo gs.size qs)):Gets X.P X.Fin gs w0 sl t:=by
  have hq':∃ s r tm,w'.heap[X.q]? = some (.chan 0 #[] false s r tm):=by rw[hlow _ F.qB];exact h.inv.quit
  have hc':∃ s r tm,w'.heap[X.d.c]? = some (.chan 0 #[] false s r tm):=by rw[hlow _ F.cB];exact h.inv.chan
  have hp:=h.inv.pos;have hn0:(n==0)=false:=by simp;omega
  rw[runT_crowd_go (P:=X.P) (i:=n) h.hn (by rw[hn0];exact hst),qH (tRA h.inv h.h0 h.hn h.isM h.isS hc' hq' n)]at hstep;refine Gets.step hstep ?_;have hnl:n < gs.size:=(Array.getElem?_eq_some_iff.1 h.hn).1;refine hD as bs' k0 (m+1) _ w' _ _ qs M _ o0 o1' g0 g' rfl rfl (by simp) ⟨h.inv.stepN F hlow hs hev _ _ g',?_,wH hnl,h.isM.rely hR,.walks hG,hsame,by omega⟩;rw[Array.getElem?_setIfInBounds_ne (by omega)];exact h.h0
theorem fWA (F : X.Fit) (h : Both X n as bs k0 k1 gs w t qs M S o0 o1 g0 g1) {i : Nat} {x : Goroutine} (hi : gs[i]? = some x) (hx : x.status = .running) (hpos : 0 < i) (hin : i ≠ n)
    (hstep:stepT X.P (crowd gs w0 sl)=runT X.P (crowd gs w sl') i) (hD:∀ L',L' < sumTo gs.size qs→Done X n (as.length+bs.length) (k0+k1) L'):Gets X.P X.Fin gs w0 sl t:=by
  have hil:=(Array.getElem?_eq_some_iff.1 hi).1;have hsz:=h.inv.size;have hq:=h.inv.old i x hpos (by omega) hi
  cases hqi:qs i with
  | zero=>rw[hqi]at hq;rw[hq.1]at hx;cases hx
  | succ k =>
    rw[hqi]at hq;rcases hq with⟨hf,_⟩ | ⟨_,g',es,hm,hstp,hq'⟩
    · rw[hf]at hx;cases hx
    have hi0:(i==0)=false:=by simp;omega
    rw[runT_crowd_go (P:=X.P) (i:=i) hi (by rw[hi0];exact hstp w),qH (tRA h.inv h.h0 h.hn h.isM h.isS h.inv.chan h.inv.quit i)]at hstep;refine Gets.step hstep ?_;refine hD (sumTo gs.size (upd qs i k)) (gT hil hqi) as bs k0 k1 _ w _ _ _ M S o0 o1 g0 g1 rfl rfl (by simp) ⟨h.inv.slip hpos (by omega) hm (fun e=>absurd e hin) hq' _ _,?_,?_,h.isM,h.isS,h.same,h.alive⟩
    · rw[Array.getElem?_setIfInBounds_ne (by omega)];exact h.h0
    · rw[Array.getElem?_setIfInBounds_ne (by omega)];exact h.hn
theorem oO(i:Nat)(fn:FuncId)(pos:String):MemOp.ofEvents i fn pos #[]=#[]:=rfl
theorem yIA(h:Both X n as bs k0 k1 gs w t qs M S o0 o1 g0 g1)(r:Nat)(send:Bool):partners (gs.setIfInBounds 0 ph) r send=(offersAt g1 r send).map fun k=>(n,k):=by
 have hp:=h.inv.pos;have hsz:=h.inv.size;refine partners_one (by rw[Array.getElem?_setIfInBounds_ne (by omega)];exact h.hn) fun j x hjn hj=>?_
 rcases getElem?_stand gs 0 j x hj with⟨_,rfl⟩ | ⟨hj0,hx⟩
 · rfl
 · have hjl:=(Array.getElem?_eq_some_iff.1 hx).1;exact rQ (h.inv.old j x (by omega) (by omega) hx)
theorem bW(h:Both X n as bs k0 k1 gs w t qs M S o0 o1 g0 g1)(r:Nat)(send:Bool):partners (gs.setIfInBounds n ph) r send=(offersAt g0 r send).map fun k=>(0,k):=by
 have hp:=h.inv.pos;have hsz:=h.inv.size;refine partners_one (by rw[Array.getElem?_setIfInBounds_ne (by omega)];exact h.h0) fun j x hj0 hj=>?_
 rcases getElem?_stand gs n j x hj with⟨_,rfl⟩ | ⟨hjn,hx⟩
 · rfl
 · have hjl:=(Array.getElem?_eq_some_iff.1 hx).1;exact rQ (h.inv.old j x (by omega) (by omega) hx)
theorem rHA (F : X.Fit) (h : Both X n as bs k0 k1 gs w t qs M S o0 o1 g0 g1) (hst : stepG X.P true g0 w = .comm g0 X.rcv true (.recv true) w #[]) (hrun : g1.status = .running) (hk1 : 0 < k1)
    (hstep:stepT X.P (crowd gs w0 sl)=runT X.P (crowd gs w sl') 0) (hstop:∀ w₁,Rely X.d X.T0 o0 w w₁→StopM X as o0 g0 w₁) (hl:∀ l',as≠.box::l')
    (hD:Done X n (as.length+bs.length) (0+k1) (sumTo gs.size qs)):Gets X.P X.Fin gs w0 sl t:=by
  have hp:=h.inv.pos;obtain⟨s,r,tm,hc⟩:=h.inv.chan;have hno:∀ cc∈X.rcv,NoWays w (gs.setIfInBounds 0 ph) cc:=by
   intro cc hcc;simp[Shared.rcv]at hcc;subst hcc;refine ways_recv_none hc ?_;rw[yIA h,offersAt_of_not_blocked (by rw[hrun];simp)];rfl
  rw[crowd_waits (P:=X.P) (i:=0) h.h0 (show stepG X.P (0==0) _ _=_ from hst) hno,oO]at hstep;refine Gets.step hstep ?_;rw[Array.append_empty];have h0l:0 < gs.size:=(Array.getElem?_eq_some_iff.1 h.h0).1;refine hD as bs 0 k1 _ w _ t qs M S o0 o1 _ g1 rfl rfl (by simp) ⟨h.inv.crew (by simpa using h.inv.size) (fun j x hj _ hx=>by rwa [Array.getElem?_setIfInBounds_ne (by omega)]at hx),wH h0l,?_,.waits rfl hstop hl,h.isS,h.same,by omega⟩;rw[Array.getElem?_setIfInBounds_ne (by omega)];exact h.hn
theorem rUA (F : X.Fit) (h : Both X n as bs k0 k1 gs w t qs M S o0 o1 g0 g1) {v : Value} {bs' : List SAct} (hb : bs = .send v :: bs') (hst : stepG X.P false g1 w = .comm g1 (X.sel v) true .select w #[]) (hrun : g0.status = .running) (hk0 : 0 < k0)
    (hstep:stepT X.P (crowd gs w0 sl)=runT X.P (crowd gs w sl') n) (hstop:∀ w₁,Rely X.d X.T1 o1 w w₁→StopS X bs o1 g1 w₁)
    (hD:Done X n (as.length+bs.length) (k0+0) (sumTo gs.size qs)):Gets X.P X.Fin gs w0 sl t:=by
  have hp:=h.inv.pos;have hn0:(n==0)=false:=by simp;omega
  obtain⟨s,r,tm,hc⟩:=h.inv.chan;obtain⟨s',r',tm',hq⟩:=h.inv.quit;have hno:∀ cc∈X.sel v,NoWays w (gs.setIfInBounds n ph) cc:=by
   intro cc hcc;simp[Shared.sel]at hcc;rcases hcc with rfl | rfl
   · refine ways_send_none hc (by simp) ?_;rw[bW h,offersAt_of_not_blocked (by rw[hrun];simp)];rfl
   · refine ways_recv_none hq ?_;rw[bW h,offersAt_of_not_blocked (by rw[hrun];simp)];rfl
  rw[crowd_waits (P:=X.P) (i:=n) h.hn (by rw[hn0];exact hst) hno,oO]at hstep;refine Gets.step hstep ?_;rw[Array.append_empty];have hnl:n < gs.size:=(Array.getElem?_eq_some_iff.1 h.hn).1;refine hD as bs k0 0 _ w _ t qs M S o0 o1 g0 _ rfl rfl (by simp) ⟨h.inv.crew (by simpa using h.inv.size) (fun j x hj hjn hx=>by rwa [Array.getElem?_setIfInBounds_ne (by omega)]at hx),?_,wH hnl,h.isM,.waits hb rfl hstop,h.same,by omega⟩;rw[Array.getElem?_setIfInBounds_ne (by omega)];exact h.h0
end
open Go.ConcN (sumTo upd sumTo_upd upd_ne upd_same)
variable {X : Shared} {n top : Nat} {cl : Bool} {gs : Array Goroutine} {w w' : World} {t u : Trace} {qs : Nat → Nat} {M S : Nat → Prop} {o0 o1 o0' o1' : Option Nat}
variable {as : List MAct} {bs : List SAct} {k0 k1 : Nat} {g0 g1 : Goroutine} {A K L : Nat} {sl sl' : Option (Nat × Nat)} {w0 : World}
theorem eUA(hB:X.d.c < X.d.B)(hM:∀ b,M b→X.d.B≤b)(hb:∀ b,o0=some b→M b):o0≠some X.d.c:=fun e=>by have:=hM _ (hb _ e);omega
theorem sMA (F : X.Fit) (h : Both X n as bs k0 k1 gs w t qs M S o0 o1 g0 g1) {as' : List MAct} {bs' : List SAct} {g0' g1' : Goroutine} {m0 m1 : Nat} (hG : GoM X as' o0 m0 g0' w) (hH : GoS X bs' o1 m1 g1' w) (hsame : recvs as' = sends bs')
    {arr:Array Goroutine} (harr:arr.size=n+1) (ha0:arr[0]? = some g0') (han:arr[n]? = some g1') (haj:∀ j,j≠0→j≠n→arr[j]? = gs[j]?)
    (hn:∀ op∈u,op.act.touch? = none) (hd:∀ op∈u,op.act≠.mark .disable∧op.act≠.mark .enable) {s r:Nat} {tm:Bool}
    (hstep:stepT X.P (crowd gs w0 sl)=(.next (crowd arr (w.setChan X.d.c 0 #[] false s r tm) sl'),u))
    (hD:Done X n (as'.length+bs'.length) (m0+1+(m1+1)) (sumTo gs.size qs)):Gets X.P X.Fin gs w0 sl t:=by
  refine Gets.step hstep ?_;have hp:=h.inv.pos;have r0:Rely X.d X.T0 o0 w (w.setChan X.d.c 0 #[] false s r tm):=Rely.chan w F.cB (eUA F.cB h.inv.pair.highM h.inv.split.box0);have r1:Rely X.d X.T1 o1 w (w.setChan X.d.c 0 #[] false s r tm):=Rely.chan w F.cB (eUA F.cB h.inv.pair.highS h.inv.split.box1);refine hD as' bs' (m0+1) (m1+1) arr _ _ _ qs M S o0 o1 g0' g1' rfl rfl (by rw[harr,h.inv.size]) ⟨(h.inv.dull F hn hd).crew harr (fun j x hj hjn hx=>by rwa [haj j (by omega) (by omega)]at hx),ha0,han,?_,?_,hsame,by omega⟩
  · exact(IsM.walks hG:IsM X as' o0 g0' w (m0+1)).rely r0
  · exact(IsS.walks hH:IsS X bs' o1 g1' w (m1+1)).rely r1
theorem hYA (F : X.Fit) (h : Both X n as bs k0 k1 gs w t qs M S o0 o1 g0 g1) {v : Value} {as' : List MAct} {bs' : List SAct} {gp : Goroutine} (hb : bs = .send v :: bs') (hg1 : g1 = parked gp (X.sel v) .select)
    (hst:stepG X.P true g0 w = .comm g0 X.rcv true (.recv true) w #[]) {m0 m1:Nat} (hG:GoM X as' o0 m0 (g0.finishComm X.P X.rcv (.recv true) 0 v true) w) (hH:GoS X bs' o1 m1 (gp.finishComm X.P (X.sel v) .select 0 undef false) w)
    (hsame:recvs as'=sends bs') (hstep:stepT X.P (crowd gs w0 sl)=runT X.P (crowd gs w sl') 0)
    (hD:Done X n (as'.length+bs'.length) (m0+1+(m1+1)) (sumTo gs.size qs)):Gets X.P X.Fin gs w0 sl t:=by
  obtain⟨s,r,tm,hc⟩:=h.inv.chan;have hp:=h.inv.pos;have hsz:=h.inv.size;have hpar:partners (gs.setIfInBounds 0 ph) X.d.c true=[(n,0)]:=by
   rw[yIA h,hg1,(jTA F).1];rfl
  have hrun:=nFA (P:=X.P) (sl:=sl') (i:=0) (j:=n) (k:=0) (v:=v) (zj:=X.zc) h.h0 (show stepG X.P (0==0) _ _=_ from hst) hc (by omega) (by rw[h.hn,hg1]) (by simp[Shared.sel]) hpar;rw[hrun,oO,Array.empty_append]at hstep;refine sMA F h hG hH hsame (by simp[hsz]) ?_ ?_ (fun j h1 h2=>?_) ?_ ?_ hstep hD
  · exact wH (by simp[hsz])
  · rw[Array.getElem?_setIfInBounds_ne (by omega)];exact wH (by omega)
  · rw[Array.getElem?_setIfInBounds_ne (by omega),Array.getElem?_setIfInBounds_ne (by omega)]
  · simp[MemAct.touch?]
  · simp
theorem p0A (F : X.Fit) (h : Both X n as bs k0 k1 gs w t qs M S o0 o1 g0 g1) {v : Value} {as' : List MAct} {bs' : List SAct} {gp : Goroutine} (hg0 : g0 = parked gp X.rcv (.recv true))
    (hst:stepG X.P false g1 w = .comm g1 (X.sel v) true .select w #[]) {m0 m1:Nat} (hG:GoM X as' o0 m0 (gp.finishComm X.P X.rcv (.recv true) 0 v true) w) (hH:GoS X bs' o1 m1 (g1.finishComm X.P (X.sel v) .select 0 undef false) w)
    (hsame:recvs as'=sends bs') (hstep:stepT X.P (crowd gs w0 sl)=runT X.P (crowd gs w sl') n)
    (hD:Done X n (as'.length+bs'.length) (m0+1+(m1+1)) (sumTo gs.size qs)):Gets X.P X.Fin gs w0 sl t:=by
  obtain⟨s,r,tm,hc⟩:=h.inv.chan;obtain⟨s',r',tm',hq⟩:=h.inv.quit;have hp:=h.inv.pos;have hsz:=h.inv.size;have hn0:(n==0)=false:=by simp;omega
  have hpar:partners (gs.setIfInBounds n ph) X.d.c false=[(0,0)]:=by
   rw[bW h,hg0];simp only[Shared.rcv,offersAt_parked_recv,if_true,List.map_cons,List.map_nil]
  have ho:∀(m:Nat) (c':CommCase),m≠0→(X.sel v)[m]? = some c'→NoWays w (gs.setIfInBounds n ph) c':=by
   intro m c' hm hc';have hm1:m=1:=by
    have:=(Array.getElem?_eq_some_iff.1 hc').1;simp[Shared.sel]at this;omega
   subst hm1;simp[Shared.sel]at hc';subst hc';refine ways_recv_none hq ?_;rw[bW h,hg0];simp only[Shared.rcv,offersAt_parked_recv',List.map_nil]
  have hrun:=qGA (P:=X.P) (sl:=sl') (i:=n) (j:=0) (k:=0) (gj:=gp) (zj:=X.z) (shj:=.recv true) h.hn (by rw[hn0];exact hst) (show(X.sel v)[0]? = some (scase X.d.c v X.zc) by simp[Shared.sel]) ho hc (by omega) (by rw[h.h0,hg0];rfl) hpar;rw[hrun,oO,Array.empty_append]at hstep;refine sMA F h hG hH hsame (by simp[hsz]) ?_ ?_ (fun j h1 h2=>?_) ?_ ?_ hstep hD
  · rw[Array.getElem?_setIfInBounds_ne (by omega)];exact wH (by omega)
  · exact wH (by simp[hsz])
  · rw[Array.getElem?_setIfInBounds_ne (by omega),Array.getElem?_setIfInBounds_ne (by omega)]
  · simp[MemAct.touch?]
  · simp
theorem aZA{l:List MAct}(h:recvs l=[])(hb:∀ l',l≠.box::l'):l=[]:=by
 cases l with
 | nil=>rfl
 | cons a l => cases a with
   | box=>exact absurd rfl (hb l)
   | recv v=>simp[recvs]at h
theorem Both.look(h:Both X n as [] k0 k1 gs w t qs M S o0 o1 g0 g1)(fn:FuncId)(pos:String):Inv X n n false gs w (t++MemOp.ofEvents n fn pos #[⟨.obj X.d.c,false,true⟩]) qs M S o0 o1:=by
 have hu:∀ op∈MemOp.ofEvents n fn pos #[⟨.obj X.d.c,false,true⟩],op={ g:=n,fn,pos,act:=.access ⟨.obj X.d.c,false,true⟩ }:=fun op hop=>by
  rw[ofEvents_eq]at hop;simpa [MemAct.ofEvent] using hop
 have hd:∀ op∈MemOp.ofEvents n fn pos #[⟨.obj X.d.c,false,true⟩],op.act≠.mark .disable∧op.act≠.mark .enable:=fun op hop=>by rw[hu op hop];simp
 have hI:=h.inv;refine⟨hI.pos,hI.size,hI.topl,fun j x hj hjt hx=>?_,fun j hj=>?_,?_,(Deaf_still t 0 _ hd).trans hI.hears0,fun hc=>(Deaf_still t n _ hd).trans (hI.hearsN hc),hI.split,hI.quit,hI.chan⟩
 · rw[Deaf_still t j _ hd];exact hI.old j x hj hjt hx
 · rw[Deaf_still t j _ hd];exact hI.above j hj
 · refine(hI.pair.symm.app (fun op hop=>by rw[hu op hop]) (fun op hop x hx hm=>?_) (fun b hb=>hb) hI.pair.symm.apart hI.pair.symm.highM).symm;rw[hu op hop]at hx;simp only[MemAct.touch?,Option.some.injEq]at hx;subst hx;exact .inr ⟨⟨_,rfl⟩,rfl⟩
theorem oTA(F:X.Fit)(h:Both X n as [] k0 k1 gs w t qs M S o0 o1 g0 g1)(hC:AtClose X g1 w)(hstep:stepT X.P (crowd gs w0 sl)=runT X.P (crowd gs w sl') n):Gets X.P X.Fin gs w0 sl t:=by
 obtain⟨s,r,tm,hc⟩:=h.inv.chan;obtain⟨hrun1,hwake,hcl⟩:=hC;obtain⟨g',k,hst,hq⟩:=hcl s r tm hc;have hp:=h.inv.pos;have hsz:=h.inv.size;have hn0:(n==0)=false:=by simp;omega
 have hgo:=runT_crowd_go (P:=X.P) (sl:=sl') (i:=n) h.hn (by rw[hn0];exact hst);rw[hgo]at hstep;refine Gets.step hstep ?_;have hev:MemOp.ofEvents n g1.frame.fn g1.frame.place #[⟨.obj X.d.c,false,true⟩,⟨.obj X.d.c,true,true⟩]=MemOp.ofEvents n g1.frame.fn g1.frame.place #[⟨.obj X.d.c,false,true⟩]++#[{ g:=n,fn:=g1.frame.fn,pos:=g1.frame.place,act:=.close X.d.c }]:=by
  rw[ofEvents_eq,ofEvents_eq];simp[MemAct.ofEvent]
 rw[hev,← Array.append_assoc];have hgs:g'.status≠.blocked∧g'.status≠.waiting:=by
  rcases hq.status with h | h<;>rw[h]<;>simp
 have hwk:∀ x,woken X.P g1 g' (w.setChan X.d.c 0 #[] true s r tm) x=x.again (w.setChan X.d.c 0 #[] true s r tm):=by
  intro x;unfold woken;rw[if_pos];simp[hwake,hgs]
 have hold:∀ j x,0 < j→j < n→(((gs.map (woken X.P g1 g' (w.setChan X.d.c 0 #[] true s r tm))).setIfInBounds n g')[j]?)=some x→gs[j]? = some x:=by
  intro j x hj hjn hx;rw[Array.getElem?_setIfInBounds_ne (by omega),Array.getElem?_map]at hx;obtain⟨y,hy,rfl⟩:=Option.map_eq_some_iff.1 hx;rw[woken_quitsD (h.inv.old j y hj hjn hy)];exact hy
 obtain⟨hI,hS⟩:=(h.look g1.frame.fn g1.frame.place).shut F (arr:=(gs.map (woken X.P g1 g' (w.setChan X.d.c 0 #[] true s r tm))).setIfInBounds n g') (by simp[hsz]) hold (wH (by simp[hsz])) hq g1.frame.fn g1.frame.place (s:=s) (r:=r) (tm:=tm);have r0:Rely X.d X.T0 o0 w (w.setChan X.d.c 0 #[] true s r tm):=Rely.chan w F.cB (eUA F.cB h.inv.pair.highM h.inv.split.box0);have hlt:X.d.c < w.heap.size:=Nat.lt_of_lt_of_le F.cB h.inv.split.bsize;have hcc:(w.setChan X.d.c 0 #[] true s r tm).heap[X.d.c]? = some (.chan 0 #[] true s r tm):=by simp only[World.setChan];rw[Array.getElem?_setIfInBounds_self_of_lt hlt]
 have hr:recvs as=[]:=h.same;have h0':((gs.map (woken X.P g1 g' (w.setChan X.d.c 0 #[] true s r tm))).setIfInBounds n g')[0]? = some (g0.again (w.setChan X.d.c 0 #[] true s r tm)):=by
  rw[Array.getElem?_setIfInBounds_ne (by omega),Array.getElem?_map,h.h0,Option.map_some,hwk]
 obtain⟨hI0,h00,hn0',hM,hS1,hsame,hal⟩:=h
 cases hM with
 | walks hG =>
   rw[again_running _ (.inl (GoM.running hG))]at h0';exact j3A F _ _ _ as g0 _ _ _ _ _ M S o0 o1 _ rfl hr ((IsB.walks hG:IsB X as o0 g0 w _).rely r0) rfl h0' hI hS
 | waits e hstop hl =>
   obtain rfl:=aZA hr hl;rw[e,Shared.rcv,again_recv_closed hcc]at h0';exact j3A F _ _ _ [] _ _ _ _ _ _ M S o0 o1 _ rfl rfl (IsB.woken rfl rfl fun w₁ h₁=>hstop w₁ (r0.trans h₁)) rfl h0' hI hS
theorem yAB(F:X.Fit):∀ A K L,Done X n A K L:=by
 refine uCB fun A K L ih=>?_
 intro as bs k0 k1 gs w sl t qs M S o0 o1 g0 g1 hA hK hL hB;have hp:=hB.inv.pos;have hsz:=hB.inv.size;have haw:∀ x∈gs,awake x:=by
  intro x hx;obtain⟨j,hj,rfl⟩:=Array.mem_iff_getElem.1 hx;by_cases hj0:j=0
  · subst hj0; have : gs[0] = g0 := by simpa [Array.getElem?_eq_getElem hj] using hB.h0
    rw[this];exact awake_of (hB.isM.status.elim (fun h=>.inl h.1) fun h=>.inr (.inl h.1))
  · by_cases hjn : j = n
    · subst hjn; have : gs[j] = g1 := by simpa [Array.getElem?_eq_getElem hj] using hB.hn
      rw[this];exact awake_of (hB.isS.status.elim (fun h=>.inl h.1) fun h=>.inr (.inl h.1))
    · exact awake_of ((hB.inv.old j _ (by omega) (by omega) (Array.getElem?_eq_getElem hj)).status.elim .inl fun x=>.inr (.inr x))
 have hsome:∃(i:Nat) (g:Goroutine),gs[i]? = some g∧g.status = .running:=by
  rcases hB.isM.status with h | ⟨_,h⟩
  · exact⟨0,g0,hB.h0,h.1⟩
  · rcases hB.isS.status with h' | ⟨_, h'⟩
    · exact⟨n,g1,hB.hn,h'.1⟩
    · have:=hB.alive;omega
 obtain⟨i,x,e,sl',hi,hx,hst⟩:=crowd_pick (P:=X.P) (w:=w) (sl:=sl) haw hsome;have hE:=hB.at e;by_cases hi0:i=0
 · subst hi0; rw [hB.h0] at hi; obtain rfl := Option.some.inj hi; have hM := hE.isM
   cases hM with
   | waits eg _ _=>rw[eg]at hx;cases hx
   | walks hG =>
     rename_i m;rcases sP hG with hstop | ⟨m',rfl,_,hgo⟩
     · have hs := hstop _ (Rely.refl _)
       cases as with
       | nil =>
         have hS:=hE.isS;have hsame:=hE.same
         cases hS with
         | waits hl _ _=>rw[hl]at hsame;simp[recvs,sends]at hsame
         | walks hH=>exact rHA F hE hs.2.1 (GoS.running hH) (by omega) hst hstop (by simp) (ih _ _ _ (.inr ⟨hA,.inl (by omega)⟩))
       | cons a as =>
         cases a with
         | box =>
           obtain⟨_,g',w',es,hstep,hbx,hev,m2,hG2⟩:=hs;exact vFA F hE (fun b hb=>hbx.old (Nat.lt_of_lt_of_le hb hE.inv.split.bsize)) (hE.inv.split.box F.tb0 F.tb1 hbx) (hE.inv.split.feltBox hbx) hev hstep hst hG2 hE.same (ih _ _ _ (.inl (by rw[← hA];simp)))
         | recv v =>
           obtain⟨_,hstep,m2,hG2⟩:=hs;have hS:=hE.isS;have hsame:=hE.same
           cases hS with
           | waits hl eg hstop1 =>
             subst hl;simp[recvs,sends]at hsame;obtain⟨rfl,hsame⟩:=hsame;obtain⟨_,_,m3,hH⟩:=hstop1 _ (Rely.refl _);exact hYA F hE rfl eg hstep hG2 hH hsame hst (ih _ _ _ (.inl (by rw[← hA];simp;omega)))
           | walks hH=>exact rHA F hE hstep (GoS.running hH) (by omega) hst hstop (by simp) (ih _ _ _ (.inr ⟨hA,.inl (by omega)⟩))
     · obtain⟨g',w',es,hstep,⟨hT,hev⟩,hG2⟩:=hgo _ (Rely.refl _);exact vFA F hE (fun b hb=>hE.inv.split.low hE.inv.pair.highM hT hb) (hE.inv.split.turn F.dis hT) (hE.inv.split.felt hE.inv.pair.apart hE.inv.pair.highM hT) hev hstep hst hG2 hE.same (ih _ _ _ (.inr ⟨hA,.inl (by omega)⟩))
 · by_cases hin : i = n
   · subst hin; rw [hB.hn] at hi; obtain rfl := Option.some.inj hi; have hS := hE.isS
     cases hS with
     | waits _ eg _=>rw[eg]at hx;cases hx
     | walks hH =>
       rename_i m;rcases sP hH with hstop | ⟨m',rfl,_,hgo⟩
       · have hs := hstop _ (Rely.refl _)
         cases bs with
         | nil=>exact oTA F hE hs hst
         | cons a bs =>
           cases a with
           | box =>
             obtain⟨_,g',w',es,hstep,hbx,hev,m2,hG2⟩:=hs;exact fFA F hE (fun b hb=>hbx.old (Nat.lt_of_lt_of_le hb hE.inv.split.bsize)) (hE.inv.split.symm.box F.tb1 F.tb0 hbx) (hE.inv.split.symm.feltBox hbx) hev hstep hst hG2 hE.same (ih _ _ _ (.inl (by rw[← hA];simp)))
           | send v =>
             obtain⟨_,hstep,m2,hG2⟩:=hs;have hM:=hE.isM;have hsame:=hE.same
             cases hM with
             | waits eg hstop0 hl =>
               cases as with
               | nil=>simp[recvs,sends]at hsame
               | cons a as =>
                 cases a with
                 | box=>exact absurd rfl (hl as)
                 | recv v' =>
                   simp[recvs,sends]at hsame;obtain⟨rfl,hsame⟩:=hsame;obtain⟨_,_,m3,hG3⟩:=hstop0 _ (Rely.refl _);exact p0A F hE eg hstep hG3 hG2 hsame hst (ih _ _ _ (.inl (by rw[← hA];simp;omega)))
             | walks hG=>exact rUA F hE rfl hstep (GoM.running hG) (by omega) hst hstop (ih _ _ _ (.inr ⟨hA,.inl (by omega)⟩))
       · obtain ⟨g', w', es, hstep, ⟨hT, hev⟩, hG2⟩ := hgo _ (Rely.refl _); have hdis : ∀ ty, X.T1 ty → ¬ X.T0 ty := fun ty h1 h0 => F.dis ty h0 h1
         exact fFA F hE (fun b hb => by
             refine hT.rest b (Nat.lt_of_lt_of_le hb hE.inv.split.bsize) fun ho=>?_
             have:=hE.inv.pair.highS b (hE.inv.split.symm.mine ho);omega) (hE.inv.split.symm.turn hdis hT) (hE.inv.split.symm.felt hE.inv.pair.symm.apart hE.inv.pair.highS hT) hev hstep hst hG2 hE.same (ih _ _ _ (.inr ⟨hA,.inl (by omega)⟩))
   · exact fWA F hE hi hx (by omega) hin hst fun L' hL'=>by rw[hA,hK];exact ih _ _ _ (.inr ⟨rfl,.inr ⟨rfl,by omega⟩⟩)
end Go.Lx
