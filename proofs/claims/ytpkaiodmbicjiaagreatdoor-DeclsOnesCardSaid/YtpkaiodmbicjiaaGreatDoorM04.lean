/- Part 4 of what the proof rests on. -/
import Derived.Conc.DeferLaws
import Derived.Conc.AppendWalk
import Derived.Tactics
import Derived.Conc.LeavingOf
import Derived.Laws.IdiomCopy
import Derived.Lib.SlicesS
import Derived.Test.YtpkaiodmbicjiaaGreatDoorM00
import Derived.Test.YtpkaiodmbicjiaaGreatDoorM01
import Derived.Test.YtpkaiodmbicjiaaGreatDoorM03
set_option linter.unusedSimpArgs false
set_option linter.unusedVariables false
namespace Go.Lx
open Go.Conc
open Go.ConcN (sumTo upd sumTo_upd upd_ne upd_same)
variable {X : Shared} {n top : Nat} {cl : Bool} {gs arr : Array Goroutine} {w w' : World} {t u : Trace} {qs : Nat -> Nat} {M S : Nat -> Prop} {o0 o1 o0' o1' : Option Nat}
theorem Inv.crew(h:Inv X n n cl gs w t qs M S o0 o1)(hs:arr.size=n+1)(ho:∀ j x,0 < j->j < n->arr[j]? = some x->gs[j]? = some x):Inv X n n cl arr w t qs M S o0 o1 :=
 ⟨h.pos,hs,h.topl,λj x hj hjt hx=>h.old j x hj hjt (ho j x hj hjt hx),h.above,h.pair,h.hears0,h.hearsN,h.split,h.quit,h.chan⟩
theorem Inv.dull(F:X.Fit)(h:Inv X n n false gs w t qs M S o0 o1)(hn:∀ op∈u,op.act.touch? = none)(hd:∀ op∈u,op.act≠.mark .disable/\op.act≠.mark .enable){s r:Nat}{tm:Bool} :
 Inv X n n false gs (w.setChan X.d.c 0 #[] false s r tm) (t++u) qs M S o0 o1:=by
 have hlt:X.d.c < w.heap.size:=Qb F.cB h.split.bsize;refine⟨h.pos,h.size,h.topl,λj x hj hjt hx=>?_,λj hj=>?_,h.pair.dull hn,(Deaf_still t 0 u hd).trans h.hears0,λhc=>(Deaf_still t n u hd).trans (h.hearsN hc),h.split.chan F.cB,?_,?_⟩
 . rw[Deaf_still t j u hd];exact h.old j x hj hjt hx
 . rw[Deaf_still t j u hd];exact h.above j hj
 . simp only[World.setChan];rw[Qg F.cq];exact h.quit
 . exact⟨s,r,tm,by simp only[World.setChan];rw[Array.getElem?_setIfInBounds_self_of_lt hlt]⟩
theorem Inv.shut(F:X.Fit)(h:Inv X n n false gs w t qs M S o0 o1)(hs:arr.size=n+1)(ho:∀ j x,0 < j->j < n->arr[j]? = some x->gs[j]? = some x){g':Goroutine}{k:Nat}(hg:arr[n]? = some g')
    (hq:QuitsD X.P k 0 g') (fn:FuncId) (pos:String) {s r:Nat} {tm:Bool} :
    Inv X n (n+1) true arr (w.setChan X.d.c 0 #[] true s r tm) (t++#[{ g:=n,fn,pos,act:=.close X.d.c }]) (upd qs n k) M S o0 o1/\Shut n X.d.c t.size (t++#[{ g:=n,fn,pos,act:=.close X.d.c }]):=by
  have hlt:X.d.c < w.heap.size:=Qb F.cB h.split.bsize;have hd:∀ op∈(#[{ g:=n,fn,pos,act:=.close X.d.c }]:Array MemOp),op.act≠.mark .disable/\op.act≠.mark .enable:=by simp
  have hy:(t++#[({ g:=n,fn,pos,act:=.close X.d.c }:MemOp)])[t.size]? = some { g:=n,fn,pos,act:=.close X.d.c }:=by rw[Array.getElem?_append_right (Qd _)];simp
  refine⟨⟨h.pos,hs,Qd _,λj x hj hjt hx=>?_,λj hj=>?_,h.pair.dull (by simp[MemAct.touch?]),(Deaf_still t 0 _ hd).trans h.hears0,(λhc=>by cases hc),h.split.chan F.cB,?_,?_⟩,?_⟩
  . rw[Deaf_still t j _ hd];by_cases hjn:j=n
    . subst hjn;rw[hg]at hx;obtain rfl:=Qt hx;rw[upd_same,h.hearsN rfl];exact hq
    . rw[upd_ne qs k hjn];exact h.old j x hj (by omega) (ho j x hj (by omega) hx)
  . rw[Deaf_still t j _ hd];exact h.above j hj
  . simp only[World.setChan];rw[Qg F.cq];exact h.quit
  . exact⟨s,r,tm,by simp only[World.setChan];rw[Array.getElem?_setIfInBounds_self_of_lt hlt]⟩
  . refine⟨by rw[act?_of hy],g?_of hy,⟨n,g?_of hy,?_⟩,λi x hx hgi=>?_⟩
    . rw[deaf_old (Qd _)];exact h.hearsN rfl
    . obtain⟨y,hy',hyx⟩:=touch_of hx;rcases getElem?_append_cases hy' with⟨hi,_⟩|⟨_,hyu⟩
      . exact hi
      . simp at hyu;subst hyu
        cases hyx
theorem tXA{v:Value}{g:Goroutine}{sh:CommShape}{s r s' r':Nat}{tm tm':Bool}(hc:w.heap[X.d.c]? = some (.chan 0 #[] false s r tm))(hq:w.heap[X.q]? = some (.chan 0 #[] false s' r' tm')) :
 (parked g (X.sel v) sh).again w=parked g (X.sel v) sh:=by
 simp[Goroutine.again,parked,Shared.sel,scase,rcase,hc,hq]
theorem fQA{v:Value}{g:Goroutine}{sh:CommShape}(F:X.Fit):offersAt (parked g (X.sel v) sh) X.d.c true=[0]/\offersAt (parked g (X.sel v) sh) X.d.c false=[]/\offersAt (parked g (X.sel v) sh) X.q true=[]:=by
 have h1:¬ X.q=X.d.c:=λe=>F.cq e.symm
 have h2:¬ X.d.c=X.q:=F.cq;refine⟨?_,?_,?_⟩<;>simp[offersAt,parked,Shared.sel,scase,rcase,h1,h2]
theorem IsM.status{l:List MAct}{o:Option Nat}{g:Goroutine}{k:Nat}(h:IsM X l o g w k):(g.status = .running/\0 < k)∨(g.status = .blocked/\k=0):=by
 cases h with
 | walks h=>exact .inl ⟨GoM.running h,by omega⟩
 | waits e _ _=>exact .inr ⟨by rw[e];rfl,rfl⟩
theorem IsS.status{l:List SAct}{o:Option Nat}{g:Goroutine}{k:Nat}(h:IsS X l o g w k):(g.status = .running/\0 < k)∨(g.status = .blocked/\k=0):=by
 cases h with
 | walks h=>exact .inl ⟨GoS.running h,by omega⟩
 | waits _ e _=>exact .inr ⟨by rw[e];rfl,rfl⟩
theorem IsM.rely{l:List MAct}{o:Option Nat}{g:Goroutine}{k:Nat}{w₁:World}(h:IsM X l o g w k)(r:Rely X.d X.T0 o w w₁):IsM X l o g w₁ k:=by
 cases h with
 | walks h=>exact .walks (Goes.rely (R:=Rely X.d X.T0 o) (λ_ _ _ a b=>a.trans b) h r)
 | waits e h hl=>exact .waits e (λw₂ h₂=>h w₂ (r.trans h₂)) hl
theorem IsS.rely{l:List SAct}{o:Option Nat}{g:Goroutine}{k:Nat}{w₁:World}(h:IsS X l o g w k)(r:Rely X.d X.T1 o w w₁):IsS X l o g w₁ k:=by
 cases h with
 | walks h=>exact .walks (Goes.rely (R:=Rely X.d X.T1 o) (λ_ _ _ a b=>a.trans b) h r)
 | waits hl e h=>exact .waits hl e λw₂ h₂=>h w₂ (r.trans h₂)
theorem lRA{as:List MAct}{bs:List SAct}{g0 g1:Goroutine}{k0 k1:Nat}(hI:Inv X n n cl gs w t qs M S o0 o1)(h0:gs[0]? = some g0)(hn:gs[n]? = some g1)(hM:IsM X as o0 g0 w k0)(hS:IsS X bs o1 g1 w k1)
    (hc:∃ s r tm,w'.heap[X.d.c]? = some (.chan 0 #[] false s r tm)) (hq:∃ s r tm,w'.heap[X.q]? = some (.chan 0 #[] false s r tm)) (i:Nat) :
    ∀ j x,j≠i->gs[j]? = some x->x.status = .running∨x.status = .finished∨x.again w'=x:=by
  intro j x _ hx;obtain⟨s,r,tm,hc⟩:=hc;obtain⟨s',r',tm',hq⟩:=hq;rcases Nat.eq_zero_or_pos j with rfl|hj
  . rw[h0]at hx;obtain rfl:=Qt hx
    cases hM with
    | walks h=>exact .inl (GoM.running h)
    | waits e _ _=>exact .inr (.inr (by rw[e];exact again_recv_open hc))
  . by_cases hjn : j = n
    . subst hjn;rw[hn]at hx;obtain rfl:=Qt hx
      cases hS with
      | walks h=>exact .inl (GoS.running h)
      | waits _ e _=>exact .inr (.inr (by rw[e];exact tXA hc hq))
    . have hjl:=(Qe.1 hx).1;have:=hI.size;exact(hI.old j x hj (by omega) hx).status.imp id .inl
open Go.ConcN (sumTo upd sumTo_upd upd_ne upd_same)
variable {X : Shared} {n top : Nat} {cl : Bool} {gs : Array Goroutine} {w w' : World} {t u : Trace} {qs : Nat -> Nat} {M S : Nat -> Prop} {o0 o1 o0' o1' : Option Nat}
structure Both (X:Shared) (n:Nat) (as:List MAct) (bs:List SAct) (k0 k1:Nat) (gs:Array Goroutine) (w:World) (t:Trace) (qs:Nat->Nat) (M S:Nat->Prop) (o0 o1:Option Nat) (g0 g1:Goroutine):Prop where
 inv:Inv X n n false gs w t qs M S o0 o1
 h0:gs[0]? = some g0
 hn:gs[n]? = some g1
 isM:IsM X as o0 g0 w k0
 isS:IsS X bs o1 g1 w k1
 same:recvs as=sends bs
 alive:0 < k0+k1
theorem Both.at{as:List MAct}{bs:List SAct}{k0 k1:Nat}{g0 g1:Goroutine}(h:Both X n as bs k0 k1 gs w t qs M S o0 o1 g0 g1)(e:Nat):Both X n as bs k0 k1 gs (w.at e) t qs M S o0 o1 g0 g1 :=
 ⟨h.inv.at e,h.h0,h.hn,h.isM.rely (Rely.at w e),h.isS.rely (Rely.at w e),h.same,h.alive⟩
def Done(X:Shared)(n:Nat)(A K L:Nat):Prop :=
 ∀(as:List MAct) (bs:List SAct) (k0 k1:Nat) (gs:Array Goroutine) (w:World) (sl:Option (Nat×Nat)) (t:Trace) (qs:Nat->Nat) (M S:Nat->Prop) (o0 o1:Option Nat) (g0 g1:Goroutine),
  as.length+bs.length=A->k0+k1=K->sumTo gs.size qs=L->Both X n as bs k0 k1 gs w t qs M S o0 o1 g0 g1->Gets X.P X.Fin gs w sl t
section
variable {as : List MAct} {bs : List SAct} {k0 k1 : Nat} {g0 g1 : Goroutine} {A K L : Nat} {sl sl' : Option (Nat × Nat)} {w0 : World}
theorem zH{i:Nat}{y:Goroutine}(hi:i < gs.size):(gs.setIfInBounds i y)[i]? = some y:=Array.getElem?_setIfInBounds_self_of_lt hi
theorem eGA(F:X.Fit)(h:Both X n as bs k0 k1 gs w t qs M S o0 o1 g0 g1)(hlow:∀ b,b < X.d.B->w'.heap[b]? = w.heap[b]?)(hs:Split X.d X.T0 X.T1 w'.heap (More M w w') S o0' o1)
    (hR:Rely X.d X.T1 o1 w w') {es:Array Event} (hev:∀ e∈es,iX X.d X.T0 o0' w' e) {g':Goroutine} (hst:stepG X.P true g0 w = .go g' w' es)
    (hstep:stepT X.P (crowd gs w0 sl)=runT X.P (crowd gs w sl') 0) {as':List MAct} {m:Nat} (hG:GoM X as' o0' m g' w') (hsame:recvs as'=sends bs)
    (hD:Done X n (as'.length+bs.length) (m+1+k1) (sumTo gs.size qs)):Gets X.P X.Fin gs w0 sl t:=by
  have hq':∃ s r tm,w'.heap[X.q]? = some (.chan 0 #[] false s r tm):=by rw[hlow _ F.qB];exact h.inv.quit
  have hc':∃ s r tm,w'.heap[X.d.c]? = some (.chan 0 #[] false s r tm):=by rw[hlow _ F.cB];exact h.inv.chan
  rw[runT_crowd_go (P:=X.P) (i:=0) h.h0 (show stepG X.P (0==0) _ _=_ from hst),sH (lRA h.inv h.h0 h.hn h.isM h.isS hc' hq' 0)]at hstep;refine Gets.step hstep ?_;have h0l:0 < gs.size:=(Qe.1 h.h0).1;have hp:=h.inv.pos;refine hD as' bs (m+1) k1 _ w' _ _ qs _ S o0' o1 g' g1 rfl rfl (by simp) ⟨h.inv.step0 F hlow hs hev _ _ g',zH h0l,?_,.walks hG,h.isS.rely hR,hsame,by omega⟩;rw[Qg (by omega)];exact h.hn
theorem eEA(F:X.Fit)(h:Both X n as bs k0 k1 gs w t qs M S o0 o1 g0 g1)(hlow:∀ b,b < X.d.B->w'.heap[b]? = w.heap[b]?)(hs:Split X.d X.T1 X.T0 w'.heap (More S w w') M o1' o0)
    (hR:Rely X.d X.T0 o0 w w') {es:Array Event} (hev:∀ e∈es,iX X.d X.T1 o1' w' e) {g':Goroutine} (hst:stepG X.P false g1 w = .go g' w' es)
    (hstep:stepT X.P (crowd gs w0 sl)=runT X.P (crowd gs w sl') n) {bs':List SAct} {m:Nat} (hG:GoS X bs' o1' m g' w') (hsame:recvs as=sends bs')
    (hD:Done X n (as.length+bs'.length) (k0+(m+1)) (sumTo gs.size qs)):Gets X.P X.Fin gs w0 sl t:=by
  have hq':∃ s r tm,w'.heap[X.q]? = some (.chan 0 #[] false s r tm):=by rw[hlow _ F.qB];exact h.inv.quit
  have hc':∃ s r tm,w'.heap[X.d.c]? = some (.chan 0 #[] false s r tm):=by rw[hlow _ F.cB];exact h.inv.chan
  have hp:=h.inv.pos;have hn0:(n==0)=false:=by simp;omega
  rw[runT_crowd_go (P:=X.P) (i:=n) h.hn (by rw[hn0];exact hst),sH (lRA h.inv h.h0 h.hn h.isM h.isS hc' hq' n)]at hstep;refine Gets.step hstep ?_;have hnl:n < gs.size:=(Qe.1 h.hn).1;refine hD as bs' k0 (m+1) _ w' _ _ qs M _ o0 o1' g0 g' rfl rfl (by simp) ⟨h.inv.stepN F hlow hs hev _ _ g',?_,zH hnl,h.isM.rely hR,.walks hG,hsame,by omega⟩;rw[Qg (by omega)];exact h.h0
theorem xUA(F:X.Fit)(h:Both X n as bs k0 k1 gs w t qs M S o0 o1 g0 g1){i:Nat}{x:Goroutine}(hi:gs[i]? = some x)(hx:x.status = .running)(hpos:0 < i)(hin:i≠n)
    (hstep:stepT X.P (crowd gs w0 sl)=runT X.P (crowd gs w sl') i) (hD:∀ L',L' < sumTo gs.size qs->Done X n (as.length+bs.length) (k0+k1) L'):Gets X.P X.Fin gs w0 sl t:=by
  have hil:=(Qe.1 hi).1;have hsz:=h.inv.size;have hq:=h.inv.old i x hpos (by omega) hi
  cases hqi:qs i with
  | zero=>rw[hqi]at hq;rw[hq.1]at hx;cases hx
  | succ k =>
    rw[hqi]at hq;rcases hq with⟨hf,_⟩|⟨_,g',es,hm,hstp,hq'⟩
    . rw[hf]at hx;cases hx
    have hi0:(i==0)=false:=by simp;omega
    rw[runT_crowd_go (P:=X.P) (i:=i) hi (by rw[hi0];exact hstp w),sH (lRA h.inv h.h0 h.hn h.isM h.isS h.inv.chan h.inv.quit i)]at hstep;refine Gets.step hstep ?_;refine hD (sumTo gs.size (upd qs i k)) (aS hil hqi) as bs k0 k1 _ w _ _ _ M S o0 o1 g0 g1 rfl rfl (by simp) ⟨h.inv.slip hpos (by omega) hm (λe=>absurd e hin) hq' _ _,?_,?_,h.isM,h.isS,h.same,h.alive⟩
    . rw[Qg (by omega)];exact h.h0
    . rw[Qg (by omega)];exact h.hn
theorem nN(i:Nat)(fn:FuncId)(pos:String):MemOp.ofEvents i fn pos #[]=#[]:=rfl
theorem kHA(h:Both X n as bs k0 k1 gs w t qs M S o0 o1 g0 g1)(r:Nat)(send:Bool):partners (gs.setIfInBounds 0 ph) r send=(offersAt g1 r send).map λk=>(n,k):=by
 have hp:=h.inv.pos;have hsz:=h.inv.size;refine partners_one (by rw[Qg (by omega)];exact h.hn) λj x hjn hj=>?_
 rcases getElem?_stand gs 0 j x hj with⟨_,rfl⟩|⟨hj0,hx⟩
 . rfl
 . have hjl:=(Qe.1 hx).1;exact nQ (h.inv.old j x (by omega) (by omega) hx)
theorem jV(h:Both X n as bs k0 k1 gs w t qs M S o0 o1 g0 g1)(r:Nat)(send:Bool):partners (gs.setIfInBounds n ph) r send=(offersAt g0 r send).map λk=>(0,k):=by
 have hp:=h.inv.pos;have hsz:=h.inv.size;refine partners_one (by rw[Qg (by omega)];exact h.h0) λj x hj0 hj=>?_
 rcases getElem?_stand gs n j x hj with⟨_,rfl⟩|⟨hjn,hx⟩
 . rfl
 . have hjl:=(Qe.1 hx).1;exact nQ (h.inv.old j x (by omega) (by omega) hx)
theorem kDA(F:X.Fit)(h:Both X n as bs k0 k1 gs w t qs M S o0 o1 g0 g1)(hst:stepG X.P true g0 w = .comm g0 X.rcv true (.recv true) w #[])(hrun:g1.status = .running)(hk1:0 < k1)
    (hstep:stepT X.P (crowd gs w0 sl)=runT X.P (crowd gs w sl') 0) (hstop:∀ w₁,Rely X.d X.T0 o0 w w₁->StopM X as o0 g0 w₁) (hl:∀ l',as≠.box::l')
    (hD:Done X n (as.length+bs.length) (0+k1) (sumTo gs.size qs)):Gets X.P X.Fin gs w0 sl t:=by
  have hp:=h.inv.pos;obtain⟨s,r,tm,hc⟩:=h.inv.chan;have hno:∀ cc∈X.rcv,NoWays w (gs.setIfInBounds 0 ph) cc:=by
   intro cc hcc;simp[Shared.rcv]at hcc;subst hcc;refine ways_recv_none hc ?_;rw[kHA h,offersAt_of_not_blocked (by rw[hrun];simp)];rfl
  rw[crowd_waits (P:=X.P) (i:=0) h.h0 (show stepG X.P (0==0) _ _=_ from hst) hno,nN]at hstep;refine Gets.step hstep ?_;rw[Array.append_empty];have h0l:0 < gs.size:=(Qe.1 h.h0).1;refine hD as bs 0 k1 _ w _ t qs M S o0 o1 _ g1 rfl rfl (by simp) ⟨h.inv.crew (by simpa using h.inv.size) (λj x hj _ hx=>by rwa [Qg (by omega)]at hx),zH h0l,?_,.waits rfl hstop hl,h.isS,h.same,by omega⟩;rw[Qg (by omega)];exact h.hn
theorem xSA(F:X.Fit)(h:Both X n as bs k0 k1 gs w t qs M S o0 o1 g0 g1){v:Value}{bs':List SAct}(hb:bs = .send v::bs')(hst:stepG X.P false g1 w = .comm g1 (X.sel v) true .select w #[])(hrun:g0.status = .running)(hk0:0 < k0)
    (hstep:stepT X.P (crowd gs w0 sl)=runT X.P (crowd gs w sl') n) (hstop:∀ w₁,Rely X.d X.T1 o1 w w₁->StopS X bs o1 g1 w₁)
    (hD:Done X n (as.length+bs.length) (k0+0) (sumTo gs.size qs)):Gets X.P X.Fin gs w0 sl t:=by
  have hp:=h.inv.pos;have hn0:(n==0)=false:=by simp;omega
  obtain⟨s,r,tm,hc⟩:=h.inv.chan;obtain⟨s',r',tm',hq⟩:=h.inv.quit;have hno:∀ cc∈X.sel v,NoWays w (gs.setIfInBounds n ph) cc:=by
   intro cc hcc;simp[Shared.sel]at hcc;rcases hcc with rfl|rfl
   . refine ways_send_none hc (by simp) ?_;rw[jV h,offersAt_of_not_blocked (by rw[hrun];simp)];rfl
   . refine ways_recv_none hq ?_;rw[jV h,offersAt_of_not_blocked (by rw[hrun];simp)];rfl
  rw[crowd_waits (P:=X.P) (i:=n) h.hn (by rw[hn0];exact hst) hno,nN]at hstep;refine Gets.step hstep ?_;rw[Array.append_empty];have hnl:n < gs.size:=(Qe.1 h.hn).1;refine hD as bs k0 0 _ w _ t qs M S o0 o1 g0 _ rfl rfl (by simp) ⟨h.inv.crew (by simpa using h.inv.size) (λj x hj hjn hx=>by rwa [Qg (by omega)]at hx),?_,zH hnl,h.isM,.waits hb rfl hstop,h.same,by omega⟩;rw[Qg (by omega)];exact h.h0
end
open Go.ConcN (sumTo upd sumTo_upd upd_ne upd_same)
variable {X : Shared} {n top : Nat} {cl : Bool} {gs : Array Goroutine} {w w' : World} {t u : Trace} {qs : Nat -> Nat} {M S : Nat -> Prop} {o0 o1 o0' o1' : Option Nat}
variable {as : List MAct} {bs : List SAct} {k0 k1 : Nat} {g0 g1 : Goroutine} {A K L : Nat} {sl sl' : Option (Nat × Nat)} {w0 : World}
theorem tRA(hB:X.d.c < X.d.B)(hM:∀ b,M b->X.d.B<=b)(hb:∀ b,o0=some b->M b):o0≠some X.d.c:=λe=>by have:=hM _ (hb _ e);omega
theorem jKA(F:X.Fit)(h:Both X n as bs k0 k1 gs w t qs M S o0 o1 g0 g1){as':List MAct}{bs':List SAct}{g0' g1':Goroutine}{m0 m1:Nat}(hG:GoM X as' o0 m0 g0' w)(hH:GoS X bs' o1 m1 g1' w)(hsame:recvs as'=sends bs')
    {arr:Array Goroutine} (harr:arr.size=n+1) (ha0:arr[0]? = some g0') (han:arr[n]? = some g1') (haj:∀ j,j≠0->j≠n->arr[j]? = gs[j]?)
    (hn:∀ op∈u,op.act.touch? = none) (hd:∀ op∈u,op.act≠.mark .disable/\op.act≠.mark .enable) {s r:Nat} {tm:Bool}
    (hstep:stepT X.P (crowd gs w0 sl)=(.next (crowd arr (w.setChan X.d.c 0 #[] false s r tm) sl'),u))
    (hD:Done X n (as'.length+bs'.length) (m0+1+(m1+1)) (sumTo gs.size qs)):Gets X.P X.Fin gs w0 sl t:=by
  refine Gets.step hstep ?_;have hp:=h.inv.pos;have r0:Rely X.d X.T0 o0 w (w.setChan X.d.c 0 #[] false s r tm):=Rely.chan w F.cB (tRA F.cB h.inv.pair.highM h.inv.split.box0);have r1:Rely X.d X.T1 o1 w (w.setChan X.d.c 0 #[] false s r tm):=Rely.chan w F.cB (tRA F.cB h.inv.pair.highS h.inv.split.box1);refine hD as' bs' (m0+1) (m1+1) arr _ _ _ qs M S o0 o1 g0' g1' rfl rfl (by rw[harr,h.inv.size]) ⟨(h.inv.dull F hn hd).crew harr (λj x hj hjn hx=>by rwa [haj j (by omega) (by omega)]at hx),ha0,han,?_,?_,hsame,by omega⟩
  . exact(IsM.walks hG:IsM X as' o0 g0' w (m0+1)).rely r0
  . exact(IsS.walks hH:IsS X bs' o1 g1' w (m1+1)).rely r1
theorem bWA(F:X.Fit)(h:Both X n as bs k0 k1 gs w t qs M S o0 o1 g0 g1){v:Value}{as':List MAct}{bs':List SAct}{gp:Goroutine}(hb:bs = .send v::bs')(hg1:g1=parked gp (X.sel v) .select)
    (hst:stepG X.P true g0 w = .comm g0 X.rcv true (.recv true) w #[]) {m0 m1:Nat} (hG:GoM X as' o0 m0 (g0.finishComm X.P X.rcv (.recv true) 0 v true) w) (hH:GoS X bs' o1 m1 (gp.finishComm X.P (X.sel v) .select 0 undef false) w)
    (hsame:recvs as'=sends bs') (hstep:stepT X.P (crowd gs w0 sl)=runT X.P (crowd gs w sl') 0)
    (hD:Done X n (as'.length+bs'.length) (m0+1+(m1+1)) (sumTo gs.size qs)):Gets X.P X.Fin gs w0 sl t:=by
  obtain⟨s,r,tm,hc⟩:=h.inv.chan;have hp:=h.inv.pos;have hsz:=h.inv.size;have hpar:partners (gs.setIfInBounds 0 ph) X.d.c true=[(n,0)]:=by
   rw[kHA h,hg1,(fQA F).1];rfl
  have hrun:=zFA (P:=X.P) (sl:=sl') (i:=0) (j:=n) (k:=0) (v:=v) (zj:=X.zc) h.h0 (show stepG X.P (0==0) _ _=_ from hst) hc (by omega) (by rw[h.hn,hg1]) (by simp[Shared.sel]) hpar;rw[hrun,nN,Array.empty_append]at hstep;refine jKA F h hG hH hsame (by simp[hsz]) ?_ ?_ (λj h1 h2=>?_) ?_ ?_ hstep hD
  . exact zH (by simp[hsz])
  . rw[Qg (by omega)];exact zH (by omega)
  . rw[Qg (by omega),Qg (by omega)]
  . simp[MemAct.touch?]
  . simp
theorem wWA(F:X.Fit)(h:Both X n as bs k0 k1 gs w t qs M S o0 o1 g0 g1){v:Value}{as':List MAct}{bs':List SAct}{gp:Goroutine}(hg0:g0=parked gp X.rcv (.recv true))
    (hst:stepG X.P false g1 w = .comm g1 (X.sel v) true .select w #[]) {m0 m1:Nat} (hG:GoM X as' o0 m0 (gp.finishComm X.P X.rcv (.recv true) 0 v true) w) (hH:GoS X bs' o1 m1 (g1.finishComm X.P (X.sel v) .select 0 undef false) w)
    (hsame:recvs as'=sends bs') (hstep:stepT X.P (crowd gs w0 sl)=runT X.P (crowd gs w sl') n)
    (hD:Done X n (as'.length+bs'.length) (m0+1+(m1+1)) (sumTo gs.size qs)):Gets X.P X.Fin gs w0 sl t:=by
  obtain⟨s,r,tm,hc⟩:=h.inv.chan;obtain⟨s',r',tm',hq⟩:=h.inv.quit;have hp:=h.inv.pos;have hsz:=h.inv.size;have hn0:(n==0)=false:=by simp;omega
  have hpar:partners (gs.setIfInBounds n ph) X.d.c false=[(0,0)]:=by
   rw[jV h,hg0];simp only[Shared.rcv,offersAt_parked_recv,if_true,List.map_cons,List.map_nil]
  have ho:∀(m:Nat) (c':CommCase),m≠0->(X.sel v)[m]? = some c'->NoWays w (gs.setIfInBounds n ph) c':=by
   intro m c' hm hc';have hm1:m=1:=by
    have:=(Qe.1 hc').1;simp[Shared.sel]at this;omega
   subst hm1;simp[Shared.sel]at hc';subst hc';refine ways_recv_none hq ?_;rw[jV h,hg0];simp only[Shared.rcv,offersAt_parked_recv',List.map_nil]
  have hrun:=vDA (P:=X.P) (sl:=sl') (i:=n) (j:=0) (k:=0) (gj:=gp) (zj:=X.z) (shj:=.recv true) h.hn (by rw[hn0];exact hst) (show(X.sel v)[0]? = some (scase X.d.c v X.zc) by simp[Shared.sel]) ho hc (by omega) (by rw[h.h0,hg0];rfl) hpar;rw[hrun,nN,Array.empty_append]at hstep;refine jKA F h hG hH hsame (by simp[hsz]) ?_ ?_ (λj h1 h2=>?_) ?_ ?_ hstep hD
  . rw[Qg (by omega)];exact zH (by omega)
  . exact zH (by simp[hsz])
  . rw[Qg (by omega),Qg (by omega)]
  . simp[MemAct.touch?]
  . simp
theorem uXA{l:List MAct}(h:recvs l=[])(hb:∀ l',l≠.box::l'):l=[]:=by
 cases l with
 | nil=>rfl
 | cons a l => cases a with
   | box=>exact absurd rfl (hb l)
   | recv v=>simp[recvs]at h
theorem Both.look(h:Both X n as [] k0 k1 gs w t qs M S o0 o1 g0 g1)(fn:FuncId)(pos:String):Inv X n n false gs w (t++MemOp.ofEvents n fn pos #[⟨.obj X.d.c,false,true⟩]) qs M S o0 o1:=by
 have hu:∀ op∈MemOp.ofEvents n fn pos #[⟨.obj X.d.c,false,true⟩],op={ g:=n,fn,pos,act:=.access ⟨.obj X.d.c,false,true⟩ }:=λop hop=>by
  rw[ofEvents_eq]at hop;simpa [MemAct.ofEvent] using hop
 have hd:∀ op∈MemOp.ofEvents n fn pos #[⟨.obj X.d.c,false,true⟩],op.act≠.mark .disable/\op.act≠.mark .enable:=λop hop=>by rw[hu op hop];simp
 have hI:=h.inv;refine⟨hI.pos,hI.size,hI.topl,λj x hj hjt hx=>?_,λj hj=>?_,?_,(Deaf_still t 0 _ hd).trans hI.hears0,λhc=>(Deaf_still t n _ hd).trans (hI.hearsN hc),hI.split,hI.quit,hI.chan⟩
 . rw[Deaf_still t j _ hd];exact hI.old j x hj hjt hx
 . rw[Deaf_still t j _ hd];exact hI.above j hj
 . refine(hI.pair.symm.app (λop hop=>by rw[hu op hop]) (λop hop x hx hm=>?_) (λb hb=>hb) hI.pair.symm.apart hI.pair.symm.highM).symm;rw[hu op hop]at hx;simp only[MemAct.touch?,Option.some.injEq]at hx;subst hx;exact .inr ⟨⟨_,rfl⟩,rfl⟩
theorem vQA(F:X.Fit)(h:Both X n as [] k0 k1 gs w t qs M S o0 o1 g0 g1)(hC:AtClose X g1 w)(hstep:stepT X.P (crowd gs w0 sl)=runT X.P (crowd gs w sl') n):Gets X.P X.Fin gs w0 sl t:=by
 obtain⟨s,r,tm,hc⟩:=h.inv.chan;obtain⟨hrun1,hwake,hcl⟩:=hC;obtain⟨g',k,hst,hq⟩:=hcl s r tm hc;have hp:=h.inv.pos;have hsz:=h.inv.size;have hn0:(n==0)=false:=by simp;omega
 have hgo:=runT_crowd_go (P:=X.P) (sl:=sl') (i:=n) h.hn (by rw[hn0];exact hst);rw[hgo]at hstep;refine Gets.step hstep ?_;have hev:MemOp.ofEvents n g1.frame.fn g1.frame.place #[⟨.obj X.d.c,false,true⟩,⟨.obj X.d.c,true,true⟩]=MemOp.ofEvents n g1.frame.fn g1.frame.place #[⟨.obj X.d.c,false,true⟩]++#[{ g:=n,fn:=g1.frame.fn,pos:=g1.frame.place,act:=.close X.d.c }]:=by
  rw[ofEvents_eq,ofEvents_eq];simp[MemAct.ofEvent]
 rw[hev,<- Array.append_assoc];have hgs:g'.status≠.blocked/\g'.status≠.waiting:=by
  rcases hq.status with h|h<;>rw[h]<;>simp
 have hwk:∀ x,woken X.P g1 g' (w.setChan X.d.c 0 #[] true s r tm) x=x.again (w.setChan X.d.c 0 #[] true s r tm):=by
  intro x;unfold woken;rw[if_pos];simp[hwake,hgs]
 have hold:∀ j x,0 < j->j < n->(((gs.map (woken X.P g1 g' (w.setChan X.d.c 0 #[] true s r tm))).setIfInBounds n g')[j]?)=some x->gs[j]? = some x:=by
  intro j x hj hjn hx;rw[Qg (by omega),Array.getElem?_map]at hx;obtain⟨y,hy,rfl⟩:=Option.map_eq_some_iff.1 hx;rw[woken_quitsD (h.inv.old j y hj hjn hy)];exact hy
 obtain⟨hI,hS⟩:=(h.look g1.frame.fn g1.frame.place).shut F (arr:=(gs.map (woken X.P g1 g' (w.setChan X.d.c 0 #[] true s r tm))).setIfInBounds n g') (by simp[hsz]) hold (zH (by simp[hsz])) hq g1.frame.fn g1.frame.place (s:=s) (r:=r) (tm:=tm);have r0:Rely X.d X.T0 o0 w (w.setChan X.d.c 0 #[] true s r tm):=Rely.chan w F.cB (tRA F.cB h.inv.pair.highM h.inv.split.box0);have hlt:X.d.c < w.heap.size:=Qb F.cB h.inv.split.bsize;have hcc:(w.setChan X.d.c 0 #[] true s r tm).heap[X.d.c]? = some (.chan 0 #[] true s r tm):=by simp only[World.setChan];rw[Array.getElem?_setIfInBounds_self_of_lt hlt]
 have hr:recvs as=[]:=h.same;have h0':((gs.map (woken X.P g1 g' (w.setChan X.d.c 0 #[] true s r tm))).setIfInBounds n g')[0]? = some (g0.again (w.setChan X.d.c 0 #[] true s r tm)):=by
  rw[Qg (by omega),Array.getElem?_map,h.h0,Option.map_some,hwk]
 obtain⟨hI0,h00,hn0',hM,hS1,hsame,hal⟩:=h
 cases hM with
 | walks hG =>
   rw[again_running _ (.inl (GoM.running hG))]at h0';exact fZA F _ _ _ as g0 _ _ _ _ _ M S o0 o1 _ rfl hr ((IsB.walks hG:IsB X as o0 g0 w _).rely r0) rfl h0' hI hS
 | waits e hstop hl =>
   obtain rfl:=uXA hr hl;rw[e,Shared.rcv,again_recv_closed hcc]at h0';exact fZA F _ _ _ [] _ _ _ _ _ _ M S o0 o1 _ rfl rfl (IsB.woken rfl rfl λw₁ h₁=>hstop w₁ (r0.trans h₁)) rfl h0' hI hS
theorem t9A(F:X.Fit):∀ A K L,Done X n A K L:=by
 refine iCB λA K L ih=>?_
 intro as bs k0 k1 gs w sl t qs M S o0 o1 g0 g1 hA hK hL hB;have hp:=hB.inv.pos;have hsz:=hB.inv.size;have haw:∀ x∈gs,awake x:=by
  intro x hx;obtain⟨j,hj,rfl⟩:=Array.mem_iff_getElem.1 hx;by_cases hj0:j=0
  . subst hj0;have:gs[0]=g0:=by simpa [Array.getElem?_eq_getElem hj] using hB.h0
    rw[this];exact awake_of (hB.isM.status.elim (λh=>.inl h.1) λh=>.inr (.inl h.1))
  . by_cases hjn : j = n
    . subst hjn;have:gs[j]=g1:=by simpa [Array.getElem?_eq_getElem hj] using hB.hn
      rw[this];exact awake_of (hB.isS.status.elim (λh=>.inl h.1) λh=>.inr (.inl h.1))
    . exact awake_of ((hB.inv.old j _ (by omega) (by omega) (Array.getElem?_eq_getElem hj)).status.elim .inl λx=>.inr (.inr x))
 have hsome:∃(i:Nat) (g:Goroutine),gs[i]? = some g/\g.status = .running:=by
  rcases hB.isM.status with h|⟨_,h⟩
  . exact⟨0,g0,hB.h0,h.1⟩
  . rcases hB.isS.status with h'|⟨_,h'⟩
    . exact⟨n,g1,hB.hn,h'.1⟩
    . have:=hB.alive;omega
 obtain⟨i,x,e,sl',hi,hx,hst⟩:=crowd_pick (P:=X.P) (w:=w) (sl:=sl) haw hsome;have hE:=hB.at e;by_cases hi0:i=0
 . subst hi0; rw [hB.h0] at hi; obtain rfl := Qt hi; have hM := hE.isM
   cases hM with
   | waits eg _ _=>rw[eg]at hx;cases hx
   | walks hG =>
     rename_i m;rcases yO hG with hstop|⟨m',rfl,_,hgo⟩
     . have hs:=hstop _ (Rely.refl _)
       cases as with
       | nil =>
         have hS:=hE.isS;have hsame:=hE.same
         cases hS with
         | waits hl _ _=>rw[hl]at hsame;simp[recvs,sends]at hsame
         | walks hH=>exact kDA F hE hs.2.1 (GoS.running hH) (by omega) hst hstop (by simp) (ih _ _ _ (.inr ⟨hA,.inl (by omega)⟩))
       | cons a as =>
         cases a with
         | box =>
           obtain⟨_,g',w',es,hstep,hbx,hev,m2,hG2⟩:=hs;exact eGA F hE (λb hb=>hbx.old (Qb hb hE.inv.split.bsize)) (hE.inv.split.box F.tb0 F.tb1 hbx) (hE.inv.split.feltBox hbx) hev hstep hst hG2 hE.same (ih _ _ _ (.inl (by rw[<- hA];simp)))
         | recv v =>
           obtain⟨_,hstep,m2,hG2⟩:=hs;have hS:=hE.isS;have hsame:=hE.same
           cases hS with
           | waits hl eg hstop1 =>
             subst hl;simp[recvs,sends]at hsame;obtain⟨rfl,hsame⟩:=hsame;obtain⟨_,_,m3,hH⟩:=hstop1 _ (Rely.refl _);exact bWA F hE rfl eg hstep hG2 hH hsame hst (ih _ _ _ (.inl (by rw[<- hA];simp;omega)))
           | walks hH=>exact kDA F hE hstep (GoS.running hH) (by omega) hst hstop (by simp) (ih _ _ _ (.inr ⟨hA,.inl (by omega)⟩))
     . obtain⟨g',w',es,hstep,⟨hT,hev⟩,hG2⟩:=hgo _ (Rely.refl _);exact eGA F hE (λb hb=>hE.inv.split.low hE.inv.pair.highM hT hb) (hE.inv.split.turn F.dis hT) (hE.inv.split.felt hE.inv.pair.apart hE.inv.pair.highM hT) hev hstep hst hG2 hE.same (ih _ _ _ (.inr ⟨hA,.inl (by omega)⟩))
 . by_cases hin : i = n
   . subst hin; rw [hB.hn] at hi; obtain rfl := Qt hi; have hS := hE.isS
     cases hS with
     | waits _ eg _=>rw[eg]at hx;cases hx
     | walks hH =>
       rename_i m;rcases yO hH with hstop|⟨m',rfl,_,hgo⟩
       . have hs := hstop _ (Rely.refl _)
         cases bs with
         | nil=>exact vQA F hE hs hst
         | cons a bs =>
           cases a with
           | box =>
             obtain⟨_,g',w',es,hstep,hbx,hev,m2,hG2⟩:=hs;exact eEA F hE (λb hb=>hbx.old (Qb hb hE.inv.split.bsize)) (hE.inv.split.symm.box F.tb1 F.tb0 hbx) (hE.inv.split.symm.feltBox hbx) hev hstep hst hG2 hE.same (ih _ _ _ (.inl (by rw[<- hA];simp)))
           | send v =>
             obtain⟨_,hstep,m2,hG2⟩:=hs;have hM:=hE.isM;have hsame:=hE.same
             cases hM with
             | waits eg hstop0 hl =>
               cases as with
               | nil=>simp[recvs,sends]at hsame
               | cons a as =>
                 cases a with
                 | box=>exact absurd rfl (hl as)
                 | recv v' =>
                   simp[recvs,sends]at hsame;obtain⟨rfl,hsame⟩:=hsame;obtain⟨_,_,m3,hG3⟩:=hstop0 _ (Rely.refl _);exact wWA F hE eg hstep hG3 hG2 hsame hst (ih _ _ _ (.inl (by rw[<- hA];simp;omega)))
             | walks hG=>exact xSA F hE rfl hstep (GoM.running hG) (by omega) hst hstop (ih _ _ _ (.inr ⟨hA,.inl (by omega)⟩))
       . obtain⟨g',w',es,hstep,⟨hT,hev⟩,hG2⟩:=hgo _ (Rely.refl _);have hdis:∀ ty,X.T1 ty->¬ X.T0 ty:=λty h1 h0=>F.dis ty h0 h1
         exact eEA F hE (λb hb=>by
             refine hT.rest b (Qb hb hE.inv.split.bsize) λho=>?_
             have:=hE.inv.pair.highS b (hE.inv.split.symm.mine ho);omega) (hE.inv.split.symm.turn hdis hT) (hE.inv.split.symm.felt hE.inv.pair.symm.apart hE.inv.pair.highS hT) hev hstep hst hG2 hE.same (ih _ _ _ (.inr ⟨hA,.inl (by omega)⟩))
   . exact xUA F hE hi hx (by omega) hin hst λL' hL'=>by rw[hA,hK];exact ih _ _ _ (.inr ⟨rfl,.inr ⟨rfl,by omega⟩⟩)
open Go.ConcN (sumTo upd sumTo_upd upd_ne upd_same)
structure AtGo (X:Shared) (as:List MAct) (bs:List SAct) (g:Goroutine) (w:World):Prop where
 fit:X.Fit
 run:g.status = .running
 size:X.d.B=w.heap.size
 quit:∃ s r tm,w.heap[X.q]? = some (.chan 0 #[] false s r tm)
 chan:∃ s r tm,w.heap[X.d.c]? = some (.chan 0 #[] false s r tm)
 same:recvs as=sends bs
 step:∀ e,∃ g' child,stepG X.P true g (w.at e) = .spawn g' child (w.at e) #[]/\(∃ m,GoM X as none m g' (w.at e))/\(∃ m,GoS X bs none m child (w.at e))
theorem jCB{X:Shared}{as:List MAct}{bs:List SAct}{g:Goroutine}{w:World}(h:AtGo X as bs g w) :
 ∀(L e:Nat) (gs:Array Goroutine) (sl:Option (Nat×Nat)) (t:Trace) (q:Nat->Nat),sumTo gs.size q=L->gs[0]? = some g->Leavers X.P t gs q->Kn t->Gets X.P X.Fin gs (w.at e) sl t:=by
 intro L
 induction L using Nat.strongRecOn with
 | ind L ih =>
 intro e0 gs sl t q hL h0 hl hK;have hlt0:0 < gs.size:=(Qe.1 h0).1;have haw:∀ x∈gs,awake x:=by
  intro x hx;obtain⟨i,hi,rfl⟩:=Array.mem_iff_getElem.1 hx;rcases Nat.eq_zero_or_pos i with rfl|hpos
  . have:gs[0]=g:=by simpa [Array.getElem?_eq_getElem hi] using h0
    rw[this];exact awake_of (.inl h.run)
  . exact awake_of ((hl.old i _ hpos (Array.getElem?_eq_getElem hi)).status.elim .inl λx=>.inr (.inr x))
 obtain⟨i,x,e,sl',hi,hx,hst⟩:=crowd_pick (P:=X.P) (w:=w.at e0) (sl:=sl) haw ⟨0,g,h0,h.run⟩;have hat:(w.at e0).at e=w.at e:=rfl;rw[hat]at hst;rcases Nat.eq_zero_or_pos i with rfl|hpos
 . rw[h0]at hi;obtain rfl:=Qt hi;obtain⟨g',child,hs,⟨m0,hG⟩,⟨m1,hH⟩⟩:=h.step e;rw[runT_crowd_spawn (P:=X.P) (i:=0) h0 (show stepG X.P (0==0) _ _=_ from hs)]at hst;refine Gets.step hst ?_;have hops:((MemOp.ofEvents 0 g.frame.fn g.frame.place #[]).push { g:=0,fn:=g.frame.fn,pos:=g.frame.place,act:=.go gs.size } |>.push { g:=gs.size,fn:=child.frame.fn,pos:=g.frame.place,act:=.start })
       = #[{ g:=0,fn:=g.frame.fn,pos:=g.frame.place,act:=.go gs.size },{ g:=gs.size,fn:=child.frame.fn,pos:=g.frame.place,act:=.start }]:=rfl
   rw[hops];have hd:∀ op∈(#[{ g:=0,fn:=g.frame.fn,pos:=g.frame.place,act:=.go gs.size },{ g:=gs.size,fn:=child.frame.fn,pos:=g.frame.place,act:=.start }]:Array MemOp),op.act≠.mark .disable/\op.act≠.mark .enable:=by simp
   have hsz:((gs.setIfInBounds 0 g').push child).size=gs.size+1:=by simp
   refine t9A h.fit (n:=gs.size) _ _ _ as bs (m0+1) (m1+1) _ (w.at e) sl' _ q (λ_=>False) (λ_=>False) none none g' child rfl rfl rfl ⟨⟨hlt0,hsz,Nat.le_succ _,λj y hj hjn hy=>?_,λj hj=>?_,zOA hK (by omega) (hl.above _ (Qd _)) _ _ _ _,?_,λ_=>?_,?_,h.quit,h.chan⟩,?_,?_,.walks hG,.walks hH,h.same,by omega⟩
   . rw[Array.getElem?_push_lt (by simpa using hjn),<- Array.getElem?_eq_getElem,Qg (by omega)]at hy;rw[Deaf_still t j _ hd];exact hl.old j y hj hy
   . rw[Deaf_still t j _ hd];exact hl.above j (by omega)
   . rw[Deaf_still t 0 _ hd];exact hK.hears
   . rw[Deaf_still t _ _ hd];exact hl.above _ (Qd _)
   . refine⟨by rw[h.size];exact Qd _,λb cs ty fz hb hc _=>?_,λb cs ty fz hb hc _=>?_,by simp,by simp,by simp,by simp⟩
     . have:=(Qe.1 hc).1;have hwe:(w.at e).heap.size=w.heap.size:=rfl;rw[h.size]at hb;omega
     . have:=(Qe.1 hc).1;have hwe:(w.at e).heap.size=w.heap.size:=rfl;rw[h.size]at hb;omega
   . rw[Array.getElem?_push_lt (by simpa using hlt0),<- Array.getElem?_eq_getElem];exact zH hlt0
   . have:gs.size=(gs.setIfInBounds 0 g').size:=by simp
     rw[this,Array.getElem?_push_size]
 . have hq:=hl.old i x hpos hi;have hi0:(i==0)=false:=by simp;omega
   have hlt:i < gs.size:=(Qe.1 hi).1
   cases hqi:q i with
   | zero=>rw[hqi]at hq;rw[hq.1]at hx;cases hx
   | succ k =>
     rw[hqi]at hq;rcases hq with⟨hf,_⟩|⟨_,g',es,hm,hstp,hq'⟩
     . rw[hf]at hx;cases hx
     have hund:(gs.map (woken X.P x g' (w.at e))).setIfInBounds i g'=gs.setIfInBounds i g':=by
      refine sH λj y _ hy=>?_
      rcases Nat.eq_zero_or_pos j with rfl|hj
      . rw[h0]at hy;obtain rfl:=Qt hy;exact .inl h.run
      . exact(hl.old j y hj hy).status.imp id .inl
     have hu:∀ op∈MemOp.ofEvents i x.frame.fn x.frame.place es,op.g=i:=λop hop=>by obtain⟨e,_,rfl⟩:=Conc.mem_ofEvents hop;rfl
     rw[runT_crowd_go (P:=X.P) (i:=i) hi (by rw[hi0];exact hstp (w.at e)),hund]at hst;refine Gets.step hst ?_;refine ih (sumTo (gs.setIfInBounds i g').size (upd q i k)) ?_ e _ sl' _ (upd q i k) rfl (by rw[Qg (by omega)];exact h0) ⟨λj y hj hy=>?_,λj hj=>?_⟩
       (hK.appMute (g:=i) (by omega) hu (λop hop=>by obtain⟨e,he,rfl⟩:=Conc.mem_ofEvents hop;exact touch_mute (hm e he)))
     . rw[<- hL,Array.size_setIfInBounds];exact aS hlt hqi
     . by_cases hji:i=j
       . subst hji;rw[zH hlt]at hy;obtain rfl:=Qt hy;rw[upd_same,Deaf_own];exact hq'
       . rw[Qg hji]at hy;rw[upd_ne q k (Ne.symm hji),Deaf_other t hji _ hu];exact hl.old j y hj hy
     . have hj':gs.size<=j:=by simpa using hj
       rw[Deaf_other t (g':=i) (by omega) _ hu];exact hl.above j hj'
theorem phase{X:Shared}{as:List MAct}{bs:List SAct}{g:Goroutine}{w:World}(h:AtGo X as bs g w){gs:Array Goroutine}{sl:Option (Nat×Nat)}{t:Trace}{q:Nat->Nat}(h0:gs[0]? = some g)(hL:Leavers X.P t gs q)(hK:Kn t) :
 Gets X.P X.Fin gs w sl t:=jCB h _ w.drawn gs sl t q rfl h0 hL hK
section
variable {P : Program} {main : Bool} {R : World -> World -> Prop} {D : World -> World -> Array Event -> Prop} {Stop : Goroutine -> World -> Prop} {m : Nat} {b : Frame} {a : Act} {k : List Item} {cs : List Frame} {w : World}
theorem mE(T:Terms R D){x y:Code}(h:Goes P main R D Stop m (G (b.at a (.code x :: .code y::k)) cs) w):Goes P main R D Stop (m+1) (G (b.at a (.code (.seq x y)::k)) cs) w :=
 Goes.step rfl λw₁ h₁=>by rw[stepG_seq];exact⟨T.idle _,h.rely T.trans h₁⟩
theorem kS(T:Terms R D){id:Nat}{c:Code}(h:Goes P main R D Stop m (G (b.at a (.code c :: .inBlock id::k)) cs) w):Goes P main R D Stop (m+1) (G (b.at a (.code (.block id c)::k)) cs) w :=
 Goes.step rfl λw₁ h₁=>by rw[stepG_block];exact⟨T.idle _,h.rely T.trans h₁⟩
theorem qY(T:Terms R D){id:Nat}(h:Goes P main R D Stop m (G (b.at a k) cs) w):Goes P main R D Stop (m+1) (G (b.at a (.inBlock id::k)) cs) w :=
 Goes.step rfl λw₁ h₁=>by rw[stepG_inBlock];exact⟨T.idle _,h.rely T.trans h₁⟩
theorem gHA(T:Terms R D){c:Code}(h:Goes P main R D Stop m (G (b.at a (.code c :: .inLoop c::k)) cs) w):Goes P main R D Stop (m+1) (G (b.at a (.code (.loop c)::k)) cs) w :=
 Goes.step rfl λw₁ h₁=>by rw[stepG_loop];exact⟨T.idle _,h.rely T.trans h₁⟩
theorem uU(T:Terms R D){c:Code}(h:Goes P main R D Stop m (G (b.at a (.code c :: .inLoop c::k)) cs) w):Goes P main R D Stop (m+1) (G (b.at a (.inLoop c::k)) cs) w :=
 Goes.step rfl λw₁ h₁=>by rw[stepG_inLoop];exact⟨T.idle _,h.rely T.trans h₁⟩
theorem yOA(T:Terms R D){c:Code}(h:Goes P main R D Stop m (G (b.at a (.code c :: .inScope c::k)) cs) w):Goes P main R D Stop (m+1) (G (b.at a (.code (.scope c)::k)) cs) w :=
 Goes.step rfl λw₁ h₁=>by rw[eOA];exact⟨T.idle _,h.rely T.trans h₁⟩
theorem aJA(T:Terms R D){c:Code}(h:Goes P main R D Stop m (G (b.at a k) cs) w):Goes P main R D Stop (m+1) (G (b.at a (.inScope c::k)) cs) w :=
 Goes.step rfl λw₁ h₁=>by rw[wGA];exact⟨T.idle _,h.rely T.trans h₁⟩
theorem g3A(T:Terms R D)(h:Goes P main R D Stop m (G { b.at a [] with mode:=.returning } cs) w):Goes P main R D Stop (m+1) (G (b.at a []) cs) w :=
 Goes.step rfl λw₁ h₁=>by rw[stepG_end];exact⟨T.idle _,h.rely T.trans h₁⟩
theorem nK(T:Terms R D){id:Nat}{ops:Array Oper}(h:Goes P main R D Stop m (G (b.at a (.inRegion ops (List.range ops.size)::k)) cs) w):Goes P main R D Stop (m+1) (G (b.at a (.code (.region id ops false)::k)) cs) w :=
 Goes.step rfl λw₁ h₁=>by rw[stepG_region];exact⟨T.idle _,h.rely T.trans h₁⟩
theorem rE{fn:FuncId}{c:Code}{n:Nat}{Q:Exit->Act->World->Prop}(h:c.wpC P main R D fn n Q a w)(hb:b.fn=fn)(hk:b.kind≠.early)
    (hc:∀ e a' w',Q e a' w'->After P main R D Stop m b k cs e a' w'):Goes P main R D Stop (m+n) (G (b.at a (.code c::k)) cs) w:=h b k cs Stop m hb hk hc
theorem zQ{fn:FuncId}{ops:Array Oper}{todo:List Nat}{n:Nat}{Q:Exit->Act->World->Prop}(h:OpsC P main R D fn ops todo n Q a w)(hb:b.fn=fn)(hk:b.kind≠.early)
    (hc:∀ e a' w',Q e a' w'->After P main R D Stop m b k cs e a' w'):Goes P main R D Stop (m+n) (G (b.at a (.inRegion ops todo::k)) cs) w:=h b k cs Stop m hb hk hc
theorem mY{ops:Array Oper}{i:Nat}{rest:List Nat}{o:Oper}(ho:ops[i]? = some o)(hw:Region.wanted o (yielded ops a.tmps)=true)(hk:b.kind≠.early)
    (h:∀ w₁,R w w₁->∀ K:Act->World->Prop,(∀ a' w',D w₁ w' (listed P b.fn a o w₁)/\Goes P main R D Stop m (G (b.at a' (.inRegion ops rest::k)) cs) w'->K a' w')->uponK o a K ((execOp a.eval o).run P w₁)) :
    Goes P main R D Stop (m+1) (G (b.at a (.inRegion ops (i::rest)::k)) cs) w :=
  Goes.step rfl λw₁ h₁=>goes_oper_k ho hw hk λK' hK'=>h w₁ h₁ K' λa' w' x=>hK' a' w' x
theorem gIA(h:∀ w₁,R w w₁->Stop (G (b.at a k) cs) w₁):Goes P main R D Stop 0 (G (b.at a k) cs) w:=h
end
theorem tOA{P:Program}{main:Bool}{R:World->World->Prop}{D:World->World->Array Event->Prop}(T:Terms R D){Stop:Goroutine->World->Prop}{m:Nat}{b:Frame}{a:Act}{k:List Item}{cs:List Frame}{w:World}
    {ops:Array Oper} {i:Nat} {rest:List Nat} {o:Oper} {dd:Deferred} (ho:ops[i]? = some o) (hw:Region.wanted o (yielded ops a.tmps)=true) (hk:b.kind≠.early)
    (hr:∀ w,(execOp a.eval o).run P w = .ok (.defer dd) w) (he:∀ w,(execOp a.eval o).events P w #[]=#[])
    (h:Goes P main R D Stop m (G (b.at (Act.put ⟨a.tmps,dd::a.defers⟩ o.dst undef) (.inRegion ops rest::k)) cs) w):Goes P main R D Stop (m+1) (G (b.at a (.inRegion ops (i::rest)::k)) cs) w:=by
  refine Goes.step rfl λw₁ h₁=>?_
  have hs:stepG P main (G (b.at a (.inRegion ops (i::rest)::k)) cs) w₁ = .go (G (b.at (Act.put ⟨a.tmps,dd::a.defers⟩ o.dst undef) (.inRegion ops rest::k)) cs) w₁ #[]:=by
   have hk':(b.kind==CallKind.early)=false:=by simpa using hk
   have hfin:({ b.at a (.inRegion ops (i::rest)::k) with defers:=dd::a.defers }:Frame).finish undef=b.at (Act.put ⟨a.tmps,dd::a.defers⟩ o.dst undef) (.inRegion ops rest::k):=by
    have:=Frame.finish_at b { a with defers:=dd::a.defers } ops i rest k undef;rw[ho]at this;exact this
   have hl:seen P b.fn #[]=#[]:=seen_none P _;rw[stepG_oper ho hw,<- hfin];simp[stepG.apply,hr,he,hl,G,Frame.at,hk',GStep.after]
  rw[hs];exact⟨T.idle _,h.rely T.trans h₁⟩
def bK(c:Nat)(ats:Array TypeId)(ty:TypeId)(bs:Array Bool):Deferred:={ target:=.builtin .close ats ty bs,args:=#[.chan (some c)] }
theorem nZ{P:Program}{main:Bool}{b:Frame}{tmps:Array Value}{c:Nat}{ats:Array TypeId}{ty:TypeId}{bs:Array Bool}{ds:List Deferred}{todo:List Item}{cs:List Frame}{w:World}
    {cap s r:Nat} {buf:Array Value} {tm:Bool} (hc:w.heap[c]? = some (.chan cap buf false s r tm)) (hq:(P.funcs[b.fn]?).any (·.norace)=false) :
    stepG P main (G { b.at ⟨tmps,bK c ats ty bs::ds⟩ todo with mode:=.returning } cs) w = .go (G { b.at ⟨tmps,ds⟩ todo with mode:=.returning } cs) (w.setChan c cap buf true s r tm) #[⟨.obj c,false,true⟩,⟨.obj c,true,true⟩]:=by
  have hr:(invoke (bK c ats ty bs).target (bK c ats ty bs).args).run P w = .ok (.value (.tuple #[])) (w.setChan c cap buf true s r tm):=by
   simp[bK,invoke,builtin,run_close_open _ _ hc,World.setChan]
  have he:(invoke (bK c ats ty bs).target (bK c ats ty bs).args).events P w #[]=#[⟨.obj c,false,true⟩,⟨.obj c,true,true⟩]:=by
   simp[bK,invoke,builtin,events_close_open _ _ hc]
  have hs:seen P b.fn #[⟨.obj c,false,true⟩,⟨.obj c,true,true⟩]=#[⟨.obj c,false,true⟩,⟨.obj c,true,true⟩]:=seen_eq hq (by intro e he f;simp at he;rcases he with rfl|rfl<;>simp);simp only[bK]at hr he;simp[G,stepG,unwind,callDeferred,Frame.at,bK,hr,he,hs,GStep.after]
variable {d : Deal} {T : TypeId -> Prop} {o : Option Nat} {w w' w₁ : World}
theorem Turn.draw(w:World):Turn d T o w w.drew:=⟨rfl,rfl,rfl,Qd _,λ_ _ _=>rfl,λ_ _ _ cs _ fz h=>⟨cs,fz,h⟩,λ_ _ h=>h,λb h1 h2=>absurd h2 (by show ¬ b < w.heap.size;omega)⟩
theorem Turn.row{g:Nat}{cur cs:Array Value}{ty:TypeId}{fz:Nat×Nat}(ho:Own d T o w g)(hg:w.heap[g]? = some (.cells cur ty fz)):Turn d T o w (w.setRow g cs):=by
 have hsz:(w.setRow g cs).heap.size=w.heap.size:=by simp[World.setRow]
 refine⟨rfl,rfl,rfl,by rw[hsz];exact Qd _,λb hb hno=>setRow_other w g b cs λe=>hno (e▸ho),λb hb _ c t f hc=>?_,λb hbo hn c t f=>?_,λb h1 h2=>absurd h2 (by rw[hsz];omega)⟩
 . by_cases e : b = g
   . subst e;rw[hg]at hc
     cases hc;exact⟨_,_,setRow_heap w b cur cs ty fz hg⟩
   . exact⟨c,f,by rw[setRow_other w g b cs e];exact hc⟩
 . by_cases e:b=g
   . subst e;exact absurd hg (hn _ _ _)
   . rw[setRow_other w g b cs e];exact hn c t f
theorem rNA{P:Program}(w:World)(t ty e:TypeId)(i:TypeInfo)(z:Value)(size bytes:Nat)(ht:P.underlying t=some (.slice e))(hi:P.info? e=some i)(hz:i.zero=some z)
    (hsize:i.size=size) (hby:i.bytes=bytes) (hzs:z.cells.size=size) (hsz:0 < size)
    (v:Value) (n:Nat) (xs:List Value) (hown:w.ownsRow d.B e size v n xs)
    (a:Addr) (m c:Nat) (news:List Value) (hm:0 < m) (hl:news.length=m * size) (hnews:∀ j u,news[j]? = some u->w.cell? (a.add j)=some u) (h1:∀ u∈news,u.oneCell'=true)
    (h63:n+m<=maxLen) (hbytes:(n+m) * bytes<=140737488355328) (hT:T e) (hB:d.B<=w.heap.size) (hbox:∀ b,o=some b->b < w.heap.size) :
    ∃ v' w',(Builtin.append_ #[t,t] ty #[v,.slice (some a) m c]).run P w = .ok v' w'/\w'.ownsRow d.B e size v' (n+m) (xs++news)/\w.grownBy w' v.ownBlock/\Turn d T o w w':=by
  obtain⟨v',w',hr,ho',hg,_⟩:=run_append_own (P:=P) w d.B t ty e i z size bytes ht hi hz hsize hby hzs hsz v n xs hown a m c news hl hnews h1 h63 hbytes hB;refine⟨v',w',hr,ho',hg,?_⟩;subst hsize hby;have hsmall:n+m<=9223372036854775807:=by simp only[maxLen]at h63;omega
  rcases hown.2 with⟨rfl,rfl⟩|⟨g,cap,cur,rfl,hbg,hgg,hnc,hcm,hcs,htake⟩
  . rw[run_append_nil (P:=P) w t ty e i z ht hi hz a m c news hl hnews hm (by omega) (by have hb:=hbytes;simp only[Nat.zero_add]at hb;omega)]at hr
    cases hr;exact(Turn.draw w).trans (Turn.alloc hT hbox) hB
  . by_cases hroom : n + m <= cap
    . have hfit:n * i.size+news.length<=cur.size:=by rw[hl,hcs,<- Nat.add_mul];exact Nat.mul_le_mul_right _ hroom
      rw[run_append_room (P:=P) w t ty e i ht hi g n cap cur hgg a m c news hl hnews h1 hroom hfit]at hr
      cases hr;exact Turn.row (.inl ⟨hbg,cur,e,_,hgg,hT⟩) hgg
    . have holds:∀ j u,xs[j]? = some u->w.cell? ((⟨g,0,none⟩:Addr).add j)=some u:=hown.cells (g:=g) rfl;rw[run_append_grow (P:=P) w t ty e i z ht hi hz ⟨g,0,none⟩ n cap xs hown.1 holds a m c news hl hnews (by omega) (by omega) (growslice_fits (by omega) hbytes)]at hr
      cases hr;exact(Turn.draw w).trans (Turn.alloc hT hbox) hB
theorem pIA{e:TypeId}{size n:Nat}{v:Value}{xs:List Value}(hT:T e)(h:w.ownsRow d.B e size v n xs)(r:Rely d T o w w₁):w₁.ownsRow d.B e size v n xs:=by
 refine⟨h.1,?_⟩;rcases h.2 with hn|⟨g,cap,cur,rfl,hb,hg,rest⟩
 . exact .inl hn
 . exact .inr ⟨g,cap,cur,rfl,hb,by rw[r.own g (.inl ⟨hb,cur,e,_,hg,hT⟩)];exact hg,rest⟩
theorem xRA{e:TypeId}{size n:Nat}{v:Value}{xs:List Value}(hT:T e)(h:w.ownsRow d.B e size v n xs){b:Nat}(hb:v.ownBlock=some b):Own d T o w b/\b < w.heap.size:=by
 rcases h.2 with⟨rfl,_⟩|⟨g,cap,cur,rfl,hbb,hg,_⟩
 . cases hb
 . cases hb;exact⟨.inl ⟨hbb,cur,e,_,hg,hT⟩,(Qe.1 hg).1⟩
structure Low (d:Deal) (w0 w:World):Prop where
 os:w.os=w0.os
 output:w.output=w0.output
 size:w0.heap.size<=w.heap.size
 block:∀ b,b < d.B->b≠d.c->w.heap[b]? = w0.heap[b]?
theorem Low.refl(w:World):Low d w w:=⟨rfl,rfl,Qd _,λ_ _ _=>rfl⟩
theorem Low.rely{w0:World}(h:Low d w0 w)(r:Rely d T o w w₁):Low d w0 w₁ :=
 ⟨r.os.trans h.os,r.output.trans h.output,Ql h.size r.size,λb hb hc=>(r.low b hb hc).trans (h.block b hb hc)⟩
theorem Low.turn{w0:World}(h:Low d w0 w)(r:Turn d T o w w')(hB:d.B<=w.heap.size)(hbox:∀ b,o=some b->d.B<=b):Low d w0 w' :=
 ⟨r.os.trans h.os,r.output.trans h.output,Ql h.size r.size,λb hb hc=>(r.rest b (by omega) (by
   rintro(⟨h1,_⟩|h1)
   . omega
   . have:=hbox b h1;omega)).trans (h.block b hb hc)⟩
structure MH (d:Deal) (T:TypeId->Prop) (e:TypeId) (size:Nat) (L:List (Nat×Obj)) (w0:World) (v:Value) (n:Nat) (xs:List Value) (o:Option Nat) (w:World):Prop where
 holds:Holds d T o L w
 own:w.ownsRow d.B e size v n xs
 low:Low d w0 w
 typ:T e
 boxB:∀ b,o=some b->d.B<=b
variable {e : TypeId} {size n : Nat} {L L' : List (Nat × Obj)} {w0 : World} {v : Value} {xs : List Value}
theorem MH.rely(h:MH d T e size L w0 v n xs o w)(r:Rely d T o w w₁):MH d T e size L w0 v n xs o w₁:=⟨h.holds.rely r,pIA h.typ h.own r,h.low.rely r,h.typ,h.boxB⟩
theorem MH.cons(h:MH d T e size L w0 v n xs o w)(cs:Array Value){ty:TypeId}(ht:T ty):MH d T e size ((w.heap.size,Obj.cells cs ty (0,0))::L) w0 v n xs o (w.alloc (.cells cs ty)) :=
 ⟨h.holds.cons cs ht,h.own.alloc _,h.low.turn (Turn.alloc ht h.holds.box) h.holds.big h.boxB,h.typ,h.boxB⟩
theorem MH.weak(h:MH d T e size L w0 v n xs o w)(hL:∀ p∈L',p∈L):MH d T e size L' w0 v n xs o w:=⟨h.holds.weak hL,h.own,h.low,h.typ,h.boxB⟩
theorem MH.boxed{tb:TypeId}(h:MH d T e size L w0 v n xs o w)(cs:Array Value):MH d T e size [(w.heap.size,Obj.cells cs tb (0,0))] w0 v n xs (some w.heap.size) (w.alloc (.cells cs tb)) :=
 ⟨h.holds.boxed λp hp=>.inl (by simpa using hp),h.own.alloc _,⟨h.low.os,h.low.output,Ql h.low.size (by simp),λb hb hc=>by
   rw[heap_alloc_old w _ (Qb hb h.holds.big)];exact h.low.block b hb hc⟩,h.typ,λb hb=>by cases hb;exact h.holds.big⟩
theorem MH.set4{xb:Nat}{x0 x1 x2 x3:Value}{tb:TypeId}(h:MH d T e size [(xb,Obj.cells #[x0,x1,x2,x3] tb (0,0))] w0 v n xs (some xb) w)(hv:v.ownBlock≠some xb)(v0 v1 v2 v3:Value) :
 MH d T e size [(xb,Obj.cells #[v0,v1,v2,v3] tb (0,0))] w0 v n xs (some xb) ((((w.setCell ⟨xb,0,none⟩ v0).setCell ⟨xb,1,none⟩ v1).setCell ⟨xb,2,none⟩ v2).setCell ⟨xb,3,none⟩ v3):=by
 have hlt:=h.holds.lt (List.mem_singleton.2 rfl);refine⟨h.holds.set4 (by simp) v0 v1 v2 v3,?_,h.low.turn (Turn.set4 h.holds.boxOwn hlt h.holds.big v0 v1 v2 v3) h.holds.big h.boxB,h.typ,h.boxB⟩;refine⟨h.own.1,?_⟩;rcases h.own.2 with hn|⟨g,cap,cur,rfl,hb,hg,rest⟩
 . exact .inl hn
 . have hne:g≠xb:=λe=>hv (by simp[Value.ownBlock,e])
   refine .inr ⟨g,cap,cur,rfl,hb,?_,rest⟩;rw[heap_set _ _ _ _ hne,heap_set _ _ _ _ hne,heap_set _ _ _ _ hne,heap_set _ _ _ _ hne];exact hg
theorem lMA{ev:Event}{ad:Addr}(h:ev.loc = .cell ad)(ho:Own d T o w ad.block):iX d T o w ev:=by
 obtain⟨loc,wr,sy⟩:=ev;simp only at h;subst h;refine⟨λy hy _=>?_,by simp,by simp⟩;simp[MemAct.ofEvent,MemAct.touch?]at hy;subst hy;exact⟨ad,rfl,.inl ho⟩
theorem iVA{m:Mark}(h:Neutral m):iX d T o w ⟨.mark m,false,true⟩:=by
 unfold Neutral at h;subst h;exact⟨λy hy _=>by simp[MemAct.ofEvent,MemAct.touch?]at hy,by simp,by simp⟩
variable {P : Program}
theorem k5A(T:Tame P):∀(n:Nat) {g g1:Goroutine} {w w1:World},GOk g->g.status = .running->g1.status = .running->runN P n (solo g w) = .next (solo g1 w1)->GOk g1:=by
 intro n
 induction n with
 | zero =>
   intro g g1 w w1 hg _ _ h;simp only[runN,Stepped.next.injEq,solo,Machine.mk.injEq]at h;obtain⟨_,e,_⟩:=h;have e:g=g1:=by simpa using e
   subst e;exact hg
 | succ n ih =>
   intro g g1 w w1 hg hr h1 h;obtain⟨g',w',hg',hr',_,_,hn⟩:=qX T hg hr h1 h;exact ih hg' hr' h1 hn
def Fits(Stop:Goroutine->World->Prop)(g:Goroutine)(w:World):Prop:=GOk g/\g.status = .running/\Stop g w
def RunG(P:Program)(Stop:Goroutine->World->Prop)(g:Goroutine)(w:World):Prop :=
 GOk g->g.status = .running->∀ τ d gs sl t q,gs[0]? = some g->Leavers P t gs q->Kn t->Gets P (Fits Stop) gs (re w τ d) sl t
section
variable {Stop S1 S2 : Goroutine -> World -> Prop} {g : Goroutine} {w : World}
theorem RunG.re(h:RunG P Stop g w)(τ:Nat->Question->Nat)(d:Nat):RunG P Stop g (re w τ d):=λhg hr τ' d'=>h hg hr τ' d'
theorem RunG.stop(h:∀ τ d,Stop g (Lx.re w τ d)):RunG P Stop g w:=λhg hr τ d gs sl t q h0 hL hK=>⟨0,gs,g,Lx.re w τ d,sl,t,q,rfl,h0,⟨hg,hr,h τ d⟩,hL,hK⟩
theorem RunG.trans(h:RunG P S1 g w)(h2:∀ g' w',S1 g' w'->RunG P S2 g' w'):RunG P S2 g w:=λhg hr τ d gs sl t q h0 hL hK =>
 (h hg hr τ d gs sl t q h0 hL hK).trans λgs' g' w' sl' t' q' h0' hS hL' hK'=>h2 g' w' hS.2.2 hS.1 hS.2.1 w'.tape w'.drawn gs' sl' t' q' h0' hL' hK'
theorem RunG.mono(h:RunG P S1 g w)(h2:∀ g' w',S1 g' w'->S2 g' w'):RunG P S2 g w:=λhg hr τ d gs sl t q h0 hL hK=>by
 obtain⟨N,gs',g',w',sl',t',q',e,h1,hS,hL',hK'⟩:=h hg hr τ d gs sl t q h0 hL hK;exact⟨N,gs',g',w',sl',t',q',e,h1,⟨hS.1,hS.2.1,h2 _ _ hS.2.2⟩,hL',hK'⟩
theorem RunG.lone(T:Tame P)(h:∀ τ d,∃ g1 w1,Steps P (solo g (Lx.re w τ d)) (solo g1 w1)/\g1.status = .running/\RunG P Stop g1 w1):RunG P Stop g w:=by
 intro hg hr τ d gs sl t q h0 hL hK;have hl:LoneOk P (Fits (RunG P Stop)) g (Lx.re w τ d):=λτ' d'=>by
  rw[y8A];obtain⟨g1,w1,⟨n,hn⟩,hr1,hG⟩:=h τ' d';exact⟨n,g1,w1,hn,hr1,k5A T n hg hr hr1 hn,hr1,hG⟩
 have he:=xIA T (λg w τ d h=>⟨h.1,h.2.1,h.2.2.re τ d⟩) hg hr hl;exact(beside he h0 hL hK).gets.trans λgs' g' w' sl' t' q' h0' hS hL' hK'=>hS.2.2 hS.1 hS.2.1 w'.tape w'.drawn gs' sl' t' q' h0' hL' hK'
theorem RunG.step{fr fr':Frame}{cs cs':List Frame}(T:Tame P)(h:∀ w,Go.step P (Go.lone fr cs w) = .next (Go.lone fr' cs' w))(hG:RunG P Stop (G fr' cs') w):RunG P Stop (G fr cs) w :=
 RunG.lone T λτ d=>⟨G fr' cs',Lx.re w τ d,.one (h _),rfl,hG.re τ d⟩
theorem RunG.phase{X:Shared}{ms:List MAct}{ss:List SAct}(h:∀ τ d,AtGo X ms ss g (Lx.re w τ d))(hf:GOk g->∀ g' w',X.Fin g' w'->GOk g'/\g'.status = .running):RunG X.P X.Fin g w:=by
 intro hg hr τ d gs sl t q h0 hL hK;obtain⟨N,gs',g',w',sl',t',q',e,h1,hS,hL',hK'⟩:=Lx.phase (h τ d) h0 hL hK (sl:=sl);exact⟨N,gs',g',w',sl',t',q',e,h1,⟨(hf hg _ _ hS).1,(hf hg _ _ hS).2,hS⟩,hL',hK'⟩
end
def AfterG(P:Program)(Stop:Goroutine->World->Prop)(b:Frame)(k:List Item)(cs:List Frame):Exit->Act->World->Prop
  | .normal,a,w=>RunG P Stop (G (b.at a k) cs) w
  | .exit id,a,w=>∃ k',exitTo id k=some k'/\RunG P Stop (G (b.at a k') cs) w
  | .ret,a,w=>∀ todo,RunG P Stop (G { b.at a todo with mode:=.returning } cs) w
  | _,_,_=>False
theorem AfterG.push{Stop:Goroutine->World->Prop}{b:Frame}{x:Item}{k:List Item}{cs:List Frame}{e:Exit}{a:Act}{w:World}(hx:x.plain=true)(he:e≠.normal)
    (h:AfterG P Stop b k cs e a w):AfterG P Stop b (x::k) cs e a w:=by
  cases e with
  | normal=>exact absurd rfl he
  | exit id=>obtain⟨k',hk,hg⟩:=h;exact⟨k',by cases x<;>simp_all[exitTo,Item.plain],hg⟩
  | ret=>exact h
  | goto l=>exact h
  | panic ch=>exact h
  | outgrown=>exact h
def _root_.Go.Code.wpG(P:Program)(c:Code)(Q:Exit->Act->World->Prop)(a:Act)(w:World):Prop :=
 ∀(b:Frame) (k:List Item) (cs:List Frame) (Stop:Goroutine->World->Prop),b.kind≠.early ->
  (∀ e a' w',Q e a' w'->AfterG P Stop b k cs e a' w')->RunG P Stop (G (b.at a (.code c::k)) cs) w
def uAA(P:Program)(ops:Array Oper)(todo:List Nat)(Q:Exit->Act->World->Prop)(a:Act)(w:World):Prop :=
 ∀(b:Frame) (k:List Item) (cs:List Frame) (Stop:Goroutine->World->Prop),b.kind≠.early ->
  (∀ e a' w',Q e a' w'->AfterG P Stop b k cs e a' w')->RunG P Stop (G (b.at a (.inRegion ops todo::k)) cs) w
section rules
variable {Q Q' : Exit -> Act -> World -> Prop} {a : Act} {w : World} {c x y : Code} {ops : Array Oper}
theorem qK(h:c.wpG P Q a w)(τ:Nat->Question->Nat)(d:Nat):c.wpG P Q a (re w τ d):=λb k cs Stop hb hc=>(h b k cs Stop hb hc).re τ d
theorem tTA{l:List Nat}(h:uAA P ops l Q a w)(τ:Nat->Question->Nat)(d:Nat):uAA P ops l Q a (re w τ d):=λb k cs Stop hb hc=>(h b k cs Stop hb hc).re τ d
theorem uLA(h:c.wpG P Q a w)(hq:∀ e a w,Q e a w->Q' e a w):c.wpG P Q' a w:=λb k cs Stop hb hc=>h b k cs Stop hb λe a' w' q=>hc e a' w' (hq e a' w' q)
theorem vD(T:Tame P)(h:∀ τ d,c.wp P Q a (re w τ d)):c.wpG P Q a w:=by
 intro b k cs Stop hb hc;refine RunG.lone T λτ d=>?_
 obtain⟨e,a',w',hq,harr⟩:=h τ d b k cs;have:=hc _ _ _ hq
 cases e with
 | normal=>exact⟨_,w',harr,rfl,this⟩
 | exit id=>obtain⟨k',hk',hG⟩:=this;exact⟨_,w',harr k' hk',rfl,hG⟩
 | ret=>obtain⟨todo,hs⟩:=harr;exact⟨_,w',hs,rfl,this todo⟩
 | goto l=>exact this.elim
 | panic ch=>exact this.elim
 | outgrown=>exact this.elim
theorem fG(T:Tame P)(h:x.wpG P (Exit.then (λa' w'=>y.wpG P Q a' w') Q) a w):(Code.seq x y).wpG P Q a w:=by
 intro b k cs Stop hb hc;refine RunG.step T (λw=>step_seq) ?_;refine h b (.code y::k) cs Stop hb λe a' w' q=>?_
 cases e with
 | normal=>exact q b k cs Stop hb hc
 | exit id=>exact(hc _ _ _ q).push rfl (by simp)
 | ret=>exact(hc _ _ _ q).push (x:=.code y) rfl (by simp)
 | goto l=>exact hc _ _ _ q
 | panic ch=>exact hc _ _ _ q
 | outgrown=>exact hc _ _ _ q
theorem aZ(T:Tame P){o:Operand}{t:Bool}(hc:a.eval o = .bool t)(h:(if t then x else y).wpG P Q a w):(Code.cond o x y).wpG P Q a w :=
 λb k cs Stop hb hq=>RunG.step T (λw=>step_cond hc) (h b k cs Stop hb hq)
theorem yHA(T:Tame P){id:Nat}(h:c.wpG P (Exit.inBlock id Q) a w):(Code.block id c).wpG P Q a w:=by
 intro b k cs Stop hb hc;refine RunG.step T (λw=>step_block) ?_;refine h b (.inBlock id::k) cs Stop hb λe a' w' q=>?_
 cases e with
 | normal=>exact RunG.step T (λw=>step_inBlock) (hc _ _ _ q)
 | exit id' =>
   by_cases hid:id'=id
   . simp only[Exit.inBlock,hid,if_true]at q;exact⟨k,by simp[exitTo,hid],hc _ _ _ q⟩
   . simp only[Exit.inBlock,hid,if_false]at q;obtain⟨k',hk',hg⟩:=hc _ _ _ q;have:(id==id')=false:=by simp;exact λh=>hid h.symm
     exact⟨k',by simp[exitTo,this,hk'],hg⟩
 | ret=>exact λtodo=>hc _ _ _ q todo
 | goto l=>exact hc _ _ _ q
 | panic ch=>exact hc _ _ _ q
 | outgrown=>exact hc _ _ _ q
theorem i1A(T:Tame P)(I:Act->World->Prop)(μ:Act->World->Nat)(h₀:I a w)
    (round:∀ a w,I a w->c.wpG P (Exit.then (λa' w'=>I a' w'/\μ a' w' < μ a w) Q) a w):(Code.loop c).wpG P Q a w:=by
  intro b k cs Stop hb hc;have key:∀ n a w,μ a w=n->I a w->RunG P Stop (G (b.at a (.code c :: .inLoop c::k)) cs) w:=by
   intro n
   induction n using Nat.strongRecOn with
   | _ n ih =>
     intro a w hn hI;refine round a w hI b (.inLoop c::k) cs Stop hb λe a' w' q=>?_
     cases e with
     | normal=>exact RunG.step T (λw=>step_inLoop) (ih _ (hn▸q.2) a' w' rfl q.1)
     | exit id=>exact(hc _ _ _ q).push rfl (by simp)
     | ret=>exact(hc _ _ _ q).push (x:=.inLoop c) rfl (by simp)
     | goto l=>exact hc _ _ _ q
     | panic ch=>exact hc _ _ _ q
     | outgrown=>exact hc _ _ _ q
  exact RunG.step T (λw=>step_loop) (key _ a w rfl h₀)
theorem oO(T:Tame P){id:Nat}(h:uAA P ops (List.range ops.size) Q a w):(Code.region id ops false).wpG P Q a w :=
 λb k cs Stop hb hc=>RunG.step T (λw=>step_region) (h b k cs Stop hb hc)
theorem jL(T:Tame P)(h:Q .normal a w):uAA P ops [] Q a w:=λ_ _ _ _ _ hc=>RunG.step T (λw=>step_region_end) (hc _ _ _ h)
end rules
theorem oCA{ops:Array Oper}{K:Act->World->Prop}(l l2:List Nat) :
 ∀(a:Act) (w:World),wpOps P ops (Exit.then K λ_ _ _=>False) l a w->∀(b:Frame) (k:List Item) (cs:List Frame),b.kind≠.early ->
  ∃ a' w',K a' w'/\Steps P (lone (b.at a (.inRegion ops (l++l2)::k)) cs w) (lone (b.at a' (.inRegion ops l2::k)) cs w'):=by
 induction l with
 | nil=>exact λa w h b k cs _=>⟨a,w,h,⟨0,rfl⟩⟩
 | cons i rest ih =>
   intro a w h b k cs hbk;simp only[wpOps]at h
   cases ho:ops[i]? with
   | none =>
     simp only[ho]at h;obtain⟨a',w',hq,harr⟩:=ih a w h b k cs hbk;have hs:=step_op_skip (P:=P) (b:=b) (a:=a) (k:=k) (cs:=cs) (w:=w) (ops:=ops) (i:=i) (rest:=rest++l2) (by simp[ho]);simp only[ho,Option.bind_none,Act.put]at hs;exact⟨a',w',hq,.head hs harr⟩
   | some o =>
     simp only[ho]at h;by_cases hw:Region.wanted o (yielded ops a.tmps)=true
     . simp only[hw,if_true]at h;rcases h with h|⟨_,_,_,hq⟩
       case inr=>exact hq.elim
       simp only[Oper.wp,Oper.upon]at h;have hg:=stepG_op (P:=P) (b:=b) (k:=k) (cs:=cs) (w:=w) (rest:=rest++l2) ho hw;have hfin:∀ v,(b.at a (.inRegion ops (i::(rest++l2))::k)).finish v=b.at (a.put o.dst v) (.inRegion ops (rest++l2)::k):=by
        intro v;rw[Frame.finish_at,ho];rfl
       split at h
       . rename_i v w' hr;obtain⟨a',w'',hq,harr⟩:=ih _ _ h b k cs hbk;refine⟨a',w'',hq,.head (step_lone_go ?_) harr⟩;rw[List.cons_append,hg,<- hfin];simp[stepG.apply,hr]
       . rename_i w' hr;obtain⟨a',w'',hq,harr⟩:=ih _ _ h b k cs hbk;refine⟨a',w'',hq,.head (step_lone_go ?_) harr⟩;rw[List.cons_append,hg,<- hfin];simp[stepG.apply,hr]
       . rename_i d w' hr;obtain⟨a',w'',hq,harr⟩:=ih _ _ h b k cs hbk;refine⟨a',w'',hq,.head (step_lone_go ?_) harr⟩;have:({ b.at a (.inRegion ops (i::(rest++l2))::k) with defers:=d::a.defers }:Frame).finish undef =
             b.at ({ a with defers:=d::a.defers }.put o.dst undef) (.inRegion ops (rest++l2)::k):=by
           have:=Frame.finish_at b { a with defers:=d::a.defers } ops i (rest++l2) k undef;rw[ho]at this;exact this
         rw[List.cons_append,hg];simp only[stepG.apply,Sem.runT_eq,hr,GStep.bare_after];exact congrArg (λfr=>GStep.go { frame:=fr,callers:=cs,status:=.running,dying:=none } w') this
       . rename_i f args w' hr;obtain⟨e,w'',fr,hR,hsteps,_,hleave⟩:=h (b.at a (.inRegion ops (i::(rest++l2))::k)::cs);have henter:step P (lone (b.at a (.inRegion ops (i::(rest++l2))::k)) cs w) =
             .next (lone (Frame.enter P f args .normal) (b.at a (.inRegion ops (i::(rest++l2))::k)::cs) w') :=
           step_lone_go (by rw[hg];simp[stepG.apply,hr,Frame.at])
         cases e with
         | returned v =>
           obtain⟨a',w₃,hq,harr⟩:=ih _ _ hR b k cs hbk;refine⟨a',w₃,hq,.head henter (hsteps.trans (.head ?_ harr))⟩;rw[<- hfin];exact step_leave_returned hleave
         | panicked chain=>exact hR.elim
         | outgrown=>obtain⟨_,_,hq⟩:=hR;exact hq.elim
       . rename_i row args w' hr;obtain⟨v,w'',hR,hsteps⟩:=h (b.at a (.inRegion ops (i::(rest++l2))::k)) cs;have henter:step P (lone (b.at a (.inRegion ops (i::(rest++l2))::k)) cs w) =
             .next (lone (Frame.ofRow P row args .normal) (b.at a (.inRegion ops (i::(rest++l2))::k)::cs) w') :=
           step_lone_go (by rw[hg];simp[stepG.apply,hr,Frame.at])
         obtain⟨a',w₃,hq,harr⟩:=ih _ _ hR b k cs hbk;refine⟨a',w₃,hq,.head henter (Steps.trans ?_ harr)⟩;rw[<- hfin];exact hsteps
       . exact h.elim
       . exact h.elim
     . simp only[hw,if_false,Qs]at h;obtain⟨a',w',hq,harr⟩:=ih _ _ h b k cs hbk;have hs:=step_op_skip (P:=P) (b:=b) (a:=a) (k:=k) (cs:=cs) (w:=w) (ops:=ops) (i:=i) (rest:=rest++l2)
         (by simp[ho];simpa using hw)
       simp only[ho,Option.bind_some]at hs;exact⟨a',w',hq,.head hs harr⟩
theorem zHA(T:Tame P){Q:Exit->Act->World->Prop}{a:Act}{w:World}{ops:Array Oper}(l l2:List Nat)
    (h:∀ τ d,wpOps P ops (Exit.then (λa' w'=>uAA P ops l2 Q a' w') λ_ _ _=>False) l a (re w τ d)):uAA P ops (l++l2) Q a w:=by
  intro b k cs Stop hb hc;refine RunG.lone T λτ d=>?_
  obtain⟨a',w',hK,hs⟩:=oCA l l2 a _ (h τ d) b k cs hb;exact⟨_,w',hs,rfl,hK b k cs Stop hb hc⟩
theorem uFA{ops:Array Oper}{Q:Exit->Act->World->Prop}(l:List Oper):∀ k,(∀ j,j < l.length->l[j]? = ops[k+j]?)->wpOps P ops Q (List.range' k l.length)=wpList P ops Q l:=by
 induction l with
 | nil=>intro k _;funext a w;simp[wpOps,wpList]
 | cons o l ih =>
   intro k h;have h0:ops[k]? = some o:=by simpa using (h 0 (by simp)).symm
   have ih':=ih (k+1) (λj hj=>by have:=h (j+1) (by simpa using hj);simpa [Nat.add_assoc,Nat.add_comm 1 j] using this);funext a w
   simp only[Qk,List.range'_succ,wpOps,h0,wpList,ih']
theorem o8(T:Tame P){Q:Exit->Act->World->Prop}{a:Act}{w:World}{id:Nat}{ops:Array Oper}(n:Nat)(hn:n<=ops.size)
    (h:∀ τ d,wpList P ops (Exit.then (λa' w'=>uAA P ops (List.range' n (ops.size - n)) Q a' w') λ_ _ _=>False) (ops.toList.take n) a (re w τ d)):(Code.region id ops false).wpG P Q a w:=by
  refine oO T ?_;have e:List.range ops.size=List.range' 0 n++List.range' n (ops.size - n):=by
   have:=List.range'_append_1 (s:=0) (m:=n) (n:=ops.size - n);rw[Nat.zero_add]at this;rw[List.range_eq_range',this,Nat.add_sub_cancel' hn]
  rw[e];refine zHA T _ _ λτ d=>?_
  have hl:(ops.toList.take n).length=n:=by simp;omega
  have:=uFA (P:=P) (ops:=ops) (Q:=Exit.then (λa' w'=>uAA P ops (List.range' n (ops.size - n)) Q a' w') λ_ _ _=>False) (ops.toList.take n) 0 (λj hj=>by
    rw[hl]at hj;rw[List.getElem?_take_of_lt hj];simp)
  rw[hl]at this;rw[this];exact h τ d
theorem wH(T:Tame P){Q:Exit->Act->World->Prop}{a:Act}{w:World}{ops:Array Oper}(k n m:Nat)(hn:k+n<=ops.size)
    (h:∀ τ d,wpList P ops (Exit.then (λa' w'=>uAA P ops (List.range' (k+n) m) Q a' w') λ_ _ _=>False) ((ops.toList.drop k).take n) a (re w τ d)):uAA P ops (List.range' k (n+m)) Q a w:=by
  have e:List.range' k (n+m)=List.range' k n++List.range' (k+n) m:=by rw[List.range'_append_1]
  rw[e];refine zHA T _ _ λτ d=>?_
  have hl:((ops.toList.drop k).take n).length=n:=by simp;omega
  have:=uFA (P:=P) (ops:=ops) (Q:=Exit.then (λa' w'=>uAA P ops (List.range' (k+n) m) Q a' w') λ_ _ _=>False) ((ops.toList.drop k).take n) k (λj hj=>by
    rw[hl]at hj;rw[List.getElem?_take_of_lt hj,List.getElem?_drop];simp)
  rw[hl]at this;rw[this];exact h τ d
def CallsG(P:Program)(f:FuncId)(args:Array Value)(w:World)(Post:Value->World->Prop):Prop :=
 ∀ cs,RunG P (λg' w'=>∃ v fr,g'=G fr cs/\fr.fn=f/\(∀ τ d,fr.leaving P (re w' τ d) (.returned v))/\Post v w') (G (Frame.enter P f args .normal) cs) w
theorem CallsG.mono{f:FuncId}{args:Array Value}{w:World}{Post Post':Value->World->Prop}(h:CallsG P f args w Post)(hp:∀ v w,Post v w->Post' v w):CallsG P f args w Post' :=
 λcs=>(h cs).mono λ_ _ ⟨v,fr,h1,h1',h2,h3⟩=>⟨v,fr,h1,h1',h2,hp _ _ h3⟩
theorem CallsG.re{f:FuncId}{args:Array Value}{w:World}{Post:Value->World->Prop}(h:CallsG P f args w Post)(τ:Nat->Question->Nat)(d:Nat):CallsG P f args (Lx.re w τ d) Post:=λcs=>(h cs).re τ d
theorem yL(T:Tame P){Q:Exit->Act->World->Prop}{a:Act}{w:World}{ops:Array Oper}{i:Nat}{rest:List Nat}{o:Oper}{f:FuncId}{args:Array Value}{Post:Value->World->Prop}
    (ho:ops[i]? = some o) (hw:Region.wanted o (yielded ops a.tmps)=true) (hr:∀ w,(execOp a.eval o).run P w = .ok (.enter f args) w)
    (hcall:CallsG P f args w Post) (hnext:∀ v w',Post v w'->uAA P ops rest Q (a.put o.dst v) w'):uAA P ops (i::rest) Q a w:=by
  intro b k cs Stop hb hc;refine RunG.step T (fr':=Frame.enter P f args .normal) (cs':=b.at a (.inRegion ops (i::rest)::k)::cs) (λw=>?_) ?_
  . exact step_lone_go (by rw[stepG_op ho hw];simp[stepG.apply,hr,Frame.at])
  . refine(hcall _).trans ?_;rintro g' w' ⟨v,fr,rfl,_,hl,hp⟩;refine RunG.lone T λτ d=>⟨G (b.at (a.put o.dst v) (.inRegion ops rest::k)) cs,Lx.re w' τ d,.one ?_,rfl,(hnext v w' hp b k cs Stop hb hc).re τ d⟩
    have:=step_leave_returned (c:=b.at a (.inRegion ops (i::rest)::k)) (cs:=cs) (hl τ d);rw[Frame.finish_at,ho]at this;exact this
def pV(P:Program)(fn:Func)(Post:Value->World->Prop):Exit->Act->World->Prop
  | .normal,a,w|.ret,a,w=>a.defers=[]/\∃ v,(∀ τ d,(results fn a.tmps).run P (re w τ d) = .ok v (re w τ d))/\Post v w
  | _,_,_=>False
theorem iM(T:Tame P){f:FuncId}{fn:Func}{c:Code}{args:Array Value}{w:World}{Post:Value->World->Prop}(hf:P.funcs[f]? = some fn)(hb:fn.body=some c)
    (h:c.wpG P (pV P fn Post) { tmps:=args++Array.replicate (fn.ntmps - args.size) undef,defers:=[] } w) (hPost:∀ v w τ d,Post v w->Post v (re w τ d)):CallsG P f args w Post:=by
  intro cs
  let b:Frame:={ (default:Frame) with fn:=f,kind:=.normal }
  have henter:Frame.enter P f args .normal=b.at { tmps:=args++Array.replicate (fn.ntmps - args.size) undef,defers:=[] } [.code c]:=by
   simp[Frame.enter,Frame.at,hf,hb,b]
  rw[henter];have fin:∀(a':Act) (w':World) (todo:List Item),(a'.defers=[]/\∃ v,(∀ τ d,(results fn a'.tmps).run P (re w' τ d) = .ok v (re w' τ d))/\Post v w') ->
   RunG P (λg' w'=>∃ v fr,g'=G fr cs/\fr.fn=f/\(∀ τ d,fr.leaving P (re w' τ d) (.returned v))/\Post v w') (G { b.at a' todo with mode:=.returning } cs) w':=by
   rintro a' w' todo ⟨hd,v,hr,hp⟩;exact RunG.stop λτ d=>⟨v,_,rfl,rfl,λτ' d'=>⟨rfl,hd,rfl,fn,hf,hr τ' d'⟩,hPost _ _ _ _ hp⟩
  refine h b [] cs _ (by simp[b]) λe a' w' q=>?_
  cases e with
  | normal=>exact RunG.step T (λw=>step_end) (fin a' w' [] q)
  | ret=>exact λtodo=>fin a' w' todo q
  | exit id=>exact q.elim
  | goto l=>exact q.elim
  | panic ch=>exact q.elim
  | outgrown=>exact q.elim
open Go.ConcN (sumTo upd sumTo_upd upd_ne upd_same)
variable {P : Program}
theorem kRA{fr:Frame}{w:World}{v:Value}{fn:Func}{t:Tmp}(h:fr.leaving P w (.returned v))(hfn:P.funcs[fr.fn]? = some fn)(hres:fn.results=#[.tmp t])(hi:P.inits.idxOf? fr.fn=none) :
 stepG P true (G fr []) w = .ended (.done v) w #[]:=by
 obtain⟨hm,hd,hk,fn',hf,hr⟩:=h;have e:fn'=fn:=Qt (hf.symm.trans hfn);subst e;have he:(results fn' fr.tmps).events P w #[]=#[]:=events_results_tmp hres _ _;simp[G,stepG,unwind,doReturn,hm,hd,hk,hf,hr,hi,he,seen_none,GStep.after]
theorem f1A{fn:Func}{f:FuncId}{tt:Tmp}{Post:Value->World->Prop}{fr:Frame}{w:World}{v:Value}(hfn:P.funcs[f]? = some fn)(hres:fn.results=#[.tmp tt])(hi:P.inits.idxOf? f=none)(hff:fr.fn=f)
    (hl:∀ τ d,fr.leaving P (re w τ d) (.returned v)) (hp:∀ τ d,Post v (re w τ d)) :
    ∀(L e:Nat) (gs:Array Goroutine) (sl:Option (Nat×Nat)) (t:Trace) (q:Nat->Nat),sumTo gs.size q=L->gs[0]? = some (G fr [])->Leavers P t gs q->Kn t ->
     ∃ M last o w' t',runNT P (M+1) (crowd gs (w.at e) sl) t=(.ended o w',t')/\runN P M (crowd gs (w.at e) sl) = .next last/\step P last = .ended o w'/\Conc.Good P Post last o w' t':=by
  intro L
  induction L using Nat.strongRecOn with
  | ind L ih =>
  intro e0 gs sl t q hL h0 hL' hK;have hlt0:0 < gs.size:=(Qe.1 h0).1;have hrun:(G fr []).status = .running:=rfl;have haw:∀ x∈gs,awake x:=by
   intro x hx;obtain⟨i,hi,rfl⟩:=Array.mem_iff_getElem.1 hx;rcases Nat.eq_zero_or_pos i with rfl|hpos
   . have:gs[0]=G fr []:=by simpa [Array.getElem?_eq_getElem hi] using h0
     rw[this];exact awake_of (.inl hrun)
   . exact awake_of ((hL'.old i _ hpos (Array.getElem?_eq_getElem hi)).status.elim .inl λx=>.inr (.inr x))
  obtain⟨i,x,e,sl',hi',hx,hst⟩:=crowd_pick (P:=P) (w:=w.at e0) (sl:=sl) haw ⟨0,_,h0,hrun⟩;have hat:(w.at e0).at e=w.at e:=rfl;rw[hat]at hst;rcases Nat.eq_zero_or_pos i with rfl|hpos
  . rw[h0]at hi';obtain rfl:=Qt hi';have hend:=kRA (hl w.tape e) (hff▸hfn) hres (hff▸hi);have hrunT:=runT_many_ended (P:=P) (sl:=sl') (i:=0) h0 (show stepG P (0==0) _ _=_ from hend);have hstp:=hst.trans hrunT;have hemp:MemOp.ofEvents 0 (G fr []).frame.fn (G fr []).frame.place #[]=#[]:=rfl;rw[hemp]at hstp;refine⟨0,crowd gs (w.at e0) sl,.done v,w.at e,t,?_,rfl,?_,v,rfl,hp w.tape e,hK.clean,hK.over,⟨λx hx=>?_,rfl⟩,λj x hx hj=>?_⟩
    . simp only[runNT];rw[hstp];simp;rfl
    . rw[step,hstp];rfl
    . obtain⟨j,hj⟩:=List.mem_iff_getElem?.1 hx;rw[List.getElem?_drop]at hj;exact⟨_,(hL'.old (1+j) x (by omega) (by simpa [crowd] using hj)).leaves⟩
    . exact⟨q j,(hL'.old j x (by omega) hx).hears _⟩
  . have hq:=hL'.old i x hpos hi';have hi0:(i==0)=false:=by simp;omega
    have hlt:i < gs.size:=(Qe.1 hi').1
    cases hqi:q i with
    | zero=>rw[hqi]at hq;rw[hq.1]at hx;cases hx
    | succ k =>
      rw[hqi]at hq;rcases hq with⟨hf,_⟩|⟨_,g',es,hm,hstp,hq'⟩
      . rw[hf]at hx;cases hx
      have hund:(gs.map (woken P x g' (w.at e))).setIfInBounds i g'=gs.setIfInBounds i g':=by
       refine sH λj y _ hy=>?_
       rcases Nat.eq_zero_or_pos j with rfl|hj
       . rw[h0]at hy;obtain rfl:=Qt hy;exact .inl hrun
       . exact(hL'.old j y hj hy).status.imp id .inl
      have hu:∀ op∈MemOp.ofEvents i x.frame.fn x.frame.place es,op.g=i:=λop hop=>by obtain⟨e,_,rfl⟩:=Conc.mem_ofEvents hop;rfl
      rw[runT_crowd_go (P:=P) (i:=i) hi' (by rw[hi0];exact hstp (w.at e)),hund]at hst;obtain⟨M,last,o,w',t',h1,h2,h3,h4⟩:=ih (sumTo (gs.setIfInBounds i g').size (upd q i k)) (by rw[<- hL,Array.size_setIfInBounds];exact aS hlt hqi) e _ sl' (t++MemOp.ofEvents i x.frame.fn x.frame.place es) (upd q i k) rfl (by rw[Qg (by omega)];exact h0) ⟨λj y hj hy=>by
          by_cases hji:i=j
          . subst hji;rw[zH hlt]at hy;obtain rfl:=Qt hy;rw[upd_same,Deaf_own];exact hq'
          . rw[Qg hji]at hy;rw[upd_ne q k (Ne.symm hji),Deaf_other t hji _ hu];exact hL'.old j y hj hy,λj hj=>by
          have hj':gs.size<=j:=by simpa using hj
          rw[Deaf_other t (g':=i) (by omega) _ hu];exact hL'.above j hj'⟩
        (hK.appMute (g:=i) (by omega) hu (λop hop=>by obtain⟨e,he,rfl⟩:=Conc.mem_ofEvents hop;exact touch_mute (hm e he)))
      refine⟨M+1,last,o,w',t',?_,?_,h3,h4⟩
      . rw[runNT,hst];exact h1
      . rw[runN,step,hst];exact h2
theorem aFA{fn:Func}{f:FuncId}{tt:Tmp}{args:Array Value}{W:World}{Post:Value->World->Prop}(hfn:P.funcs[f]? = some fn)(hb:fn.body.isSome=true)(hres:fn.results=#[.tmp tt])(hi:P.inits.idxOf? f=none)
    (h:CallsG P f args W λv w=>∀ τ d,Post v (re w τ d)) :
    ∃ M last o w' t',runNT P (M+1) (solo (G (Frame.enter P f args .normal) []) W) #[]=(.ended o w',t')/\runN P M (solo (G (Frame.enter P f args .normal) []) W) = .next last/\step P last = .ended o w'/\Conc.Good P Post last o w' t':=by
  have hgok:GOk (G (Frame.enter P f args .normal) []):=by
   obtain⟨c,hc⟩:=Option.isSome_iff_exists.1 hb;refine⟨λi hi=>?_,by simp[G],by simp[xE,G]⟩;simp[G,Frame.enter,hfn,hc]at hi;subst hi;trivial
  obtain⟨N,gs',g',w',sl',t',q',hr,h0,⟨_,_,v,fr,rfl,hff,hl,hp⟩,hL,hK⟩:=h [] hgok rfl W.tape W.drawn #[G (Frame.enter P f args .normal) []] none #[] (λ_=>0) rfl
    ⟨λi g hi hg=>by
      have:=(Qe.1 hg).1;simp at this;omega,λj _=>by simp[Deaf,Trace.deaf]⟩ r9A
  obtain⟨M,last,o,w'',t'',h1,h2,h3,h4⟩:=f1A (Post:=Post) hfn hres hi hff hl hp _ w'.drawn gs' sl' t' q' rfl h0 hL hK;have hr:runNT P N (crowd #[G (Frame.enter P f args .normal) []] W none) #[]=(.next (crowd gs' w' sl'),t'):=hr;rw[solo_eq_crowd];refine⟨N+M,last,o,w'',t'',?_,?_,h3,h4⟩
  . rw[Nat.add_assoc,rDA N (M+1) _ _ _ _ hr];exact h1
  . have:runN P N (crowd #[G (Frame.enter P f args .normal) []] W none) = .next (crowd gs' w' sl'):=by rw[<- runNT_fst P N _ #[]];exact congrArg Prod.fst hr
    rw[runN_add,this];exact h2
end Go.Lx
namespace Go.Lx
theorem Under.re{W w:World}(h:Under W w)(τ:Nat->Question->Nat)(d:Nat):Under W (re w τ d):=⟨h.os,h.output,h.size,h.low⟩
variable {P : Program}
theorem qGA:∀(n:Nat) (a:Addr) (acc:ByteArray),Ok P (Extern.Bytes.loadBytes a n acc):=by
 intro n
 induction n with
 | zero=>intro a acc;exact Ok.pure
 | succ n ih =>
   intro a acc;unfold Extern.Bytes.loadBytes;refine Ok.bind mZ λv=>?_
   split
   . exact ih _ _
   . exact xA
theorem gNA:∀ v,Ok P (Extern.Bytes.bytesOf v):=by
 intro v;unfold Extern.Bytes.bytesOf
 repeat' (first|(with_reducible exact Ok.pure)|(with_reducible exact Ok.halt trivial)|(with_reducible apply qGA)|(with_reducible apply xA)|(with_reducible apply Ok.bind)|(with_reducible apply Ok.map)|intro _|split|dsimp only)
theorem pSA:∀ v,Ok P (Extern.Bytes.asByte v):=by
 intro v;unfold Extern.Bytes.asByte
 repeat' (first|(with_reducible exact Ok.pure)|(with_reducible exact Ok.halt trivial)|(with_reducible apply xA)|(with_reducible apply Ok.bind)|(with_reducible apply Ok.map)|intro _|split|dsimp only)
theorem vGA:∀ args,Ok P (Extern.BytealgIndexByte.indexByte args):=by
 intro args;obtain⟨l⟩:=args;rcases l with _|⟨x,_|⟨y,_|⟨z,t⟩⟩⟩
 . exact xA
 . exact xA
 . refine Ok.bind (gNA x) λa=>Ok.bind (pSA y) λb=>?_
   repeat' (first|(with_reducible exact Ok.pure)|(with_reducible exact Ok.halt trivial)|(with_reducible apply Ok.bind)|(with_reducible apply Ok.map)|intro _|split|dsimp only)
 . exact xA
theorem rY:∀ s,Ok P (Extern.RuntimeError.text s):=by
 intro s;unfold Extern.RuntimeError.text
 repeat' (first|(with_reducible exact Ok.pure)|(with_reducible exact Ok.halt trivial)|(with_reducible apply Ok.bind)|(with_reducible apply Ok.map)|intro _|split|dsimp only)
theorem sBA:∀ args,Ok P (Extern.RuntimeError.boundsError args):=by
 intro args;obtain⟨l⟩:=args;rcases l with _|⟨x,_|⟨y,t⟩⟩
 . exact xA
 . cases x<;>first|exact xA|skip
   rename_i a;obtain⟨l⟩:=a;rcases l with _|⟨a,_|⟨b,_|⟨c,_|⟨d,_|⟨e,t⟩⟩⟩⟩⟩
   . exact xA
   . cases a<;>exact xA
   . cases a<;>cases b<;>exact xA
   . cases a<;>cases b<;>first|exact xA|(cases c<;>exact xA)
   . cases a<;>first|exact xA|skip
     cases b<;>first|exact xA|skip
     cases c<;>first|exact xA|skip
     cases d<;>first|exact xA|skip
     rename_i k1 n1 k2 n2 b k3 n3
     conv=>arg 2;whnf
     split
     . exact rY _
     . exact xA
   . cases a<;>cases b<;>first|exact xA|(cases c<;>first|exact xA|(cases d<;>exact xA))
 . exact xA
theorem zV:∀ v,Ok P (Extern.RuntimeError.described v):=by
 intro v;unfold Extern.RuntimeError.described
 repeat' (first|(with_reducible exact Ok.pure)|(with_reducible exact Ok.halt trivial)|(with_reducible apply sD)|(with_reducible apply tX)|(with_reducible apply eD)|(with_reducible apply xA)|(with_reducible apply Ok.bind)|(with_reducible apply Ok.map)|intro _|split|dsimp only)
theorem pGA:∀ i,Ok P (Extern.RuntimeError.pkgpathOf i):=by
 intro i;unfold Extern.RuntimeError.pkgpathOf
 repeat' (first|(with_reducible exact Ok.pure)|(with_reducible exact Ok.halt trivial)|(with_reducible apply eD)|(with_reducible apply Ok.bind)|(with_reducible apply Ok.map)|intro _|split|dsimp only)
theorem sS:∀ args,Ok P (Extern.RuntimeError.typeAssertionError args):=by
 intro args;unfold Extern.RuntimeError.typeAssertionError
 repeat' (first|(with_reducible exact Ok.pure)|(with_reducible exact Ok.halt trivial)|(with_reducible apply bV)|(with_reducible apply zV)|(with_reducible apply mZ)|(with_reducible apply yP)|(with_reducible apply uB)|(with_reducible apply rY)|(with_reducible apply pGA)|(with_reducible apply gB)|(with_reducible apply Ok.bind)|(with_reducible apply Ok.map)|intro _|split|dsimp only)
theorem sDA:∀ args,Ok P (Extern.RuntimeError.unhashableTypeError args):=by
 intro args;obtain⟨l⟩:=args;rcases l with _|⟨x,_|⟨y,t⟩⟩
 . exact xA
 . cases x<;>first|exact xA|skip
   rename_i a;obtain⟨l⟩:=a;rcases l with _|⟨a,_|⟨b,t⟩⟩
   . exact xA
   . refine Ok.bind (zV a) λt=>?_
     cases t with
     | none=>exact(uB .nilDeref:Ok P (runtimePanic _:Sem Value))
     | some t=>exact rY _
   . exact xA
 . exact xA
theorem wI:∀ args,Ok P (Extern.RuntimeError.nothing args):=by
 intro args;unfold Extern.RuntimeError.nothing
 repeat' (first|(with_reducible exact Ok.pure)|(with_reducible exact Ok.halt trivial)|(with_reducible apply Ok.bind)|(with_reducible apply Ok.map)|intro _|split|dsimp only)
theorem i2A : ∀ args, Ok P ((Extern.RuntimeError.rows.getD 0 ("", Extern.RuntimeError.nothing)).2 args) := by
 intro args;exact Ok.bind (yP _) λ_=>Ok.pure
theorem m0A : ∀ args, Ok P ((Extern.RuntimeError.rows.getD 1 ("", Extern.RuntimeError.nothing)).2 args) := by
 intro args;exact Ok.bind (yP _) λ_=>Ok.pure
theorem e1A : ∀ args, Ok P ((Extern.RuntimeError.rows.getD 2 ("", Extern.RuntimeError.nothing)).2 args) := by
 intro args;exact Ok.bind (kKA _) λ_=>Ok.bind (yP _) λ_=>Ok.pure
theorem aZA : ∀ args, Ok P ((Extern.RuntimeError.rows.getD 6 ("", Extern.RuntimeError.nothing)).2 args) := by
 intro args;exact rY _
theorem k7A {P : Program} (L : List Nat) (hn : P.funcs.all (fun fn => !(fn.name == "runtime.NumGoroutine")) = true) (hx : P.funcs.all (fun fn => fn.body.isSome || (Extern.findNext fn).isNone) = true)
    (hL:(List.range P.funcs.size).filter (λf=>(P.funcs[f]?).any (λfn=>fn.body.isNone))=L)
    (hv:∀ f∈L,∀ fn e,P.funcs[f]? = some fn->Extern.find fn=some e->∀ args,Ok P (e args)):Tame P:=by
  refine⟨λf fn h=>?_,λf fn e h hb he=>?_,λf fn e h hb _ he=>hv f ?_ fn e h he⟩
  . have:=Array.all_eq_true_iff_forall_mem.1 hn fn (Array.mem_of_getElem? h)
    simpa using this
  . have:=Array.all_eq_true_iff_forall_mem.1 hx fn (Array.mem_of_getElem? h);rw[he]at this
    cases hc:fn.body with
    | none=>rw[hc]at this;simp at this
    | some c=>rw[hc]at hb;simp at hb
  . rw[<- hL,List.mem_filter,List.mem_range];exact⟨(Qe.1 h).1,by rw[h];simpa using hb⟩
end Go.Lx
namespace Go.Lx
open Go.RowKit
theorem wY{base:Nat}{e:TypeId}{v:Value}{n g:Nat}(hg:v.ownBlock=some g):∀(vs:List Value) (o:Nat) (w:World) (xs:List Value),w.ownsRow base e 1 v n xs->o+vs.length<=xs.length->(w.setCells g o vs).ownsRow base e 1 v n (xs.take o++vs++xs.drop (o+vs.length))
  | [], o, w, xs, h, _ => by
    rw[List.append_nil,List.length_nil,Nat.add_zero,List.take_append_drop];exact h
  | u :: r, o, w, xs, h, hl => by
    rw[Qk]at hl;have h1:=wY hg r (o+1) _ _ (iTA h hg (j:=o) (by omega) u) (by rw[List.length_set];omega);have e1:(xs.set o u).take (o+1)=xs.take o++[u]:=by
     rw[Qj (by rw[List.length_set];omega),List.getElem_set_self,List.take_set_of_le (Qd _)]
    have e2:(xs.set o u).drop (o+1+r.length)=xs.drop (o+(u::r).length):=by
     rw[List.drop_set_of_lt (by omega),Qk,show o+(r.length+1)=o+1+r.length by omega]
    rw[e1,e2]at h1
    show((w.setCell ⟨g,o,none⟩ u).setCells g (o+1) r).ownsRow base e 1 v n _
    simpa using h1
theorem vT{W:World}{g:Nat}(hg:W.heap.size<=g):∀(vs:List Value) (o:Nat) (w:World),Under W w->Under W (w.setCells g o vs)
  | [],_,_,h=>h
  | u::r,o,w,h=>vT hg r (o+1) _ (nA h hg o u)
theorem yMA(x:ByteArray):∀(zs:List ByteArray) (i:Nat),Lib.idxFromS zs x i=match zs.findIdx? λz=>z.toList==x.toList with|some k=>((i+k:Nat):Int)|none => -1
  | [],_=>rfl
  | z :: zs, i => by
    unfold Lib.idxFromS;by_cases h:z=x
    . have:(z.toList==x.toList)=true:=(Lib.bytes_beq_iff z x).2 h;rw[if_pos h,List.findIdx?_cons,this];rfl
    . have:(z.toList==x.toList)=false:=(Lib.bytes_beq_false_iff z x).2 h;rw[if_neg h,List.findIdx?_cons,this,yMA x zs (i+1)]
      cases zs.findIdx? λz=>z.toList==x.toList with
      | none=>rfl
      | some k=>simp only[Option.map_some];congr 1;omega
theorem dOA(st:List ByteArray)(s:ByteArray):Lib.idxOfS st.reverse s=match zJ st s with|some k=>(k:Int)|none => -1:=by
 unfold Lib.idxOfS zJ;rw[yMA]
 cases st.reverse.findIdx? λz=>z.toList==s.toList with
 | none=>rfl
 | some k=>simp
theorem sCA(zs:List ByteArray)(x:ByteArray):Lib.containsS zs x=jK zs x:=by
 rw[Bool.eq_iff_iff,Lib.containsS_iff];unfold jK;rw[List.any_eq_true];constructor
 . intro h;exact⟨x,h,by simp⟩
 . rintro⟨y,h1,h2⟩;rw[(Lib.bytes_beq_iff y x).1 h2]at h1;exact h1
end Go.Lx
