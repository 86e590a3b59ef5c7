/- Part 10 of what the proof rests on. -/
import Derived.Test.YtggjbblgoddnjaaGreatDoorM09
set_option linter.unusedSimpArgs false
set_option linter.unusedVariables false
namespace Go.Lx
open Go.Conc
open Go.ConcN (sumTo upd sumTo_upd upd_ne upd_same)
variable {X : Shared} {n top : Nat} {cl : Bool} {gs : Array Goroutine} {w w' : World} {t u : Trace} {qs : Nat → Nat} {M S : Nat → Prop} {o0 o1 o0' o1' : Option Nat}
structure Both (X:Shared) (n:Nat) (as:List MAct) (bs:List SAct) (k0 k1:Nat) (gs:Array Goroutine) (w:World) (t:Trace) (qs:Nat→Nat) (M S:Nat→Prop) (o0 o1:Option Nat) (g0 g1:Goroutine):Prop where
 inv:Inv X n n false gs w t qs M S o0 o1
 h0:gs[0]? = some g0
 hn:gs[n]? = some g1
 isM:IsM X as o0 g0 w k0
 isS:IsS X bs o1 g1 w k1
 same:recvs as=sends bs
 alive:0 < k0+k1
theorem Both.at{as:List MAct}{bs:List SAct}{k0 k1:Nat}{g0 g1:Goroutine}(h:Both X n as bs k0 k1 gs w t qs M S o0 o1 g0 g1)(e:Nat):Both X n as bs k0 k1 gs (w.at e) t qs M S o0 o1 g0 g1 :=
 ⟨h.inv.at e,h.h0,h.hn,h.isM.rely (Rely.at w e),h.isS.rely (Rely.at w e),h.same,h.alive⟩
def Done(X:Shared)(n:Nat)(A K L:Nat):Prop :=
 ∀(as:List MAct) (bs:List SAct) (k0 k1:Nat) (gs:Array Goroutine) (w:World) (sl:Option (Nat×Nat)) (t:Trace) (qs:Nat→Nat) (M S:Nat→Prop) (o0 o1:Option Nat) (g0 g1:Goroutine),
  as.length+bs.length=A→k0+k1=K→sumTo gs.size qs=L→Both X n as bs k0 k1 gs w t qs M S o0 o1 g0 g1→Gets X.P X.Fin gs w sl t
section
variable {as : List MAct} {bs : List SAct} {k0 k1 : Nat} {g0 g1 : Goroutine} {A K L : Nat} {sl sl' : Option (Nat × Nat)} {w0 : World}
theorem lH{i:Nat}{y:Goroutine}(hi:i < gs.size):(gs.setIfInBounds i y)[i]? = some y:=Array.getElem?_setIfInBounds_self_of_lt hi
theorem gCA (F : X.Fit) (h : Both X n as bs k0 k1 gs w t qs M S o0 o1 g0 g1) (hlow : ∀ b, b < X.d.B → w'.heap[b]? = w.heap[b]?) (hs : Split X.d X.T0 X.T1 w'.heap (More M w w') S o0' o1)
    (hR:Rely X.d X.T1 o1 w w') {es:Array Event} (hev:∀ e∈es,jU X.d X.T0 o0' w' e) {g':Goroutine} (hst:stepG X.P true g0 w = .go g' w' es)
    (hstep:stepT X.P (crowd gs w0 sl)=runT X.P (crowd gs w sl') 0) {as':List MAct} {m:Nat} (hG:GoM X as' o0' m g' w') (hsame:recvs as'=sends bs)
    (hD:Done X n (as'.length+bs.length) (m+1+k1) (sumTo gs.size qs)):Gets X.P X.Fin gs w0 sl t:=by
  have hq':∃ s r tm,w'.heap[X.q]? = some (.chan 0 #[] false s r tm):=by rw[hlow _ F.qB];exact h.inv.quit
  have hc':∃ s r tm,w'.heap[X.d.c]? = some (.chan 0 #[] false s r tm):=by rw[hlow _ F.cB];exact h.inv.chan
  rw[runT_crowd_go (P:=X.P) (i:=0) h.h0 (show stepG X.P (0==0) _ _=_ from hst),wG (wMA h.inv h.h0 h.hn h.isM h.isS hc' hq' 0)]at hstep;refine Gets.step hstep ?_;have h0l:0 < gs.size:=(Array.getElem?_eq_some_iff.1 h.h0).1;have hp:=h.inv.pos;refine hD as' bs (m+1) k1 _ w' _ _ qs _ S o0' o1 g' g1 rfl rfl (by simp) ⟨h.inv.step0 F hlow hs hev _ _ g',lH h0l,?_,.walks hG,h.isS.rely hR,hsame,by omega⟩;rw[Array.getElem?_setIfInBounds_ne (by omega)];exact h.hn
theorem fBA (F : X.Fit) (h : Both X n as bs k0 k1 gs w t qs M S o0 o1 g0 g1) (hlow : ∀ b, b < X.d.B → w'.heap[b]? = w.heap[b]?) (hs : Split X.d X.T1 X.T0 w'.heap (More S w w') M o1' o0)
    (hR:Rely X.d X.T0 o0 w w') {es:Array Event} (hev:∀ e∈es,jU X.d X.T1 o1' w' e) {g':Goroutine} (hst:stepG X.P false g1 w = .go g' w' es)
    (hstep:stepT X.P (crowd gs w0 sl)=runT X.P (crowd gs w sl') n) {bs':List SAct} {m:Nat} (hG:GoS X bs' o1' m g' w') (hsame:recvs as=sends bs')
    (hD:Done X n (as.length+bs'.length) (k0+(m+1)) (sumTo gs.size qs)):Gets X.P X.Fin gs w0 sl t:=by
  have hq':∃ s r tm,w'.heap[X.q]? = some (.chan 0 #[] false s r tm):=by rw[hlow _ F.qB];exact h.inv.quit
  have hc':∃ s r tm,w'.heap[X.d.c]? = some (.chan 0 #[] false s r tm):=by rw[hlow _ F.cB];exact h.inv.chan
  have hp:=h.inv.pos;have hn0:(n==0)=false:=by simp;omega
  rw[runT_crowd_go (P:=X.P) (i:=n) h.hn (by rw[hn0];exact hst),wG (wMA h.inv h.h0 h.hn h.isM h.isS hc' hq' n)]at hstep;refine Gets.step hstep ?_;have hnl:n < gs.size:=(Array.getElem?_eq_some_iff.1 h.hn).1;refine hD as bs' k0 (m+1) _ w' _ _ qs M _ o0 o1' g0 g' rfl rfl (by simp) ⟨h.inv.stepN F hlow hs hev _ _ g',?_,lH hnl,h.isM.rely hR,.walks hG,hsame,by omega⟩;rw[Array.getElem?_setIfInBounds_ne (by omega)];exact h.h0
theorem oSA (F : X.Fit) (h : Both X n as bs k0 k1 gs w t qs M S o0 o1 g0 g1) {i : Nat} {x : Goroutine} (hi : gs[i]? = some x) (hx : x.status = .running) (hpos : 0 < i) (hin : i ≠ n)
    (hstep:stepT X.P (crowd gs w0 sl)=runT X.P (crowd gs w sl') i) (hD:∀ L',L' < sumTo gs.size qs→Done X n (as.length+bs.length) (k0+k1) L'):Gets X.P X.Fin gs w0 sl t:=by
  have hil:=(Array.getElem?_eq_some_iff.1 hi).1;have hsz:=h.inv.size;have hq:=h.inv.old i x hpos (by omega) hi
  cases hqi:qs i with
  | zero=>rw[hqi]at hq;rw[hq.1]at hx;cases hx
  | succ k =>
    rw[hqi]at hq;rcases hq with⟨hf,_⟩ | ⟨_,g',es,hm,hstp,hq'⟩
    · rw[hf]at hx;cases hx
    have hi0:(i==0)=false:=by simp;omega
    rw[runT_crowd_go (P:=X.P) (i:=i) hi (by rw[hi0];exact hstp w),wG (wMA h.inv h.h0 h.hn h.isM h.isS h.inv.chan h.inv.quit i)]at hstep;refine Gets.step hstep ?_;refine hD (sumTo gs.size (upd qs i k)) (jQ hil hqi) as bs k0 k1 _ w _ _ _ M S o0 o1 g0 g1 rfl rfl (by simp) ⟨h.inv.slip hpos (by omega) hm (fun e=>absurd e hin) hq' _ _,?_,?_,h.isM,h.isS,h.same,h.alive⟩
    · rw[Array.getElem?_setIfInBounds_ne (by omega)];exact h.h0
    · rw[Array.getElem?_setIfInBounds_ne (by omega)];exact h.hn
theorem oL(i:Nat)(fn:FuncId)(pos:String):MemOp.ofEvents i fn pos #[]=#[]:=rfl
theorem hFA(h:Both X n as bs k0 k1 gs w t qs M S o0 o1 g0 g1)(r:Nat)(send:Bool):partners (gs.setIfInBounds 0 ph) r send=(offersAt g1 r send).map fun k=>(n,k):=by
 have hp:=h.inv.pos;have hsz:=h.inv.size;refine partners_one (by rw[Array.getElem?_setIfInBounds_ne (by omega)];exact h.hn) fun j x hjn hj=>?_
 rcases getElem?_stand gs 0 j x hj with⟨_,rfl⟩ | ⟨hj0,hx⟩
 · rfl
 · have hjl:=(Array.getElem?_eq_some_iff.1 hx).1;exact aO (h.inv.old j x (by omega) (by omega) hx)
theorem uS(h:Both X n as bs k0 k1 gs w t qs M S o0 o1 g0 g1)(r:Nat)(send:Bool):partners (gs.setIfInBounds n ph) r send=(offersAt g0 r send).map fun k=>(0,k):=by
 have hp:=h.inv.pos;have hsz:=h.inv.size;refine partners_one (by rw[Array.getElem?_setIfInBounds_ne (by omega)];exact h.h0) fun j x hj0 hj=>?_
 rcases getElem?_stand gs n j x hj with⟨_,rfl⟩ | ⟨hjn,hx⟩
 · rfl
 · have hjl:=(Array.getElem?_eq_some_iff.1 hx).1;exact aO (h.inv.old j x (by omega) (by omega) hx)
theorem dDA (F : X.Fit) (h : Both X n as bs k0 k1 gs w t qs M S o0 o1 g0 g1) (hst : stepG X.P true g0 w = .comm g0 X.rcv true (.recv true) w #[]) (hrun : g1.status = .running) (hk1 : 0 < k1)
    (hstep:stepT X.P (crowd gs w0 sl)=runT X.P (crowd gs w sl') 0) (hstop:∀ w₁,Rely X.d X.T0 o0 w w₁→StopM X as o0 g0 w₁) (hl:∀ l',as≠.box::l')
    (hD:Done X n (as.length+bs.length) (0+k1) (sumTo gs.size qs)):Gets X.P X.Fin gs w0 sl t:=by
  have hp:=h.inv.pos;obtain⟨s,r,tm,hc⟩:=h.inv.chan;have hno:∀ cc∈X.rcv,NoWays w (gs.setIfInBounds 0 ph) cc:=by
   intro cc hcc;simp[Shared.rcv]at hcc;subst hcc;refine ways_recv_none hc ?_;rw[hFA h,offersAt_of_not_blocked (by rw[hrun];simp)];rfl
  rw[crowd_waits (P:=X.P) (i:=0) h.h0 (show stepG X.P (0==0) _ _=_ from hst) hno,oL]at hstep;refine Gets.step hstep ?_;rw[Array.append_empty];have h0l:0 < gs.size:=(Array.getElem?_eq_some_iff.1 h.h0).1;refine hD as bs 0 k1 _ w _ t qs M S o0 o1 _ g1 rfl rfl (by simp) ⟨h.inv.crew (by simpa using h.inv.size) (fun j x hj _ hx=>by rwa [Array.getElem?_setIfInBounds_ne (by omega)]at hx),lH h0l,?_,.waits rfl hstop hl,h.isS,h.same,by omega⟩;rw[Array.getElem?_setIfInBounds_ne (by omega)];exact h.hn
theorem aNA (F : X.Fit) (h : Both X n as bs k0 k1 gs w t qs M S o0 o1 g0 g1) {v : Value} {bs' : List SAct} (hb : bs = .send v :: bs') (hst : stepG X.P false g1 w = .comm g1 (X.sel v) true .select w #[]) (hrun : g0.status = .running) (hk0 : 0 < k0)
    (hstep:stepT X.P (crowd gs w0 sl)=runT X.P (crowd gs w sl') n) (hstop:∀ w₁,Rely X.d X.T1 o1 w w₁→StopS X bs o1 g1 w₁)
    (hD:Done X n (as.length+bs.length) (k0+0) (sumTo gs.size qs)):Gets X.P X.Fin gs w0 sl t:=by
  have hp:=h.inv.pos;have hn0:(n==0)=false:=by simp;omega
  obtain⟨s,r,tm,hc⟩:=h.inv.chan;obtain⟨s',r',tm',hq⟩:=h.inv.quit;have hno:∀ cc∈X.sel v,NoWays w (gs.setIfInBounds n ph) cc:=by
   intro cc hcc;simp[Shared.sel]at hcc;rcases hcc with rfl | rfl
   · refine ways_send_none hc (by simp) ?_;rw[uS h,offersAt_of_not_blocked (by rw[hrun];simp)];rfl
   · refine ways_recv_none hq ?_;rw[uS h,offersAt_of_not_blocked (by rw[hrun];simp)];rfl
  rw[crowd_waits (P:=X.P) (i:=n) h.hn (by rw[hn0];exact hst) hno,oL]at hstep;refine Gets.step hstep ?_;rw[Array.append_empty];have hnl:n < gs.size:=(Array.getElem?_eq_some_iff.1 h.hn).1;refine hD as bs k0 0 _ w _ t qs M S o0 o1 g0 _ rfl rfl (by simp) ⟨h.inv.crew (by simpa using h.inv.size) (fun j x hj hjn hx=>by rwa [Array.getElem?_setIfInBounds_ne (by omega)]at hx),?_,lH hnl,h.isM,.waits hb rfl hstop,h.same,by omega⟩;rw[Array.getElem?_setIfInBounds_ne (by omega)];exact h.h0
end
open Go.ConcN (sumTo upd sumTo_upd upd_ne upd_same)
variable {X : Shared} {n top : Nat} {cl : Bool} {gs : Array Goroutine} {w w' : World} {t u : Trace} {qs : Nat → Nat} {M S : Nat → Prop} {o0 o1 o0' o1' : Option Nat}
variable {as : List MAct} {bs : List SAct} {k0 k1 : Nat} {g0 g1 : Goroutine} {A K L : Nat} {sl sl' : Option (Nat × Nat)} {w0 : World}
theorem hPA(hB:X.d.c < X.d.B)(hM:∀ b,M b→X.d.B≤b)(hb:∀ b,o0=some b→M b):o0≠some X.d.c:=fun e=>by have:=hM _ (hb _ e);omega
theorem tJA (F : X.Fit) (h : Both X n as bs k0 k1 gs w t qs M S o0 o1 g0 g1) {as' : List MAct} {bs' : List SAct} {g0' g1' : Goroutine} {m0 m1 : Nat} (hG : GoM X as' o0 m0 g0' w) (hH : GoS X bs' o1 m1 g1' w) (hsame : recvs as' = sends bs')
    {arr:Array Goroutine} (harr:arr.size=n+1) (ha0:arr[0]? = some g0') (han:arr[n]? = some g1') (haj:∀ j,j≠0→j≠n→arr[j]? = gs[j]?)
    (hn:∀ op∈u,op.act.touch? = none) (hd:∀ op∈u,op.act≠.mark .disable∧op.act≠.mark .enable) {s r:Nat} {tm:Bool}
    (hstep:stepT X.P (crowd gs w0 sl)=(.next (crowd arr (w.setChan X.d.c 0 #[] false s r tm) sl'),u))
    (hD:Done X n (as'.length+bs'.length) (m0+1+(m1+1)) (sumTo gs.size qs)):Gets X.P X.Fin gs w0 sl t:=by
  refine Gets.step hstep ?_;have hp:=h.inv.pos;have r0:Rely X.d X.T0 o0 w (w.setChan X.d.c 0 #[] false s r tm):=Rely.chan w F.cB (hPA F.cB h.inv.pair.highM h.inv.split.box0);have r1:Rely X.d X.T1 o1 w (w.setChan X.d.c 0 #[] false s r tm):=Rely.chan w F.cB (hPA F.cB h.inv.pair.highS h.inv.split.box1);refine hD as' bs' (m0+1) (m1+1) arr _ _ _ qs M S o0 o1 g0' g1' rfl rfl (by rw[harr,h.inv.size]) ⟨(h.inv.dull F hn hd).crew harr (fun j x hj hjn hx=>by rwa [haj j (by omega) (by omega)]at hx),ha0,han,?_,?_,hsame,by omega⟩
  · exact(IsM.walks hG:IsM X as' o0 g0' w (m0+1)).rely r0
  · exact(IsS.walks hH:IsS X bs' o1 g1' w (m1+1)).rely r1
theorem vRA (F : X.Fit) (h : Both X n as bs k0 k1 gs w t qs M S o0 o1 g0 g1) {v : Value} {as' : List MAct} {bs' : List SAct} {gp : Goroutine} (hb : bs = .send v :: bs') (hg1 : g1 = parked gp (X.sel v) .select)
    (hst:stepG X.P true g0 w = .comm g0 X.rcv true (.recv true) w #[]) {m0 m1:Nat} (hG:GoM X as' o0 m0 (g0.finishComm X.P X.rcv (.recv true) 0 v true) w) (hH:GoS X bs' o1 m1 (gp.finishComm X.P (X.sel v) .select 0 undef false) w)
    (hsame:recvs as'=sends bs') (hstep:stepT X.P (crowd gs w0 sl)=runT X.P (crowd gs w sl') 0)
    (hD:Done X n (as'.length+bs'.length) (m0+1+(m1+1)) (sumTo gs.size qs)):Gets X.P X.Fin gs w0 sl t:=by
  obtain⟨s,r,tm,hc⟩:=h.inv.chan;have hp:=h.inv.pos;have hsz:=h.inv.size;have hpar:partners (gs.setIfInBounds 0 ph) X.d.c true=[(n,0)]:=by
   rw[hFA h,hg1,(pOA F).1];rfl
  have hrun:=cCA (P:=X.P) (sl:=sl') (i:=0) (j:=n) (k:=0) (v:=v) (zj:=X.zc) h.h0 (show stepG X.P (0==0) _ _=_ from hst) hc (by omega) (by rw[h.hn,hg1]) (by simp[Shared.sel]) hpar;rw[hrun,oL,Array.empty_append]at hstep;refine tJA F h hG hH hsame (by simp[hsz]) ?_ ?_ (fun j h1 h2=>?_) ?_ ?_ hstep hD
  · exact lH (by simp[hsz])
  · rw[Array.getElem?_setIfInBounds_ne (by omega)];exact lH (by omega)
  · rw[Array.getElem?_setIfInBounds_ne (by omega),Array.getElem?_setIfInBounds_ne (by omega)]
  · simp[MemAct.touch?]
  · simp
theorem yRA (F : X.Fit) (h : Both X n as bs k0 k1 gs w t qs M S o0 o1 g0 g1) {v : Value} {as' : List MAct} {bs' : List SAct} {gp : Goroutine} (hg0 : g0 = parked gp X.rcv (.recv true))
    (hst:stepG X.P false g1 w = .comm g1 (X.sel v) true .select w #[]) {m0 m1:Nat} (hG:GoM X as' o0 m0 (gp.finishComm X.P X.rcv (.recv true) 0 v true) w) (hH:GoS X bs' o1 m1 (g1.finishComm X.P (X.sel v) .select 0 undef false) w)
    (hsame:recvs as'=sends bs') (hstep:stepT X.P (crowd gs w0 sl)=runT X.P (crowd gs w sl') n)
    (hD:Done X n (as'.length+bs'.length) (m0+1+(m1+1)) (sumTo gs.size qs)):Gets X.P X.Fin gs w0 sl t:=by
  obtain⟨s,r,tm,hc⟩:=h.inv.chan;obtain⟨s',r',tm',hq⟩:=h.inv.quit;have hp:=h.inv.pos;have hsz:=h.inv.size;have hn0:(n==0)=false:=by simp;omega
  have hpar:partners (gs.setIfInBounds n ph) X.d.c false=[(0,0)]:=by
   rw[uS h,hg0];simp only[Shared.rcv,offersAt_parked_recv,if_true,List.map_cons,List.map_nil]
  have ho:∀(m:Nat) (c':CommCase),m≠0→(X.sel v)[m]? = some c'→NoWays w (gs.setIfInBounds n ph) c':=by
   intro m c' hm hc';have hm1:m=1:=by
    have:=(Array.getElem?_eq_some_iff.1 hc').1;simp[Shared.sel]at this;omega
   subst hm1;simp[Shared.sel]at hc';subst hc';refine ways_recv_none hq ?_;rw[uS h,hg0];simp only[Shared.rcv,offersAt_parked_recv',List.map_nil]
  have hrun:=rCA (P:=X.P) (sl:=sl') (i:=n) (j:=0) (k:=0) (gj:=gp) (zj:=X.z) (shj:=.recv true) h.hn (by rw[hn0];exact hst) (show(X.sel v)[0]? = some (scase X.d.c v X.zc) by simp[Shared.sel]) ho hc (by omega) (by rw[h.h0,hg0];rfl) hpar;rw[hrun,oL,Array.empty_append]at hstep;refine tJA F h hG hH hsame (by simp[hsz]) ?_ ?_ (fun j h1 h2=>?_) ?_ ?_ hstep hD
  · rw[Array.getElem?_setIfInBounds_ne (by omega)];exact lH (by omega)
  · exact lH (by simp[hsz])
  · rw[Array.getElem?_setIfInBounds_ne (by omega),Array.getElem?_setIfInBounds_ne (by omega)]
  · simp[MemAct.touch?]
  · simp
theorem mRA{l:List MAct}(h:recvs l=[])(hb:∀ l',l≠.box::l'):l=[]:=by
 cases l with
 | nil=>rfl
 | cons a l => cases a with
   | box=>exact absurd rfl (hb l)
   | recv v=>simp[recvs]at h
theorem Both.look(h:Both X n as [] k0 k1 gs w t qs M S o0 o1 g0 g1)(fn:FuncId)(pos:String):Inv X n n false gs w (t++MemOp.ofEvents n fn pos #[⟨.obj X.d.c,false,true⟩]) qs M S o0 o1:=by
 have hu:∀ op∈MemOp.ofEvents n fn pos #[⟨.obj X.d.c,false,true⟩],op={ g:=n,fn,pos,act:=.access ⟨.obj X.d.c,false,true⟩ }:=fun op hop=>by
  rw[ofEvents_eq]at hop;simpa [MemAct.ofEvent] using hop
 have hd:∀ op∈MemOp.ofEvents n fn pos #[⟨.obj X.d.c,false,true⟩],op.act≠.mark .disable∧op.act≠.mark .enable:=fun op hop=>by rw[hu op hop];simp
 have hI:=h.inv;refine⟨hI.pos,hI.size,hI.topl,fun j x hj hjt hx=>?_,fun j hj=>?_,?_,(Deaf_still t 0 _ hd).trans hI.hears0,fun hc=>(Deaf_still t n _ hd).trans (hI.hearsN hc),hI.split,hI.quit,hI.chan⟩
 · rw[Deaf_still t j _ hd];exact hI.old j x hj hjt hx
 · rw[Deaf_still t j _ hd];exact hI.above j hj
 · refine(hI.pair.symm.app (fun op hop=>by rw[hu op hop]) (fun op hop x hx hm=>?_) (fun b hb=>hb) hI.pair.symm.apart hI.pair.symm.highM).symm;rw[hu op hop]at hx;simp only[MemAct.touch?,Option.some.injEq]at hx;subst hx;exact .inr ⟨⟨_,rfl⟩,rfl⟩
theorem rNA(F:X.Fit)(h:Both X n as [] k0 k1 gs w t qs M S o0 o1 g0 g1)(hC:AtClose X g1 w)(hstep:stepT X.P (crowd gs w0 sl)=runT X.P (crowd gs w sl') n):Gets X.P X.Fin gs w0 sl t:=by
 obtain⟨s,r,tm,hc⟩:=h.inv.chan;obtain⟨hrun1,hwake,hcl⟩:=hC;obtain⟨g',k,hst,hq⟩:=hcl s r tm hc;have hp:=h.inv.pos;have hsz:=h.inv.size;have hn0:(n==0)=false:=by simp;omega
 have hgo:=runT_crowd_go (P:=X.P) (sl:=sl') (i:=n) h.hn (by rw[hn0];exact hst);rw[hgo]at hstep;refine Gets.step hstep ?_;have hev:MemOp.ofEvents n g1.frame.fn g1.frame.place #[⟨.obj X.d.c,false,true⟩,⟨.obj X.d.c,true,true⟩]=MemOp.ofEvents n g1.frame.fn g1.frame.place #[⟨.obj X.d.c,false,true⟩]++#[{ g:=n,fn:=g1.frame.fn,pos:=g1.frame.place,act:=.close X.d.c }]:=by
  rw[ofEvents_eq,ofEvents_eq];simp[MemAct.ofEvent]
 rw[hev,← Array.append_assoc];have hgs:g'.status≠.blocked∧g'.status≠.waiting:=by
  rcases hq.status with h | h<;>rw[h]<;>simp
 have hwk:∀ x,woken X.P g1 g' (w.setChan X.d.c 0 #[] true s r tm) x=x.again (w.setChan X.d.c 0 #[] true s r tm):=by
  intro x;unfold woken;rw[if_pos];simp[hwake,hgs]
 have hold:∀ j x,0 < j→j < n→(((gs.map (woken X.P g1 g' (w.setChan X.d.c 0 #[] true s r tm))).setIfInBounds n g')[j]?)=some x→gs[j]? = some x:=by
  intro j x hj hjn hx;rw[Array.getElem?_setIfInBounds_ne (by omega),Array.getElem?_map]at hx;obtain⟨y,hy,rfl⟩:=Option.map_eq_some_iff.1 hx;rw[woken_quitsD (h.inv.old j y hj hjn hy)];exact hy
 obtain⟨hI,hS⟩:=(h.look g1.frame.fn g1.frame.place).shut F (arr:=(gs.map (woken X.P g1 g' (w.setChan X.d.c 0 #[] true s r tm))).setIfInBounds n g') (by simp[hsz]) hold (lH (by simp[hsz])) hq g1.frame.fn g1.frame.place (s:=s) (r:=r) (tm:=tm);have r0:Rely X.d X.T0 o0 w (w.setChan X.d.c 0 #[] true s r tm):=Rely.chan w F.cB (hPA F.cB h.inv.pair.highM h.inv.split.box0);have hlt:X.d.c < w.heap.size:=Nat.lt_of_lt_of_le F.cB h.inv.split.bsize;have hcc:(w.setChan X.d.c 0 #[] true s r tm).heap[X.d.c]? = some (.chan 0 #[] true s r tm):=by simp only[World.setChan];rw[Array.getElem?_setIfInBounds_self_of_lt hlt]
 have hr:recvs as=[]:=h.same;have h0':((gs.map (woken X.P g1 g' (w.setChan X.d.c 0 #[] true s r tm))).setIfInBounds n g')[0]? = some (g0.again (w.setChan X.d.c 0 #[] true s r tm)):=by
  rw[Array.getElem?_setIfInBounds_ne (by omega),Array.getElem?_map,h.h0,Option.map_some,hwk]
 obtain⟨hI0,h00,hn0',hM,hS1,hsame,hal⟩:=h
 cases hM with
 | walks hG =>
   rw[again_running _ (.inl (GoM.running hG))]at h0';exact iWA F _ _ _ as g0 _ _ _ _ _ M S o0 o1 _ rfl hr ((IsB.walks hG:IsB X as o0 g0 w _).rely r0) rfl h0' hI hS
 | waits e hstop hl =>
   obtain rfl:=mRA hr hl;rw[e,Shared.rcv,again_recv_closed hcc]at h0';exact iWA F _ _ _ [] _ _ _ _ _ _ M S o0 o1 _ rfl rfl (IsB.woken rfl rfl fun w₁ h₁=>hstop w₁ (r0.trans h₁)) rfl h0' hI hS
theorem g2A(F:X.Fit):∀ A K L,Done X n A K L:=by
 refine n4A fun A K L ih=>?_
 intro as bs k0 k1 gs w sl t qs M S o0 o1 g0 g1 hA hK hL hB;have hp:=hB.inv.pos;have hsz:=hB.inv.size;have haw:∀ x∈gs,awake x:=by
  intro x hx;obtain⟨j,hj,rfl⟩:=Array.mem_iff_getElem.1 hx;by_cases hj0:j=0
  · subst hj0; have : gs[0] = g0 := by simpa [Array.getElem?_eq_getElem hj] using hB.h0
    rw[this];exact awake_of (hB.isM.status.elim (fun h=>.inl h.1) fun h=>.inr (.inl h.1))
  · by_cases hjn : j = n
    · subst hjn; have : gs[j] = g1 := by simpa [Array.getElem?_eq_getElem hj] using hB.hn
      rw[this];exact awake_of (hB.isS.status.elim (fun h=>.inl h.1) fun h=>.inr (.inl h.1))
    · exact awake_of ((hB.inv.old j _ (by omega) (by omega) (Array.getElem?_eq_getElem hj)).status.elim .inl fun x=>.inr (.inr x))
 have hsome:∃(i:Nat) (g:Goroutine),gs[i]? = some g∧g.status = .running:=by
  rcases hB.isM.status with h | ⟨_,h⟩
  · exact⟨0,g0,hB.h0,h.1⟩
  · rcases hB.isS.status with h' | ⟨_, h'⟩
    · exact⟨n,g1,hB.hn,h'.1⟩
    · have:=hB.alive;omega
 obtain⟨i,x,e,sl',hi,hx,hst⟩:=crowd_pick (P:=X.P) (w:=w) (sl:=sl) haw hsome;have hE:=hB.at e;by_cases hi0:i=0
 · subst hi0; rw [hB.h0] at hi; obtain rfl := Option.some.inj hi; have hM := hE.isM
   cases hM with
   | waits eg _ _=>rw[eg]at hx;cases hx
   | walks hG =>
     rename_i m;rcases gN hG with hstop | ⟨m',rfl,_,hgo⟩
     · have hs := hstop _ (Rely.refl _)
       cases as with
       | nil =>
         have hS:=hE.isS;have hsame:=hE.same
         cases hS with
         | waits hl _ _=>rw[hl]at hsame;simp[recvs,sends]at hsame
         | walks hH=>exact dDA F hE hs.2.1 (GoS.running hH) (by omega) hst hstop (by simp) (ih _ _ _ (.inr ⟨hA,.inl (by omega)⟩))
       | cons a as =>
         cases a with
         | box =>
           obtain⟨_,g',w',es,hstep,hbx,hev,m2,hG2⟩:=hs;exact gCA F hE (fun b hb=>hbx.old (Nat.lt_of_lt_of_le hb hE.inv.split.bsize)) (hE.inv.split.box F.tb0 F.tb1 hbx) (hE.inv.split.feltBox hbx) hev hstep hst hG2 hE.same (ih _ _ _ (.inl (by rw[← hA];simp)))
         | recv v =>
           obtain⟨_,hstep,m2,hG2⟩:=hs;have hS:=hE.isS;have hsame:=hE.same
           cases hS with
           | waits hl eg hstop1 =>
             subst hl;simp[recvs,sends]at hsame;obtain⟨rfl,hsame⟩:=hsame;obtain⟨_,_,m3,hH⟩:=hstop1 _ (Rely.refl _);exact vRA F hE rfl eg hstep hG2 hH hsame hst (ih _ _ _ (.inl (by rw[← hA];simp;omega)))
           | walks hH=>exact dDA F hE hstep (GoS.running hH) (by omega) hst hstop (by simp) (ih _ _ _ (.inr ⟨hA,.inl (by omega)⟩))
     · obtain⟨g',w',es,hstep,⟨hT,hev⟩,hG2⟩:=hgo _ (Rely.refl _);exact gCA F hE (fun b hb=>hE.inv.split.low hE.inv.pair.highM hT hb) (hE.inv.split.turn F.dis hT) (hE.inv.split.felt hE.inv.pair.apart hE.inv.pair.highM hT) hev hstep hst hG2 hE.same (ih _ _ _ (.inr ⟨hA,.inl (by omega)⟩))
 · by_cases hin : i = n
   · subst hin; rw [hB.hn] at hi; obtain rfl := Option.some.inj hi; have hS := hE.isS
     cases hS with
     | waits _ eg _=>rw[eg]at hx;cases hx
     | walks hH =>
       rename_i m;rcases gN hH with hstop | ⟨m',rfl,_,hgo⟩
       · have hs := hstop _ (Rely.refl _)
         cases bs with
         | nil=>exact rNA F hE hs hst
         | cons a bs =>
           cases a with
           | box =>
             obtain⟨_,g',w',es,hstep,hbx,hev,m2,hG2⟩:=hs;exact fBA F hE (fun b hb=>hbx.old (Nat.lt_of_lt_of_le hb hE.inv.split.bsize)) (hE.inv.split.symm.box F.tb1 F.tb0 hbx) (hE.inv.split.symm.feltBox hbx) hev hstep hst hG2 hE.same (ih _ _ _ (.inl (by rw[← hA];simp)))
           | send v =>
             obtain⟨_,hstep,m2,hG2⟩:=hs;have hM:=hE.isM;have hsame:=hE.same
             cases hM with
             | waits eg hstop0 hl =>
               cases as with
               | nil=>simp[recvs,sends]at hsame
               | cons a as =>
                 cases a with
                 | box=>exact absurd rfl (hl as)
                 | recv v' =>
                   simp[recvs,sends]at hsame;obtain⟨rfl,hsame⟩:=hsame;obtain⟨_,_,m3,hG3⟩:=hstop0 _ (Rely.refl _);exact yRA F hE eg hstep hG3 hG2 hsame hst (ih _ _ _ (.inl (by rw[← hA];simp;omega)))
             | walks hG=>exact aNA F hE rfl hstep (GoM.running hG) (by omega) hst hstop (ih _ _ _ (.inr ⟨hA,.inl (by omega)⟩))
       · obtain ⟨g', w', es, hstep, ⟨hT, hev⟩, hG2⟩ := hgo _ (Rely.refl _); have hdis : ∀ ty, X.T1 ty → ¬ X.T0 ty := fun ty h1 h0 => F.dis ty h0 h1
         exact fBA F hE (fun b hb => by
             refine hT.rest b (Nat.lt_of_lt_of_le hb hE.inv.split.bsize) fun ho=>?_
             have:=hE.inv.pair.highS b (hE.inv.split.symm.mine ho);omega) (hE.inv.split.symm.turn hdis hT) (hE.inv.split.symm.felt hE.inv.pair.symm.apart hE.inv.pair.highS hT) hev hstep hst hG2 hE.same (ih _ _ _ (.inr ⟨hA,.inl (by omega)⟩))
   · exact oSA F hE hi hx (by omega) hin hst fun L' hL'=>by rw[hA,hK];exact ih _ _ _ (.inr ⟨rfl,.inr ⟨rfl,by omega⟩⟩)
open Go.ConcN (sumTo upd sumTo_upd upd_ne upd_same)
structure AtGo (X:Shared) (as:List MAct) (bs:List SAct) (g:Goroutine) (w:World):Prop where
 fit:X.Fit
 run:g.status = .running
 size:X.d.B=w.heap.size
 quit:∃ s r tm,w.heap[X.q]? = some (.chan 0 #[] false s r tm)
 chan:∃ s r tm,w.heap[X.d.c]? = some (.chan 0 #[] false s r tm)
 same:recvs as=sends bs
 step:∀ e,∃ g' child,stepG X.P true g (w.at e) = .spawn g' child (w.at e) #[]∧(∃ m,GoM X as none m g' (w.at e))∧(∃ m,GoS X bs none m child (w.at e))
theorem b5A{X:Shared}{as:List MAct}{bs:List SAct}{g:Goroutine}{w:World}(h:AtGo X as bs g w) :
 ∀(L e:Nat) (gs:Array Goroutine) (sl:Option (Nat×Nat)) (t:Trace) (q:Nat→Nat),sumTo gs.size q=L→gs[0]? = some g→Leavers X.P t gs q→Kn t→Gets X.P X.Fin gs (w.at e) sl t:=by
 intro L
 induction L using Nat.strongRecOn with
 | ind L ih =>
 intro e0 gs sl t q hL h0 hl hK;have hlt0:0 < gs.size:=(Array.getElem?_eq_some_iff.1 h0).1;have haw:∀ x∈gs,awake x:=by
  intro x hx;obtain⟨i,hi,rfl⟩:=Array.mem_iff_getElem.1 hx;rcases Nat.eq_zero_or_pos i with rfl | hpos
  · have : gs[0] = g := by simpa [Array.getElem?_eq_getElem hi] using h0
    rw[this];exact awake_of (.inl h.run)
  · exact awake_of ((hl.old i _ hpos (Array.getElem?_eq_getElem hi)).status.elim .inl fun x=>.inr (.inr x))
 obtain⟨i,x,e,sl',hi,hx,hst⟩:=crowd_pick (P:=X.P) (w:=w.at e0) (sl:=sl) haw ⟨0,g,h0,h.run⟩;have hat:(w.at e0).at e=w.at e:=rfl;rw[hat]at hst;rcases Nat.eq_zero_or_pos i with rfl | hpos
 · rw [h0] at hi; obtain rfl := Option.some.inj hi; obtain ⟨g', child, hs, ⟨m0, hG⟩, ⟨m1, hH⟩⟩ := h.step e; rw [runT_crowd_spawn (P := X.P) (i := 0) h0 (show stepG X.P (0 == 0) _ _ = _ from hs)] at hst; refine Gets.step hst ?_; have hops : ((MemOp.ofEvents 0 g.frame.fn g.frame.place #[]).push { g := 0, fn := g.frame.fn, pos := g.frame.place, act := .go gs.size } |>.push { g := gs.size, fn := child.frame.fn, pos := g.frame.place, act := .start })
       = #[{ g:=0,fn:=g.frame.fn,pos:=g.frame.place,act:=.go gs.size },{ g:=gs.size,fn:=child.frame.fn,pos:=g.frame.place,act:=.start }]:=rfl
   rw[hops];have hd:∀ op∈(#[{ g:=0,fn:=g.frame.fn,pos:=g.frame.place,act:=.go gs.size },{ g:=gs.size,fn:=child.frame.fn,pos:=g.frame.place,act:=.start }]:Array MemOp),op.act≠.mark .disable∧op.act≠.mark .enable:=by simp
   have hsz:((gs.setIfInBounds 0 g').push child).size=gs.size+1:=by simp
   refine g2A h.fit (n:=gs.size) _ _ _ as bs (m0+1) (m1+1) _ (w.at e) sl' _ q (fun _=>False) (fun _=>False) none none g' child rfl rfl rfl ⟨⟨hlt0,hsz,Nat.le_succ _,fun j y hj hjn hy=>?_,fun j hj=>?_,iPA hK (by omega) (hl.above _ (Nat.le_refl _)) _ _ _ _,?_,fun _=>?_,?_,h.quit,h.chan⟩,?_,?_,.walks hG,.walks hH,h.same,by omega⟩
   · rw[Array.getElem?_push_lt (by simpa using hjn),← Array.getElem?_eq_getElem,Array.getElem?_setIfInBounds_ne (by omega)]at hy;rw[Deaf_still t j _ hd];exact hl.old j y hj hy
   · rw[Deaf_still t j _ hd];exact hl.above j (by omega)
   · rw[Deaf_still t 0 _ hd];exact hK.hears
   · rw[Deaf_still t _ _ hd];exact hl.above _ (Nat.le_refl _)
   · refine ⟨by rw [h.size]; exact Nat.le_refl _, fun b cs ty fz hb hc _ => ?_, fun b cs ty fz hb hc _ => ?_, by simp, by simp, by simp, by simp⟩
     · have:=(Array.getElem?_eq_some_iff.1 hc).1;have hwe:(w.at e).heap.size=w.heap.size:=rfl;rw[h.size]at hb;omega
     · have:=(Array.getElem?_eq_some_iff.1 hc).1;have hwe:(w.at e).heap.size=w.heap.size:=rfl;rw[h.size]at hb;omega
   · rw[Array.getElem?_push_lt (by simpa using hlt0),← Array.getElem?_eq_getElem];exact lH hlt0
   · have : gs.size = (gs.setIfInBounds 0 g').size := by simp
     rw[this,Array.getElem?_push_size]
 · have hq := hl.old i x hpos hi; have hi0 : (i == 0) = false := by simp; omega
   have hlt:i < gs.size:=(Array.getElem?_eq_some_iff.1 hi).1
   cases hqi:q i with
   | zero=>rw[hqi]at hq;rw[hq.1]at hx;cases hx
   | succ k =>
     rw[hqi]at hq;rcases hq with⟨hf,_⟩ | ⟨_,g',es,hm,hstp,hq'⟩
     · rw[hf]at hx;cases hx
     have hund:(gs.map (woken X.P x g' (w.at e))).setIfInBounds i g'=gs.setIfInBounds i g':=by
      refine wG fun j y _ hy=>?_
      rcases Nat.eq_zero_or_pos j with rfl | hj
      · rw[h0]at hy;obtain rfl:=Option.some.inj hy;exact .inl h.run
      · exact(hl.old j y hj hy).status.imp id .inl
     have hu:∀ op∈MemOp.ofEvents i x.frame.fn x.frame.place es,op.g=i:=fun op hop=>by obtain⟨e,_,rfl⟩:=Conc.mem_ofEvents hop;rfl
     rw [runT_crowd_go (P := X.P) (i := i) hi (by rw [hi0]; exact hstp (w.at e)), hund] at hst; refine Gets.step hst ?_; refine ih (sumTo (gs.setIfInBounds i g').size (upd q i k)) ?_ e _ sl' _ (upd q i k) rfl (by rw [Array.getElem?_setIfInBounds_ne (by omega)]; exact h0) ⟨fun j y hj hy => ?_, fun j hj => ?_⟩
       (hK.appMute (g:=i) (by omega) hu (fun op hop=>by obtain⟨e,he,rfl⟩:=Conc.mem_ofEvents hop;exact touch_mute (hm e he)))
     · rw[← hL,Array.size_setIfInBounds];exact jQ hlt hqi
     · by_cases hji : i = j
       · subst hji;rw[lH hlt]at hy;obtain rfl:=Option.some.inj hy;rw[upd_same,Deaf_own];exact hq'
       · rw[Array.getElem?_setIfInBounds_ne hji]at hy;rw[upd_ne q k (Ne.symm hji),Deaf_other t hji _ hu];exact hl.old j y hj hy
     · have hj' : gs.size ≤ j := by simpa using hj
       rw[Deaf_other t (g':=i) (by omega) _ hu];exact hl.above j hj'
theorem phase{X:Shared}{as:List MAct}{bs:List SAct}{g:Goroutine}{w:World}(h:AtGo X as bs g w){gs:Array Goroutine}{sl:Option (Nat×Nat)}{t:Trace}{q:Nat→Nat}(h0:gs[0]? = some g)(hL:Leavers X.P t gs q)(hK:Kn t) :
 Gets X.P X.Fin gs w sl t:=b5A h _ w.drawn gs sl t q rfl h0 hL hK
end Go.Lx
