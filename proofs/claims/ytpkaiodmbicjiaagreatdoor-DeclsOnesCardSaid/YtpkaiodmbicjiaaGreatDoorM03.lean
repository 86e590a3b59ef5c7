/- Part 3 of what the proof rests on. -/
import Derived.Conc.CrowdComm
import Derived.Conc.Company
import Derived.Conc.CompanyMem
import Derived.Below
import Derived.WalkKit
import Derived.Test.YtpkaiodmbicjiaaGreatDoorM00
import Derived.Test.YtpkaiodmbicjiaaGreatDoorM02
set_option linter.unusedSimpArgs false
set_option linter.unusedVariables false
namespace Go.Lx
open Go.Conc
open Go.ConcN (sumTo upd sumTo_upd upd_ne upd_same)
variable {P : Program}
structure Kn (t:Trace):Prop where
 clean:∀ said,¬ Race said t
 known:∀ i a,touchAt t i=some a->a.loc.isMemory=true->Knows t 0 i
 hears:Deaf t 0=0
theorem Kn.over{t:Trace}(h:Kn t):t.HandedOver:=by
 rintro i g hg hne ⟨x,hx,hm,_⟩;obtain⟨q,z,h1,h2,h3⟩:=h.known i x hx hm;refine⟨q,by simp[Trace.g?,h1,h2],?_⟩;rcases h3 with rfl|h3
 . simp[Trace.g?,h1,h2]at hg;exact absurd hg.symm hne
 . exact h3
theorem Kn.app0{t u:Trace}(h:Kn t)(hu:∀ op∈u,op.g=0)(hd:Deaf (t++u) 0=Deaf t 0):Kn (t++u):=by
 refine⟨λsaid=>noRace_append (h.clean said) hu λi a ha op _ b _ hc=>h.known i a ha hc.2.1,λi a ha hm=>?_,hd.trans h.hears⟩;obtain⟨x,hx,hxa⟩:=touch_of ha;rcases getElem?_append_cases hx with⟨_,hx'⟩|⟨_,hxu⟩
 . exact(h.known i a (by rw[touchAt_of hx'];exact hxa) hm).app u
 . have:=knows_own hx
   rwa [hu x hxu]at this
theorem Kn.appMute{t u:Trace}{g:Nat}(h:Kn t)(hg:g≠0)(hu:∀ op∈u,op.g=g)(hn:∀ op∈u,op.act.touch? = none):Kn (t++u):=by
 refine⟨λsaid=>noRace_append (h.clean said) hu λi a _ op hop b hb _=>(by rw[hn op hop]at hb;cases hb),λi a ha hm=>?_,(Deaf_other t hg u hu).trans h.hears⟩;obtain⟨x,hx,hxa⟩:=touch_of ha;rcases getElem?_append_cases hx with⟨_,hx'⟩|⟨_,hxu⟩
 . exact(h.known i a (by rw[touchAt_of hx'];exact hxa) hm).app u
 . rw[hn x hxu]at hxa;cases hxa
theorem r9A:Kn #[]:=by
 refine⟨λsaid h=>?_,λi a ha=>?_,rfl⟩
 . obtain⟨i,j,_,⟨a,b,ha,_⟩,_⟩:=h;simp[Trace.act?]at ha
 . simp[touchAt,Trace.act?]at ha
theorem nGA{t:Trace}{gs:Array Goroutine}{q:Nat->Nat}(hL:Leavers P t gs q):kLA gs:=λj x hj hx=>(hL.old j x hj hx).status
theorem oNA{t u:Trace}{gs:Array Goroutine}{q:Nat->Nat}{g g':Goroutine}(h0:gs[0]? = some g)(hL:Leavers P t gs q)(hu:∀ op∈u,op.g=0):Leavers P (t++u) (gs.setIfInBounds 0 g') q:=by
 have hlt:0 < gs.size:=(Qe.1 h0).1;refine⟨λj x hj hx=>?_,λj hj=>?_⟩
 . rw[Qg (by omega)]at hx;rw[Deaf_other t (by omega) u hu];exact hL.old j x hj hx
 . have hj:gs.size<=j:=by simpa using hj
   rw[Deaf_other t (g:=j) (g':=0) (by omega) u hu];exact hL.above j hj
def RunsTo(P:Program)(Stop:Goroutine->World->Prop)(gs:Array Goroutine)(w:World)(sl:Option (Nat×Nat))(t:Trace):Prop :=
 ∃(N:Nat) (gs':Array Goroutine) (g':Goroutine) (w':World) (sl':Option (Nat×Nat)) (t':Trace) (q':Nat->Nat),
  runNT P N (crowd gs w sl) t=(.next (crowd gs' w' sl'),t')/\gs'.size=gs.size/\gs'[0]? = some g'/\Stop g' w'/\Leavers P t' gs' q'/\Kn t'
theorem beside_step{Stop:Goroutine->World->Prop}{g:Goroutine}{w:World}(hrun:g.status = .running)
    (hstep:∀ d,∃ g' w',OwnStep P g (w.at d) g' w'/\∀ gs sl t q,gs[0]? = some g'->Leavers P t gs q->Kn t->RunsTo P Stop gs w' sl t) :
    ∀(M e:Nat) (gs:Array Goroutine) (sl:Option (Nat×Nat)) (t:Trace) (q:Nat->Nat),sumTo gs.size q<=M->gs[0]? = some g->Leavers P t gs q->Kn t->RunsTo P Stop gs (w.at e) sl t:=by
  intro M
  induction M using Nat.strongRecOn with
  | ind M ih =>
  intro e gs sl t q hM h0 hL hK;have hlt0:0 < gs.size:=(Qe.1 h0).1;have haw:∀ x∈gs,awake x:=by
   intro x hx;obtain⟨i,hi,rfl⟩:=Array.mem_iff_getElem.1 hx;rcases Nat.eq_zero_or_pos i with rfl|hpos
   . have:gs[0]=g:=by simpa [Array.getElem?_eq_getElem hi] using h0
     rw[this];exact awake_of (.inl hrun)
   . exact awake_of ((hL.old i _ hpos (Array.getElem?_eq_getElem hi)).status.elim .inl λx=>.inr (.inr x))
  obtain⟨i,x,d,sl',hi,hx,hst⟩:=crowd_pick (P:=P) (w:=w.at e) (sl:=sl) haw ⟨0,g,h0,hrun⟩;have hat:(w.at e).at d=w.at d:=rfl;rw[hat]at hst;rcases Nat.eq_zero_or_pos i with rfl|hpos
  . -- goroutine 0 takes a step
    obtain⟨g',w',hown,hX⟩:=hstep d;obtain⟨ops,hrT,hops,hdeaf⟩:=hown.beside gs sl' h0 (nGA hL);obtain⟨N,gs',a',w2,sl2,t',q',hr,hs',h0',hS,hL',hK'⟩:=hX (gs.setIfInBounds 0 g') sl' (t++ops) q (by simp[hlt0]) (oNA h0 hL hops) (hK.app0 hops (hdeaf t));exact⟨N+1,gs',a',w2,sl2,t',q',by simp only[runNT,hst,hrT];exact hr,hs'.trans (by simp),h0',hS,hL',hK'⟩
  . -- a leaver slips
    have hq:=hL.old i x hpos hi;have hi0:(i==0)=false:=by simp;omega
    have hlt:i < gs.size:=(Qe.1 hi).1
    cases hqi:q i with
    | zero=>rw[hqi]at hq;rw[hq.1]at hx;cases hx
    | succ k =>
      rw[hqi]at hq;rcases hq with⟨hf,_⟩|⟨_,g',es,hm,hstp,hq'⟩
      . rw[hf]at hx;cases hx
      have hrunT:=runT_crowd_go (P:=P) (sl:=sl') (i:=i) hi (by rw[hi0];exact hstp (w.at d));have hsz:((gs.map (woken P x g' (w.at d))).setIfInBounds i g').size=gs.size:=by simp
      have hsum:sumTo gs.size (upd q i k)+(k+1)=sumTo gs.size q+k:=by
       have:=sumTo_upd q k id hlt
       simpa [hqi] using this
      obtain⟨N,gs',a'',w'',sl'',t',q',hr,hs',h0',hS,hL',hK'⟩:=ih (sumTo gs.size (upd q i k)) (by omega) d ((gs.map (woken P x g' (w.at d))).setIfInBounds i g') sl' (t++MemOp.ofEvents i x.frame.fn x.frame.place es) (upd q i k) (by rw[hsz];exact Qd _)
        (by
          have hne:i≠0:=by omega
          rw[Qg hne,Array.getElem?_map,h0];simp[woken_run hrun])
        ⟨λj y hj hy=>by
          by_cases hji:i=j
          . subst hji;rw[Array.getElem?_setIfInBounds_self_of_lt (by simpa using hlt)]at hy;obtain rfl:=Qt hy;rw[upd_same,Deaf_own];exact hq'
          . rw[Qg hji,Array.getElem?_map]at hy;obtain⟨z,hz,rfl⟩:=Option.map_eq_some_iff.1 hy;have hqj:=hL.old j z hj hz;rw[woken_quitsD hqj,upd_ne q k (Ne.symm hji),Deaf_other t hji _ (λop hop=>by obtain⟨e,_,rfl⟩:=Conc.mem_ofEvents hop;rfl)];exact hqj,λj hj=>by
          rw[Deaf_other t (g':=i) (by simp at hj;omega) _ (λop hop=>by obtain⟨e,_,rfl⟩:=Conc.mem_ofEvents hop;rfl)];exact hL.above j (by simpa using hj)⟩
        (hK.appMute (g:=i) (by omega) (λop hop=>by obtain⟨e,_,rfl⟩:=Conc.mem_ofEvents hop;rfl) (λop hop=>by obtain⟨e,he,rfl⟩:=Conc.mem_ofEvents hop;exact touch_mute (hm e he)))
      exact⟨N+1,gs',a'',w'',sl'',t',q',by simp only[runNT,hst,hrunT];exact hr,hs'.trans hsz,h0',hS,hL',hK'⟩
theorem beside{Stop:Goroutine->World->Prop}{g:Goroutine}{w:World}(h:Ends P Stop g w){gs:Array Goroutine}{sl:Option (Nat×Nat)}{t:Trace}{q:Nat->Nat}
    (h0:gs[0]? = some g) (hL:Leavers P t gs q) (hK:Kn t):RunsTo P Stop gs w sl t:=by
  refine h (λg w=>∀ gs sl t q,gs[0]? = some g->Leavers P t gs q->Kn t->RunsTo P Stop gs w sl t) ?_ ?_ gs sl t q h0 hL hK
  . intro g w hs gs sl t q h0 hL hK;exact⟨0,gs,g,w,sl,t,q,rfl,rfl,h0,hs,hL,hK⟩
  . intro g w hr hst gs sl t q h0 hL hK;have:=beside_step hr hst (sumTo gs.size q) w.drawn gs sl t q (Qd _) h0 hL hK;exact this
variable {P : Program} {gs : Array Goroutine} {w w₁ : World} {sl : Option (Nat × Nat)} {i j k : Nat} {g g₂ gj : Goroutine} {es : Array Event} {cases : Array CommCase} {shape shj : CommShape} {blocking : Bool}
  {c cap s r:Nat} {buf:Array Value} {closed tm:Bool} {v z zj:Value}
theorem vDA(hi:gs[i]? = some g)(h:stepG P (i==0) g w = .comm g₂ cases blocking shape w₁ es)(hk:cases[k]? = some (scase c v z))
    (ho:∀(m:Nat) (c':CommCase),m≠k->cases[m]? = some c'->NoWays w₁ (gs.setIfInBounds i ph) c')
    (hc:w₁.heap[c]? = some (.chan cap buf false s r tm))
    (hij:j≠i) (hj:gs[j]? = some (parked gj #[rcase c zj] shj)) (hp:partners (gs.setIfInBounds i ph) c false=[(j,0)]) :
    runT P (crowd gs w sl) i=(.next (crowd ((gs.setIfInBounds j (gj.finishComm P #[rcase c zj] shj 0 v true)).setIfInBounds i (g₂.finishComm P cases shape k undef false)) (w₁.setChan c cap buf false (s+1) (r+1) tm) sl),
      MemOp.ofEvents i g.frame.fn g.frame.place es++#[{ g:=i,fn:=g₂.frame.fn,pos:=g₂.frame.place,act:=.send c s },{ g:=j,fn:=gj.frame.fn,pos:=gj.frame.place,act:=.recv c r cap },
        { g:=i,fn:=g₂.frame.fn,pos:=g₂.frame.place,act:=.sendDone c s },{ g:=j,fn:=gj.frame.fn,pos:=gj.frame.place,act:=.recvDone c r }]):=by
  have hw:ways w₁ (gs.setIfInBounds i ph) (scase c v z)=[.partner j 0]:=by simp[ways,scase,hc,hp]
  have hj':=stand_get (i:=i) hij hj;have hfp:=finishPartner_at P (gs.setIfInBounds i ph) hj' (cs:=#[rcase c zj]) (sh:=shj) rfl 0 v;have hgd:(gs.setIfInBounds i ph).getD j default=parked gj #[rcase c zj] shj:=by rw[Array.getD_eq_getD_getElem?,hj'];rfl
  rw[runT_crowd_comm hi h];unfold communicate;simp only[ready_one hk (by rw[hw];simp) ho,hw];rw[if_neg]
  . simp[choose,Sem.run,Question.forced,bind,Sem.bind,pure,scase,hc,World.setChan,crowd,hfp,hgd,set_stand2,finishComm_parked,rcase,parked];rfl
  . rw[Bool.not_eq_true];exact any_ill (made_of_one hk (made_send v z hc) ho)
theorem zFA(hi:gs[i]? = some g)(h:stepG P (i==0) g w = .comm g₂ #[rcase c z] blocking shape w₁ es)(hc:w₁.heap[c]? = some (.chan cap #[] closed s r tm))
    (hij:j≠i) (hj:gs[j]? = some (parked gj cases shj)) (hk:cases[k]? = some (scase c v zj)) (hp:partners (gs.setIfInBounds i ph) c true=[(j,k)]) :
    runT P (crowd gs w sl) i=(.next (crowd ((gs.setIfInBounds j (gj.finishComm P cases shj k undef false)).setIfInBounds i (g₂.finishComm P #[rcase c z] shape 0 v true)) (w₁.setChan c cap #[] closed (s+1) (r+1) tm) sl),
      MemOp.ofEvents i g.frame.fn g.frame.place es++#[{ g:=j,fn:=gj.frame.fn,pos:=gj.frame.place,act:=.send c s },{ g:=i,fn:=g₂.frame.fn,pos:=g₂.frame.place,act:=.recv c r cap },
        { g:=j,fn:=gj.frame.fn,pos:=gj.frame.place,act:=.sendDone c s },{ g:=i,fn:=g₂.frame.fn,pos:=g₂.frame.place,act:=.recvDone c r }]):=by
  have hj':=stand_get (i:=i) hij hj;have hfp:=finishPartner_at P (gs.setIfInBounds i ph) hj' (cs:=cases) (sh:=shj) rfl k undef;have hgd:(gs.setIfInBounds i ph).getD j default=parked gj cases shj:=by rw[Array.getD_eq_getD_getElem?,hj'];rfl
  have hov:offeredValue (gs.setIfInBounds i ph) j k=v:=by simp[offeredValue,hj',parked,hk,scase]
  rw[runT_crowd_comm hi h];simp[communicate,ways,rcase,hc,hp,choose,Sem.run,Question.forced,bind,Sem.bind,pure,World.setChan,crowd,hfp,hgd,hov,set_stand2,finishComm_parked,hk,scase];rfl
structure Deal where
 B:Nat
 c:Nat
def Own(d:Deal)(T:TypeId->Prop)(o:Option Nat)(w:World)(b:Nat):Prop :=
 (d.B<=b/\∃ cs ty fz,w.heap[b]? = some (.cells cs ty fz)/\T ty)∨o=some b
structure Rely (d:Deal) (T:TypeId->Prop) (o:Option Nat) (w w₁:World):Prop where
 tape:w₁.tape=w.tape
 os:w₁.os=w.os
 output:w₁.output=w.output
 size:w.heap.size<=w₁.heap.size
 low:∀ b,b < d.B->b≠d.c->w₁.heap[b]? = w.heap[b]?
 own:∀ b,Own d T o w b->w₁.heap[b]? = w.heap[b]?
def iX(d:Deal)(T:TypeId->Prop)(o:Option Nat)(w':World)(e:Event):Prop :=
 (∀ x,(MemAct.ofEvent e).touch? = some x->x.loc.isMemory=true->∃ a,x.loc = .cell a/\(Own d T o w' a.block∨(a.block < d.B/\x.write=false)))/\e.loc≠.mark .disable/\e.loc≠.mark .enable
structure Turn (d:Deal) (T:TypeId->Prop) (o:Option Nat) (w w':World):Prop where
 tape:w'.tape=w.tape
 os:w'.os=w.os
 output:w'.output=w.output
 size:w.heap.size<=w'.heap.size
 rest:∀ b,b < w.heap.size->¬ Own d T o w b->w'.heap[b]? = w.heap[b]?
 typ:∀ b,b < w.heap.size->Own d T o w b->∀ cs ty fz,w.heap[b]? = some (.cells cs ty fz)->∃ cs' fz',w'.heap[b]? = some (.cells cs' ty fz')
 boxed:∀ b,o=some b->(∀ cs ty fz,w.heap[b]?≠some (.cells cs ty fz))->∀ cs ty fz,w'.heap[b]?≠some (.cells cs ty fz)
 new:∀ b,w.heap.size<=b->b < w'.heap.size->∃ cs ty fz,w'.heap[b]? = some (.cells cs ty fz)/\T ty
def Does(d:Deal)(T:TypeId->Prop)(o:Option Nat)(w w':World)(es:Array Event):Prop:=Turn d T o w w'/\∀ e∈es,iX d T o w' e
variable {d : Deal} {T : TypeId -> Prop} {o : Option Nat}
theorem Own.rely{w w₁:World}{b:Nat}(h:Own d T o w b)(hr:Rely d T o w w₁):Own d T o w₁ b:=by
 rcases h with h|h
 . obtain⟨hb,cs,ty,fz,hc,ht⟩:=h;exact .inl ⟨hb,cs,ty,fz,by rw[hr.own b (.inl ⟨hb,cs,ty,fz,hc,ht⟩)];exact hc,ht⟩
 . exact .inr h
theorem Rely.refl(w:World):Rely d T o w w:=⟨rfl,rfl,rfl,Qd _,λ_ _ _=>rfl,λ_ _=>rfl⟩
theorem Rely.at(w:World)(n:Nat):Rely d T o w (w.at n):=⟨rfl,rfl,rfl,Qd _,λ_ _ _=>rfl,λ_ _=>rfl⟩
theorem Rely.trans{a b c:World}(h:Rely d T o a b)(h':Rely d T o b c):Rely d T o a c :=
 ⟨h'.tape.trans h.tape,h'.os.trans h.os,h'.output.trans h.output,Ql h.size h'.size,λx hx hc=>(h'.low x hx hc).trans (h.low x hx hc),λx hx=>(h'.own x (hx.rely h)).trans (h.own x hx)⟩
theorem Turn.refl(w:World):Turn d T o w w:=⟨rfl,rfl,rfl,Qd _,λ_ _ _=>rfl,λ_ _ _ cs _ fz h=>⟨cs,fz,h⟩,λ_ _ h=>h,λb h1 h2=>absurd h2 (by omega)⟩
theorem Does.idle(w:World):Does d T o w w #[]:=⟨Turn.refl w,by simp⟩
theorem terms:Terms (Rely d T o) (Does d T o):=⟨λ_ _ _=>Rely.trans,Does.idle⟩
theorem Rely.chan(w:World){cap s r:Nat}{buf:Array Value}{cl tm:Bool}(hB:d.c < d.B)(ho:o≠some d.c):Rely d T o w (w.setChan d.c cap buf cl s r tm):=by
 refine⟨rfl,rfl,rfl,by simp[World.setChan],λb hb hc=>?_,λb hb=>?_⟩
 . simp only[World.setChan];rw[Qg (Ne.symm hc)]
 . have hne:d.c≠b:=by
     rintro rfl;rcases hb with⟨hb,_⟩|hb
     . omega
     . exact ho hb
   simp only[World.setChan];rw[Qg hne]
structure Boxes (tb:TypeId) (w w':World):Prop where
 tape:w'.tape=w.tape
 os:w'.os=w.os
 output:w'.output=w.output
 heap:∃ cs fz,w'.heap=w.heap.push (.cells cs tb fz)
section
variable {P : Program} {main : Bool} {R : World -> World -> Prop} {D : World -> World -> Array Event -> Prop}
theorem CallsC.rely(T:Terms R D){f:FuncId}{args:Array Value}{n:Nat}{w w₁:World}{Post:Value->World->Prop}(h:CallsC P main R D f args n w Post)(r:R w w₁):CallsC P main R D f args n w₁ Post:=by
 obtain⟨fn,c,hf,hn,hb,hw⟩:=h;exact⟨fn,c,hf,hn,hb,wpC_rely T hw r⟩
theorem CallsC.more{f:FuncId}{args:Array Value}{n n':Nat}{w:World}{Post:Value->World->Prop}(h:CallsC P main R D f args n w Post)(hn:n<=n'):CallsC P main R D f args n' w Post:=by
 obtain⟨fn,c,hf,hn',hb,hw⟩:=h;exact⟨fn,c,hf,hn',hb,wpC_more hw hn⟩
theorem kSA(T:Terms R D){b:Frame}{a:Act}{k:List Item}{cs:List Frame}{w:World}{ops:Array Oper}{i:Nat}{rest:List Nat}{o:Oper}{f:FuncId}{vs:Array Value}
    {nf m:Nat} {Post:Value->World->Prop} {Stop:Goroutine->World->Prop}
    (ho:ops[i]? = some o) (hw:Region.wanted o (yielded ops a.tmps)=true) (hk:b.kind≠.early)
    (hrun:∀ w₁,R w w₁->(execOp a.eval o).run P w₁ = .ok (.enter f vs) w₁) (hl:∀ w₁,R w w₁->D w₁ w₁ (listed P b.fn a o w₁))
    (hcall:CallsC P main R D f vs nf w Post)
    (hnext:∀ v w',Post v w'->Goes P main R D Stop m (G (b.at (a.put o.dst v) (.inRegion ops rest::k)) cs) w') :
    Goes P main R D Stop (m+nf+3) (G (b.at a (.inRegion ops (i::rest)::k)) cs) w:=by
  obtain⟨fn,c,hf,hname,hbody,hwp⟩:=hcall;have hfin:∀ v,(b.at a (.inRegion ops (i::rest)::k)).finish v=b.at (a.put o.dst v) (.inRegion ops rest::k):=λv=>by rw[Frame.finish_at,ho];rfl
  have hleave:∀(a':Act) (w':World) (todo:List Item),(a'.defers=[]/\∃ v,ResultsC P fn a'.tmps v/\Post v w') ->
   Goes P main R D Stop (m+1) (G { (base f).at a' todo with mode:=.returning } (b.at a (.inRegion ops (i::rest)::k)::cs)) w':=by
   rintro a' w' todo ⟨hd,v,hr,hp⟩;refine Goes.step rfl λw₁ h₁=>?_
   rw[stepG_leave (b:=base f) rfl hd hf (hr w₁).1 (hr w₁).2,hfin];exact⟨T.idle _,(hnext v w' hp).rely T.trans h₁⟩
  have hbodyG:Goes P main R D Stop (m+2+nf) (G ((base f).at { tmps:=vs++Array.replicate (fn.ntmps - vs.size) undef,defers:=[] } [.code c]) (b.at a (.inRegion ops (i::rest)::k)::cs)) w:=by
   refine hwp (base f) [] _ Stop (m+2) rfl (by simp[base]) λe a' w' q=>?_
   cases e with
   | normal=>exact Goes.step rfl λw₁ h₁=>by rw[stepG_end];exact⟨T.idle _,(hleave a' w' [] q).rely T.trans h₁⟩
   | ret=>exact λtodo=>(hleave a' w' todo q).more
   | exit id=>exact q.elim
   | goto l=>exact q.elim
   | panic ch=>exact q.elim
   | outgrown=>exact q.elim
  have e:m+nf+3=(m+2+nf)+1:=by omega
  rw[e];refine Goes.step rfl λw₁ h₁=>?_
  rw[stepG_enter ho hw hk (hrun w₁ h₁),enter_at _ hf hbody];exact⟨hl w₁ h₁,hbodyG.rely T.trans h₁⟩
variable {fn : FuncId} {ops : Array Oper} {Q : Exit -> Act -> World -> Prop} {md : Region.Mode} {S : World -> Prop}
theorem sQA(T:Terms R D){a:Act}{w:World}{i:Nat}{rest:List Nat}{o:Oper}{f:FuncId}{vs:Array Value}{nf n:Nat}{Post:Value->World->Prop}
    (ho:ops[i]? = some o) (hw:Region.wanted o (yielded ops a.tmps)=true)
    (hrun:∀ w₁,R w w₁->(execOp a.eval o).run P w₁ = .ok (.enter f vs) w₁) (hl:∀ w₁,R w w₁->D w₁ w₁ (listed P fn a o w₁))
    (hcall:CallsC P main R D f vs nf w Post) (hnext:∀ v w',Post v w'->OpsC P main R D fn ops rest n Q (a.put o.dst v) w'):OpsC P main R D fn ops (i::rest) (n+nf+3) Q a w:=by
  intro b k cs Stop m hb hk hc;have:=kSA (Stop:=Stop) (m:=m+n) (b:=b) (k:=k) (cs:=cs) T ho hw hk hrun (λw₁ h₁=>hb▸hl w₁ h₁) hcall λv w' hp=>hnext v w' hp b k cs Stop m hb hk hc
  exact this.mono (by omega)
theorem gH(T:Terms R D){a:Act}{w:World}{i:Nat}{rest:List Nat}{o:Oper}{f:FuncId}{args:Array Operand}{ats:Array TypeId}{vs:Array Value}{nf n:Nat}{Post:Value->World->Prop}
    (ho:ops[i]? = some o) (hw:Region.wanted o (yielded ops a.tmps)=true) (hop:o.op = .call { callee:=.value (.func f),args,argTypes:=ats })
    (hcall:CallsC P main R D f vs nf w Post) (hargs:args.map a.eval=vs) (hnext:∀ v w',Post v w'->OpsC P main R D fn ops rest n Q (a.put o.dst v) w'):OpsC P main R D fn ops (i::rest) (n+nf+3) Q a w :=
  opsC_call T ho hw hop (by rw[hargs];exact hcall) hnext
def OpX(P:Program)(main:Bool)(R:World->World->Prop)(D:World->World->Array Event->Prop)(fn:FuncId)(ops:Array Oper)(c:Nat)(i:Nat)(K:Act->World->Prop)(a:Act)(w:World):Prop :=
 match ops[i]? with
 | none=>False
 | some o=>if Region.wanted o (yielded ops a.tmps) then
     (∀ w₁,R w w₁->uponK o a (λa' w'=>D w₁ w' (listed P fn a o w₁)/\K a' w') ((execOp a.eval o).run P w₁)) ∨
     (∃ f vs nf Post,nf+3<=c/\(∀ w₁,R w w₁->(execOp a.eval o).run P w₁ = .ok (.enter f vs) w₁)/\(∀ w₁,R w w₁->D w₁ w₁ (listed P fn a o w₁))/\CallsC P main R D f vs nf w Post/\∀ v w',Post v w'->K (a.put o.dst v) w')
   else K (a.put o.dst undef) w
theorem lNA{c i:Nat}{a:Act}{w:World}{K K':Act->World->Prop}(h:∀ a w,K a w->K' a w)(hh:OpX P main R D fn ops c i K a w):OpX P main R D fn ops c i K' a w:=by
 unfold OpX at *
 split
 . simp_all
 . rename_i o ho;simp only[ho]at hh
   split
   . rename_i hw;simp only[hw,if_true]at hh;rcases hh with hh|⟨f,vs,nf,Post,h1,h2,h2',h3,h4⟩
     . exact .inl λw₁ h₁=>uponK_mono (λa' w' x=>⟨x.1,h _ _ x.2⟩) (hh w₁ h₁)
     . exact .inr ⟨f,vs,nf,Post,h1,h2,h2',h3,λv w' p=>h _ _ (h4 v w' p)⟩
   . rename_i hw;simp only[hw]at hh;exact h _ _ hh
theorem hOA(T:Terms R D){c i:Nat}{rest:List Nat}{n:Nat}{a:Act}{w:World}(hc:1<=c)(h:OpX P main R D fn ops c i (λa' w'=>OpsC P main R D fn ops rest n Q a' w') a w):OpsC P main R D fn ops (i::rest) (n+c) Q a w:=by
 unfold OpX at h
 split at h
 . exact h.elim
 . rename_i o ho
   split at h
   . rename_i hw;rcases h with h|⟨f,vs,nf,Post,h1,h2,h2',h3,h4⟩
     . exact opsC_more (opsC_cons ho hw h) (by omega)
     . exact opsC_more (sQA T ho hw h2 h2' h3 h4) (by omega)
   . rename_i hw;exact opsC_more (opsC_unwanted T ho (by simpa using hw) h) (by omega)
def AnyX(P:Program)(main:Bool)(R:World->World->Prop)(D:World->World->Array Event->Prop)(fn:FuncId)(md:Region.Mode)(ops:Array Oper)(c:Nat)(Q:Exit->Act->World->Prop)(S:World->Prop):Nat->Array Bool->Act->World->Prop
  | 0,listed,a,w=>Region.ready md ops listed=[]/\Q .normal a w
  | fuel + 1, listed, a, w =>
    (Region.ready md ops listed=[]->Q .normal a w) /\
    ∀ i∈Region.ready md ops listed,OpX P main R D fn ops c i (λa' w'=>S w'/\AnyX P main R D fn md ops c Q S fuel (listed.setIfInBounds i true) a' w') a w
theorem AnyX.rely(T:Terms R D){c:Nat}(hSR:∀ x y,S x->R x y->S y)(hQR:∀ a x y,Q .normal a x->R x y->Q .normal a y) :
 ∀(fuel:Nat) (listed:Array Bool) (a:Act) (w w₁:World),AnyX P main R D fn md ops c Q S fuel listed a w->R w w₁->AnyX P main R D fn md ops c Q S fuel listed a w₁
 | 0,_,_,_,_,h,r=>⟨h.1,hQR _ _ _ h.2 r⟩
 | fuel+1,listed,a,w,w₁,h,r=>⟨λe=>hQR _ _ _ (h.1 e) r,λi hi=>by
     have:=h.2 i hi;unfold OpX at *
     split
     . simp_all
     . rename_i o ho;simp only[ho]at this
       split
       . rename_i hw;simp only[hw,if_true]at this;rcases this with this|⟨f,vs,nf,Post,h1,h2,h2',h3,h4⟩
         . exact .inl λw₂ h₂=>this w₂ (T.trans _ _ _ r h₂)
         . exact .inr ⟨f,vs,nf,Post,h1,λw₂ h₂=>h2 w₂ (T.trans _ _ _ r h₂),λw₂ h₂=>h2' w₂ (T.trans _ _ _ r h₂),CallsC.rely T h3 r,h4⟩
       . rename_i hw;simp only[hw]at this;exact⟨hSR _ _ this.1 r,AnyX.rely T hSR hQR fuel _ _ _ _ this.2 r⟩⟩
theorem hPA(T:Terms R D){c:Nat}(hc:1<=c):∀(fuel t:Nat) (listed:Array Bool) (a:Act) (w:World),AnyX P main R D fn md ops c Q S fuel listed a w ->
 OpsC P main R D fn ops (Region.linearise.go md ops fuel t listed []) (fuel * c+1) Q a w:=by
 intro fuel
 induction fuel with
 | zero=>intro t listed a w h;simpa [Region.linearise.go] using opsC_nil T h.2
 | succ fuel ih =>
   intro t listed a w h;obtain⟨h₀,h₁⟩:=h;simp only[Region.linearise.go]
   change OpsC P main R D fn ops (match (Region.ready md ops listed)[t % (Region.ready md ops listed).length]? with
     | some i=>Region.linearise.go md ops fuel (t / (Region.ready md ops listed).length) (listed.setIfInBounds i true) [i]
     | none=>[].reverse) ((fuel+1) * c+1) Q a w
   have hm:(fuel+1) * c+1=(fuel * c+1)+c:=by rw[Nat.succ_mul];omega
   rw[hm]
   cases hi:(Region.ready md ops listed)[t % (Region.ready md ops listed).length]? with
   | none =>
     have hnil:Region.ready md ops listed=[]:=by
      cases hr:Region.ready md ops listed with
      | nil=>rfl
      | cons x xs =>
        rw[hr]at hi;have hlt:t % (x::xs).length < (x::xs).length:=Nat.mod_lt _ (by simp);simp at hi;simp at hlt;omega
     exact opsC_more (by simpa using opsC_nil T (h₀ hnil)) (by omega)
   | some i =>
     simp only[];rw[linearise_go_acc,List.reverse_singleton,List.singleton_append];exact hOA T hc (lNA (λa' w' x=>ih _ _ a' w' x.2) (h₁ i (List.mem_of_getElem? hi)))
theorem aGA{c:Nat}(hSR:∀ x y,S x->R x y->S y){i:Nat}{o:Oper}{v:Value}{a:Act}(hi:ops[i]? = some o)(hy:YieldsIfC P D fn ops S o v a)
    {K:Act->World->Prop} (hK:∀ a x y,K a x->R x y->K a y) {w:World} (hS:S w) (h:K (a.put o.dst v) w):OpX P main R D fn ops c i K a w:=by
  unfold OpX;simp only[hi];rcases hy with⟨hw,hv⟩|⟨hw,rfl⟩
  . simp only[hw,if_true];refine .inl λw₁ h₁=>?_
    rw[(hv w₁ (hSR _ _ hS h₁)).1];exact⟨(hv w₁ (hSR _ _ hS h₁)).2,hK _ _ _ h h₁⟩
  . simp only[hw,Qs,if_false];exact h
theorem hVA{c j:Nat}{oi oj:Oper}{v:Value}(hj:ops[j]? = some oj)(hap:oi.apart ops oj=true)
    (hsi:∀ cs b,oi.op≠.select cs b) (hsj:∀ cs b,oj.op≠.select cs b) {K:Act->World->Prop} {a:Act} {w:World}
    (hy:YieldsIfC P D fn ops S oi v a) (h:OpX P main R D fn ops c j K (a.put oi.dst v) w) :
    OpX P main R D fn ops c j (λa' w'=>YieldsIfC P D fn ops S oi v a'/\K (a'.put oi.dst v) w') a w:=by
  obtain⟨h1,h2,h3⟩:=Oper.apart_spec hap;have keep:∀(a:Act),YieldsIfC P D fn ops S oi v a->∀ u,YieldsIfC P D fn ops S oi v (a.put oj.dst u):=λa hy u =>
   hy.of_same (execOp_put oi hsi a oj.dst u h3) (wanted_put oi a oj.dst u h3)
  unfold OpX at *;simp only[hj]at *;rw[wanted_put oj a oi.dst v h1]at h
  split
  . rename_i hw;simp only[hw,if_true]at h;unfold listed at *;rw[execOp_put oj hsj a oi.dst v h1]at h;rcases h with h|⟨f,vs,nf,Post,g1,g2,g2',g3,g4⟩
    . refine .inl λw₁ h₁=>?_
      have h:=h w₁ h₁;generalize (execOp a.eval oj).run P w₁=r at *
      cases r with
      | ok n w' =>
        cases n<;>simp only[uponK]at h ⊢
        case value u=>exact⟨h.1,keep a hy u,by rw[<- Act.put_comm a v u h2];exact h.2⟩
        case skip=>exact⟨h.1,keep a hy _,by rw[<- Act.put_comm a v undef h2];exact h.2⟩
      | halt x w'=>simp only[uponK]at h
    . exact .inr ⟨f,vs,nf,Post,g1,g2,g2',g3,λu w' p=>⟨keep a hy u,by rw[<- Act.put_comm a v u h2];exact g4 u w' p⟩⟩
  . rename_i hw;simp only[hw]at h;exact⟨keep a hy _,by rw[<- Act.put_comm a v undef h2];exact h⟩
theorem uSA(T:Terms R D){c:Nat}(hSR:∀ x y,S x->R x y->S y)(hQR:∀ a x y,Q .normal a x->R x y->Q .normal a y){i:Nat}{oi:Oper}{v:Value}(hi:ops[i]? = some oi)
    (hsel:∀(j:Nat) (o:Oper) cs b,ops[j]? = some o->o.op≠.select cs b) :
    ∀(fuel:Nat) (listed:Array Bool) (a:Act) (w:World),
     (∀ j oj,ops[j]? = some oj->j≠i->listed.getD j true=false->(∀ e∈oj.after,Region.binds md e=true->e.on≠i)->oi.apart ops oj=true) ->
     i∈Region.ready md ops listed->YieldsIfC P D fn ops S oi v a->S w ->
     AnyX P main R D fn md ops c Q S fuel (listed.setIfInBounds i true) (a.put oi.dst v) w->AnyX P main R D fn md ops c Q S (fuel+1) listed a w:=by
  have hK:∀ fuel listed,∀ a x y,(S x/\AnyX P main R D fn md ops c Q S fuel listed a x)->R x y->(S y/\AnyX P main R D fn md ops c Q S fuel listed a y) :=
   λfuel listed a x y h r=>⟨hSR _ _ h.1 r,AnyX.rely T hSR hQR fuel listed a x y h.2 r⟩
  intro fuel
  induction fuel with
  | zero =>
    intro listed a w _ hr hy hS H;refine⟨λh=>(by rw[h]at hr;cases hr),λj hj=>?_⟩;by_cases hji:j=i
    . subst hji;exact aGA hSR hi hy (hK _ _) hS ⟨hS,H⟩
    . have:=ready_mono hj hji;rw[H.1]at this
      cases this
  | succ fuel ih =>
    intro listed a w hfree hr hy hS H;refine⟨λh=>(by rw[h]at hr;cases hr),λj hj=>?_⟩;by_cases hji:j=i
    . subst hji;exact aGA hSR hi hy (hK _ _) hS ⟨hS,H⟩
    . have h1:=H.2 j (ready_mono hj hji);obtain⟨hjun,oj,hoj,hall⟩:=mem_ready.1 hj;have hnot:∀ e∈oj.after,Region.binds md e=true->e.on≠i:=λe he hb heq=>by
       have h1:=hall e he hb;have h0:=(mem_ready.1 hr).1;rw[heq]at h1;rcases Nat.lt_or_ge i listed.size with h'|h'
       . simp[h']at h0 h1;rw[h0]at h1;cases h1
       . simp[Array.getElem?_eq_none h']at h1
      have h2:=hVA hoj (hfree j oj hoj hji hjun hnot) (λcs b=>hsel i oi cs b hi) (λcs b=>hsel j oj cs b hoj) hy h1;have hfree':∀ k ok,ops[k]? = some ok->k≠i->(listed.setIfInBounds j true).getD k true=false ->
       (∀ e∈ok.after,Region.binds md e=true->e.on≠i)->oi.apart ops ok=true:=λk ok hk hki hun hno=>by
       refine hfree k ok hk hki ?_ hno;by_cases hjk:j=k
       . subst hjk;exact hjun
       . rw[getD_set_ne true hjk]at hun;exact hun
      refine lNA (λa' w' h3=>⟨h3.2.1,ih (listed.setIfInBounds j true) a' w' hfree' (ready_mono hr (Ne.symm hji)) h3.1 h3.2.1 ?_⟩) h2;rw[Array.setIfInBounds_comm _ _ hji];exact h3.2.2
theorem qHA(T:Terms R D){c:Nat}(hSR:∀ x y,S x->R x y->S y)(hQR:∀ a x y,Q .normal a x->R x y->Q .normal a y){i:Nat}{oi:Oper}{v:Value}{fuel:Nat}{listed:Array Bool}{a:Act}{w:World}(hi:ops[i]? = some oi)
    (hs:Region.noSelect ops=true) (hf:Region.free md ops listed i=true) (hr:(Region.ready md ops listed).contains i=true)
    (hy:YieldsIfC P D fn ops S oi v a) (hS:S w) (h:AnyX P main R D fn md ops c Q S fuel (listed.setIfInBounds i true) (a.put oi.dst v) w):AnyX P main R D fn md ops c Q S (fuel+1) listed a w :=
  uSA T hSR hQR hi (Region.noSelect_spec hs) fuel listed a w (Region.free_spec hi hf) (by simpa using hr) hy hS h
theorem yQA{c i:Nat}{fuel:Nat}{listed':Array Bool}{a:Act}{w:World}{o:Oper}{f:FuncId}{vs:Array Value}{nf:Nat}{Post:Value->World->Prop}(hr:Region.ready md ops listed'=[i])
    (ho:ops[i]? = some o) (hw:Region.wanted o (yielded ops a.tmps)=true)
    (hrun:∀ w₁,R w w₁->(execOp a.eval o).run P w₁ = .ok (.enter f vs) w₁) (hl:∀ w₁,R w w₁->D w₁ w₁ (listed P fn a o w₁)) (hcall:CallsC P main R D f vs nf w Post) (hc:nf+3<=c)
    (h:∀ v w',Post v w'->S w'/\AnyX P main R D fn md ops c Q S fuel (listed'.setIfInBounds i true) (a.put o.dst v) w'):AnyX P main R D fn md ops c Q S (fuel+1) listed' a w:=by
  refine⟨λh0=>(by rw[hr]at h0;cases h0),λj hj=>?_⟩;rw[hr,List.mem_singleton]at hj;subst hj;unfold OpX;simp only[ho,hw,if_true];exact .inr ⟨f,vs,nf,Post,hc,hrun,hl,hcall,h⟩
theorem t0A{c i:Nat}{fuel:Nat}{listed':Array Bool}{a:Act}{w:World}{o:Oper}(hr:Region.ready md ops listed'=[i])
    (ho:ops[i]? = some o) (hw:Region.wanted o (yielded ops a.tmps)=true)
    (h:∀ w₁,R w w₁->uponK o a (λa' w'=>D w₁ w' (listed P fn a o w₁)/\S w'/\AnyX P main R D fn md ops c Q S fuel (listed'.setIfInBounds i true) a' w') ((execOp a.eval o).run P w₁)):AnyX P main R D fn md ops c Q S (fuel+1) listed' a w:=by
  refine⟨λh0=>(by rw[hr]at h0;cases h0),λj hj=>?_⟩;rw[hr,List.mem_singleton]at hj;subst hj;unfold OpX;simp only[ho,hw,if_true];exact .inl h
theorem wL{c:Nat}{listed:Array Bool}{a:Act}{w:World}(hr:Region.ready md ops listed=[])(h:Q .normal a w):∀ fuel,AnyX P main R D fn md ops c Q S fuel listed a w
  | 0=>⟨hr,h⟩
  | _+1=>⟨λ_=>h,λi hi=>by rw[hr]at hi;cases hi⟩
theorem vH(T:Terms R D)(hd:LetsDraw D){id:Nat}{a:Act}{w:World}(c:Nat)(hc:1<=c)(hm:P.follows .mixedOrders=true)
    (h:∀ w₁,R w w₁->AnyX P main R D fn .any ops c Q S ops.size (Array.replicate ops.size false) a { w₁ with drawn:=w₁.drawn+1 }):(Code.region id ops true).wpC P main R D fn (ops.size * c+1+1) Q a w :=
  wpC_region_draw hd λw₁ h₁ t=>by
   simp only[Region.schedule,hm,Bool.true_or,if_true];exact hPA T hc ops.size t _ a _ (h w₁ h₁)
theorem gFA{a:Act}{w:World}{o:Oper}{f:FuncId}{fn:Func}{x:Operand}{args:Array Operand}{ats:Array TypeId}{caps:Array Value}(hop:o.op = .call { callee:=.value x,args,argTypes:=ats })
    (hx : a.eval x = .func (.func f) #[] caps) (hf : P.funcs[f]? = some fn) (hname : (fn.name == "runtime.NumGoroutine") = false) (hb : fn.body.isNone = false) : (execOp a.eval o).run P w = .ok (.enter f (args.map a.eval ++ caps)) w := by
  have h1 : ¬ fn.name = "runtime.NumGoroutine" := by simpa using hname
  have h2:¬ fn.body=none:=by cases hx:fn.body<;>simp_all
  unfold execOp;simp[hop,resolve,Deferred.ofValue,invoke,callFunc,hf,h1,h2,hx]
theorem bZ{a:Act}{w:World}{o:Oper}{f:FuncId}{fn:Func}{x:Operand}{args:Array Operand}{ats:Array TypeId}{caps:Array Value}(hop:o.op = .call { callee:=.value x,args,argTypes:=ats })
    (hx : a.eval x = .func (.func f) #[] caps) (hf : P.funcs[f]? = some fn) (hname : (fn.name == "runtime.NumGoroutine") = false) (hb : fn.body.isNone = false) (es : Array Event) : (execOp a.eval o).events P w es = es := by
  have h1 : ¬ fn.name = "runtime.NumGoroutine" := by simpa using hname
  have h2:¬ fn.body=none:=by cases hx:fn.body<;>simp_all
  unfold execOp;simp[hop,resolve,Deferred.ofValue,invoke,callFunc,hf,h1,h2,hx]
theorem qO(T:Terms R D){c i:Nat}{fuel:Nat}{listed':Array Bool}{a:Act}{w:World}{o:Oper}{f:FuncId}{x:Operand}{args:Array Operand}{ats:Array TypeId}{caps vs:Array Value}{nf:Nat}{Post:Value->World->Prop}
    (hr:Region.ready md ops listed'=[i]) (ho:ops[i]? = some o) (hw:Region.wanted o (yielded ops a.tmps)=true) (hop:o.op = .call { callee:=.value x,args,argTypes:=ats }) (hx:a.eval x = .func (.func f) #[] caps)
    (hcall:CallsC P main R D f vs nf w Post) (hc:nf+3<=c) (hargs:args.map a.eval++caps=vs)
    (h:∀ v w',Post v w'->S w'/\AnyX P main R D fn md ops c Q S fuel (listed'.setIfInBounds i true) (a.put o.dst v) w'):AnyX P main R D fn md ops c Q S (fuel+1) listed' a w:=by
  have h':=hcall;obtain⟨fn',c',hf,hname,hb,_⟩:=h';have hb':fn'.body.isNone=false:=by rw[hb];rfl
  refine yQA hr ho hw (λw₁ _=>by rw[gFA hop hx hf hname hb',hargs]) (λw₁ _=>?_) hcall hc h;have:listed P fn a o w₁=#[]:=by unfold listed;rw[bZ hop hx hf hname hb'];exact seen_none P _
  rw[this];exact T.idle _
theorem eOA{b:Frame}{a:Act}{k:List Item}{cs:List Frame}{w:World}{c:Code}:stepG P main (G (b.at a (.code (.scope c)::k)) cs) w = .go (G (b.at a (.code c :: .inScope c::k)) cs) w:=by simp[G,stepG,stepG.exec,Frame.at]
theorem wGA{b:Frame}{a:Act}{k:List Item}{cs:List Frame}{w:World}{c:Code}:stepG P main (G (b.at a (.inScope c::k)) cs) w = .go (G (b.at a k) cs) w:=by simp[G,stepG,stepG.exec,Frame.at]
end
variable {d : Deal} {T : TypeId -> Prop} {o : Option Nat}
def xPA(d:Deal)(T:TypeId->Prop)(o:Option Nat)(b:Nat)(x:Obj):Prop :=
 (b < d.B/\b≠d.c)∨(d.B<=b/\∃ cs ty fz,x = .cells cs ty fz/\T ty)∨o=some b
structure Holds (d:Deal) (T:TypeId->Prop) (o:Option Nat) (L:List (Nat×Obj)) (w:World):Prop where
 has:∀ p∈L,w.heap[p.1]? = some p.2
 safe:∀ p∈L,xPA d T o p.1 p.2
 big:d.B<=w.heap.size
 box:∀ b,o=some b->b < w.heap.size
variable {L L' : List (Nat × Obj)} {w w' w₁ : World}
theorem Holds.rely(h:Holds d T o L w)(r:Rely d T o w w₁):Holds d T o L w₁:=by
 refine⟨λp hp=>?_,h.safe,Ql h.big r.size,λb hb=>Qb (h.box b hb) r.size⟩;have e:=h.has p hp;rcases h.safe p hp with⟨hl,hc⟩|⟨hb,cs,ty,fz,hx,ht⟩|hb
 . rw[r.low _ hl hc];exact e
 . rw[r.own _ (.inl ⟨hb,cs,ty,fz,by rw[e,hx],ht⟩)];exact e
 . rw[r.own _ (.inr hb)];exact e
theorem Holds.lt(h:Holds d T o L w){b:Nat}{x:Obj}(hp:(b,x)∈L):b < w.heap.size:=(Qe.1 (h.has _ hp)).1
theorem Holds.cell(h:Holds d T o L w){b:Nat}{cs:Array Value}{ty:TypeId}{fz:Nat×Nat}(hp:(b,Obj.cells cs ty fz)∈L)(i:Nat):w.cell? ⟨b,i,none⟩=cs[i]? := by
 have e:=h.has _ hp;simp only at e;simp[World.cell?,e]
theorem Holds.frozen(h:Holds d T o L w){b:Nat}{cs:Array Value}{ty:TypeId}(hp:(b,Obj.cells cs ty (0,0))∈L)(i:Nat):w.frozen? ⟨b,i,none⟩=false:=by
 have e:=h.has _ hp;simp only at e;simp[World.frozen?,e]
theorem Holds.own(h:Holds d T o L w){b:Nat}{x:Obj}(hp:(b,x)∈L):Own d T o w b∨b < d.B:=by
 have e:=h.has _ hp;rcases h.safe _ hp with⟨hl,_⟩|⟨hb,cs,ty,fz,hx,ht⟩|hb
 . exact .inr hl
 . simp only at hx e hb;exact .inl (.inl ⟨hb,cs,ty,fz,by rw[e,hx],ht⟩)
 . exact .inl (.inr hb)
theorem Holds.read(h:Holds d T o L w){b:Nat}{x:Obj}(hp:(b,x)∈L)(i:Nat)(s:Bool):iX d T o w ⟨.cell ⟨b,i,none⟩,false,s⟩:=by
 refine⟨λy hy _=>?_,by simp,by simp⟩;simp[MemAct.ofEvent,MemAct.touch?]at hy;subst hy;refine⟨⟨b,i,none⟩,rfl,?_⟩;rcases h.own hp with ho|hl
 . exact .inl ho
 . exact .inr ⟨hl,rfl⟩
theorem bR{b:Nat}(ho:Own d T o w b)(i:Nat)(wr s:Bool):iX d T o w ⟨.cell ⟨b,i,none⟩,wr,s⟩:=by
 refine⟨λy hy _=>?_,by simp,by simp⟩;simp[MemAct.ofEvent,MemAct.touch?]at hy;subst hy;exact⟨⟨b,i,none⟩,rfl,.inl ho⟩
theorem rMA(f:FuncId)(wr s:Bool):iX d T o w ⟨.mark (.extern f),wr,s⟩ :=
 ⟨λy hy _=>by simp[MemAct.ofEvent,MemAct.touch?]at hy,by simp,by simp⟩
theorem Does.reads{es:Array Event}(h:∀ e∈es,iX d T o w e):Does d T o w w es:=⟨Turn.refl w,h⟩
theorem Turn.set{b i:Nat}(ho:Own d T o w b)(v:Value):Turn d T o w (w.setCell ⟨b,i,none⟩ v):=by
 have hsz:(w.setCell ⟨b,i,none⟩ v).heap.size=w.heap.size:=by simp[World.setCell]
 refine⟨rfl,rfl,rfl,by rw[hsz];exact Qd _,λx hx hno=>?_,λx hx _ cs ty fz hc=>?_,λx hxo hn cs ty fz=>?_,λx h1 h2=>absurd h2 (by rw[hsz];omega)⟩
 . exact heap_set w _ v x λe=>hno (by rw[show x=b from e];exact ho)
 . by_cases hxb:x=b
   . subst hxb;exact⟨_,_,kM w hc v⟩
   . exact⟨cs,fz,by rw[heap_set w _ v x hxb];exact hc⟩
 . by_cases hxb : x = b
   . subst hxb;simp only[World.setCell];rw[Array.getElem?_modify];simp only[if_true]
     cases hc:w.heap[x]? with
     | none=>simp
     | some ob =>
       cases ob with
       | cells c t f=>exact absurd hc (hn _ _ _)
       | _=>simp
   . rw[heap_set w _ v x hxb];exact hn cs ty fz
theorem Turn.alloc{cs:Array Value}{ty:TypeId}{fz:Nat×Nat}(ht:T ty)(hbox:∀ b,o=some b->b < w.heap.size):Turn d T o w (w.alloc (.cells cs ty fz)):=by
 have hsz:(w.alloc (.cells cs ty fz)).heap.size=w.heap.size+1:=by simp[World.alloc,-World.alloc_eq]
 have hold:∀ x,x < w.heap.size->(w.alloc (.cells cs ty fz)).heap[x]? = w.heap[x]? := λx hx=>by
  simp only[World.alloc];rw[Array.getElem?_push_lt hx,Array.getElem?_eq_getElem hx]
 refine⟨rfl,rfl,rfl,by rw[hsz];omega,λx hx _=>hold x hx,λx hx _ c t f hc=>⟨c,f,by rw[hold x hx];exact hc⟩,λx hxo hn c t f=>?_,λx h1 h2=>?_⟩
 . rw[hold x (hbox x hxo)];exact hn c t f
 . obtain rfl:x=w.heap.size:=by rw[hsz]at h2;omega
   exact⟨cs,ty,fz,by simp[World.alloc,-World.alloc_eq],ht⟩
theorem Holds.set(h:Holds d T o L w){b i:Nat}{cs:Array Value}{ty:TypeId}{fz:Nat×Nat}(hp:(b,Obj.cells cs ty fz)∈L)(v:Value)
    (hL:∀ p∈L',p=(b,Obj.cells (cs.setIfInBounds i v) ty fz)∨(p∈L/\p.1≠b)):Holds d T o L' (w.setCell ⟨b,i,none⟩ v):=by
  have hsz:(w.setCell ⟨b,i,none⟩ v).heap.size=w.heap.size:=by simp[World.setCell]
  refine⟨λp hp'=>?_,λp hp'=>?_,by rw[hsz];exact h.big,λx hx=>by rw[hsz];exact h.box x hx⟩
  . rcases hL p hp' with rfl|⟨hpL,hne⟩
    . exact kM w (h.has _ hp) v
    . rw[heap_set w _ v _ hne];exact h.has p hpL
  . rcases hL p hp' with rfl|⟨hpL,_⟩
    . rcases h.safe _ hp with hs|⟨hb,cs',ty',fz',hx,ht⟩|hs
      . exact .inl hs
      . simp only[Obj.cells.injEq]at hx;obtain⟨rfl,rfl,rfl⟩:=hx;exact .inr (.inl ⟨hb,_,_,_,rfl,ht⟩)
      . exact .inr (.inr hs)
    . exact h.safe p hpL
theorem Holds.alloc(h:Holds d T o L w){cs:Array Value}{ty:TypeId}{fz:Nat×Nat}(ht:T ty)
    (hL:∀ p∈L',p=(w.heap.size,Obj.cells cs ty fz)∨p∈L):Holds d T o L' (w.alloc (.cells cs ty fz)):=by
  have hsz:(w.alloc (.cells cs ty fz)).heap.size=w.heap.size+1:=by simp[World.alloc,-World.alloc_eq]
  refine⟨λp hp'=>?_,λp hp'=>?_,by rw[hsz];have:=h.big;omega,λx hx=>by rw[hsz];have:=h.box x hx;omega⟩
  . rcases hL p hp' with rfl|hpL
    . simp[World.alloc,-World.alloc_eq]
    . have:=h.lt hpL;simp only[World.alloc];rw[Array.getElem?_push_lt this,<- Array.getElem?_eq_getElem];exact h.has p hpL
  . rcases hL p hp' with rfl|hpL
    . exact .inr (.inl ⟨h.big,_,_,_,rfl,ht⟩)
    . exact h.safe p hpL
theorem Holds.cons(h:Holds d T o L w)(cs:Array Value){ty:TypeId}(ht:T ty):Holds d T o ((w.heap.size,Obj.cells cs ty (0,0))::L) (w.alloc (.cells cs ty)) :=
 h.alloc ht λp hp=>by
  rcases List.mem_cons.1 hp with rfl|hp
  . exact .inl rfl
  . exact .inr hp
theorem Holds.set1{b i:Nat}{cs:Array Value}{ty:TypeId}{fz:Nat×Nat}(h:Holds d T o ((b,Obj.cells cs ty fz)::L) w)(hn:∀ p∈L,p.1≠b)(v:Value):Holds d T o ((b,Obj.cells (cs.setIfInBounds i v) ty fz)::L) (w.setCell ⟨b,i,none⟩ v) :=
 h.set Qn v λp hp=>by
  rcases List.mem_cons.1 hp with rfl|hp
  . exact .inl rfl
  . exact .inr ⟨Qh _ hp,hn p hp⟩
theorem Holds.set3{b:Nat}{x0 x1 x2:Value}{ty:TypeId}{fz:Nat×Nat}(h:Holds d T o ((b,Obj.cells #[x0,x1,x2] ty fz)::L) w)(hn:∀ p∈L,p.1≠b)(v0 v1 v2:Value) :
 Holds d T o ((b,Obj.cells #[v0,v1,v2] ty fz)::L) (((w.setCell ⟨b,0,none⟩ v0).setCell ⟨b,1,none⟩ v1).setCell ⟨b,2,none⟩ v2) :=
 ((h.set1 (i:=0) hn v0).set1 (i:=1) hn v1).set1 (i:=2) hn v2
theorem Holds.set4{b:Nat}{x0 x1 x2 x3:Value}{ty:TypeId}{fz:Nat×Nat}(h:Holds d T o ((b,Obj.cells #[x0,x1,x2,x3] ty fz)::L) w)(hn:∀ p∈L,p.1≠b)(v0 v1 v2 v3:Value) :
 Holds d T o ((b,Obj.cells #[v0,v1,v2,v3] ty fz)::L) ((((w.setCell ⟨b,0,none⟩ v0).setCell ⟨b,1,none⟩ v1).setCell ⟨b,2,none⟩ v2).setCell ⟨b,3,none⟩ v3) :=
 (((h.set1 (i:=0) hn v0).set1 (i:=1) hn v1).set1 (i:=2) hn v2).set1 (i:=3) hn v3
theorem Holds.weak(h:Holds d T o L w)(hL:∀ p∈L',p∈L):Holds d T o L' w:=⟨λp hp=>h.has p (hL p hp),λp hp=>h.safe p (hL p hp),h.big,h.box⟩
theorem Holds.boxed{tb:TypeId}(h:Holds d T o L w){cs:Array Value}{fz:Nat×Nat}
    (hL:∀ p∈L',p=(w.heap.size,Obj.cells cs tb fz)∨(p∈L/\xPA d T none p.1 p.2)):Holds d T (some w.heap.size) L' (w.alloc (.cells cs tb fz)):=by
  have hsz:(w.alloc (.cells cs tb fz)).heap.size=w.heap.size+1:=by simp[World.alloc,-World.alloc_eq]
  refine⟨λp hp'=>?_,λp hp'=>?_,by rw[hsz];have:=h.big;omega,λx hx=>by rw[hsz];cases hx;omega⟩
  . rcases hL p hp' with rfl|⟨hpL,_⟩
    . simp[World.alloc,-World.alloc_eq]
    . have:=h.lt hpL;simp only[World.alloc];rw[Array.getElem?_push_lt this,<- Array.getElem?_eq_getElem];exact h.has p hpL
  . rcases hL p hp' with rfl|⟨_,hs⟩
    . exact .inr (.inr rfl)
    . rcases hs with hs|hs|hs
      . exact .inl hs
      . exact .inr (.inl hs)
      . cases hs
theorem Turn.own_back(h:Turn d T o w w'){b:Nat}(hb:b < w.heap.size)(ho:Own d T o w' b):Own d T o w b:=by
 by_cases hno:Own d T o w b
 . exact hno
 . rcases ho with⟨hB,cs,ty,fz,hc,ht⟩|ho
   . rw[h.rest b hb hno]at hc;exact .inl ⟨hB,cs,ty,fz,hc,ht⟩
   . exact .inr ho
theorem Turn.own_fwd(h:Turn d T o w w'){b:Nat}(hb:b < w.heap.size)(ho:Own d T o w b):Own d T o w' b:=by
 rcases id ho with⟨hB,cs,ty,fz,hc,ht⟩|hx
 . obtain⟨cs',fz',hc'⟩:=h.typ b hb ho cs ty fz hc;exact .inl ⟨hB,cs',ty,fz',hc',ht⟩
 . exact .inr hx
theorem Turn.trans{w2:World}(h:Turn d T o w w')(h2:Turn d T o w' w2)(hB:d.B<=w.heap.size):Turn d T o w w2:=by
 refine⟨h2.tape.trans h.tape,h2.os.trans h.os,h2.output.trans h.output,Ql h.size h2.size,λb hb hno=>?_,λb hb ho cs ty fz hc=>?_,λb hb hn=>h2.boxed b hb (h.boxed b hb hn),λb hb hb2=>?_⟩
 . rw[h2.rest b (Qb hb h.size) λho=>hno (h.own_back hb ho),h.rest b hb hno]
 . obtain⟨cs',fz',hc'⟩:=h.typ b hb ho cs ty fz hc;exact h2.typ b (Qb hb h.size) (h.own_fwd hb ho) cs' ty fz' hc'
 . rcases Nat.lt_or_ge b w'.heap.size with hlt|hge
   . obtain⟨cs,ty,fz,hc,ht⟩:=h.new b hb hlt;obtain⟨cs',fz',hc'⟩:=h2.typ b hlt (.inl ⟨Ql hB hb,cs,ty,fz,hc,ht⟩) cs ty fz hc;exact⟨cs',ty,fz',hc',ht⟩
   . exact h2.new b hge hb2
theorem Turn.set3{b:Nat}(ho:Own d T o w b)(hb:b < w.heap.size)(hB:d.B<=w.heap.size)(v0 v1 v2:Value) :
 Turn d T o w (((w.setCell ⟨b,0,none⟩ v0).setCell ⟨b,1,none⟩ v1).setCell ⟨b,2,none⟩ v2):=by
 have t0:=Turn.set (i:=0) ho v0;have o0:=t0.own_fwd hb ho;have t1:=t0.trans (Turn.set (i:=1) o0 v1) hB;exact t1.trans (Turn.set (i:=2) (t1.own_fwd hb ho) v2) hB
theorem Turn.set4{b:Nat}(ho:Own d T o w b)(hb:b < w.heap.size)(hB:d.B<=w.heap.size)(v0 v1 v2 v3:Value) :
 Turn d T o w ((((w.setCell ⟨b,0,none⟩ v0).setCell ⟨b,1,none⟩ v1).setCell ⟨b,2,none⟩ v2).setCell ⟨b,3,none⟩ v3):=by
 have t2:=Turn.set3 ho hb hB v0 v1 v2;exact t2.trans (Turn.set (i:=3) (t2.own_fwd hb ho) v3) hB
theorem Holds.mine(h:Holds d T o L w){b:Nat}{cs:Array Value}{ty:TypeId}{fz:Nat×Nat}(hp:(b,Obj.cells cs ty fz)∈L)(hb:d.B<=b)(ht:T ty):Own d T o w b:=.inl ⟨hb,cs,ty,fz,h.has _ hp,ht⟩
theorem Holds.boxOwn{b:Nat}(_:Holds d T (some b) L w):Own d T (some b) w b:=.inr rfl
theorem draws:LetsDraw (Does d T o):=λw=>⟨⟨rfl,rfl,rfl,Qd _,λ_ _ _=>rfl,λ_ _ _ cs _ fz h=>⟨cs,fz,h⟩,λ_ _ h=>h,λb h1 h2=>absurd h2 (by show ¬ b < w.heap.size;omega)⟩,by simp⟩
theorem dP(w:World):Rely d T o w { w with drawn:=w.drawn+1 }:=Rely.at w _
variable {P : Program} {w : World} {es : Array Event}
theorem iI(t ty:TypeId)(s:ByteArray)(h:P.underlying t=some .string):(Builtin.len_ #[t] ty #[.string s]).events P w es=es:=by
 simp[Builtin.len_,run_underlying h]
theorem wJ(t:TypeId)(s:ByteArray)(k:IntKind)(i:Int)(h:P.underlying t=some .string)(hi:0<=i/\i < s.size):(Instr.index t (.string s) (.int k i)).events P w es=es:=by
 have h2:i.toNat < s.size:=by omega
 have h3:(if 0<=i then s[i.toNat]? else none)=some s[i.toNat]:=by rw[if_pos hi.1,ByteArray.getElem?_lt' s _ h2]
 simp[Instr.index,asIntOf,run_underlying h,h3]
theorem kQ(k:IntKind)(i:Int)(y:Nat)(code:BoundsCode)(h0:0<=i)(h1:i<=y):(Instr.sliceBound (.int k i) y code).events P w es=es:=by
 simp[Instr.sliceBound,asIntOf,h0,h1]
theorem pOA(t:TypeId)(s:ByteArray)(k:IntKind)(l:Nat)(ht:P.underlying t=some .string)(h1:l<=s.size):(Instr.sliceAt t (.string s) (some (.int k (l:Int))) none none).events P w es=es:=by
 simp[Instr.sliceAt,Instr.slice,run_underlying ht,Instr.sliceBounds,kQ,h1]
theorem zKA(t:TypeId)(s:ByteArray)(k k':IntKind)(l h:Int)(ht:P.underlying t=some .string)(h0:0<=l)(h1:l<=h)(h2:h<=s.size):(Instr.sliceAt t (.string s) (some (.int k l)) (some (.int k' h)) none).events P w es=es:=by
 have h4:0<=h:=by omega
 have h5:l<=h.toNat:=by omega
 simp[Instr.sliceAt,Instr.slice,run_underlying ht,Instr.sliceBounds,run_sliceBound,kQ,h2,h4];exact kQ _ _ _ _ h0 h5
theorem zX(P:Program)(w:World)(a:Addr)(m:Mode)(f:Fn)(x y:Array Value):(store a (.func f x y) m).run P w=stored P w a (.func f x y) m:=run_store P w a _ m rfl
theorem kBA(P:Program)(w:World)(es:Array Event)(a:Addr)(m:Mode)(f:Fn)(x y:Array Value):(store a (.func f x y) m).events P w es=storedEv P w es a (.func f x y) m:=events_store P w es a _ m rfl
theorem nS(P:Program)(w:World)(es:Array Event)(a:Addr)(m:Mode)(s:ByteArray):(store a (.string s) m).events P w es=storedEv P w es a (.string s) m:=events_store P w es a _ m rfl
end Go.Lx
namespace Go.Lx
open Go Go.Conc
variable {P : Program} {main : Bool} {R : World -> World -> Prop} {D : World -> World -> Array Event -> Prop} {fn : FuncId} {md : Region.Mode} {ops : Array Oper} {c : Nat} {Q : Exit -> Act -> World -> Prop} {S : World -> Prop}
theorem iC(T:Terms R D)(hSR:∀ x y,S x->R x y->S y)(hQR:∀ a x y,Q .normal a x->R x y->Q .normal a y)(i:Nat){oi:Oper}{v:Value}{fuel:Nat}{listed:Array Bool}{a:Act}{w:World}(hi:ops[i]? = some oi)
    (hb:(Region.noSelect ops&&Region.free md ops listed i&&(Region.ready md ops listed).contains i)=true) (hw:Region.wanted oi (yielded ops a.tmps)=true) (hS:S w)
    (hy:∀ w,S w->(∀ K:Result Next->Prop,K (.ok (.value v) w)->K ((execOp a.eval oi).run P w))/\D w w (Conc.listed P fn a oi w))
    (h:AnyX P main R D fn md ops c Q S fuel (listed.setIfInBounds i true) (a.put oi.dst v) w):AnyX P main R D fn md ops c Q S (fuel+1) listed a w:=by
  simp only[Bool.and_eq_true]at hb;exact qHA T hSR hQR hi hb.1.1 hb.1.2 hb.2 (.inl ⟨hw,λw hw=>⟨run_eq_of (hy w hw).1,(hy w hw).2⟩⟩) hS h
theorem gZ(T:Terms R D)(hSR:∀ x y,S x->R x y->S y)(hQR:∀ a x y,Q .normal a x->R x y->Q .normal a y)(i:Nat){oi:Oper}{fuel:Nat}{listed:Array Bool}{a:Act}{w:World}(hi:ops[i]? = some oi)
    (hb:(Region.noSelect ops&&Region.free md ops listed i&&(Region.ready md ops listed).contains i)=true) (hw:Region.wanted oi (yielded ops a.tmps)=false) (hS:S w)
    (h:AnyX P main R D fn md ops c Q S fuel (listed.setIfInBounds i true) (a.put oi.dst undef) w):AnyX P main R D fn md ops c Q S (fuel+1) listed a w:=by
  simp only[Bool.and_eq_true]at hb;exact qHA T hSR hQR hi hb.1.1 hb.1.2 hb.2 (.inr ⟨hw,rfl⟩) hS h
end Go.Lx
namespace Go.Lx
open Go.Conc
def Mine(B:Nat)(M:Nat->Prop)(x:Touch):Prop:=(∃ a,x.loc = .cell a/\(M a.block∨(a.block < B/\x.write=false)))∨((∃ c,x.loc = .obj c)/\x.kind = .atomic)
structure Pair (m n B:Nat) (M S:Nat->Prop) (t:Trace):Prop where
 pos:n≠m
 clean:∀ said,¬ Race said t
 known:∀ i x,touchAt t i=some x->x.loc.isMemory=true->(Knows t m i/\Knows t n i)∨(t.g? i=some m/\Mine B M x)∨(t.g? i=some n/\Mine B S x)
 apart:∀ b,M b->¬ S b
 highM:∀ b,M b->B<=b
 highS:∀ b,S b->B<=b
theorem Pair.symm{m n B:Nat}{M S:Nat->Prop}{t:Trace}(h:Pair m n B M S t):Pair n m B S M t :=
 ⟨h.pos.symm,h.clean,λi x hx hm=>(h.known i x hx hm).elim (λy=>.inl ⟨y.2,y.1⟩) λy=>.inr y.symm,λb hs hm=>h.apart b hm hs,h.highS,h.highM⟩
theorem Mine.mono{B:Nat}{M M':Nat->Prop}{x:Touch}(h:Mine B M x)(hM:∀ b,M b->M' b):Mine B M' x:=by
 rcases h with⟨a,h1,h2⟩|h
 . exact .inl ⟨a,h1,h2.imp (hM _) id⟩
 . exact .inr h
theorem aQA{B:Nat}{M S:Nat->Prop}{x y:Touch}{said:Bool}(hM:Mine B M x)(hS:Mine B S y)(hap:∀ b,M b->¬ S b)(h1:∀ b,M b->B<=b)(h2:∀ b,S b->B<=b):¬ x.conflicts said y:=by
 rintro⟨hl,_,hw,hp⟩;rcases hM with⟨a,ha,hm⟩|⟨⟨c,hc⟩,hk⟩
 case inr =>
   rcases hS with⟨a',ha',_⟩|⟨_,hk'⟩
   . rw[hc,ha']at hl;cases hl
   . rw[hk,hk']at hp;rcases hp with hp|hp|⟨_,hp,_⟩<;>cases hp
 rcases hS with⟨a',ha',hs⟩|⟨⟨c,hc⟩,_⟩
 case inr=>rw[ha,hc]at hl;cases hl
 have:a=a':=by
  have:=ha.symm.trans (hl.trans ha');exact Loc.cell.inj this
 subst this;rcases hm with hm|⟨hm,wm⟩<;>rcases hs with hs|⟨hs,ws⟩
 . exact hap _ hm hs
 . have:=h1 _ hm;omega
 . have:=h2 _ hs;omega
 . rcases hw with h|h
   . rw[wm]at h;cases h
   . rw[ws]at h;cases h
theorem bFA{said:Bool}{x y:Touch}(h:x.conflicts said y):y.conflicts said x:=by
 obtain⟨h1,h2,h3,h4⟩:=h;refine⟨h1.symm,by rw[<- h1];exact h2,h3.symm,?_⟩;rcases h4 with h|h|⟨h,h',h''⟩
 . exact .inr (.inl h)
 . exact .inl h
 . exact .inr (.inr ⟨h,h'',h'⟩)
theorem g?_of{t:Trace}{i:Nat}{op:MemOp}(h:t[i]? = some op):t.g? i=some op.g:=by simp[Trace.g?,h]
theorem oDA{t:Trace}{i g:Nat}(h:t.g? i=some g):Knows t g i:=by
 unfold Trace.g? at h;obtain⟨op,ho,rfl⟩:=Option.map_eq_some_iff.1 h;exact knows_own ho
variable {m n B : Nat} {M S M' : Nat -> Prop} {t u : Trace}
theorem Pair.app(h:Pair m n B M S t)(hu:∀ op∈u,op.g=m)(hm:∀ op∈u,∀ x,op.act.touch? = some x->x.loc.isMemory=true->Mine B M' x)
    (hMM:∀ b,M b->M' b) (hap:∀ b,M' b->¬ S b) (hhi:∀ b,M' b->B<=b):Pair m n B M' S (t++u):=by
  refine⟨h.pos,λsaid=>noRace_append (h.clean said) hu λi a ha op hop b hb hc=>?_,λi a ha hmem=>?_,hap,hhi,h.highS⟩
  . rcases h.known i a ha hc.2.1 with hk|⟨hg,_⟩|⟨hg,hs⟩
    . exact hk.1
    . exact oDA hg
    . exact absurd (bFA hc) (aQA (hm op hop b hb (hc.1▸hc.2.1)) hs hap hhi h.highS)
  . obtain⟨x,hx,hxa⟩:=touch_of ha;rcases getElem?_append_cases hx with⟨hi,hx'⟩|⟨_,hxu⟩
    . rcases h.known i a (by rw[touchAt_of hx'];exact hxa) hmem with hk|⟨hg,hk⟩|⟨hg,hk⟩
      . exact .inl ⟨hk.1.app u,hk.2.app u⟩
      . exact .inr (.inl ⟨by rw[g?_old hi];exact hg,hk.mono hMM⟩)
      . exact .inr (.inr ⟨by rw[g?_old hi];exact hg,hk⟩)
    . exact .inr (.inl ⟨by rw[g?_of hx,hu x hxu],hm x hxu a hxa hmem⟩)
theorem eU{said:Bool}(h:¬ Race said t)(hn:∀ op∈u,op.act.touch? = none):¬ Race said (t++u):=by
 rintro⟨i,j,hij,⟨a,b,ha,hb,hc⟩,n1,n2⟩;obtain⟨x,hx,hxa⟩:=touch_of ha;obtain⟨y,hy,hyb⟩:=touch_of hb;rcases getElem?_append_cases hy with⟨hj,hy'⟩|⟨hj,hyu⟩
 . have hi:i < t.size:=Nat.lt_trans hij hj;have hx':t[i]? = some x:=by rw[<- getElem?_append_old (u:=u) hi];exact hx
   exact h ⟨i,j,hij,⟨a,b,by simp[Trace.act?,hx',hxa],by simp[Trace.act?,hy',hyb],hc⟩,λe=>n1 (hb_app u e),λe=>n2 (hb_app u e)⟩
 . rw[hn y hyu]at hyb;cases hyb
theorem Pair.dull(h:Pair m n B M S t)(hn:∀ op∈u,op.act.touch? = none):Pair m n B M S (t++u):=by
 refine⟨h.pos,λsaid=>eU (h.clean said) hn,λi a ha hmem=>?_,h.apart,h.highM,h.highS⟩;obtain⟨x,hx,hxa⟩:=touch_of ha;rcases getElem?_append_cases hx with⟨hi,hx'⟩|⟨_,hxu⟩
 . rcases h.known i a (by rw[touchAt_of hx'];exact hxa) hmem with hk|⟨hg,hk⟩|⟨hg,hk⟩
   . exact .inl ⟨hk.1.app u,hk.2.app u⟩
   . exact .inr (.inl ⟨by rw[g?_old hi];exact hg,hk⟩)
   . exact .inr (.inr ⟨by rw[g?_old hi];exact hg,hk⟩)
 . rw[hn x hxu]at hxa;cases hxa
theorem Deaf_still(t:Trace)(g:Nat)(u:Trace)(hu:∀ op∈u,op.act≠.mark .disable/\op.act≠.mark .enable):Deaf (t++u) g=Deaf t g:=by
 obtain⟨l⟩:=u;rw[Deaf_append];generalize Deaf t g=k
 induction l with
 | nil=>rfl
 | cons y l ih =>
   have hy:=hu y (by simp);have e1:deafStep g k y=k:=by
    unfold deafStep
    split
    . rename_i e;exact absurd e hy.1
    . rename_i e;exact absurd e hy.2
    . rfl
   rw[List.foldl_cons,e1];exact ih (λop hop=>hu op (by simp at hop ⊢;exact .inr hop))
theorem zOA{t:Trace}(h:Kn t)(hn:n≠0)(hd:Deaf t n=0)(fn fn':FuncId)(pos pos':String) :
 Pair 0 n B (λ_=>False) (λ_=>False) (t++#[{ g:=0,fn,pos,act:=.go n },{ g:=n,fn:=fn',pos:=pos',act:=.start }]):=by
 let y:MemOp:={ g:=0,fn,pos,act:=.go n }
 let z:MemOp:={ g:=n,fn:=fn',pos:=pos',act:=.start }
 have hy:(t++#[y,z])[t.size]? = some y:=by rw[Array.getElem?_append_right (Qd _)];simp
 have hz:(t++#[y,z])[t.size+1]? = some z:=by rw[Array.getElem?_append_right (by omega)];simp
 have hearsY:(t++#[y,z]).heard t.size:=⟨0,by simp[Trace.g?,hy,y],by rw[deaf_old (Qd _)];exact h.hears⟩;have hearsZ:(t++#[y,z]).heard (t.size+1):=by
  refine⟨n,by simp[Trace.g?,hz,z],?_⟩;rw[deaf_succ hy,deaf_old (Qd _)];exact hd
 have hyz:HappensBefore (t++#[y,z]) t.size (t.size+1):=.single (.inr ⟨.spawn (child:=n) (by simp[Trace.act?,hy,y]) (by simp[Trace.act?,hz,z]) (by simp[Trace.g?,hz,z]),hearsY,hearsZ⟩);refine⟨hn,λsaid=>eU (h.clean said) (by simp[MemAct.touch?]),λi a ha hmem=>?_,by simp,by simp,by simp⟩;obtain⟨x,hx,hxa⟩:=touch_of ha;rcases getElem?_append_cases hx with⟨hi,hx'⟩|⟨_,hxu⟩
 . have hk:=h.known i a (by rw[touchAt_of hx'];exact hxa) hmem;refine .inl ⟨hk.app _,?_⟩;exact⟨t.size+1,z,hz,rfl,.inr ((hk.hb_new (Qd _) hy rfl).trans hyz)⟩
 . have:x.act.touch? = none:=by
     simp at hxu;rcases hxu with rfl|rfl<;>rfl
   rw[this]at hxa;cases hxa
structure Shut (n c p:Nat) (t:Trace):Prop where
 act:t.act? p=some (.close c)
 g:t.g? p=some n
 heard:t.heard p
 last:∀ i x,touchAt t i=some x->t.g? i=some n->i < p
theorem Shut.app{c p:Nat}(h:Shut n c p t)(hu:∀ op∈u,op.g=n->op.act.touch? = none):Shut n c p (t++u):=by
 have hp:p < t.size:=lt_of_act? h.act;refine⟨by rw[act?_old hp];exact h.act,by rw[g?_old hp];exact h.g,(heard_old hp).2 h.heard,λi x hx hg=>?_⟩;obtain⟨y,hy,hyx⟩:=touch_of hx;rcases getElem?_append_cases hy with⟨hi,hy'⟩|⟨_,hyu⟩
 . exact h.last i x (by rw[touchAt_of hy'];exact hyx) (by rw[<- g?_old (u:=u) hi];exact hg)
 . rw[g?_of hy]at hg;rw[hu y hyu (Qt hg)]at hyx;cases hyx
theorem wYA{c p:Nat}{fn:FuncId}{pos:String}(h:Pair 0 n B M S t)(hh:Deaf t 0=0)(hs:Shut n c p t):Kn (t++#[{ g:=0,fn,pos,act:=.recvClosed c }]):=by
 let y:MemOp:={ g:=0,fn,pos,act:=.recvClosed c }
 have hp:p < t.size:=lt_of_act? hs.act;have hy:(t++#[y])[t.size]? = some y:=by rw[Array.getElem?_append_right (Qd _)];simp
 have d0:Deaf (t++#[y]) 0=Deaf t 0:=Deaf_still t 0 _ (by simp[y]);have hearsY:(t++#[y]).heard t.size:=⟨0,by simp[Trace.g?,hy,y],by rw[deaf_old (Qd _)];exact hh⟩;have hpy:HappensBefore (t++#[y]) p t.size:=.single (.inr ⟨.closed (c:=c) (by rw[act?_old hp];exact hs.act) (by simp[Trace.act?,hy,y]),(heard_old hp).2 hs.heard,hearsY⟩);refine⟨λsaid=>eU (h.clean said) (by simp[MemAct.touch?]),λi a ha hmem=>?_,d0.trans hh⟩;obtain⟨x,hx,hxa⟩:=touch_of ha;rcases getElem?_append_cases hx with⟨hi,hx'⟩|⟨_,hxu⟩
 . have hta:touchAt t i=some a:=by rw[touchAt_of hx'];exact hxa
   rcases h.known i a hta hmem with hk|⟨hg,hk⟩|⟨hg,hk⟩
   . exact hk.1.app _
   . exact(oDA hg).app _
   . have hip:=hs.last i a hta hg;have hpo:HappensBefore t i p:=.single (.inl ⟨hip,n,hg,hs.g⟩);exact⟨t.size,y,hy,rfl,.inr ((hb_app #[y] hpo).trans hpy)⟩
 . have:x.act.touch? = none:=by
     simp at hxu;subst hxu;rfl
   rw[this]at hxa;cases hxa
structure Split (d:Deal) (T0 T1:TypeId->Prop) (h:Array Obj) (M S:Nat->Prop) (o0 o1:Option Nat):Prop where
 bsize:d.B<=h.size
 own0:∀ b cs ty fz,d.B<=b->h[b]? = some (.cells cs ty fz)->T0 ty->M b
 own1:∀ b cs ty fz,d.B<=b->h[b]? = some (.cells cs ty fz)->T1 ty->S b
 lowM:∀ b,M b->b < h.size
 lowS:∀ b,S b->b < h.size
 box0:∀ b,o0=some b->M b
 box1:∀ b,o1=some b->S b
variable {d : Deal} {T0 T1 : TypeId -> Prop} {tb : TypeId} {w w' : World} {M S : Nat -> Prop} {o0 o1 : Option Nat}
theorem Split.symm{h:Array Obj}(s:Split d T0 T1 h M S o0 o1):Split d T1 T0 h S M o1 o0:=⟨s.bsize,s.own1,s.own0,s.lowS,s.lowM,s.box1,s.box0⟩
def More(M:Nat->Prop)(w w':World)(b:Nat):Prop:=M b∨(w.heap.size<=b/\b < w'.heap.size)
theorem Split.mine(s:Split d T0 T1 w.heap M S o0 o1){b:Nat}(h:Own d T0 o0 w b):M b:=by
 rcases h with⟨hb,cs,ty,fz,hc,ht⟩|h
 . exact s.own0 b cs ty fz hb hc ht
 . exact s.box0 b h
theorem Split.felt(s:Split d T0 T1 w.heap M S o0 o1)(hap:∀ b,M b->¬ S b)(hM:∀ b,M b->d.B<=b)(h:Turn d T0 o0 w w'):Rely d T1 o1 w w':=by
 refine⟨h.tape,h.os,h.output,h.size,λb hb _=>?_,λb hb=>?_⟩
 . refine h.rest b (Qb hb s.bsize) λho=>?_
   have:=hM b (s.mine ho);omega
 . exact h.rest b (s.lowS b (s.symm.mine hb)) λho=>hap b (s.mine ho) (s.symm.mine hb)
theorem Boxes.old(h:Boxes tb w w'){b:Nat}(hb:b < w.heap.size):w'.heap[b]? = w.heap[b]? := by
 obtain⟨cs,fz,e⟩:=h.heap;rw[e,Array.getElem?_push_lt hb,Array.getElem?_eq_getElem hb]
theorem Boxes.size(h:Boxes tb w w'):w'.heap.size=w.heap.size+1:=by
 obtain⟨cs,fz,e⟩:=h.heap;rw[e,Array.size_push]
theorem Boxes.new(h:Boxes tb w w'):∃ cs fz,w'.heap[w.heap.size]? = some (.cells cs tb fz):=by
 obtain⟨cs,fz,e⟩:=h.heap;exact⟨cs,fz,by rw[e];simp⟩
theorem Split.feltBox(s:Split d T0 T1 w.heap M S o0 o1)(h:Boxes tb w w'):Rely d T1 o1 w w':=by
 refine⟨h.tape,h.os,h.output,by rw[h.size];omega,λb hb _=>h.old (Qb hb s.bsize),λb hb=>h.old (s.lowS b (s.symm.mine hb))⟩
theorem sEA(s:Split d T0 T1 w.heap M S o0 o1)(hap:∀ b,M b->¬ S b):∀ b,More M w w' b->¬ S b:=by
 rintro b (h|h) hS
 . exact hap b h hS
 . have:=s.lowS b hS;omega
theorem nHA(s:Split d T0 T1 w.heap M S o0 o1)(hM:∀ b,M b->d.B<=b):∀ b,More M w w' b->d.B<=b:=by
 rintro b (h|h)
 . exact hM b h
 . exact Ql s.bsize h.1
theorem Split.turn(s:Split d T0 T1 w.heap M S o0 o1)(hdis:∀ ty,T0 ty->¬ T1 ty)(h:Turn d T0 o0 w w'):Split d T0 T1 w'.heap (More M w w') S o0 o1:=by
 have back:∀ b cs ty fz,b < w.heap.size->w'.heap[b]? = some (.cells cs ty fz)->(∃ cs' fz',w.heap[b]? = some (.cells cs' ty fz'))∨(o0=some b/\∀ cs ty fz,w.heap[b]?≠some (.cells cs ty fz)):=by
  intro b cs ty fz hb hc;by_cases ho:Own d T0 o0 w b
  . by_cases hex : ∃ cs' ty' fz', w.heap[b]? = some (.cells cs' ty' fz')
    . obtain⟨cs',ty',fz',e⟩:=hex;obtain⟨cs2,fz2,e2⟩:=h.typ b hb ho cs' ty' fz' e;rw[e2]at hc
      injection hc with hc;injection hc with _ hty _
      subst hty;exact .inl ⟨cs',fz',e⟩
    . rcases ho with⟨_,cs',ty',fz',e,_⟩|ho
      . exact absurd ⟨cs',ty',fz',e⟩ hex
      . exact .inr ⟨ho,λcs ty fz e=>hex ⟨cs,ty,fz,e⟩⟩
  . exact .inl ⟨cs,fz,by rw[<- h.rest b hb ho];exact hc⟩
 refine⟨Ql s.bsize h.size,λb cs ty fz hb hc ht=>?_,λb cs ty fz hb hc ht=>?_,λb hb=>?_,λb hb=>Qb (s.lowS b hb) h.size,λb hb=>.inl (s.box0 b hb),s.box1⟩
 . rcases Nat.lt_or_ge b w.heap.size with hlt|hge
   . rcases back b cs ty fz hlt hc with⟨cs',fz',e⟩|⟨e,_⟩
     . exact .inl (s.own0 b cs' ty fz' hb e ht)
     . exact .inl (s.box0 b e)
   . exact .inr ⟨hge,(Qe.1 hc).1⟩
 . rcases Nat.lt_or_ge b w.heap.size with hlt|hge
   . by_cases ho : Own d T0 o0 w b
     . rcases ho with⟨_,cs',ty',fz',e,ht'⟩|ho
       . obtain⟨cs2,fz2,e2⟩:=h.typ b hlt (.inl ⟨hb,cs',ty',fz',e,ht'⟩) cs' ty' fz' e;rw[e2]at hc
         injection hc with hc;injection hc with _ hty _
         subst hty;exact absurd ht (hdis _ ht')
       . rcases back b cs ty fz hlt hc with⟨cs',fz',e⟩|⟨_,e⟩
         . exact s.own1 b cs' ty fz' hb e ht
         . exact absurd hc (h.boxed b ho e cs ty fz)
     . exact s.own1 b cs ty fz hb (by rw[<- h.rest b hlt ho];exact hc) ht
   . obtain⟨cs',ty',fz',e,ht'⟩:=h.new b hge (Qe.1 hc).1;rw[e]at hc
     injection hc with hc;injection hc with _ hty _
     subst hty;exact absurd ht (hdis _ ht')
 . rcases hb with hb|hb
   . exact Qb (s.lowM b hb) h.size
   . exact hb.2
theorem Split.box(s:Split d T0 T1 w.heap M S o0 o1)(h0:¬ T0 tb)(h1:¬ T1 tb)(h:Boxes tb w w'):Split d T0 T1 w'.heap (More M w w') S (some w.heap.size) o1:=by
 have hs:=h.size;obtain⟨csn,fzn,hn⟩:=h.new;have key:∀ b cs ty fz,w'.heap[b]? = some (.cells cs ty fz)->b < w.heap.size∨(b=w.heap.size/\ty=tb):=by
  intro b cs ty fz hc;have hlt:=(Qe.1 hc).1;rcases Nat.lt_or_ge b w.heap.size with hb|hb
  . exact .inl hb
  . have:b=w.heap.size:=by omega
    subst this;rw[hn]at hc
    injection hc with hc;injection hc with _ hty _
    exact .inr ⟨rfl,hty.symm⟩
 refine⟨by have:=s.bsize;omega,λb cs ty fz hb hc ht=>?_,λb cs ty fz hb hc ht=>?_,λb hb=>?_,λb hb=>by have:=s.lowS b hb;omega,λb hb=>?_,s.box1⟩
 . rcases key b cs ty fz hc with hlt|⟨_,rfl⟩
   . exact .inl (s.own0 b cs ty fz hb (by rw[<- h.old hlt];exact hc) ht)
   . exact absurd ht h0
 . rcases key b cs ty fz hc with hlt|⟨_,rfl⟩
   . exact s.own1 b cs ty fz hb (by rw[<- h.old hlt];exact hc) ht
   . exact absurd ht h1
 . rcases hb with hb|hb
   . have:=s.lowM b hb;omega
   . exact hb.2
 . obtain rfl:=Qt hb;exact .inr ⟨Qd _,by omega⟩
theorem Split.same{h h':Array Obj}(s:Split d T0 T1 h M S o0 o1)(hs:h'.size=h.size)(hc:∀ b,d.B<=b->h'[b]? = h[b]?):Split d T0 T1 h' M S o0 o1 :=
 ⟨by rw[hs];exact s.bsize,λb cs ty fz hb e=>s.own0 b cs ty fz hb (by rw[<- hc b hb];exact e),λb cs ty fz hb e=>s.own1 b cs ty fz hb (by rw[<- hc b hb];exact e),
   λb hb=>by rw[hs];exact s.lowM b hb,λb hb=>by rw[hs];exact s.lowS b hb,s.box0,s.box1⟩
theorem Split.chan(s:Split d T0 T1 w.heap M S o0 o1)(hB:d.c < d.B){cap st r:Nat}{buf:Array Value}{cl tm:Bool}:Split d T0 T1 (w.setChan d.c cap buf cl st r tm).heap M S o0 o1 :=
 s.same (by simp[World.setChan]) λb hb=>by
  simp only[World.setChan];rw[Qg (by omega)]
theorem yFA(s:Split d T0 T1 w'.heap M S o0 o1){e:Event}(h:iX d T0 o0 w' e)(x:Touch)(hx:(MemAct.ofEvent e).touch? = some x)(hm:x.loc.isMemory=true):Mine d.B M x:=by
 obtain⟨a,ha,hb⟩:=h.1 x hx hm;exact .inl ⟨a,ha,hb.imp (λo=>s.mine o) id⟩
open Go.ConcN (sumTo upd sumTo_upd upd_ne upd_same)
inductive MAct where
 | box
 | recv (v:Value)
inductive SAct where
 | box
 | send (v:Value)
def recvs:List MAct->List Value
  | []=>[]
  | .box::l=>recvs l
  | .recv v::l=>v::recvs l
def sends:List SAct->List Value
  | []=>[]
  | .box::l=>sends l
  | .send v::l=>v::sends l
structure Shared where
 P:Program
 d:Deal
 q:Nat
 T0:TypeId->Prop
 T1:TypeId->Prop
 tb:TypeId
 z:Value
 zc:Value
 zq:Value
 Fin:Goroutine->World->Prop
structure Shared.Fit (X:Shared):Prop where
 dis:∀ ty,X.T0 ty->¬ X.T1 ty
 tb0:¬ X.T0 X.tb
 tb1:¬ X.T1 X.tb
 cB:X.d.c < X.d.B
 qB:X.q < X.d.B
 cq:X.d.c≠X.q
variable (X : Shared)
def Shared.rcv:Array CommCase:=#[rcase X.d.c X.z]
def Shared.sel(v:Value):Array CommCase:=#[scase X.d.c v X.zc,rcase X.q X.zq]
def q8A(main:Bool)(T:TypeId->Prop)(K:Option Nat->Goroutine->World->Prop)(g:Goroutine)(w:World):Prop :=
 g.status = .running/\∃ g' w' es,stepG X.P main g w = .go g' w' es/\Boxes X.tb w w'/\(∀ e∈es,iX X.d T (some w.heap.size) w' e)/\K (some w.heap.size) g' w'
def AtRecv(v:Value)(K:Goroutine->World->Prop)(g:Goroutine)(w:World):Prop :=
 g.status = .running/\stepG X.P true g w = .comm g X.rcv true (.recv true) w #[]/\K (g.finishComm X.P X.rcv (.recv true) 0 v true) w
def AtEnd(g:Goroutine)(w:World):Prop :=
 g.status = .running/\stepG X.P true g w = .comm g X.rcv true (.recv true) w #[]/\X.Fin (g.finishComm X.P X.rcv (.recv true) 0 X.z false) w
def AtSend(v:Value)(K:Goroutine->World->Prop)(g:Goroutine)(w:World):Prop :=
 g.status = .running/\stepG X.P false g w = .comm g (X.sel v) true .select w #[]/\K (g.finishComm X.P (X.sel v) .select 0 undef false) w
def AtClose(g:Goroutine)(w:World):Prop :=
 g.status = .running/\mayWake X.P g=true/\∀ s r tm,w.heap[X.d.c]? = some (.chan 0 #[] false s r tm) ->
  ∃ g' k,stepG X.P false g w = .go g' (w.setChan X.d.c 0 #[] true s r tm) #[⟨.obj X.d.c,false,true⟩,⟨.obj X.d.c,true,true⟩]/\QuitsD X.P k 0 g'
def StopM:List MAct->Option Nat->Goroutine->World->Prop
  | [],_=>AtEnd X
  | .recv v::l,o=>AtRecv X v λg w=>∃ m,Goes X.P true (Rely X.d X.T0 o) (Does X.d X.T0 o) (StopM l o) m g w
  | .box::l,_=>q8A X true X.T0 λo' g w=>∃ m,Goes X.P true (Rely X.d X.T0 o') (Does X.d X.T0 o') (StopM l o') m g w
def StopS:List SAct->Option Nat->Goroutine->World->Prop
  | [],_=>AtClose X
  | .send v::l,o=>AtSend X v λg w=>∃ m,Goes X.P false (Rely X.d X.T1 o) (Does X.d X.T1 o) (StopS l o) m g w
  | .box::l,_=>q8A X false X.T1 λo' g w=>∃ m,Goes X.P false (Rely X.d X.T1 o') (Does X.d X.T1 o') (StopS l o') m g w
abbrev GoM(l:List MAct)(o:Option Nat)(m:Nat):Goroutine->World->Prop:=Goes X.P true (Rely X.d X.T0 o) (Does X.d X.T0 o) (StopM X l o) m
abbrev GoS(l:List SAct)(o:Option Nat)(m:Nat):Goroutine->World->Prop:=Goes X.P false (Rely X.d X.T1 o) (Does X.d X.T1 o) (StopS X l o) m
inductive IsM (l:List MAct) (o:Option Nat) (g:Goroutine) (w:World):Nat->Prop
  | walks {m:Nat} (h:GoM X l o m g w):IsM l o g w (m+1)
  | waits {g₀:Goroutine} (e:g=parked g₀ X.rcv (.recv true)) (h:∀ w₁,Rely X.d X.T0 o w w₁->StopM X l o g₀ w₁) (hl:∀ l',l≠.box::l'):IsM l o g w 0
inductive IsS (l:List SAct) (o:Option Nat) (g:Goroutine) (w:World):Nat->Prop
  | walks {m:Nat} (h:GoS X l o m g w):IsS l o g w (m+1)
  | waits {g₀:Goroutine} {v:Value} {l':List SAct} (hl:l = .send v::l') (e:g=parked g₀ (X.sel v) .select) (h:∀ w₁,Rely X.d X.T1 o w w₁->StopS X l o g₀ w₁):IsS l o g w 0
def Gets(P:Program)(Stop:Goroutine->World->Prop)(gs:Array Goroutine)(w:World)(sl:Option (Nat×Nat))(t:Trace):Prop :=
 ∃(N:Nat) (gs':Array Goroutine) (g':Goroutine) (w':World) (sl':Option (Nat×Nat)) (t':Trace) (q':Nat->Nat),
  runNT P N (crowd gs w sl) t=(.next (crowd gs' w' sl'),t')/\gs'[0]? = some g'/\Stop g' w'/\Leavers P t' gs' q'/\Kn t'
theorem RunsTo.gets{P:Program}{Stop:Goroutine->World->Prop}{gs:Array Goroutine}{w:World}{sl:Option (Nat×Nat)}{t:Trace}(h:RunsTo P Stop gs w sl t):Gets P Stop gs w sl t:=by
 obtain⟨N,gs',g',w',sl',t',q',h1,_,h2,h3,h4,h5⟩:=h;exact⟨N,gs',g',w',sl',t',q',h1,h2,h3,h4,h5⟩
theorem Gets.step{P:Program}{Stop:Goroutine->World->Prop}{gs gs1:Array Goroutine}{w w1:World}{sl sl1:Option (Nat×Nat)}{t u:Trace}
    (h:stepT P (crowd gs w sl)=(.next (crowd gs1 w1 sl1),u)) (hg:Gets P Stop gs1 w1 sl1 (t++u)):Gets P Stop gs w sl t:=by
  obtain⟨N,gs',g',w',sl',t',q',h1,h2,h3,h4,h5⟩:=hg;exact⟨N+1,gs',g',w',sl',t',q',by simp only[runNT,h];exact h1,h2,h3,h4,h5⟩
theorem rDA{P:Program}:∀(N K:Nat) (m m':Machine) (t t':Trace),runNT P N m t=(.next m',t')->runNT P (N+K) m t=runNT P K m' t'
  | 0, K, m, m', t, t', h => by
    simp only[runNT,Prod.mk.injEq,Stepped.next.injEq]at h;rw[Nat.zero_add,h.1,h.2]
  | N + 1, K, m, m', t, t', h => by
    rw[show N+1+K=(N+K)+1 by omega];simp only[runNT]at h ⊢;rcases e:stepT P m with⟨r,ops⟩
    rw[e]at h
    cases r with
    | next m1=>exact rDA N K _ _ _ _ h
    | _=>simp at h
theorem Gets.trans{P:Program}{S1 S2:Goroutine->World->Prop}{gs:Array Goroutine}{w:World}{sl:Option (Nat×Nat)}{t:Trace}(h:Gets P S1 gs w sl t)
    (h2:∀ gs' g' w' sl' t' q',gs'[0]? = some g'->S1 g' w'->Leavers P t' gs' q'->Kn t'->Gets P S2 gs' w' sl' t'):Gets P S2 gs w sl t:=by
  obtain⟨N,gs',g',w',sl',t',q',e,h0,hS,hL,hK⟩:=h;obtain⟨N2,gs2,g2,w2,sl2,t2,q2,e2,h02,hS2,hL2,hK2⟩:=h2 gs' g' w' sl' t' q' h0 hS hL hK;exact⟨N+N2,gs2,g2,w2,sl2,t2,q2,by rw[rDA N N2 _ _ _ _ e];exact e2,h02,hS2,hL2,hK2⟩
open Go.ConcN (sumTo upd sumTo_upd upd_ne upd_same)
variable {X : Shared}
structure Inv (X:Shared) (n top:Nat) (cl:Bool) (gs:Array Goroutine) (w:World) (t:Trace) (qs:Nat->Nat) (M S:Nat->Prop) (o0 o1:Option Nat):Prop where
 pos:0 < n
 size:gs.size=n+1
 topl:top<=n+1
 old:∀ j x,0 < j->j < top->gs[j]? = some x->QuitsD X.P (qs j) (Deaf t j) x
 above:∀ j,n < j->Deaf t j=0
 pair:Pair 0 n X.d.B M S t
 hears0:Deaf t 0=0
 hearsN:cl=false->Deaf t n=0
 split:Split X.d X.T0 X.T1 w.heap M S o0 o1
 quit:∃ s r tm,w.heap[X.q]? = some (.chan 0 #[] false s r tm)
 chan:∃ s r tm,w.heap[X.d.c]? = some (.chan 0 #[] cl s r tm)
variable {n top : Nat} {cl : Bool} {gs : Array Goroutine} {w w' : World} {t u : Trace} {qs : Nat -> Nat} {M S : Nat -> Prop} {o0 o1 o0' o1' : Option Nat}
theorem Inv.at(h:Inv X n top cl gs w t qs M S o0 o1)(e:Nat):Inv X n top cl gs (w.at e) t qs M S o0 o1 :=
 ⟨h.pos,h.size,h.topl,h.old,h.above,h.pair,h.hears0,h.hearsN,h.split,h.quit,h.chan⟩
theorem aSA{f:Goroutine->Goroutine}{i:Nat}{y:Goroutine}(h:∀ j x,j≠i->gs[j]? = some x->f x=x):(gs.map f).setIfInBounds i y=gs.setIfInBounds i y:=by
 apply Array.ext_getElem?;intro j;by_cases hj:i=j
 . subst hj;by_cases hlt:i < gs.size
   . rw[Array.getElem?_setIfInBounds_self_of_lt (by simpa using hlt),Array.getElem?_setIfInBounds_self_of_lt hlt]
   . rw[Array.getElem?_eq_none (by simpa using hlt),Array.getElem?_eq_none (by simpa using hlt)]
 . rw[Qg hj,Qg hj,Array.getElem?_map]
   cases e:gs[j]? with
   | none=>rfl
   | some x=>simp[h j x (λe=>hj e.symm) e]
theorem Split.low(s:Split X.d X.T0 X.T1 w.heap M S o0 o1)(hM:∀ b,M b->X.d.B<=b)(h:Turn X.d X.T0 o0 w w'){b:Nat}(hb:b < X.d.B):w'.heap[b]? = w.heap[b]? := by
 refine h.rest b (Qb hb s.bsize) λho=>?_
 have:=hM b (s.mine ho);omega
theorem Inv.step0(F:X.Fit)(h:Inv X n top cl gs w t qs M S o0 o1)(hlow:∀ b,b < X.d.B->w'.heap[b]? = w.heap[b]?)(hs:Split X.d X.T0 X.T1 w'.heap (More M w w') S o0' o1)
    {es:Array Event} (hev:∀ e∈es,iX X.d X.T0 o0' w' e) (fn:FuncId) (pos:String) (g':Goroutine) :
    Inv X n top cl (gs.setIfInBounds 0 g') w' (t++MemOp.ofEvents 0 fn pos es) qs (More M w w') S o0' o1:=by
  have hu:∀ op∈MemOp.ofEvents 0 fn pos es,op.g=0:=λop hop=>by obtain⟨e,_,rfl⟩:=Conc.mem_ofEvents hop;rfl
  have hd0:Deaf (t++MemOp.ofEvents 0 fn pos es) 0=0:=by
   rw[Deaf_own,deafBehind_still (λe he=>(hev e he).2)];exact h.hears0
  refine⟨h.pos,by simpa using h.size,h.topl,λj x hj hjt hx=>?_,λj hj=>?_,?_,hd0,λhc=>(Deaf_other t (Nat.ne_of_lt h.pos) _ hu).trans (h.hearsN hc),hs,?_,?_⟩
  . rw[Qg (by omega)]at hx;rw[Deaf_other t (by omega) _ hu];exact h.old j x hj hjt hx
  . rw[Deaf_other t (g':=0) (by omega) _ hu];exact h.above j hj
  . refine h.pair.app hu (λop hop x hx hm=>?_) (λb hb=>.inl hb) (sEA h.split h.pair.apart) (nHA h.split h.pair.highM);obtain⟨e,he,rfl⟩:=Conc.mem_ofEvents hop;exact yFA hs (hev e he) x hx hm
  . rw[hlow _ F.qB];exact h.quit
  . rw[hlow _ F.cB];exact h.chan
theorem Inv.stepN(F:X.Fit)(h:Inv X n n cl gs w t qs M S o0 o1)(hlow:∀ b,b < X.d.B->w'.heap[b]? = w.heap[b]?)(hs:Split X.d X.T1 X.T0 w'.heap (More S w w') M o1' o0)
    {es:Array Event} (hev:∀ e∈es,iX X.d X.T1 o1' w' e) (fn:FuncId) (pos:String) (g':Goroutine) :
    Inv X n n cl (gs.setIfInBounds n g') w' (t++MemOp.ofEvents n fn pos es) qs M (More S w w') o0 o1':=by
  have hu:∀ op∈MemOp.ofEvents n fn pos es,op.g=n:=λop hop=>by obtain⟨e,_,rfl⟩:=Conc.mem_ofEvents hop;rfl
  have hd0:cl=false->Deaf (t++MemOp.ofEvents n fn pos es) n=0:=λhc=>by
   rw[Deaf_own,deafBehind_still (λe he=>(hev e he).2)];exact h.hearsN hc
  have hp:=h.pos;refine⟨h.pos,by simpa using h.size,h.topl,λj x hj hjt hx=>?_,λj hj=>?_,?_,(Deaf_other t (by omega) _ hu).trans h.hears0,hd0,hs.symm,?_,?_⟩
  . rw[Qg (by omega)]at hx;rw[Deaf_other t (by omega) _ hu];exact h.old j x hj hjt hx
  . rw[Deaf_other t (g':=n) (by omega) _ hu];exact h.above j hj
  . refine(h.pair.symm.app hu (λop hop x hx hm=>?_) (λb hb=>.inl hb) (sEA h.split.symm h.pair.symm.apart) (nHA h.split.symm h.pair.symm.highM)).symm;obtain⟨e,he,rfl⟩:=Conc.mem_ofEvents hop;exact yFA hs (hev e he) x hx hm
  . rw[hlow _ F.qB];exact h.quit
  . rw[hlow _ F.cB];exact h.chan
theorem Inv.slip(h:Inv X n top cl gs w t qs M S o0 o1){i k:Nat}{g':Goroutine}{es:Array Event}(hi0:0 < i)(hit:i < top)(hm:∀ e∈es,Event.mute e=true)
    (hnt:i=n->cl=true)
    (hq:QuitsD X.P k (deafBehind (Deaf t i) es) g') (fn:FuncId) (pos:String) :
    Inv X n top cl (gs.setIfInBounds i g') w (t++MemOp.ofEvents i fn pos es) (upd qs i k) M S o0 o1:=by
  have hu:∀ op∈MemOp.ofEvents i fn pos es,op.g=i:=λop hop=>by obtain⟨e,_,rfl⟩:=Conc.mem_ofEvents hop;rfl
  have hn:∀ op∈MemOp.ofEvents i fn pos es,op.act.touch? = none:=λop hop=>by obtain⟨e,he,rfl⟩:=Conc.mem_ofEvents hop;exact touch_mute (hm e he)
  have hil:i < gs.size:=by have:=h.size;have:=h.topl;omega
  refine⟨h.pos,by simpa using h.size,h.topl,λj y hj hjt hy=>?_,λj hj=>?_,h.pair.dull hn,(Deaf_other t (by omega) _ hu).trans h.hears0,λhc=>?_,h.split,h.quit,h.chan⟩
  . by_cases hji:i=j
    . subst hji;rw[Array.getElem?_setIfInBounds_self_of_lt hil]at hy;obtain rfl:=Qt hy;rw[upd_same,Deaf_own];exact hq
    . rw[Qg hji]at hy;rw[upd_ne qs k (Ne.symm hji),Deaf_other t hji _ hu];exact h.old j y hj hjt hy
  . have:=h.topl;rw[Deaf_other t (g':=i) (by omega) _ hu];exact h.above j hj
  . by_cases hin:i=n
    . rw[hnt hin]at hc;cases hc
    . exact(Deaf_other t hin _ hu).trans (h.hearsN hc)
theorem sH{P:Program}{i:Nat}{g g':Goroutine}(hst:∀ j x,j≠i->gs[j]? = some x->x.status = .running∨x.status = .finished∨x.again w'=x) :
 (gs.map (woken P g g' w')).setIfInBounds i g'=gs.setIfInBounds i g':=by
 refine aSA λj x hj hx=>?_
 unfold woken
 split
 . rcases hst j x hj hx with h|h|h
   . exact again_running _ (.inl h)
   . exact again_running _ (.inr h)
   . exact h
 . rfl
open Go.ConcN (sumTo upd sumTo_upd upd_ne upd_same)
variable {X : Shared} {n top : Nat} {cl : Bool} {gs : Array Goroutine} {w w' : World} {t u : Trace} {qs : Nat -> Nat} {M S : Nat -> Prop} {o0 o1 o0' o1' : Option Nat}
theorem yO{P:Program}{main:Bool}{R:World->World->Prop}{D:World->World->Array Event->Prop}{Stop:Goroutine->World->Prop}{m:Nat}{g:Goroutine}{w:World}(h:Goes P main R D Stop m g w) :
 (∀ w₁,R w w₁->Stop g w₁)∨∃ m',m=m'+1/\g.status = .running/\∀ w₁,R w w₁->∃ g' w' es,stepG P main g w₁ = .go g' w' es/\D w₁ w' es/\Goes P main R D Stop m' g' w':=by
 cases m with
 | zero=>exact .inl h
 | succ m =>
   rcases h with h|⟨hs,h⟩
   . exact .inl h
   . refine .inr ⟨m,rfl,hs,λw₁ h₁=>?_⟩;have:=h w₁ h₁
     revert this
     cases stepG P main g w₁<;>simp only[GStep.goes,false_implies];rename_i g' w' es;exact λ⟨a,b⟩=>⟨g',w',es,rfl,a,b⟩
theorem StopM.running{l:List MAct}{o:Option Nat}{g:Goroutine}{w:World}(h:StopM X l o g w):g.status = .running:=by
 cases l with
 | nil=>exact h.1
 | cons a l=>cases a<;>exact h.1
theorem StopS.running{l:List SAct}{o:Option Nat}{g:Goroutine}{w:World}(h:StopS X l o g w):g.status = .running:=by
 cases l with
 | nil=>exact h.1
 | cons a l=>cases a<;>exact h.1
theorem GoM.running{l:List MAct}{o:Option Nat}{m:Nat}{g:Goroutine}{w:World}(h:GoM X l o m g w):g.status = .running :=
 (yO h).elim (λh=>(h w (Rely.refl w)).running) λ⟨_,_,h,_⟩=>h
theorem GoS.running{l:List SAct}{o:Option Nat}{m:Nat}{g:Goroutine}{w:World}(h:GoS X l o m g w):g.status = .running :=
 (yO h).elim (λh=>(h w (Rely.refl w)).running) λ⟨_,_,h,_⟩=>h
theorem aS{i k m:Nat}(hlt:i < m)(hq:qs i=k+1):sumTo m (upd qs i k) < sumTo m qs:=by
 have h:sumTo m (upd qs i k)+(k+1)=sumTo m qs+k:=by
  have:=sumTo_upd qs k id hlt
  simpa [hq] using this
 omega
theorem iCB{Q:Nat->Nat->Nat->Prop}(h:∀ A K L,(∀ A' K' L',(A' < A∨(A'=A/\(K' < K∨(K'=K/\L' < L))))->Q A' K' L')->Q A K L):∀ A K L,Q A K L:=by
 intro A
 induction A using Nat.strongRecOn with
 | ind A ihA =>
 intro K
 induction K using Nat.strongRecOn with
 | ind K ihK =>
 intro L
 induction L using Nat.strongRecOn with
 | ind L ihL =>
 refine h A K L λA' K' L' hlt=>?_
 rcases hlt with h|⟨rfl,h|⟨rfl,h⟩⟩
 . exact ihA A' h K' L'
 . exact ihK K' h L'
 . exact ihL L' h
theorem nQ{P:Program}{k e r:Nat}{x:Goroutine}{send:Bool}(h:QuitsD P k e x):offersAt x r send=[] :=
 offersAt_of_not_blocked (by rcases h.status with h|h<;>rw[h]<;>simp) r send
inductive IsB (X:Shared) (l:List MAct) (o:Option Nat) (g:Goroutine) (w:World):Nat->Prop
  | walks {m:Nat} (h:GoM X l o m g w):IsB X l o g w (m+1)
  | woken {g₀:Goroutine} (hl:l=[]) (e:g={ parked g₀ X.rcv (.recv true) with status:=.running }) (h:∀ w₁,Rely X.d X.T0 o w w₁->AtEnd X g₀ w₁):IsB X l o g w 0
theorem IsB.running{l:List MAct}{o:Option Nat}{m:Nat}{g:Goroutine}{w:World}(h:IsB X l o g w m):g.status = .running:=by
 cases h with
 | walks h=>exact GoM.running h
 | woken _ e _=>rw[e]
theorem IsB.rely{l:List MAct}{o:Option Nat}{m:Nat}{g:Goroutine}{w w₁:World}(h:IsB X l o g w m)(r:Rely X.d X.T0 o w w₁):IsB X l o g w₁ m:=by
 cases h with
 | walks h=>exact .walks (Goes.rely (R:=Rely X.d X.T0 o) (λ_ _ _ a b=>a.trans b) h r)
 | woken hl e h=>exact .woken hl e λw₂ h₂=>h w₂ (r.trans h₂)
theorem aBA{g g₀:Goroutine}{p:Nat}{sl:Option (Nat×Nat)}(hI:Inv X n (n+1) true gs w t qs M S o0 o1)(hS:Shut n X.d.c p t)(h0:gs[0]? = some g)
    (hst:stepG X.P true g w = .comm g₀ X.rcv true (.recv true) w #[]) (hFin:X.Fin (g₀.finishComm X.P X.rcv (.recv true) 0 X.z false) w) {sl0:Option (Nat×Nat)} {w0:World}
    (hstep:stepT X.P (crowd gs w0 sl0)=runT X.P (crowd gs w sl) 0):Gets X.P X.Fin gs w0 sl0 t:=by
  obtain⟨s,r,tm,hc⟩:=hI.chan;have hp:partners (gs.setIfInBounds 0 ph) X.d.c true=[]:=by
   refine partners_nil λj x hj=>?_
   rcases getElem?_stand gs 0 j x hj with⟨_,rfl⟩|⟨hj0,hx⟩
   . rfl
   . have hjl:=(Qe.1 hx).1;have:=hI.size;exact nQ (hI.old j x (by omega) (by omega) hx)
  have hrun:=crowd_recv_closed (P:=X.P) (sl:=sl) (i:=0) h0 (show stepG X.P (0==0) g w=_ from hst) hc hp;rw[hrun]at hstep;refine Gets.step hstep ?_;have h0l:0 < gs.size:=(Qe.1 h0).1;have hev:(MemOp.ofEvents 0 g.frame.fn g.frame.place #[])=#[]:=rfl;rw[hev,Array.empty_append];have hu:∀ op∈(#[{ g:=0,fn:=g₀.frame.fn,pos:=g₀.frame.place,act:=.recvClosed X.d.c }]:Array MemOp),op.g=0:=by simp
  refine⟨0,_,_,_,_,_,qs,rfl,by simp[h0l];rfl,hFin,⟨λj x hj hx=>?_,λj hj=>?_⟩,wYA hI.pair hI.hears0 hS⟩
  . rw[Qg (by omega)]at hx;rw[Deaf_other t (by omega) _ hu];have hjl:=(Qe.1 hx).1;have:=hI.size;exact hI.old j x hj (by omega) hx
  . have:=hI.size;have hj':gs.size<=j:=by simpa using hj
    rw[Deaf_other t (g:=j) (g':=0) (by omega) _ hu];exact hI.above j (by omega)
theorem dS{g:Goroutine}(hI:Inv X n (n+1) cl gs w t qs M S o0 o1)(h0:gs[0]? = some g)(hr:g.status = .running):∀(i j:Nat) (x:Goroutine),j≠i->gs[j]? = some x->x.status = .running∨x.status = .finished∨x.again w'=x:=by
 intro i j x _ hx;rcases Nat.eq_zero_or_pos j with rfl|hj
 . rw[h0]at hx;obtain rfl:=Qt hx;exact .inl hr
 . have hjl:=(Qe.1 hx).1;have:=hI.size;exact(hI.old j x hj (by omega) hx).status.imp id .inl
theorem fZA(F:X.Fit):∀(A K L:Nat),∀(l:List MAct) (g:Goroutine) (gs:Array Goroutine) (w:World) (sl:Option (Nat×Nat)) (t:Trace) (qs:Nat->Nat) (M S:Nat->Prop) (o0 o1:Option Nat) (p:Nat),
 l.length=A->recvs l=[]->IsB X l o0 g w K->sumTo gs.size qs=L->gs[0]? = some g->Inv X n (n+1) true gs w t qs M S o0 o1->Shut n X.d.c p t->Gets X.P X.Fin gs w sl t:=by
 refine iCB λA K L ih=>?_
 intro l g gs w sl t qs M S o0 o1 p hA hr hB hL h0 hI hS;have hrun:=hB.running;have h0l:0 < gs.size:=(Qe.1 h0).1;have haw:∀ x∈gs,awake x:=by
  intro x hx;obtain⟨j,hj,rfl⟩:=Array.mem_iff_getElem.1 hx;rcases Nat.eq_zero_or_pos j with rfl|hpos
  . have:gs[0]=g:=by simpa [Array.getElem?_eq_getElem hj] using h0
    rw[this];exact awake_of (.inl hrun)
  . have:=hI.size;exact awake_of ((hI.old j _ hpos (by omega) (Array.getElem?_eq_getElem hj)).status.elim .inl λx=>.inr (.inr x))
 obtain⟨i,x,e,sl',hi,hx,hst⟩:=crowd_pick (P:=X.P) (w:=w) (sl:=sl) haw ⟨0,g,h0,hrun⟩;have hIe:=hI.at e;have hR:Rely X.d X.T0 o0 w (w.at e):=Rely.at w e;rcases Nat.eq_zero_or_pos i with rfl|hpos
 . rw[h0]at hi;obtain rfl:=Qt hi
   cases hB with
   | woken hl eg hE =>
     obtain⟨h1,h2,h3⟩:=hE _ hR;refine aBA hIe hS h0 ?_ h3 hst;rw[eg,stepG_tries];have:({ g with status:=.running }:Goroutine)=g:=by cases g;simp_all
     exact h2
   | walks hG =>
     rename_i m;rcases yO hG with hstop|⟨m',rfl,_,hgo⟩
     . have hs:=hstop _ hR
       cases l with
       | nil=>exact aBA hIe hS h0 hs.2.1 hs.2.2 hst
       | cons a l =>
         cases a with
         | recv v=>simp[recvs]at hr
         | box =>
           obtain⟨_,g',w',es,hstep,hbx,hev,m2,hG2⟩:=hs;rw[runT_crowd_go (P:=X.P) (i:=0) h0 (show stepG X.P (0==0) _ (w.at e)=_ from hstep),sH (dS hIe h0 hrun 0)]at hst;refine Gets.step hst ?_;have hs':=hIe.split.box F.tb0 F.tb1 hbx;have hI':=hIe.step0 F (λb hb=>hbx.old (Qb hb hIe.split.bsize)) hs' hev g.frame.fn g.frame.place g';exact ih l.length (m2+1) (sumTo (gs.setIfInBounds 0 g').size qs) (.inl (by rw[<- hA];simp)) l g' _ w' sl' _ qs _ S _ o1 p rfl (by simpa [recvs] using hr) (.walks hG2) rfl (by simp[h0l]) hI'
             (hS.app λop hop hg=>by
               obtain⟨e,_,rfl⟩:=Conc.mem_ofEvents hop;exact absurd hg (Nat.ne_of_lt hI.pos))
     . obtain⟨g',w',es,hstep,⟨hT,hev⟩,hG2⟩:=hgo _ hR;rw[runT_crowd_go (P:=X.P) (i:=0) h0 (show stepG X.P (0==0) _ (w.at e)=_ from hstep),sH (dS hIe h0 hrun 0)]at hst;refine Gets.step hst ?_;have hs':=hIe.split.turn F.dis hT;have hI':=hIe.step0 F (λb hb=>hIe.split.low hIe.pair.highM hT hb) hs' hev g.frame.fn g.frame.place g';exact ih A (m'+1) (sumTo (gs.setIfInBounds 0 g').size qs) (.inr ⟨rfl,.inl (by omega)⟩) l g' _ w' sl' _ qs _ S _ o1 p hA hr (.walks hG2) rfl (by simp[h0l]) hI'
         (hS.app λop hop hg=>by
           obtain⟨e,_,rfl⟩:=Conc.mem_ofEvents hop;exact absurd hg (Nat.ne_of_lt hI.pos))
 . have hil:=(Qe.1 hi).1;have hsz:=hI.size;have hq:=hI.old i x hpos (by omega) hi
   cases hqi:qs i with
   | zero=>rw[hqi]at hq;rw[hq.1]at hx;cases hx
   | succ k =>
     rw[hqi]at hq;rcases hq with⟨hf,_⟩|⟨_,g',es,hm,hstp,hq'⟩
     . rw[hf]at hx;cases hx
     have hi0:(i==0)=false:=by simp;omega
     rw[runT_crowd_go (P:=X.P) (i:=i) hi (by rw[hi0];exact hstp (w.at e)),sH (dS hIe h0 hrun i)]at hst;refine Gets.step hst ?_;have hI':=hIe.slip hpos (by omega) hm (λ_=>rfl) hq' x.frame.fn x.frame.place;have hdec:sumTo (gs.setIfInBounds i g').size (upd qs i k) < L:=by
      rw[<- hL,Array.size_setIfInBounds];exact aS hil hqi
     exact ih A K (sumTo (gs.setIfInBounds i g').size (upd qs i k)) (.inr ⟨rfl,.inr ⟨rfl,hdec⟩⟩) l g _ (w.at e) sl' _ _ M S o0 o1 p hA hr (hB.rely hR) rfl (by rw[Qg (by omega)];exact h0) hI'
       (hS.app λop hop _=>by
         obtain⟨e,he,rfl⟩:=Conc.mem_ofEvents hop;exact touch_mute (hm e he))
end Go.Lx
