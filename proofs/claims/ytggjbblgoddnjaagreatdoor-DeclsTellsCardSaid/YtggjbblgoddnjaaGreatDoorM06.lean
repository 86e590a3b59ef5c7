/- Part 6 of what the proof rests on. -/
import Derived.Conc.Beside
import Derived.Lone
import Derived.Test.YtggjbblgoddnjaaGreatDoorM05
set_option linter.unusedSimpArgs false
set_option linter.unusedVariables false
namespace Go.Lx
open Go.Conc
variable {P : Program}
def rKA(gs:Array Goroutine):Prop:=∀(j:Nat) (x:Goroutine),0 < j→gs[j]? = some x→x.status = .running∨x.status = .finished
theorem rJ{gs:Array Goroutine}(h:rKA gs)(r:Nat)(b:Bool):partners (gs.setIfInBounds 0 ph) r b=[]:=by
 refine partners_nil fun j x hx=>?_
 rcases getElem?_stand gs 0 j x hx with⟨_,rfl⟩ | ⟨hj,hx⟩
 · rfl
 · refine offersAt_of_not_blocked ?_ _ _;rcases h j x (by omega) hx with e | e<;>rw[e]<;>simp
theorem lN{gs:Array Goroutine}{g g':Goroutine}{w':World}(h:rKA gs):(gs.map (woken P g g' w')).setIfInBounds 0 g'=gs.setIfInBounds 0 g':=by
 apply Array.ext
 · simp
 · intro j h1 h2; rcases Nat.eq_zero_or_pos j with rfl | hj
   · simp
   · have hne : 0 ≠ j := by omega
     have h2':j < gs.size:=by simpa using h2
     rw[Array.getElem_setIfInBounds_ne _ hne,Array.getElem_setIfInBounds_ne _ hne,Array.getElem_map]
     · have hs := h j gs[j] hj (Array.getElem?_eq_getElem h2'); unfold woken
       split
       · exact again_running _ hs
       · rfl
     · simpa using h2'
structure OwnStep (P:Program) (g:Goroutine) (w:World) (g':Goroutine) (w':World):Prop where
 win:∃ c,w'.drawn=w.drawn+c∧w'.tape=w.tape∧∀ τ d,Agree w.tape w.drawn τ d c→step P (solo g (re w τ d)) = .next (solo g' (re w' τ (d+c)))
 beside:∀(gs:Array Goroutine) (sl:Option (Nat×Nat)),gs[0]? = some g→rKA gs →
  ∃ ops,runT P (crowd gs w sl) 0=(.next (crowd (gs.setIfInBounds 0 g') w' sl),ops)∧(∀ op∈ops,op.g=0)∧∀ t:Trace,Deaf (t++ops) 0=Deaf t 0
theorem yL(g:Goroutine):rKA #[g]:=fun j x hj hx=>by
 have:j=0:=by
  have:=(Array.getElem?_eq_some_iff.1 hx).1;simp at this;omega
 omega
theorem rVA{t:Trace}{ops:Array MemOp}(h:∀ op∈ops,mYA 0 op):Deaf (t++ops) 0=Deaf t 0:=by
 obtain⟨l⟩:=ops;rw[Deaf_append];have:∀(l:List MemOp) (d:Nat),(∀ op∈l,mYA 0 op)→l.foldl (deafStep 0) d=d:=by
  intro l
  induction l with
  | nil=>intro d _;rfl
  | cons x l ih =>
    intro d hl;have hx:=hl x (by simp);have e:deafStep 0 d x=d:=by
     obtain⟨_,_,h1,h2⟩:=hx;unfold deafStep
     split<;>first | rfl | (rename_i hq;rw[hq]at h1;exact absurd rfl h1) | (rename_i hq;rw[hq]at h2;exact absurd rfl h2) | skip
     all_goals (rename_i hq;first | exact absurd hq h1 | exact absurd hq h2)
    simp only[List.foldl_cons,e];exact ih d fun op hop=>hl op (List.mem_cons_of_mem _ hop)
 exact this l _ fun op hop=>h op (by simpa using hop)
theorem gW{t:Trace}{fn:FuncId}{pos:String}{es:Array Event}(h:Bal 0 es):Deaf (t++MemOp.ofEvents 0 fn pos es) 0=Deaf t 0:=by
 rw[Deaf_own];exact h _
theorem aM{g:Goroutine}{w:World}(hr:g.status = .running):step P (solo g w)=(runT P (crowd #[g] w none) 0).1:=by
 unfold step;rw[stepT_solo hr];rfl
theorem qL(g g':Goroutine):(#[g]:Array Goroutine).setIfInBounds 0 g'=#[g']:=rfl
theorem zL{gs:Array Goroutine}{g g₂:Goroutine}{w w1:World}{cc:Nat}{es:Array Event}{sl:Option (Nat×Nat)}(hgs:gs[0]? = some g)(hs:stepG P true g w = .coroswitch g₂ cc true w1 es) :
 runT P (crowd gs w sl) 0 = ((match w1.heap[cc]? with
   | some (.coro (some h))=>.next (crowd ((gs.setIfInBounds 0 { g₂ with status:=.finished }).modify h fun o=>{ o with status:=.running }) { w1 with heap:=w1.heap.setIfInBounds cc (.coro none) } sl)
   | some (.coro none) => match endThrow g₂.frame "coroswitch on exited coro" w1 with
     | .go x v _=>.next (crowd (gs.setIfInBounds 0 x) v sl)
     | _ => .ended (.stuck "" "") w1
   | _ => .ended (.stuck "coroswitch: no coroutine" "") w1), MemOp.ofEvents 0 g.frame.fn g.frame.place es) := by
 obtain⟨hlt,rfl⟩:=Array.getElem?_eq_some_iff.1 hgs;have hsw:=swapAt_of_lt hlt { (default:Goroutine) with status:=.finished }
 show runT P { world:=w,gs:=gs,rest:={ timers:=#[],alone:=none,slice:=sl } } 0=_
 unfold runT;simp only[hsw,hs,GStep.es,beq_self_eq_true];have hset:∀ x,(gs.set 0 { (default:Goroutine) with status:=.finished } hlt).setIfInBounds 0 x=gs.setIfInBounds 0 x:=fun x=>by
  simp[Array.setIfInBounds,hlt]
 cases hob:w1.heap[cc]? with
 | none=>rfl
 | some o =>
   cases o with
   | coro p =>
     cases p with
     | none=>simp only[hset,endThrow,dieOf];rfl
     | some k=>simp only[hset,if_true];rfl
   | _=>rfl
theorem bYA (T : Tame P) {g : Goroutine} {w : World} {m' : Machine} (hg : GOk g) (hr : g.status = .running) (h : step P (solo g w) = .next m') (hsz : m'.gs.size = 1)
    (hst:∀ x,m'.gs[0]? = some x→x.status = .running):∃ g' w',m'=solo g' w'∧GOk g'∧g'.status = .running∧OwnStep P g w g' w':=by
  rw[aM hr]at h;have G:=bCA T (main:=true) hg w;have h0:(#[g]:Array Goroutine)[0]? = some g:=rfl
  cases hs:stepG P true g w with
  | go g' w' es =>
    rcases G with G | ⟨hS,c,q1,q2,q3⟩
    · simp only[hs]at G;cases G
    · simp only [hs, SOk, gw] at hS q1 q2 q3; have e := runT_crowd_go (P := P) (sl := none) (i := 0) h0 hs; rw [e, lN (yL g), qL] at h; simp only [Stepped.next.injEq] at h; subst h; refine ⟨g', w', rfl, hS.1, hst g' rfl, ⟨c, q1, q2, fun τ d ha => ?_⟩, fun gs sl hgs ha => ?_⟩
      · have e2:stepG P true g (re w τ d) = .go g' (re w' τ (d+c)) es:=q3 τ d ha;rw[aM hr,runT_crowd_go (P:=P) (sl:=none) (i:=0) h0 e2,lN (yL g),qL];rfl
      · exact⟨_,by rw[runT_crowd_go (P:=P) (sl:=sl) (i:=0) hgs hs,lN ha],fun op hop=>by obtain⟨e,_,rfl⟩:=Conc.mem_ofEvents hop;rfl,fun t=>gW hS.2⟩
  | comm g₂ cases bl sh w1 es =>
    rcases G with G | ⟨hS,c,q1,q2,q3⟩
    · simp only[hs]at G;cases G
    · simp only [hs, SOk, gw] at hS q1 q2 q3; have e := runT_crowd_comm (P := P) (sl := none) (i := 0) h0 hs; rw [e] at h; simp only at h; generalize hx : communicate P (crowd #[g] w none).rest ((#[g] : Array Goroutine).setIfInBounds 0 ph) 0 g₂ cases bl sh w1 = x at h; obtain ⟨st, ops⟩ := x; simp only at h; subst h; obtain ⟨g', w', hm, hok, hops, c', r1, r2, r3⟩ := yFA (by rfl) (rJ (yL g)) hx; subst hm; have hrun : g'.status = .running := hst g' rfl; refine ⟨g', w', rfl, hok hS.1, hrun, ⟨c + c', by rw [r1, q1]; omega, by rw [r2, q2], fun τ d ha => ?_⟩, fun gs sl hgs haw => ?_⟩
      · have e2:stepG P true g (re w τ d) = .comm g₂ cases bl sh (re w1 τ (d+c)) es:=q3 τ d ha.left;rw[aM hr,runT_crowd_comm (P:=P) (sl:=none) (i:=0) h0 e2];have:=r3 (crowd #[g] (re w τ d) none).rest ((#[g]:Array Goroutine).setIfInBounds 0 ph) τ (d+c) rfl (rJ (yL g)) (by rw[q1,q2];exact ha.right);rw[this,Nat.add_assoc];rfl
      · have e3 := r3 (crowd gs w sl).rest (gs.setIfInBounds 0 ph) w1.tape w1.drawn rfl (rJ haw) (fun _ _ _ => rfl); have e4 : re w1 w1.tape w1.drawn = w1 := rfl; have e5 : re w' w1.tape (w1.drawn + c') = w' := by rw [← r1, ← r2]; rfl
        rw[e4,e5]at e3;refine⟨MemOp.ofEvents 0 g.frame.fn g.frame.place es++ops,by rw[runT_crowd_comm (P:=P) (sl:=sl) (i:=0) hgs hs,e3];simp only[crowd,Array.setIfInBounds_setIfInBounds],?_,fun t=>?_⟩
        · intro op hop; rcases Array.mem_append.1 hop with hop | hop
          · obtain⟨e,_,rfl⟩:=Conc.mem_ofEvents hop;rfl
          · exact(hops op hop).1
        · rw[← Array.append_assoc,rVA hops,gW hS.2]
  | spawn g₂ child w1 es =>
    exfalso;have e:(runT P (crowd #[g] w none) 0).1 = .next { world:=w1,gs:=((#[g]:Array Goroutine).setIfInBounds 0 g₂).push child,rest:=(crowd #[g] w none).rest }:=by
     simp[runT,crowd,Array.swapAt!,hs]
    rw[e]at h;simp only[Stepped.next.injEq]at h;subst h;simp at hsz
  | coroswitch g₂ cc ex w1 es =>
    rcases G with G | ⟨hS,c,q1,q2,q3⟩
    · simp only[hs]at G;cases G
    · cases ex with
      | false=>simp only[hs,SOk]at hS
      | true =>
        simp only[hs,SOk,gw]at hS q1 q2 q3;have q3':∀ τ d,Agree w.tape w.drawn τ d c→stepG P true g (re w τ d) = .coroswitch g₂ cc true (re w1 τ (d+c)) es:=q3;have e:=zL (P:=P) (sl:=none) h0 hs;rw[e]at h;simp only at h;have hops:∀ op∈MemOp.ofEvents 0 g.frame.fn g.frame.place es,op.g=0:=fun op hop=>by obtain⟨e,_,rfl⟩:=Conc.mem_ofEvents hop;rfl
        cases hob:w1.heap[cc]? with
        | none=>rw[hob]at h;cases h
        | some o =>
          rw[hob]at h;have hob':∀ τ d,(re w1 τ d).heap[cc]? = some o:=fun _ _=>hob
          cases o with
          | coro p =>
            cases p with
            | none =>
              simp only[endThrow,dieOf,Stepped.next.injEq,qL]at h;subst h;refine⟨_,w1,rfl,⟨hS.1.top,by simp,(by simp[mE])⟩,rfl,⟨c,q1,q2,fun τ d ha=>?_⟩,fun gs sl hgs haw=>⟨_,?_,hops,fun t=>gW hS.2⟩⟩
              · rw[aM hr,zL (P:=P) (sl:=none) h0 (q3' τ d ha)];simp only[hob',endThrow,dieOf,qL];rfl
              · rw[zL (P:=P) (sl:=sl) hgs hs];simp only[hob,endThrow,dieOf]
            | some k =>
              simp only[qL,Stepped.next.injEq]at h;subst h;rcases Nat.eq_zero_or_pos k with rfl | hk
              · refine ⟨{ g₂ with status := .running }, { w1 with heap := w1.heap.setIfInBounds cc (.coro none) }, rfl, ⟨hS.1.top, hS.1.below, (by simp [mE])⟩, rfl, ⟨c, q1, q2, fun τ d ha => ?_⟩, fun gs sl hgs haw => ⟨_, ?_, hops, fun t => gW hS.2⟩⟩
                · rw[aM hr,zL (P:=P) (sl:=none) h0 (q3' τ d ha)];simp only[hob',qL];rfl
                · rw [zL (P := P) (sl := sl) hgs hs]; simp only [hob]; have hlt : 0 < gs.size := (Array.getElem?_eq_some_iff.1 hgs).1; congr 3
                  rw[modify_eq_set _ 0 _ { g₂ with status:=.finished } (by simp[hlt])];simp
              · have := hst { g₂ with status := .finished } (by
                  simp only[crowd];rw[Array.getElem?_modify];simp[show k≠0 by omega])
                cases this
          | _=>cases h
  | ended o w1 es =>
    exfalso;have e:(runT P (crowd #[g] w none) 0).1 = .ended o w1:=by simp[runT,crowd,Array.swapAt!,hs]
    rw[e]at h;cases h
  | _ =>
    exfalso;rcases G with G | ⟨hS,_⟩
    · simp only[hs]at G;cases G
    · simp only[hs,SOk]at hS
variable {P : Program}
theorem zMA{x:Goroutine}{w:World}{m:Machine}(hst:mE x)(hn:x.status≠.running)(h:step P (solo x w) = .next m):m=solo x w:=by
 rcases hst with e | e | e | e
 · exact absurd e hn
 · exfalso; simp [step, stepT, move, ask, askOn, solo, runnable_eq, due, ahead, Goroutine.canRun, List.range_succ, pure, e] at h
   split at h
   · rename_i hm
     split at hm<;>cases hm
   · rename_i hm
     split at hm<;>(cases hm;cases h)
 · simp[step,stepT,move,ask,askOn,solo,runnable_eq,due,ahead,Goroutine.canRun,List.range_succ,pure,e]at h;exact h.symm
 · exfalso; simp [step, stepT, move, ask, askOn, solo, runnable_eq, due, ahead, Goroutine.canRun, List.range_succ, pure, e] at h
   split at h
   · rename_i hm
     split at hm<;>cases hm
   · rename_i hm
     split at hm<;>(cases hm;cases h)
theorem eOA{x:Goroutine}{w:World}(hst:mE x)(hn:x.status≠.running):∀(n:Nat) {m:Machine},runN P n (solo x w) = .next m→m=solo x w:=by
 intro n
 induction n with
 | zero=>intro m h;simp only[runN,Stepped.next.injEq]at h;exact h.symm
 | succ n ih =>
   intro m h;simp only[runN]at h
   cases hs:step P (solo x w) with
   | ended o v=>rw[hs]at h;cases h
   | next m' =>
     rw[hs]at h;obtain rfl:=zMA hst hn hs;exact ih h
theorem eUA(n:Nat){m m':Machine}(h:runN P n m = .next m'):m.gs.size≤m'.gs.size:=by
 have e:=runNT_fst P n m #[];generalize hx:runNT P n m #[]=x at e;obtain⟨s,t⟩:=x;simp only at e;rw[h]at e;subst e;exact runNT_size P n m m' #[] t hx
theorem eTA(T:Tame P){g:Goroutine}{w:World}{m':Machine}(hg:GOk g)(hr:g.status = .running)(h:step P (solo g w) = .next m')(hsz:m'.gs.size=1):∃ x v,m'=solo x v∧mE x:=by
 rw[aM hr]at h;have G:=bCA T (main:=true) hg w;have h0:(#[g]:Array Goroutine)[0]? = some g:=rfl
 cases hs:stepG P true g w with
 | go g' w' es =>
   rcases G with G | ⟨hS,_⟩
   · simp only[hs]at G;cases G
   · simp only[hs,SOk]at hS;rw[runT_crowd_go (P:=P) (sl:=none) (i:=0) h0 hs,lN (yL g),qL]at h;simp only[Stepped.next.injEq]at h;subst h;exact⟨g',w',rfl,hS.1.st⟩
 | comm g₂ cases bl sh w1 es =>
   rcases G with G | ⟨hS,_⟩
   · simp only[hs]at G;cases G
   · simp only[hs,SOk]at hS;rw[runT_crowd_comm (P:=P) (sl:=none) (i:=0) h0 hs]at h;simp only at h;generalize hx:communicate P (crowd #[g] w none).rest ((#[g]:Array Goroutine).setIfInBounds 0 ph) 0 g₂ cases bl sh w1=x at h;obtain⟨st,ops⟩:=x;simp only at h;subst h;obtain⟨g',w',hm,hok,_⟩:=yFA (by rfl) (rJ (yL g)) hx;subst hm;exact⟨g',w',rfl,(hok hS.1).st⟩
 | spawn g₂ child w1 es =>
   exfalso;have e:(runT P (crowd #[g] w none) 0).1 = .next { world:=w1,gs:=((#[g]:Array Goroutine).setIfInBounds 0 g₂).push child,rest:=(crowd #[g] w none).rest }:=by
    simp[runT,crowd,Array.swapAt!,hs]
   rw[e]at h;simp only[Stepped.next.injEq]at h;subst h;simp at hsz
 | coroswitch g₂ cc ex w1 es =>
   rcases G with G | ⟨hS,_⟩
   · simp only[hs]at G;cases G
   · cases ex with
     | false=>simp only[hs,SOk]at hS
     | true =>
       rw[zL (P:=P) (sl:=none) h0 hs]at h;simp only at h
       cases hob:w1.heap[cc]? with
       | none=>rw[hob]at h;cases h
       | some o =>
         rw[hob]at h
         cases o with
         | coro p =>
           cases p with
           | none =>
             simp only[endThrow,dieOf,Stepped.next.injEq,qL]at h;subst h;exact⟨_,w1,rfl,.inl rfl⟩
           | some k =>
             simp only[qL,Stepped.next.injEq]at h;subst h;rcases Nat.eq_zero_or_pos k with rfl | hk
             · exact⟨{ g₂ with status:=.running },_,rfl,.inl rfl⟩
             · refine ⟨{ g₂ with status := .finished }, { w1 with heap := w1.heap.setIfInBounds cc (.coro none) }, ?_, .inr (.inr (.inr rfl))⟩; have : (#[{ g₂ with status := GoStatus.finished }] : Array Goroutine).modify k (fun o => { o with status := .running }) = #[{ g₂ with status := .finished }] := by
                apply Array.ext
                · simp
                · intro j h1 h2; have : j = 0 := by simp at h2; omega
                  subst this;rw[Array.getElem_modify];simp[show k≠0 by omega]
               simp only[this];rfl
         | _=>cases h
 | ended o w1 es =>
   exfalso;have e:(runT P (crowd #[g] w none) 0).1 = .ended o w1:=by simp[runT,crowd,Array.swapAt!,hs]
   rw[e]at h;cases h
 | _ =>
   exfalso;rcases G with G | ⟨hS,_⟩
   · simp only[hs]at G;cases G
   · simp only[hs,SOk]at hS
theorem yU(T:Tame P){g g1:Goroutine}{w w1:World}{n:Nat}(hg:GOk g)(hr:g.status = .running)(h1:g1.status = .running)(h:runN P (n+1) (solo g w) = .next (solo g1 w1)) :
 ∃ g' w',GOk g'∧g'.status = .running∧OwnStep P g w g' w'∧step P (solo g w) = .next (solo g' w')∧runN P n (solo g' w') = .next (solo g1 w1):=by
 simp only[runN]at h
 cases hs:step P (solo g w) with
 | ended o v=>rw[hs]at h;cases h
 | next m' =>
   rw[hs]at h;simp only at h;have hle:=eUA n h;have hge:=stepT_size P (solo g w) m' true (by unfold step at hs;exact hs);have hsz:m'.gs.size=1:=by simp[solo]at hle hge;omega
   obtain⟨x,v,rfl,hx⟩:=eTA T hg hr hs hsz;have hxr:x.status = .running:=by
    by_cases hxr:x.status = .running
    · exact hxr
    · have := eOA hx hxr n h; simp only [solo, Machine.mk.injEq] at this; have e : g1 = x := by
       have:=this.2.1
       simpa using this
      rw[← e];exact h1
   obtain ⟨g', w', e, ho, hr', hown⟩ := bYA T hg hr hs hsz (fun y hy => by
     have:y=x:=by simpa [solo] using hy.symm
     rw[this];exact hxr)
   have e':x=g'∧v=w':=by
    simp only[solo,Machine.mk.injEq]at e;exact⟨by simpa using e.2.1,e.1⟩
   obtain⟨rfl,rfl⟩:=e';exact⟨x,v,ho,hr',hown,rfl,h⟩
variable {P : Program}
theorem d1A(w:World)(τ τ':Nat→Question→Nat)(d d':Nat):re (re w τ d) τ' d'=re w τ' d':=rfl
theorem f3A{w:World}{τ:Nat→Question→Nat}{d:Nat}(h1:w.tape=τ)(h2:w.drawn=d):re w τ d=w:=by subst h1 h2;rfl
theorem pNA(T:Tame P){g1:Goroutine}(h1:g1.status = .running):∀(n:Nat) (g:Goroutine) (w w1:World) (τ τ':Nat→Question→Nat) (d d':Nat),GOk g→g.status = .running →
 (∀ i q,τ' (d'+i) q=τ (d+i) q)→runN P n (solo g (re w τ d)) = .next (solo g1 w1)→∃ k,runN P n (solo g (re w τ' d')) = .next (solo g1 (re w1 τ' k)):=by
 intro n
 induction n with
 | zero =>
   intro g w w1 τ τ' d d' _ _ _ h;simp only[runN,Stepped.next.injEq,solo,Machine.mk.injEq]at h;obtain⟨rfl,e,_⟩:=h;have e:g=g1:=by simpa using e
   subst e;exact⟨d',rfl⟩
 | succ n ih =>
   intro g w w1 τ τ' d d' hg hr ht h;obtain⟨g',w',hg',hr',hown,hs,hn⟩:=yU T hg hr h1 h;obtain⟨c,q1,q2,q3⟩:=hown.win;have q1:w'.drawn=d+c:=q1;have q2:w'.tape=τ:=q2;have hstep:=q3 τ' d' (fun i _ q=>ht i q);rw[d1A]at hstep;obtain⟨k,hk⟩:=ih g' w' w1 τ τ' (d+c) (d'+c) hg' hr' (fun i q=>by rw[Nat.add_assoc,Nat.add_assoc];exact ht (c+i) q) (by rw[f3A q2 q1];exact hn);exact⟨k,by simp only[runN,hstep];exact hk⟩
def LoneOk(P:Program)(Stop:Goroutine→World→Prop)(g:Goroutine)(w:World):Prop :=
 ∀ τ d,∃ n g1 w1,runN P n (solo g (re w τ d)) = .next (solo g1 w1)∧g1.status = .running∧Stop g1 w1
def Ends(P:Program)(Stop:Goroutine→World→Prop)(g:Goroutine)(w:World):Prop :=
 ∀ X:Goroutine→World→Prop,(∀ g w,Stop g w→X g w)→(∀ g w,g.status = .running→(∀ d,∃ g' w',OwnStep P g (w.at d) g' w'∧X g' w')→X g w)→X g w
theorem Ends.stop{Stop:Goroutine→World→Prop}{g:Goroutine}{w:World}(h:Stop g w):Ends P Stop g w:=fun _ h0 _=>h0 g w h
theorem Ends.step{Stop:Goroutine→World→Prop}{g:Goroutine}{w:World}(hr:g.status = .running)(h:∀ d,∃ g' w',OwnStep P g (w.at d) g' w'∧Ends P Stop g' w'):Ends P Stop g w :=
 fun X h0 h1=>h1 g w hr fun d=>let⟨g',w',a,b⟩:=h d;⟨g',w',a,b X h0 h1⟩
section
variable {Stop : Goroutine → World → Prop}
theorem LoneOk.next(T:Tame P)(hStop:∀ g w τ d,Stop g w→Stop g (re w τ d)){g:Goroutine}{w:World}(hg:GOk g)(hr:g.status = .running)(hns:¬ Stop g w)(h:LoneOk P Stop g w)(d:Nat) :
 ∃ g' w',GOk g'∧g'.status = .running∧OwnStep P g (w.at d) g' w'∧LoneOk P Stop g' w':=by
 obtain⟨n,g1,w1,hn,h1,hs⟩:=h w.tape d
 cases n with
 | zero =>
   exfalso;simp only[runN,Stepped.next.injEq,solo,Machine.mk.injEq]at hn;obtain⟨rfl,e,_⟩:=hn;have e:g=g1:=by simpa using e
   subst e;exact hns (hStop g (re w w.tape d) w.tape w.drawn hs)
 | succ n =>
   obtain⟨g',w',hg',hr',hown,_,_⟩:=yU T hg hr h1 hn;refine⟨g',w',hg',hr',hown,fun τ' d'=>?_⟩;obtain⟨c,q1,q2,q3⟩:=hown.win
   let T0:Nat→Question→Nat:=fun i q=>if i < c then w.tape (d+i) q else τ' (d'+(i - c)) q
   obtain⟨m,g2,w2,hm,h2,hs2⟩:=h T0 0;have hag:Agree w.tape d T0 0 c:=fun i hi q=>by simp only[T0,Nat.zero_add,hi,if_true]
   have hstep:step P (solo g (re w T0 0)) = .next (solo g' (re w' T0 (0+c))):=q3 T0 0 hag;rw[Nat.zero_add]at hstep
   cases m with
   | zero =>
     exfalso;simp only[runN,Stepped.next.injEq,solo,Machine.mk.injEq]at hm;obtain⟨rfl,e,_⟩:=hm;have e:g=g2:=by simpa using e
     subst e;exact hns (hStop g (re w T0 0) w.tape w.drawn hs2)
   | succ m =>
     simp only [runN, hstep] at hm; obtain ⟨k, hk⟩ := pNA T h2 m g' w' w2 T0 τ' c d' hg' hr' (fun i q => by
       simp only[T0];rw[if_neg (by omega),show c+i - c=i by omega]) hm
     exact⟨m,g2,_,hk,h2,hStop _ _ _ _ hs2⟩
theorem path{S:Type}{R:S→S→Prop}(h:∀ s,∃ s',R s s')(s0:S):∃ f:Nat→S,f 0=s0∧∀ n,R (f n) (f (n+1)) :=
 ⟨fun n=>Nat.rec s0 (fun _ s=>Classical.choose (h s)) n,rfl,fun _=>Classical.choose_spec (h _)⟩
def kI (C : Nat → Nat) : Nat → Nat
  | 0=>0
  | n+1=>kI C n+C n
theorem kJA(C:Nat→Nat){a b:Nat}(h:a≤b):kI C a≤kI C b:=by
 induction h with
 | refl=>exact Nat.le_refl _
 | step _ ih=>exact Nat.le_trans ih (Nat.le_add_right _ _)
open Classical in
noncomputable def splice(τ:Nat→Question→Nat)(C D:Nat→Nat):Nat→Question→Nat:=fun i q =>
 if h:∃ k,kI C k≤i∧i < kI C (k+1) then τ (D (Classical.choose h)+(i - kI C (Classical.choose h))) q else 0
theorem kGA(τ:Nat→Question→Nat)(C D:Nat→Nat)(k:Nat):Agree τ (D k) (splice τ C D) (kI C k) (C k):=by
 intro i hi q;have hex:∃ k',kI C k'≤kI C k+i∧kI C k+i < kI C (k'+1):=⟨k,Nat.le_add_right _ _,by simp only[kI];omega⟩;unfold splice;rw[dif_pos hex];have hc:=Classical.choose_spec hex;have key:∀ m,kI C m≤kI C k+i→kI C k+i < kI C (m+1)→m=k:=by
  intro m h1 h2;rcases Nat.lt_trichotomy m k with h | h | h
  · have:=kJA C (show m+1≤k from h);omega
  · exact h
  · have:=kJA C (show k+1≤m from h);simp only[kI]at this;omega
 have hk:Classical.choose hex=k:=key _ hc.1 hc.2;rw[hk,Nat.add_sub_cancel_left]
theorem xGA(T:Tame P)(hStop:∀ g w τ d,Stop g w→Stop g (re w τ d)){g:Goroutine}{w:World}(hg:GOk g)(hr:g.status = .running)(h:LoneOk P Stop g w):Ends P Stop g w:=by
 apply Classical.byContradiction;intro hno
 let Bad:Goroutine×World→Prop:=fun x=>GOk x.1∧x.1.status = .running∧LoneOk P Stop x.1 x.2∧¬ Ends P Stop x.1 x.2
 let R:{ x // Bad x }→{ x // Bad x }→Prop:=fun s s'=>∃ d,OwnStep P s.1.1 (s.1.2.at d) s'.1.1 s'.1.2
 have hR:∀ s,∃ s',R s s':=by
  rintro⟨⟨a,v⟩,ha,har,hal,hae⟩;have hns:¬ Stop a v:=fun hs=>hae (Ends.stop hs)
  have:∃ d,∀ g' w',OwnStep P a (v.at d) g' w'→¬ Ends P Stop g' w':=by
   apply Classical.byContradiction;intro hc;refine hae (Ends.step har fun d=>?_);apply Classical.byContradiction;intro hd;exact hc ⟨d,fun g' w' ho he=>hd ⟨g',w',ho,he⟩⟩
  obtain⟨d,hd⟩:=this;obtain⟨g',w',hg',hr',ho,hl⟩:=LoneOk.next T hStop ha har hns hal d;exact⟨⟨(g',w'),hg',hr',hl,hd g' w' ho⟩,d,ho⟩
 obtain⟨f,hf0,hf⟩:=path hR ⟨(g,w),hg,hr,h,hno⟩;have hw:∀ n,∃ d c,(f (n+1)).1.2.tape=(f n).1.2.tape∧∀ τ p,Agree (f n).1.2.tape d τ p c→step P (solo (f n).1.1 (re (f n).1.2 τ p)) = .next (solo (f (n+1)).1.1 (re (f (n+1)).1.2 τ (p+c))):=by
  intro n;obtain⟨d,ho⟩:=hf n;obtain⟨c,_,q2,q3⟩:=ho.win;exact⟨d,c,q2,fun τ p ha=>q3 τ p ha⟩
 let D:Nat→Nat:=fun n=>Classical.choose (hw n)
 let C:Nat→Nat:=fun n=>Classical.choose (Classical.choose_spec (hw n))
 have hDC:∀ n,(f (n+1)).1.2.tape=(f n).1.2.tape∧∀ τ p,Agree (f n).1.2.tape (D n) τ p (C n)→step P (solo (f n).1.1 (re (f n).1.2 τ p)) = .next (solo (f (n+1)).1.1 (re (f (n+1)).1.2 τ (p+C n))) :=
  fun n=>Classical.choose_spec (Classical.choose_spec (hw n))
 have htape:∀ n,(f n).1.2.tape=w.tape:=by
  intro n
  induction n with
  | zero=>rw[hf0]
  | succ n ih=>rw[(hDC n).1,ih]
 let S:=splice w.tape C D
 have hrun:∀ n,runN P n (solo g (re w S 0)) = .next (solo (f n).1.1 (re (f n).1.2 S (kI C n))):=by
  intro n
  induction n with
  | zero=>rw[hf0];rfl
  | succ n ih =>
    have hs:=(hDC n).2 S (kI C n) (by rw[htape n];exact kGA w.tape C D n);rw[runN_add P n 1,ih];simp only[runN,hs];rfl
 obtain⟨n,g1,w1,hn,h1,hs⟩:=h S 0;rw[hrun n]at hn;simp only[Stepped.next.injEq,solo,Machine.mk.injEq]at hn;obtain⟨e1,e2,_⟩:=hn;have e2:(f n).1.1=g1:=by simpa using e2
 have hst:Stop (f n).1.1 (re (f n).1.2 S (kI C n)):=by rw[e1,e2];exact hs
 exact(f n).2.2.2.2 (Ends.stop (hStop (f n).1.1 (re (f n).1.2 S (kI C n)) (f n).1.2.tape (f n).1.2.drawn hst))
end
open Go.ConcN (sumTo upd sumTo_upd upd_ne upd_same)
variable {P : Program}
structure Kn (t:Trace):Prop where
 clean:∀ said,¬ Race said t
 known:∀ i a,touchAt t i=some a→a.loc.isMemory=true→Knows t 0 i
 hears:Deaf t 0=0
theorem Kn.over{t:Trace}(h:Kn t):t.HandedOver:=by
 rintro i g hg hne ⟨x,hx,hm,_⟩;obtain⟨q,z,h1,h2,h3⟩:=h.known i x hx hm;refine⟨q,by simp[Trace.g?,h1,h2],?_⟩;rcases h3 with rfl | h3
 · simp[Trace.g?,h1,h2]at hg;exact absurd hg.symm hne
 · exact h3
theorem Kn.app0{t u:Trace}(h:Kn t)(hu:∀ op∈u,op.g=0)(hd:Deaf (t++u) 0=Deaf t 0):Kn (t++u):=by
 refine⟨fun said=>noRace_append (h.clean said) hu fun i a ha op _ b _ hc=>h.known i a ha hc.2.1,fun i a ha hm=>?_,hd.trans h.hears⟩;obtain⟨x,hx,hxa⟩:=touch_of ha;rcases getElem?_append_cases hx with⟨_,hx'⟩ | ⟨_,hxu⟩
 · exact(h.known i a (by rw[touchAt_of hx'];exact hxa) hm).app u
 · have := knows_own hx
   rwa [hu x hxu]at this
theorem Kn.appMute{t u:Trace}{g:Nat}(h:Kn t)(hg:g≠0)(hu:∀ op∈u,op.g=g)(hn:∀ op∈u,op.act.touch? = none):Kn (t++u):=by
 refine⟨fun said=>noRace_append (h.clean said) hu fun i a _ op hop b hb _=>(by rw[hn op hop]at hb;cases hb),fun i a ha hm=>?_,(Deaf_other t hg u hu).trans h.hears⟩;obtain⟨x,hx,hxa⟩:=touch_of ha;rcases getElem?_append_cases hx with⟨_,hx'⟩ | ⟨_,hxu⟩
 · exact(h.known i a (by rw[touchAt_of hx'];exact hxa) hm).app u
 · rw[hn x hxu]at hxa;cases hxa
theorem n2A:Kn #[]:=by
 refine⟨fun said h=>?_,fun i a ha=>?_,rfl⟩
 · obtain⟨i,j,_,⟨a,b,ha,_⟩,_⟩:=h;simp[Trace.act?]at ha
 · simp[touchAt,Trace.act?]at ha
theorem iEA{t:Trace}{gs:Array Goroutine}{q:Nat→Nat}(hL:Leavers P t gs q):rKA gs:=fun j x hj hx=>(hL.old j x hj hx).status
theorem xHA{t u:Trace}{gs:Array Goroutine}{q:Nat→Nat}{g g':Goroutine}(h0:gs[0]? = some g)(hL:Leavers P t gs q)(hu:∀ op∈u,op.g=0):Leavers P (t++u) (gs.setIfInBounds 0 g') q:=by
 have hlt:0 < gs.size:=(Array.getElem?_eq_some_iff.1 h0).1;refine⟨fun j x hj hx=>?_,fun j hj=>?_⟩
 · rw[Array.getElem?_setIfInBounds_ne (by omega)]at hx;rw[Deaf_other t (by omega) u hu];exact hL.old j x hj hx
 · have hj : gs.size ≤ j := by simpa using hj
   rw[Deaf_other t (g:=j) (g':=0) (by omega) u hu];exact hL.above j hj
def RunsTo(P:Program)(Stop:Goroutine→World→Prop)(gs:Array Goroutine)(w:World)(sl:Option (Nat×Nat))(t:Trace):Prop :=
 ∃(N:Nat) (gs':Array Goroutine) (g':Goroutine) (w':World) (sl':Option (Nat×Nat)) (t':Trace) (q':Nat→Nat),
  runNT P N (crowd gs w sl) t=(.next (crowd gs' w' sl'),t')∧gs'.size=gs.size∧gs'[0]? = some g'∧Stop g' w'∧Leavers P t' gs' q'∧Kn t'
theorem beside_step {Stop : Goroutine → World → Prop} {g : Goroutine} {w : World} (hrun : g.status = .running)
    (hstep:∀ d,∃ g' w',OwnStep P g (w.at d) g' w'∧∀ gs sl t q,gs[0]? = some g'→Leavers P t gs q→Kn t→RunsTo P Stop gs w' sl t) :
    ∀(M e:Nat) (gs:Array Goroutine) (sl:Option (Nat×Nat)) (t:Trace) (q:Nat→Nat),sumTo gs.size q≤M→gs[0]? = some g→Leavers P t gs q→Kn t→RunsTo P Stop gs (w.at e) sl t:=by
  intro M
  induction M using Nat.strongRecOn with
  | ind M ih =>
  intro e gs sl t q hM h0 hL hK;have hlt0:0 < gs.size:=(Array.getElem?_eq_some_iff.1 h0).1;have haw:∀ x∈gs,awake x:=by
   intro x hx;obtain⟨i,hi,rfl⟩:=Array.mem_iff_getElem.1 hx;rcases Nat.eq_zero_or_pos i with rfl | hpos
   · have : gs[0] = g := by simpa [Array.getElem?_eq_getElem hi] using h0
     rw[this];exact awake_of (.inl hrun)
   · exact awake_of ((hL.old i _ hpos (Array.getElem?_eq_getElem hi)).status.elim .inl fun x=>.inr (.inr x))
  obtain⟨i,x,d,sl',hi,hx,hst⟩:=crowd_pick (P:=P) (w:=w.at e) (sl:=sl) haw ⟨0,g,h0,hrun⟩;have hat:(w.at e).at d=w.at d:=rfl;rw[hat]at hst;rcases Nat.eq_zero_or_pos i with rfl | hpos
  · -- goroutine 0 takes a step
    obtain⟨g',w',hown,hX⟩:=hstep d;obtain⟨ops,hrT,hops,hdeaf⟩:=hown.beside gs sl' h0 (iEA hL);obtain⟨N,gs',a',w2,sl2,t',q',hr,hs',h0',hS,hL',hK'⟩:=hX (gs.setIfInBounds 0 g') sl' (t++ops) q (by simp[hlt0]) (xHA h0 hL hops) (hK.app0 hops (hdeaf t));exact⟨N+1,gs',a',w2,sl2,t',q',by simp only[runNT,hst,hrT];exact hr,hs'.trans (by simp),h0',hS,hL',hK'⟩
  · -- a leaver slips
    have hq:=hL.old i x hpos hi;have hi0:(i==0)=false:=by simp;omega
    have hlt:i < gs.size:=(Array.getElem?_eq_some_iff.1 hi).1
    cases hqi:q i with
    | zero=>rw[hqi]at hq;rw[hq.1]at hx;cases hx
    | succ k =>
      rw[hqi]at hq;rcases hq with⟨hf,_⟩ | ⟨_,g',es,hm,hstp,hq'⟩
      · rw[hf]at hx;cases hx
      have hrunT:=runT_crowd_go (P:=P) (sl:=sl') (i:=i) hi (by rw[hi0];exact hstp (w.at d));have hsz:((gs.map (woken P x g' (w.at d))).setIfInBounds i g').size=gs.size:=by simp
      have hsum:sumTo gs.size (upd q i k)+(k+1)=sumTo gs.size q+k:=by
       have:=sumTo_upd q k id hlt
       simpa [hqi] using this
      obtain ⟨N, gs', a'', w'', sl'', t', q', hr, hs', h0', hS, hL', hK'⟩ := ih (sumTo gs.size (upd q i k)) (by omega) d ((gs.map (woken P x g' (w.at d))).setIfInBounds i g') sl' (t ++ MemOp.ofEvents i x.frame.fn x.frame.place es) (upd q i k) (by rw [hsz]; exact Nat.le_refl _)
        (by
          have hne:i≠0:=by omega
          rw[Array.getElem?_setIfInBounds_ne hne,Array.getElem?_map,h0];simp[woken_run hrun])
        ⟨fun j y hj hy => by
          by_cases hji:i=j
          · subst hji;rw[Array.getElem?_setIfInBounds_self_of_lt (by simpa using hlt)]at hy;obtain rfl:=Option.some.inj hy;rw[upd_same,Deaf_own];exact hq'
          · rw[Array.getElem?_setIfInBounds_ne hji,Array.getElem?_map]at hy;obtain⟨z,hz,rfl⟩:=Option.map_eq_some_iff.1 hy;have hqj:=hL.old j z hj hz;rw[woken_quitsD hqj,upd_ne q k (Ne.symm hji),Deaf_other t hji _ (fun op hop=>by obtain⟨e,_,rfl⟩:=Conc.mem_ofEvents hop;rfl)];exact hqj,fun j hj=>by
          rw[Deaf_other t (g':=i) (by simp at hj;omega) _ (fun op hop=>by obtain⟨e,_,rfl⟩:=Conc.mem_ofEvents hop;rfl)];exact hL.above j (by simpa using hj)⟩
        (hK.appMute (g:=i) (by omega) (fun op hop=>by obtain⟨e,_,rfl⟩:=Conc.mem_ofEvents hop;rfl) (fun op hop=>by obtain⟨e,he,rfl⟩:=Conc.mem_ofEvents hop;exact touch_mute (hm e he)))
      exact⟨N+1,gs',a'',w'',sl'',t',q',by simp only[runNT,hst,hrunT];exact hr,hs'.trans hsz,h0',hS,hL',hK'⟩
theorem beside {Stop : Goroutine → World → Prop} {g : Goroutine} {w : World} (h : Ends P Stop g w) {gs : Array Goroutine} {sl : Option (Nat × Nat)} {t : Trace} {q : Nat → Nat}
    (h0:gs[0]? = some g) (hL:Leavers P t gs q) (hK:Kn t):RunsTo P Stop gs w sl t:=by
  refine h (fun g w=>∀ gs sl t q,gs[0]? = some g→Leavers P t gs q→Kn t→RunsTo P Stop gs w sl t) ?_ ?_ gs sl t q h0 hL hK
  · intro g w hs gs sl t q h0 hL hK;exact⟨0,gs,g,w,sl,t,q,rfl,rfl,h0,hs,hL,hK⟩
  · intro g w hr hst gs sl t q h0 hL hK;have:=beside_step hr hst (sumTo gs.size q) w.drawn gs sl t q (Nat.le_refl _) h0 hL hK;exact this
end Go.Lx
