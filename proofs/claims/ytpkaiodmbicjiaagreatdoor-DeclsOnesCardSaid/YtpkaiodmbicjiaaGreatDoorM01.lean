/- Part 1 of what the proof rests on. -/
import GoSem.ClaimLeaving
import Derived.Laws.Sem
import Derived.Test.YtpkaiodmbicjiaaGreatDoorM00
set_option linter.unusedSimpArgs false
set_option linter.unusedVariables false
set_option maxHeartbeats 4000000
namespace Go.Lx
def re(w:World)(τ:Nat->Question->Nat)(d:Nat):World:={ w with tape:=τ,drawn:=d }
def Agree(τ:Nat->Question->Nat)(d:Nat)(τ':Nat->Question->Nat)(d' c:Nat):Prop:=∀ i,i < c->∀ q,τ' (d'+i) q=τ (d+i) q
theorem Agree.head{τ τ':Nat->Question->Nat}{d d' c:Nat}(h:Agree τ d τ' d' (1+c))(q:Question):τ' d' q=τ d q:=by simpa using h 0 (by omega) q
theorem Agree.tail{τ τ':Nat->Question->Nat}{d d' c:Nat}(h:Agree τ d τ' d' (1+c)):Agree τ (d+1) τ' (d'+1) c:=λi hi q=>by
 have:=h (1+i) (by omega) q
 rwa [<- Nat.add_assoc,<- Nat.add_assoc]at this
theorem Agree.left{τ τ':Nat->Question->Nat}{d d' a b:Nat}(h:Agree τ d τ' d' (a+b)):Agree τ d τ' d' a:=λi hi q=>h i (by omega) q
theorem Agree.right{τ τ':Nat->Question->Nat}{d d' a b:Nat}(h:Agree τ d τ' d' (a+b)):Agree τ (d+a) τ' (d'+a) b:=λi hi q=>by
 have:=h (a+i) (by omega) q
 rwa [<- Nat.add_assoc,<- Nat.add_assoc]at this
def reR{α:Type}(r:Result α)(τ:Nat->Question->Nat)(d:Nat):Result α :=
 match r with
 | .ok a w=>.ok a (re w τ d)
 | .halt h w=>.halt h (re w τ d)
def wOf{α:Type}:Result α->World
  | .ok _ w=>w
  | .halt _ w=>w
theorem n4A{α:Type}(a:Ask α):∀(w:World),∃ c,(w.ask a).2.drawn=w.drawn+c/\(w.ask a).2.tape=w.tape /\
 ∀ τ d,Agree w.tape w.drawn τ d c->(re w τ d).ask a=((w.ask a).1,re (w.ask a).2 τ (d+c)):=by
 induction a with
 | done a=>exact λw=>⟨0,rfl,rfl,λτ d _=>rfl⟩
 | ask what range k ih =>
   intro w;by_cases hf:(Question.extern what range).forced=true
   . obtain⟨c,h1,h2,h3⟩:=ih 0 w;refine⟨c,?_,?_,λτ d ha=>?_⟩
     . simpa only[World.ask,hf,if_true] using h1
     . simpa only[World.ask,hf,if_true] using h2
     . simpa only[World.ask,hf,if_true] using h3 τ d ha
   . simp only[Bool.not_eq_true]at hf;obtain⟨c,h1,h2,h3⟩:=ih ((Question.extern what range).cut (w.tape w.drawn (Question.extern what range))) { w with drawn:=w.drawn+1 };refine⟨1+c,?_,?_,λτ d ha=>?_⟩
     . simp only[World.ask,hf,Qs,if_false];rw[h1];show w.drawn+1+c=_;omega
     . simp only[World.ask,hf,Qs,if_false];exact h2
     . have e:=ha.head (Question.extern what range);have:=h3 τ (d+1) ha.tail;simp only[World.ask,hf,Qs,if_false];rw[show(re w τ d).tape (re w τ d).drawn (Question.extern what range)=w.tape w.drawn (Question.extern what range) from e];rw[show({ re w τ d with drawn:=(re w τ d).drawn+1 }:World)=re { w with drawn:=w.drawn+1 } τ (d+1) from rfl];rw[this,Nat.add_assoc]
theorem o5A(cl:Sys)(w:World):(w.sys cl).1 = .wouldBlock∨∃ c,(w.sys cl).2.drawn=w.drawn+c/\(w.sys cl).2.tape=w.tape /\
 ∀ τ d,Agree w.tape w.drawn τ d c->(re w τ d).sys cl=((w.sys cl).1,re (w.sys cl).2 τ (d+c)):=by
 obtain⟨c,h1,h2,h3⟩:=n4A (Kernel.perform cl w.os) w;generalize ha:w.ask (Kernel.perform cl w.os)=x at h1 h2 h3;obtain⟨⟨r,os⟩,w'⟩:=x;by_cases hr:r = .wouldBlock
 . subst hr
   left
   simp only[World.sys,ha]
 . right
   have e:∀(v:World),v.ask (Kernel.perform cl v.os)=((r,os),w')->v.sys cl=(r,{ w' with os }):=by
    intro v hv;simp only[World.sys,hv]
   refine⟨c,?_,?_,λτ d hag=>?_⟩
   . rw[e w ha];exact h1
   . rw[e w ha];exact h2
   . have h:=h3 τ d hag;rw[e w ha];simp only[World.sys];rw[show(re w τ d).os=w.os from rfl,h]
     split
     . rename_i h';simp only[Prod.mk.injEq]at h';exact absurd h'.1.1 hr
     . rename_i h';simp only[Prod.mk.injEq]at h';obtain⟨⟨rfl,rfl⟩,rfl⟩:=h';rfl
def kX:Halt->Prop
  | .blocked|.waiting|.stuck _|.unsupported _=>True
  | _=>False
def calm:Halt->Prop
  | .fatal _=>False
  | _=>True
def dead:Halt->Prop
  | .stuck _|.unsupported (.noEntry _)=>True
  | _=>False
def Safe(P:Program){α:Type}(φ:α->Prop):Nat->Sem α->Prop
  | d,.pure a=>d=0/\φ a
  | d,.load _ _ k=>∀ v,Safe P φ d (k v)
  | d,.store _ _ _ k=>Safe P φ d k
  | d,.new _ k=>∀ r,Safe P φ d (k r)
  | d,.shape _ k=>∀ s,Safe P φ d (k s)
  | d,.freeze _ _ k=>Safe P φ d k
  | d,.frozen _ k=>∀ b,Safe P φ d (k b)
  | d,.getObj _ k=>∀ o,Safe P φ d (k o)
  | d,.setObj _ _ k=>Safe P φ d k
  | d,.choose _ k=>∀ n,Safe P φ d (k n)
  | d,.sys _ k=>(∃ h,dead h/\k .wouldBlock = .halt h)/\∀ r,Safe P φ d (k r)
  | d,.program k=>Safe P φ d (k P)
  | d, .mark m k => match m with
    | .disable=>Safe P φ (d+1) k
    | .enable=>0 < d/\Safe P φ (d - 1) k
    | _=>Safe P φ d k
  | d,.halt h=>calm h/\(d=0∨kX h)
def eJA(P:Program){α:Type}(s:Sem α)(w:World)(es:Array Event):Prop :=
 ∃ c,(wOf (s.runT P w es).1).drawn=w.drawn+c/\(wOf (s.runT P w es).1).tape=w.tape /\
  ∀ τ d,Agree w.tape w.drawn τ d c->s.runT P (re w τ d) es=(reR (s.runT P w es).1 τ (d+c),(s.runT P w es).2)
def yX{α:Type}(r:Result α):Prop:=∃ h w',dead h/\r = .halt h w'
theorem cEA(P:Program)(w:World)(τ:Nat->Question->Nat)(d:Nat)(a:Addr)(b:Bool):(re w τ d).farLoad P a b=w.farLoad P a b:=rfl
theorem cJA(P:Program)(w:World)(τ:Nat->Question->Nat)(d:Nat)(at_:Addr)(u:TypeId)(a:Addr)(v:Value)(b:Bool) :
 (re w τ d).viewStore P at_ u a v b=(w.viewStore P at_ u a v b).map λx=>(re x.1 τ d,x.2):=by
 unfold World.viewStore;rw[show(re w τ d).seen P at_ u a b=w.seen P at_ u a b from rfl];simp only[bind,Except.bind,pure,Except.pure]
 repeat' (first|rfl|split)
theorem uT(P:Program)(w:World)(τ:Nat->Question->Nat)(d:Nat)(a:Addr)(v:Value)(b:Bool) :
 (re w τ d).farStore P a v b=(w.farStore P a v b).map λx=>(re x.1 τ d,x.2):=by
 unfold World.farStore;rw[show(re w τ d).heap=w.heap from rfl]
 cases w.heap[a.block]? with
 | none=>rfl
 | some o =>
   cases o with
   | view at_ u =>
     simp only[cJA]
     cases w.viewStore P at_ u a v b<;>rfl
   | _=>rfl
theorem uGA{P:Program}{w w':World}{a:Addr}{v:Value}{b:Bool}{t:List Addr}(h:w.farStore P a v b = .ok (w',t)):w'.drawn=w.drawn/\w'.tape=w.tape:=by
 have e:=uT P w w.tape w.drawn a v b;rw[show re w w.tape w.drawn=w from rfl,h]at e;simp only[Except.map,Except.ok.injEq,Prod.mk.injEq]at e;have:=e.1;exact⟨by rw[this];rfl,by rw[this];rfl⟩
theorem m1A{P:Program}{α:Type}{φ:α->Prop}(s:Sem α):∀(d:Nat),Safe P φ d s->∀(w:World) (es:Array Event),yX (s.runT P w es).1∨eJA P s w es:=by
 induction s with
 | pure a=>exact λ_ _ w es=>.inr ⟨0,rfl,rfl,λτ d _=>rfl⟩
 | halt h=>exact λ_ _ w es=>.inr ⟨0,rfl,rfl,λτ d _=>rfl⟩
 | load m a k ih =>
   intro d hs w es
   cases hc:w.cell? a with
   | some v =>
     have e:∀ τ d,(re w τ d).cell? a=some v:=λ_ _=>hc
     have:=ih v d (hs v) w (es.push ⟨.cell a,false,m == .atomic⟩)
     simpa only[eJA,Sem.runT,hc,e] using this
   | none =>
     have e:∀ τ d,(re w τ d).cell? a=none:=λ_ _=>hc
     cases hf:w.farLoad P a (m == .atomic) with
     | ok x =>
       obtain⟨v,t⟩:=x;have:=ih v d (hs v) w (es++t.toArray.map (⟨.cell ·,false,m == .atomic⟩))
       simpa only[eJA,Sem.runT,hc,e,cEA,hf] using this
     | error h =>
       right
       exact⟨0,by simp only[Sem.runT,hc,hf];rfl,by simp only[Sem.runT,hc,hf];rfl,λτ d _=>by simp only[Sem.runT,hc,e,cEA,hf];rfl⟩
 | store m a v k ih =>
   intro d hs w es;by_cases hv:(∃ x,v = .agg x)∨∃ x,v = .tuple x
   . right
     rcases hv with⟨x,rfl⟩|⟨x,rfl⟩<;>exact⟨0,rfl,rfl,λτ d _=>rfl⟩
   . have e0:∀(w:World),(Sem.store m a v k).runT P w es=match w.cell? a with
         | some _ =>
           if w.frozen? a then (.halt (.unsupported (.unsafePointer "a write to bytes that a string shares")) w, es)
           else k.runT P (w.setCell a v) (es.push ⟨.cell a,true,m == .atomic⟩)
         | none => match w.farStore P a v (m == .atomic) with
           | .ok (w,touched)=>k.runT P w (es++touched.toArray.map (⟨.cell ·,true,m == .atomic⟩))
           | .error h=>(.halt h w,es):=by
       intro w
       cases v<;>first|rfl|exact absurd (.inl ⟨_,rfl⟩) hv|exact absurd (.inr ⟨_,rfl⟩) hv
     cases hc:w.cell? a with
     | some x =>
       have e:∀ τ d,(re w τ d).cell? a=some x:=λ_ _=>hc
       cases hz:w.frozen? a with
       | true =>
         have ez:∀ τ d,(re w τ d).frozen? a=true:=λ_ _=>hz
         right
         exact⟨0,by simp only[e0,hc,hz,if_true];rfl,by simp only[e0,hc,hz,if_true];rfl,λτ d _=>by simp only[e0,hc,e,hz,ez,if_true];rfl⟩
       | false =>
         have ez:∀ τ d,(re w τ d).frozen? a=false:=λ_ _=>hz
         have:=ih d hs (w.setCell a v) (es.push ⟨.cell a,true,m == .atomic⟩);simp only[eJA,e0,hc,e,hz,ez,Qs,if_false];exact this
     | none =>
       have e:∀ τ d,(re w τ d).cell? a=none:=λ_ _=>hc
       cases hf:w.farStore P a v (m == .atomic) with
       | ok x =>
         obtain⟨w',t⟩:=x;have ef:∀ τ d,(re w τ d).farStore P a v (m == .atomic) = .ok (re w' τ d,t):=λτ d=>by rw[uT,hf];rfl
         obtain⟨q1,q2⟩:=uGA hf;have:=ih d hs w' (es++t.toArray.map (⟨.cell ·,true,m == .atomic⟩));simp only[eJA,e0,hc,e,hf,ef]at this ⊢;rw[q1,q2]at this;exact this
       | error h =>
         have ef:∀ τ d,(re w τ d).farStore P a v (m == .atomic) = .error h:=λτ d=>by rw[uT,hf];rfl
         right
         exact⟨0,by simp only[e0,hc,hf];rfl,by simp only[e0,hc,hf];rfl,λτ d _=>by simp only[e0,hc,e,hf,ef];rfl⟩
 | new o k ih => 
   intro d hs w es;exact ih w.heap.size d (hs _) { w with heap:=w.heap.push o } es
 | shape r k ih=>intro d hs w es;exact ih (w.shape? r) d (hs _) w es
 | freeze a n k ih => 
   intro d hs w es;have:=ih d hs (w.freeze a n) es;have e:∀ τ d,(re w τ d).freeze a n=re (w.freeze a n) τ d:=λτ d=>by unfold World.freeze;split<;>rfl
   have e1:(w.freeze a n).drawn=w.drawn:=by unfold World.freeze;split<;>rfl
   have e2:(w.freeze a n).tape=w.tape:=by unfold World.freeze;split<;>rfl
   simp only[eJA,Sem.runT,e]at this ⊢;rw[e1,e2]at this;exact this
 | frozen a k ih=>intro d hs w es;exact ih (w.frozen? a) d (hs _) w es
 | getObj r k ih =>
   intro d hs w es
   cases hr:w.heap[r]? with
   | none =>
     have e:∀ τ d,(re w τ d).heap[r]? = none:=λ_ _=>hr
     right
     exact⟨0,by simp only[Sem.runT,hr];rfl,by simp only[Sem.runT,hr];rfl,λτ d _=>by simp only[Sem.runT,hr,e];rfl⟩
   | some o =>
     have e:∀ τ d,(re w τ d).heap[r]? = some o:=λ_ _=>hr
     by_cases hc:∃ c e f,o = .cells c e f
     . obtain⟨c,e',f,rfl⟩:=hc
       right
       exact⟨0,by simp only[Sem.runT,hr];rfl,by simp only[Sem.runT,hr];rfl,λτ d _=>by simp only[Sem.runT,hr,e];rfl⟩
     . have:=ih o d (hs o) w (es.push ⟨.obj r,false,o.isChan⟩);have e0:∀(w:World),w.heap[r]? = some o->(Sem.getObj r k).runT P w es=(k o).runT P w (es.push ⟨.obj r,false,o.isChan⟩):=by
        intro w hw;simp only[Sem.runT,hw]
        cases o<;>first|rfl|exact absurd ⟨_,_,_,rfl⟩ hc
       simp only[eJA,e0 w hr,e0 _ (e _ _)];exact this
 | setObj r o k ih =>
   intro d hs w es
   cases hr:w.heap[r]? with
   | none =>
     have e:∀ τ d,(re w τ d).heap[r]? = none:=λ_ _=>hr
     right
     exact⟨0,by simp only[Sem.runT,hr];rfl,by simp only[Sem.runT,hr];rfl,λτ d _=>by simp only[Sem.runT,hr,e];rfl⟩
   | some o' =>
     have e:∀ τ d,(re w τ d).heap[r]? = some o':=λ_ _=>hr
     by_cases hc:∃ c e f,o' = .cells c e f
     . obtain⟨c,e',f,rfl⟩:=hc
       right
       exact⟨0,by simp only[Sem.runT,hr];rfl,by simp only[Sem.runT,hr];rfl,λτ d _=>by simp only[Sem.runT,hr,e];rfl⟩
     . have:=ih d hs { w with heap:=w.heap.setIfInBounds r o } (es.push ⟨.obj r,true,o.isChan⟩);have e0:∀(w:World),w.heap[r]? = some o'->(Sem.setObj r o k).runT P w es=k.runT P { w with heap:=w.heap.setIfInBounds r o } (es.push ⟨.obj r,true,o.isChan⟩):=by
        intro w hw;simp only[Sem.runT,hw]
        cases o'<;>first|rfl|exact absurd ⟨_,_,_,rfl⟩ hc
       simp only[eJA,e0 w hr,e0 _ (e _ _)];exact this
 | choose q k ih =>
   intro d hs w es;by_cases hf:q.forced=true
   . have:=ih 0 d (hs 0) w es
     simpa only[eJA,Sem.runT,hf,if_true] using this
   . simp only[Bool.not_eq_true]at hf;rcases ih (q.cut (w.tape w.drawn q)) d (hs _) { w with drawn:=w.drawn+1 } es with h|⟨c,h1,h2,h3⟩
     . left
       simpa only[Sem.runT,hf,Qs,if_false] using h
     . right
       refine⟨1+c,?_,?_,λτ d ha=>?_⟩
       . simp only[Sem.runT,hf,Qs,if_false];rw[h1];show w.drawn+1+c=_;omega
       . simp only[Sem.runT,hf,Qs,if_false];exact h2
       . have e:=ha.head q;have:=h3 τ (d+1) ha.tail;simp only[Sem.runT,hf,Qs,if_false];rw[show(re w τ d).tape (re w τ d).drawn q=w.tape w.drawn q from e];rw[show({ re w τ d with drawn:=(re w τ d).drawn+1 }:World)=re { w with drawn:=w.drawn+1 } τ (d+1) from rfl];rw[this,Nat.add_assoc]
 | sys c k ih =>
   intro d hs w es;obtain⟨⟨x,hd,hx⟩,hk⟩:=hs;rcases o5A c w with hb|⟨n,h1,h2,h3⟩
   . left
     refine⟨x,(w.sys c).2,hd,?_⟩;simp only[Sem.runT];rw[hb,hx];rfl
   . rcases ih (w.sys c).1 d (hk _) (w.sys c).2 (es.push ⟨.output,true,false⟩) with h|⟨n',g1,g2,g3⟩
     . left;simpa only[Sem.runT] using h
     . right
       refine⟨n+n',?_,?_,λτ d ha=>?_⟩
       . simp only[Sem.runT];rw[g1,h1];omega
       . simp only[Sem.runT];rw[g2,h2]
       . simp only[Sem.runT];rw[h3 τ d ha.left];have:=g3 τ (d+n) (by rw[h1,h2];exact ha.right);rw[this,Nat.add_assoc]
 | program k ih=>intro d hs w es;exact ih P d hs w es
 | mark m k ih =>
   intro d hs w es;have:∃ d',Safe P φ d' k:=by
    cases m with
    | disable=>exact⟨_,hs⟩
    | enable=>exact⟨_,hs.2⟩
    | _=>exact⟨_,hs⟩
   obtain⟨d',h'⟩:=this;exact ih d' h' w (es.push ⟨.mark m,false,true⟩)
def vCA(d:Nat)(e:Event):Nat:=match e.loc with|.mark .disable=>d+1|.mark .enable=>d - 1|_=>d
theorem tJ(d:Nat)(es:Array Event):deafBehind d es=es.toList.foldl vCA d:=by
 unfold deafBehind;rw[<- Array.foldl_toList];rfl
theorem fF(d:Nat)(a b:Array Event):deafBehind d (a++b)=deafBehind (deafBehind d a) b:=by
 simp only[tJ,Array.toList_append,List.foldl_append]
theorem uQ{d:Nat}{es:Array Event}(h:∀ e∈es,∀ m,e.loc≠.mark m):deafBehind d es=d:=by
 rw[tJ];obtain⟨l⟩:=es
 induction l generalizing d with
 | nil=>rfl
 | cons e l ih =>
   have h1:vCA d e=d:=by
    have:=h e (by simp);unfold vCA
    split<;>first|rfl|(rename_i hl;exact absurd hl (this _))
   simp only[List.foldl_cons,h1];exact ih λx hx=>h x (by simp at hx ⊢;exact .inr hx)
def Bal(d:Nat)(new:Array Event):Prop:=∀ x,deafBehind (x+d) new=x
def BalR{α:Type}(φ:α->Prop)(d:Nat)(new:Array Event):Result α->Prop
  | .ok a _=>φ a/\Bal d new
  | .halt h _=>calm h/\(kX h∨Bal d new)
theorem Bal.cons{d:Nat}{pre new:Array Event}(h:Bal d new)(hp:∀ e∈pre,∀ m,e.loc≠.mark m):Bal d (pre++new):=λx=>by
 rw[fF,uQ hp];exact h x
theorem BalR.cons{α:Type}{φ:α->Prop}{d:Nat}{pre new:Array Event}{r:Result α}(h:BalR φ d new r)(hp:∀ e∈pre,∀ m,e.loc≠.mark m):BalR φ d (pre++new) r:=by
 cases r with
 | ok a w=>exact⟨h.1,h.2.cons hp⟩
 | halt x w=>exact⟨h.1,h.2.imp id λb=>b.cons hp⟩
theorem gP{α:Type}{φ:α->Prop}{d:Nat}{es pre:Array Event}{x:Result α×Array Event}(h:∃ new,x.2=(es++pre)++new/\BalR φ d new x.1)(hp:∀ e∈pre,∀ m,e.loc≠.mark m) :
 ∃ new,x.2=es++new/\BalR φ d new x.1:=by
 obtain⟨new,h1,h2⟩:=h;exact⟨pre++new,by rw[h1,Array.append_assoc],h2.cons hp⟩
theorem pJA{P:Program}{w:World}{a:Addr}{b:Bool}{h:Halt}(e:w.farLoad P a b = .error h):kX h:=by
 unfold World.farLoad World.noCell at e
 repeat' (split at e<;>first|(cases e;done)|(cases e;trivial)|skip)
theorem sGA{P:Program}{w:World}{a:Addr}{v:Value}{b:Bool}{h:Halt}(e:w.farStore P a v b = .error h):kX h:=by
 unfold World.farStore World.noCell at e
 repeat' (split at e<;>first|(cases e;done)|(cases e;trivial)|skip)
theorem tO(es:Array Event)(e:Event):es.push e=es++#[e]:=by simp
theorem sP{α:Type}{φ:α->Prop}{d:Nat}{es:Array Event}{h:Halt}{w:World}(hh:kX h):∃ new,(Result.halt (α:=α) h w,es).2=es++new/\BalR φ d new (Result.halt (α:=α) h w,es).1 :=
 ⟨#[],by simp,(by cases h<;>first|trivial|exact absurd hh id),.inl hh⟩
theorem lZA{P:Program}{α:Type}{φ:α->Prop}(s:Sem α):∀(d:Nat),Safe P φ d s->∀(w:World) (es:Array Event),
 ∃ new,(s.runT P w es).2=es++new/\BalR φ d new (s.runT P w es).1:=by
 induction s with
 | pure a =>
   rintro d ⟨rfl,ha⟩ w es;exact⟨#[],by simp[Sem.runT],ha,λx=>rfl⟩
 | halt h =>
   intro d hs w es;refine⟨#[],by simp[Sem.runT],?_⟩;obtain⟨hq,hs⟩:=hs;rcases hs with rfl|hs
   . exact⟨hq,.inr λx=>rfl⟩
   . exact⟨hq,.inl hs⟩
 | load m a k ih =>
   intro d hs w es
   cases hc:w.cell? a with
   | some v =>
     have:=ih v d (hs v) w (es.push ⟨.cell a,false,m == .atomic⟩);simp only[Sem.runT,hc];rw[tO]at this ⊢;exact gP this (by simp)
   | none =>
     cases hf:w.farLoad P a (m == .atomic) with
     | ok x =>
       obtain⟨v,t⟩:=x;have:=ih v d (hs v) w (es++t.toArray.map (⟨.cell ·,false,m == .atomic⟩));simp only[Sem.runT,hc,hf];exact gP this (by intro e he m;simp at he;obtain⟨_,_,rfl⟩:=he;simp)
     | error h =>
       simp only[Sem.runT,hc,hf];exact sP (pJA hf)
 | store m a v k ih =>
   intro d hs w es;by_cases hv:(∃ x,v = .agg x)∨∃ x,v = .tuple x
   . rcases hv with⟨x,rfl⟩|⟨x,rfl⟩<;>exact sP trivial
   . have e0:∀(w:World),(Sem.store m a v k).runT P w es=match w.cell? a with
         | some _ =>
           if w.frozen? a then (.halt (.unsupported (.unsafePointer "a write to bytes that a string shares")) w, es)
           else k.runT P (w.setCell a v) (es.push ⟨.cell a,true,m == .atomic⟩)
         | none => match w.farStore P a v (m == .atomic) with
           | .ok (w,touched)=>k.runT P w (es++touched.toArray.map (⟨.cell ·,true,m == .atomic⟩))
           | .error h=>(.halt h w,es):=by
       intro w
       cases v<;>first|rfl|exact absurd (.inl ⟨_,rfl⟩) hv|exact absurd (.inr ⟨_,rfl⟩) hv
     rw[e0]
     cases hc:w.cell? a with
     | some x =>
       simp only
       split
       . exact sP trivial
       . have:=ih d hs (w.setCell a v) (es.push ⟨.cell a,true,m == .atomic⟩);rw[tO]at this ⊢;exact gP this (by simp)
     | none =>
       cases hf:w.farStore P a v (m == .atomic) with
       | ok x =>
         obtain⟨w',t⟩:=x;exact gP (ih d hs w' (es++t.toArray.map (⟨.cell ·,true,m == .atomic⟩))) (by intro e he m;simp at he;obtain⟨_,_,rfl⟩:=he;simp)
       | error h=>exact sP (sGA hf)
 | new o k ih=>intro d hs w es;exact ih w.heap.size d (hs _) { w with heap:=w.heap.push o } es
 | shape r k ih=>intro d hs w es;exact ih (w.shape? r) d (hs _) w es
 | freeze a n k ih=>intro d hs w es;exact ih d hs (w.freeze a n) es
 | frozen a k ih=>intro d hs w es;exact ih (w.frozen? a) d (hs _) w es
 | getObj r k ih =>
   intro d hs w es;simp only[Sem.runT]
   split
   . exact sP trivial
   . rename_i o _ _;have:=ih o d (hs o) w (es.push ⟨.obj r,false,o.isChan⟩);rw[tO]at this ⊢;exact gP this (by simp)
   . exact sP trivial
 | setObj r o k ih =>
   intro d hs w es;simp only[Sem.runT]
   split
   . exact sP trivial
   . have:=ih d hs { w with heap:=w.heap.setIfInBounds r o } (es.push ⟨.obj r,true,o.isChan⟩);rw[tO]at this ⊢;exact gP this (by simp)
   . exact sP trivial
 | choose q k ih =>
   intro d hs w es;simp only[Sem.runT]
   split
   . exact ih 0 d (hs 0) w es
   . exact ih _ d (hs _) _ es
 | sys c k ih =>
   intro d hs w es;have:=ih (w.sys c).1 d (hs.2 _) (w.sys c).2 (es.push ⟨.output,true,false⟩);simp only[Sem.runT];rw[tO]at this ⊢;exact gP this (by simp)
 | program k ih=>intro d hs w es;exact ih P d hs w es
 | mark m k ih =>
   intro d hs w es;have key:∀ d',Safe P φ d' k->(∀ x,vCA (x+d) ⟨.mark m,false,true⟩=x+d')->∃ new,((Sem.mark m k).runT P w es).2=es++new/\BalR φ d new ((Sem.mark m k).runT P w es).1:=by
    intro d' hd' hst;obtain⟨new,h1,h2⟩:=ih d' hd' w (es.push ⟨.mark m,false,true⟩);refine⟨#[⟨.mark m,false,true⟩]++new,by simp only[Sem.runT];rw[h1,tO,Array.append_assoc],?_⟩;have hb:Bal d' new->Bal d (#[⟨.mark m,false,true⟩]++new):=λb x=>by
     rw[fF,show deafBehind (x+d) #[⟨.mark m,false,true⟩]=vCA (x+d) ⟨.mark m,false,true⟩ from by rw[tJ];rfl,hst x];exact b x
    simp only[Sem.runT]
    revert h2
    cases(k.runT P w (es.push ⟨.mark m,false,true⟩)).1 with
    | ok a w=>exact λh2=>⟨h2.1,hb h2.2⟩
    | halt h w=>exact λh2=>⟨h2.1,h2.2.imp id hb⟩
   cases m with
   | disable=>exact key (d+1) hs λx=>rfl
   | enable=>exact key (d - 1) hs.2 λx=>by have:=hs.1;simp only[vCA];omega
   | _=>exact key d hs λx=>rfl
variable {α β : Type}
theorem Safe.bind{P:Program}{ψ:α->Prop}{φ:β->Prop}{s:Sem α}{f:α->Sem β}:∀ {d:Nat},Safe P ψ d s->(∀ a,ψ a->Safe P φ 0 (f a))->Safe P φ d (s.bind f):=by
 induction s with
 | pure a=>rintro d ⟨rfl,h⟩ hf;exact hf a h
 | load m a k ih=>exact λh hf v=>ih v (h v) hf
 | store m a v k ih=>exact λh hf=>ih h hf
 | new o k ih=>exact λh hf r=>ih r (h r) hf
 | shape r k ih=>exact λh hf v=>ih v (h v) hf
 | freeze a n k ih=>exact λh hf=>ih h hf
 | frozen a k ih=>exact λh hf v=>ih v (h v) hf
 | getObj r k ih=>exact λh hf v=>ih v (h v) hf
 | setObj r o k ih=>exact λh hf=>ih h hf
 | choose q k ih=>exact λh hf v=>ih v (h v) hf
 | sys c k ih =>
   rintro d ⟨⟨x,hd,hx⟩,h⟩ hf;exact⟨⟨x,hd,by show(k SysRet.wouldBlock).bind f=_;rw[hx];rfl⟩,λv=>ih v (h v) hf⟩
 | program k ih=>exact λh hf=>ih _ h hf
 | mark m k ih =>
   intro d h hf
   cases m with
   | disable=>exact ih h hf
   | enable=>exact⟨h.1,ih h.2 hf⟩
   | _=>exact ih h hf
 | halt h'=>exact λh _=>h
abbrev Ok(P:Program)(s:Sem α):Prop:=Safe P (λ_=>True) 0 s
theorem Ok.bind{P:Program}{φ:β->Prop}{s:Sem α}{f:α->Sem β}(h:Ok P s)(hf:∀ a,Safe P φ 0 (f a)):Safe P φ 0 (s >>= f):=Safe.bind h λa _=>hf a
theorem Ok.pure{P:Program}{a:α}:Ok P (Pure.pure a:Sem α):=⟨rfl,trivial⟩
theorem Ok.halt{P:Program}{φ:α->Prop}{h:Halt}(hq:calm h):Safe P φ 0 (.halt h):=⟨hq,.inl rfl⟩
theorem Ok.map{P:Program}{f:α->β}{s:Sem α}(h:Ok P s):Ok P (f <$> s):=Safe.bind h λ_ _=>⟨rfl,trivial⟩
theorem jp{γ:Type}{P:Program}{φ:β->Prop}(j:γ->Sem β)(Q:Prop)(hj:∀ r,Safe P φ 0 (j r))(h:(∀ r,Safe P φ 0 (j r))->Q):Q:=h hj
theorem jq{P:Program}(j:Sem β)(Q:Prop)(hj:Ok P j)(h:Ok P j->Q):Q:=h hj
theorem dH{P:Program}{f:α->Sem β}(h:∀ a,Ok P (f a))(l:List α):Ok P (l.mapM f):=by
 have key:∀(l:List α) (acc:List β),Ok P (List.mapM.loop f l acc):=by
  intro l
  induction l with
  | nil=>exact λacc=>Ok.pure
  | cons a l ih=>exact λacc=>Ok.bind (h a) λb=>ih _
 exact key l []
theorem vG{P:Program}{f:α->Sem β}{l:Array α}(h:∀ a,Ok P (f a)):Ok P (l.mapM f):=by
 rw[Array.mapM_eq_mapM_toList];exact Ok.map (dH h _)
theorem xC{P:Program}{f:α->β->Sem (ForInStep β)}{l:List α}{b:β}(h:∀ a b,Ok P (f a b)):Ok P (forIn l b f):=by
 induction l generalizing b with
 | nil=>exact Ok.pure
 | cons a l ih =>
   rw[List.forIn_cons];refine Ok.bind (h a b) λr=>?_
   cases r with
   | done b=>exact Ok.pure
   | yield b=>exact ih
theorem bD{P:Program}{f:α->β->Sem (ForInStep β)}{l:Array α}{b:β}(h:∀ a b,Ok P (f a b)):Ok P (forIn l b f):=by
 rw[<- Array.forIn_toList];exact xC h
theorem gD{P:Program}{f:Nat->β->Sem (ForInStep β)}{l:Std.Legacy.Range}{b:β}(h:∀ a b,Ok P (f a b)):Ok P (forIn l b f):=by
 rw[Std.Legacy.Range.forIn_eq_forIn_range'];exact xC h
theorem sMA{P:Program}{f:β->α->Sem β}(h:∀ b a,Ok P (f b a))(l:List α):∀ b,Ok P (l.foldlM f b):=by
 induction l with
 | nil=>exact λb=>Ok.pure
 | cons a l ih=>exact λb=>Ok.bind (h b a) λc=>ih c
theorem d3A{P:Program}{l:Std.Legacy.Range}{f:(a:Nat)->a∈l->β->Sem (ForInStep β)}{b:β}(h:∀ a m b,Ok P (f a m b)):Ok P (forIn' l b f):=by
 rw[Std.Legacy.Range.forIn'_eq_forIn'_range'];have key:∀(L:List Nat) (g:(a:Nat)->a∈L->β->Sem (ForInStep β)) (b:β),(∀ a m b,Ok P (g a m b))->Ok P (forIn' L b g):=by
  intro L
  induction L with
  | nil=>exact λg b _=>Ok.pure
  | cons a L ih =>
    intro g b hg;rw[List.forIn'_cons];refine Ok.bind (hg _ _ _) λr=>?_
    cases r with
    | done b=>exact Ok.pure
    | yield b=>exact ih _ _ λ_ _ _=>hg _ _ _
 exact key _ _ _ λ_ _ _=>h _ _ _
theorem mZ{P:Program}{a m}:Ok P (load a m):=λ_=>⟨rfl,trivial⟩
theorem v3A{P:Program}{a v m}:Ok P (store a v m):=⟨rfl,trivial⟩
theorem jI{P:Program}{o}:Ok P (newObj o):=λ_=>⟨rfl,trivial⟩
theorem vI{P:Program}{o}:Ok P (shape o):=λ_=>⟨rfl,trivial⟩
theorem gAA{P:Program}{a n}:Ok P (freeze a n):=⟨rfl,trivial⟩
theorem kAA{P:Program}{a}:Ok P (frozen a):=λ_=>⟨rfl,trivial⟩
theorem mK{P:Program}{a}:Ok P (getObj a):=λ_=>⟨rfl,trivial⟩
theorem dJ{P:Program}{a o}:Ok P (setObj a o):=⟨rfl,trivial⟩
theorem vE{P:Program}{a}:Ok P (choose a):=λ_=>⟨rfl,trivial⟩
theorem sD{P:Program}:Ok P program:=⟨rfl,trivial⟩
theorem xA{P:Program}{φ:α->Prop}{a}:Safe P φ 0 (stuck a:Sem α):=⟨trivial,.inl rfl⟩
theorem gB{P:Program}{φ:α->Prop}{a}:Safe P φ 0 (unsupported a:Sem α):=⟨trivial,.inl rfl⟩
theorem qEA{P:Program}{φ:α->Prop}{a}:Safe P φ 0 (goPanic a:Sem α):=⟨trivial,.inl rfl⟩
theorem oZA{P:Program}{φ:α->Prop}{a}:Safe P φ 0 (throw a:Sem α):=⟨trivial,.inl rfl⟩
theorem nO{P:Program}{n}:Ok P (askRoom n):=by
 unfold askRoom;split
 . exact⟨rfl,trivial⟩
 . exact⟨rfl,trivial⟩
theorem wK{P:Program}:Ok P (mark .noRoom):=⟨rfl,trivial⟩
theorem bS{P:Program}{a b}:Ok P (writeFd a b):=by
 unfold writeFd;refine⟨⟨.unsupported (.noEntry _),trivial,rfl⟩,λr=>?_⟩
 cases r<;>first|exact⟨rfl,trivial⟩|exact⟨trivial,.inl rfl⟩
theorem yJA{P:Program}:(∀ a0 a1,Ok P (Conv.intToInt a0 a1))/\(∀ a0 a1,Ok P (Conv.intToFloat a0 a1))/\(∀ a0,Ok P (Conv.intToString a0))/\(∀ a0 a1 a2,Ok P (Instr.makeFunc a0 a1 a2)):=by
 refine⟨?_,?_,?_,?_⟩<;>intros<;>(first|unfold Conv.intToInt|unfold Conv.intToFloat|unfold Conv.intToString|unfold Instr.makeFunc) <;>
 repeat' (first|(with_reducible first|exact Ok.pure|exact Ok.halt trivial|apply Ok.bind|apply Ok.map|apply vG|apply dH|apply bD|apply xC|apply gD)|intro _|split|dsimp only)
theorem tY{P:Program}:∀ a0 a1 a2,Ok P (Instr.makeFunc a0 a1 a2):=yJA.2.2.2
theorem dG{P:Program}:(∀ a0,Ok P (asBool a0))/\(∀ a0,Ok P (typeInfo a0))/\(∀ a0 a1,Ok P (newRow a0 a1))/\(∀ a0,Ok P (underlying a0))/\(∀ a0,Ok P (Instr.sureAddr a0))/\(∀ a0,Ok P (Instr.ready a0))/\(∀ a0,Ok P (Instr.waits a0))/\(∀ a0 a1 a2 a3,Ok P (Op.intArith a0 a1 a2 a3))/\(∀ a0 a1 a2 a3,Ok P (Op.intBits a0 a1 a2 a3))/\(∀ a0 a1 a2,Ok P (Op.intCmp a0 a1 a2))/\(∀ a0 a1 a2 a3,Ok P (Op.floatArith a0 a1 a2 a3))/\(∀ a0 a1 a2 a3,Ok P (Op.floatCmp a0 a1 a2 a3))/\(∀ a0 a1 a2,Ok P (Conv.floatToFloat a0 a1 a2))/\(∀ a0 a1 a2,Ok P (Op.stringOp a0 a1 a2)):=by
 refine⟨?_,?_,?_,?_,?_,?_,?_,?_,?_,?_,?_,?_,?_,?_⟩<;>intros<;>(first|unfold asBool|unfold typeInfo|unfold newRow|unfold underlying|unfold Instr.sureAddr|unfold Instr.ready|unfold Instr.waits|unfold Op.intArith|unfold Op.intBits|unfold Op.intCmp|unfold Op.floatArith|unfold Op.floatCmp|unfold Conv.floatToFloat|unfold Op.stringOp) <;>
 repeat' (first|(with_reducible first|exact Ok.pure|exact Ok.halt trivial|apply xA|apply sD|apply jI|apply mK|apply dJ|apply vI|apply vE|apply gB|apply Ok.bind|apply Ok.map|apply vG|apply dH|apply bD|apply xC|apply gD)|intro _|split|dsimp only)
theorem mAA{P:Program}:∀ a0,Ok P (asBool a0):=dG.1
theorem eD{P:Program}:∀ a0,Ok P (typeInfo a0):=dG.2.1
theorem dI{P:Program}:∀ a0 a1,Ok P (newRow a0 a1):=dG.2.2.1
theorem aC{P:Program}:∀ a0,Ok P (underlying a0):=dG.2.2.2.1
theorem aEA{P:Program}:∀ a0,Ok P (Instr.ready a0):=dG.2.2.2.2.2.1
theorem aDA{P:Program}:∀ a0,Ok P (Instr.waits a0):=dG.2.2.2.2.2.2.1
theorem sF{P:Program}:(∀ a0,Ok P (numberAt a0))/\(∀ a0,Ok P (viewAt a0))/\(∀ a0,Ok P (stringish a0))/\(∀ a0,Ok P (asIntOf a0))/\(∀ a0 a1,Ok P (asNumber a0 a1))/\(∀ a0 a1 a2,Ok P (Conv.floatToInt a0 a1 a2))/\(∀ a0,Ok P (markStringish a0))/\(∀ a0,Ok P (cellsIn a0))/\(∀ a0 a1 a2,Ok P (variablesAt a0 a1 a2))/\(∀ a0,Ok P (asAgg a0))/\(∀ a0 a1,Ok P (Instr.keyThatStays a0 a1))/\(∀ a0 a1 a2,Ok P (Instr.next a0 a1 a2))/\(∀ a0,Ok P (Instr.entry a0))/\(∀ a0 a1,Ok P (Instr.extract a0 a1)):=by
 refine⟨?_,?_,?_,?_,?_,?_,?_,?_,?_,?_,?_,?_,?_,?_⟩<;>intros<;>(first|unfold numberAt|unfold viewAt|unfold stringish|unfold asIntOf|unfold asNumber|unfold Conv.floatToInt|unfold markStringish|unfold cellsIn|unfold variablesAt|unfold asAgg|unfold Instr.keyThatStays|unfold Instr.next|unfold Instr.entry|unfold Instr.extract) <;>
 repeat' (first|(with_reducible first|exact Ok.pure|exact Ok.halt trivial|apply mK|apply vI|apply kAA|apply xA|apply gB|apply jI|apply vE|apply gAA|apply sD|apply dJ|apply Ok.bind|apply Ok.map|apply vG|apply dH|apply bD|apply xC|apply gD)|intro _|split|dsimp only)
theorem kKA{P:Program}:∀ a0,Ok P (asAgg a0):=sF.2.2.2.2.2.2.2.2.2.1
theorem kGA{P:Program}:∀ a0 a1 a2,Ok P (Instr.next a0 a1 a2):=sF.2.2.2.2.2.2.2.2.2.2.2.1
theorem uCA{P:Program}:∀ a0,Ok P (Instr.entry a0):=sF.2.2.2.2.2.2.2.2.2.2.2.2.1
theorem rAA{P:Program}:∀ a0 a1,Ok P (Instr.extract a0 a1):=sF.2.2.2.2.2.2.2.2.2.2.2.2.2
theorem aN{P:Program}:(∀ a0 a1,Ok P (Deferred.ofValue a0 a1))/\(∀ a0 a1,Ok P (Builtin.holdsCells a0 a1))/\(∀ a0,Ok P (Builtin.lenOf a0))/\(∀ a0,Ok P (externState a0))/\(∀ a0,Ok P (asString a0))/\(∀ a0,Ok P (cutType a0))/\(∀ a0,Ok P (globalAddr a0))/\(∀ a0 a1 a2,Ok P (intVariablesAt a0 a1 a2))/\(∀ a0,Ok P (Instr.getLoop a0))/\(∀ a0,Ok P (Instr.takeDeferred a0))/\(∀ a0,Ok P (withAddress a0)):=by
 refine⟨?_,?_,?_,?_,?_,?_,?_,?_,?_,?_,?_⟩<;>intros<;>(first|unfold Deferred.ofValue|unfold Builtin.holdsCells|unfold Builtin.lenOf|unfold externState|unfold asString|unfold cutType|unfold globalAddr|unfold intVariablesAt|unfold Instr.getLoop|unfold Instr.takeDeferred|unfold withAddress) <;>
 repeat' (first|(with_reducible first|exact Ok.pure|exact Ok.halt trivial|apply xA|apply vI|apply mK|apply jI|apply sD|apply dJ|apply vE|apply Ok.bind|apply Ok.map|apply vG|apply dH|apply bD|apply xC|apply gD)|intro _|split|dsimp only)
theorem uV{P:Program}:∀ a0 a1,Ok P (Deferred.ofValue a0 a1):=aN.1
theorem yP{P:Program}:∀ a0,Ok P (asString a0):=aN.2.2.2.2.1
theorem zL{P:Program}:∀ a0,Ok P (Instr.getLoop a0):=aN.2.2.2.2.2.2.2.2.1
theorem fT{P:Program}:∀ a0,Ok P (Instr.takeDeferred a0):=aN.2.2.2.2.2.2.2.2.2.1
theorem nFA{P:Program}:∀ a0,Ok P (withAddress a0):=aN.2.2.2.2.2.2.2.2.2.2
theorem iG{P:Program}:∀ a1 a2 a3,Ok P (storeCells a1 a2 a3):=by
 intro a1 a2
 induction a2 with
 | nil=>exact λ_=>Ok.pure
 | cons v l ih=>exact λa3=>Ok.bind v3A λ_=>ih _
theorem wAA{P:Program}:∀ a1 a2 a3 a4,Ok P (loadCellsFrom a1 a2 a3 a4):=by
 intro a1 a2 a3
 induction a3 generalizing a2 with
 | zero=>exact λ_=>Ok.pure
 | succ n ih=>exact λa4=>Ok.bind mZ λ_=>ih _ _
theorem tV{P:Program}:∀ a1 a2 a3,Ok P (Builtin.complex_ a1 a2 a3):=by
 intro a1 a2 a3;obtain⟨l⟩:=a3;rcases l with _|⟨x,_|⟨y,_|⟨z,t⟩⟩⟩
 . exact xA
 . exact xA
 . cases x<;>cases y<;>first|exact xA|skip
   rename_i k a k' b
   show Ok P (if k=k' then Pure.pure (Value.complex k a b) else stuck _)
   split
   . exact Ok.pure
   . exact xA
 . exact xA
theorem jAA{P:Program}:∀ a1 a2 a3,Ok P (Builtin.imag_ a1 a2 a3):=by
 intro a1 a2 a3;obtain⟨l⟩:=a3;rcases l with _|⟨x,_|⟨y,t⟩⟩
 . exact xA
 . cases x<;>first|exact xA|exact Ok.pure
 . exact xA
theorem yY{P:Program}:Ok P Instr.panicnil:=by
 unfold Instr.panicnil;refine⟨⟨.stuck _,trivial,rfl⟩,λr=>?_⟩
 cases r<;>first|exact xA|(show Safe P (λ_=>True) 0 (program >>= _);exact Ok.bind sD λ_=>Ok.pure)
theorem l9{P:Program}:∀ a1 a2 a3,Ok P (Builtin.real_ a1 a2 a3):=by
 intro a1 a2 a3;obtain⟨l⟩:=a3;rcases l with _|⟨x,_|⟨y,t⟩⟩
 . exact xA
 . cases x<;>first|exact xA|exact Ok.pure
 . exact xA
theorem fKA{P:Program}:∀ a1 a2 a3,Ok P (loadBytes a1 a2 a3):=by
 intro a1 a2 a3
 induction a3 generalizing a1 a2 with
 | zero=>exact Ok.pure
 | succ n ih =>
   unfold loadBytes
   repeat' (first|(with_reducible first|exact Ok.pure|exact Ok.halt trivial|apply ih|apply mZ|apply xA|apply Ok.bind|apply Ok.map|apply bD|apply xC|apply gD)|intro _|split|dsimp only)
theorem uEA{P:Program}:∀ a1 a2,Ok P (reportChain a1 a2):=by
 intro a1
 induction a1 with
 | nil=>exact λ_=>Ok.pure
 | cons e l ih =>
   intro a2;unfold reportChain
   repeat' (first|(with_reducible first|exact Ok.pure|exact Ok.halt trivial|apply ih|apply gB|apply sD|apply vE|apply Ok.bind|apply Ok.map|apply bD|apply xC|apply gD)|intro _|split|dsimp only)
theorem dD{P:Program}:(∀ a0,Ok P (zeroValue a0))/\(∀ a0,Ok P (sizeOf a0))/\(∀ a0 a1,Ok P (newVar a0 a1))/\(∀ a0,Ok P (isAgg a0))/\(∀ a0 a1,Ok P (loadCells a0 a1))/\(∀ a0,Ok P (elemOf a0))/\(∀ a0 a1 a2 a3,Ok P (Op.Complex.arith a0 a1 a2 a3))/\(∀ a0 a1 a2,Ok P (Op.Complex.conv a0 a1 a2))/\(∀ a0 a1 a2 a3,Ok P (Op.Complex.cmp a0 a1 a2 a3))/\(∀ a0,Ok P (behindNumber a0))/\(∀ a0,Ok P (noView a0))/\(∀ a0 a1,Ok P (mayBeOne a0 a1))/\(∀ a0,Ok P (typeStr a0))/\(∀ a0,Ok P (asInt a0)):=by
 refine⟨?_,?_,?_,?_,?_,?_,?_,?_,?_,?_,?_,?_,?_,?_⟩<;>intros<;>(first|unfold zeroValue|unfold sizeOf|unfold newVar|unfold isAgg|unfold loadCells|unfold elemOf|unfold Op.Complex.arith|unfold Op.Complex.conv|unfold Op.Complex.cmp|unfold behindNumber|unfold noView|unfold mayBeOne|unfold typeStr|unfold asInt) <;>
 repeat' (first|(with_reducible first|exact Ok.pure|exact Ok.halt trivial|apply eD|apply gB|apply dI|apply aC|apply wAA|apply xA|apply dG.2.2.2.2.2.2.2.2.2.2.1|apply dG.2.2.2.2.2.2.2.2.2.2.2.2.1|apply dG.2.2.2.2.2.2.2.2.2.2.2.1|apply mAA|apply sF.1|apply sF.2.1|apply vI|apply sF.2.2.1|apply sF.2.2.2.1|apply Ok.bind|apply Ok.map|apply vG|apply dH|apply bD|apply xC|apply gD)|intro _|split|dsimp only)
theorem dF{P:Program}:∀ a0,Ok P (zeroValue a0):=dD.1
theorem tX{P:Program}:∀ a0,Ok P (typeStr a0):=dD.2.2.2.2.2.2.2.2.2.2.2.2.1
theorem eH{P:Program}:∀ a0,Ok P (asInt a0):=dD.2.2.2.2.2.2.2.2.2.2.2.2.2
theorem oJ{P:Program}:(∀ a0 a1,Ok P (Op.unary a0 a1))/\(∀ a0 a1 a2 a3,Ok P (Conv.complexToComplex a0 a1 a2 a3))/\(∀ a0 a1,Ok P (Conv.stringToBytes a0 a1))/\(∀ a0 a1,Ok P (Conv.stringToRunes a0 a1))/\(∀ a0,Ok P (Conv.seenAt a0))/\(∀ a0 a1,Ok P (Instr.makeInterface a0 a1))/\(∀ a0 a1,Ok P (Instr.range a0 a1))/\(∀ a0 a1 a2 a3 a4,Ok P (Builtin.mayShare a0 a1 a2 a3 a4))/\(∀ a0 a1 a2,Ok P (Builtin.cap_ a0 a1 a2))/\(∀ a0 a1 a2,Ok P (Builtin.len_ a0 a1 a2))/\(∀ a0 a1,Ok P (Builtin.max2 a0 a1))/\(∀ a0 a1,Ok P (Builtin.min2 a0 a1))/\(∀ a0 a1,Ok P (Builtin.printOne a0 a1))/\(∀ a0 a1,Ok P (byteVariablesAt a0 a1)):=by
 refine⟨?_,?_,?_,?_,?_,?_,?_,?_,?_,?_,?_,?_,?_,?_⟩<;>intros<;>(first|unfold Op.unary|unfold Conv.complexToComplex|unfold Conv.stringToBytes|unfold Conv.stringToRunes|unfold Conv.seenAt|unfold Instr.makeInterface|unfold Instr.range|unfold Builtin.mayShare|unfold Builtin.cap_|unfold Builtin.len_|unfold Builtin.max2|unfold Builtin.min2|unfold Builtin.printOne|unfold byteVariablesAt) <;>
 repeat' (first|(with_reducible first|exact Ok.pure|exact Ok.halt trivial|apply dG.2.2.2.2.2.2.2.1|apply dG.2.2.2.2.2.2.2.2.1|apply xA|apply gB|apply dG.2.2.2.2.2.2.2.2.2.2.2.2.1|apply vE|apply sF.2.2.2.2.2.2.1|apply dI|apply sD|apply vI|apply sF.2.1|apply aC|apply mK|apply jI|apply aN.2.1|apply kAA|apply dG.2.2.2.2.2.2.2.2.2.2.2.2.2|apply mAA|apply eD|apply aN.2.2.2.2.2.2.2.1|apply Ok.bind|apply Ok.map|apply vG|apply dH|apply bD|apply xC|apply gD)|intro _|split|dsimp only)
theorem pMA{P:Program}:∀ a0 a1,Ok P (Op.unary a0 a1):=oJ.1
theorem vS{P:Program}:∀ a0 a1,Ok P (Instr.makeInterface a0 a1):=oJ.2.2.2.2.2.1
theorem cFA{P:Program}:∀ a0 a1,Ok P (Instr.range a0 a1):=oJ.2.2.2.2.2.2.1
theorem pBA{P:Program}:∀ a0 a1 a2,Ok P (Builtin.cap_ a0 a1 a2):=oJ.2.2.2.2.2.2.2.2.1
theorem nBA{P:Program}:∀ a0 a1 a2,Ok P (Builtin.len_ a0 a1 a2):=oJ.2.2.2.2.2.2.2.2.2.1
theorem zPA{P:Program}:(∀ a0 a1,Ok P (storeBytes a0 a1))/\(∀ a0 a1 a2 a3 a4 a5,Ok P (Instr.enterLoop a0 a1 a2 a3 a4 a5))/\(∀ a0 a1,Ok P (Instr.endRound a0 a1))/\(∀ a0 a1,Ok P (Instr.deferInRound a0 a1)):=by
 refine⟨?_,?_,?_,?_⟩<;>intros<;>(first|unfold storeBytes|unfold Instr.enterLoop|unfold Instr.endRound|unfold Instr.deferInRound) <;>
 repeat' (first|(with_reducible first|exact Ok.pure|exact Ok.halt trivial|apply iG|apply zL|apply jI|apply dJ|apply mK|apply xA|apply oZA|apply Ok.bind|apply Ok.map|apply vG|apply dH|apply bD|apply xC|apply gD)|intro _|split|dsimp only)
theorem uW{P:Program}:∀ a0 a1 a2 a3 a4 a5,Ok P (Instr.enterLoop a0 a1 a2 a3 a4 a5):=zPA.2.1
theorem eZ{P:Program}:∀ a0 a1,Ok P (Instr.endRound a0 a1):=zPA.2.2.1
theorem eT{P:Program}:∀ a0 a1,Ok P (Instr.deferInRound a0 a1):=zPA.2.2.2
theorem kF{P:Program}:(∀ a0 a1 a2,Ok P (storeVar a0 a1 a2))/\(∀ a0 a1,Ok P (Instr.box a0 a1))/\(∀ a0 a1,Ok P (Instr.build a0 a1))/\(∀ a0 a1 a2,Ok P (Instr.buildSlice a0 a1 a2))/\(∀ a0 a1,Ok P (loadVar a0 a1))/\(∀ a0 a1 a2,Ok P (part a0 a1 a2))/\(∀ a0 a1,Ok P (Op.Complex.mul a0 a1))/\(∀ a0 a1,Ok P (Op.Complex.sub a0 a1))/\(∀ a0 a1,Ok P (Op.Complex.add a0 a1))/\(∀ a0 a1,Ok P (Op.Complex.quo a0 a1))/\(∀ a0,Ok P (byteOf a0))/\(∀ a0 a1,Ok P (sameAddr a0 a1))/\(∀ a0,Ok P (Conv.bytesToString a0))/\(∀ a0,Ok P (Conv.runesToString a0)):=by
 refine⟨?_,?_,?_,?_,?_,?_,?_,?_,?_,?_,?_,?_,?_,?_⟩<;>intros<;>(first|unfold storeVar|unfold Instr.box|unfold Instr.build|unfold Instr.buildSlice|unfold loadVar|unfold part|unfold Op.Complex.mul|unfold Op.Complex.sub|unfold Op.Complex.add|unfold Op.Complex.quo|unfold byteOf|unfold sameAddr|unfold Conv.bytesToString|unfold Conv.runesToString) <;>
 repeat' (first|(with_reducible first|exact Ok.pure|exact Ok.halt trivial|apply dD.2.1|apply iG|apply xA|apply dD.2.2.1|apply aC|apply dF|apply dI|apply gB|apply dD.2.2.2.1|apply mZ|apply dD.2.2.2.2.1|apply dD.2.2.2.2.2.2.1|apply dD.2.2.2.2.2.2.2.2.2.2.1|apply sD|apply vI|apply vE|apply kAA|apply dD.2.2.2.2.2.2.2.2.2.2.2.1|apply Ok.bind|apply Ok.map|apply vG|apply dH|apply bD|apply xC|apply gD)|intro _|split|dsimp only)
theorem cKA{P:Program}:∀ a0 a1,Ok P (Instr.box a0 a1):=kF.2.1
theorem wEA{P:Program}:∀ a0 a1,Ok P (Instr.build a0 a1):=kF.2.2.1
theorem xV{P:Program}:∀ a0 a1 a2,Ok P (Instr.buildSlice a0 a1 a2):=kF.2.2.2.1
theorem jS{P:Program}:(∀ a0 a1 a2,Ok P (Conv.unsafePointer a0 a1 a2))/\(∀ a0 a1,Ok P (Instr.makeMap a0 a1))/\(∀ a0 a1 a2 a3,Ok P (Instr.entryStore a0 a1 a2 a3))/\(∀ a0 a1 a2,Ok P (Builtin.firstCells a0 a1 a2))/\(∀ a0 a1 a2,Ok P (Builtin.clear_ a0 a1 a2))/\(∀ a0,Ok P (backFromNumber a0)):=by
 refine⟨?_,?_,?_,?_,?_,?_⟩<;>intros<;>(first|unfold Conv.unsafePointer|unfold Instr.makeMap|unfold Instr.entryStore|unfold Builtin.firstCells|unfold Builtin.clear_|unfold backFromNumber) <;>
 repeat' (first|(with_reducible first|exact Ok.pure|exact Ok.halt trivial|apply oJ.2.2.2.2.1|apply sF.2.2.2.2.1|apply sF.2.2.2.2.2.2.2.1|apply jI|apply sD|apply vI|apply dD.2.1|apply xA|apply aC|apply gB|apply sF.2.2.2.2.2.2.2.2.1|apply eH|apply mK|apply dJ|apply dD.2.2.2.2.1|apply iG|apply dF|apply dD.2.2.2.2.2.2.2.2.2.1|apply Ok.bind|apply Ok.map|apply vG|apply dH|apply bD|apply xC|apply gD)|intro _|split|dsimp only)
theorem j3{P:Program}:∀ a0 a1,Ok P (Instr.makeMap a0 a1):=jS.2.1
theorem yV{P:Program}:∀ a0 a1 a2 a3,Ok P (Instr.entryStore a0 a1 a2 a3):=jS.2.2.1
theorem wZ{P:Program}:∀ a0 a1 a2,Ok P (Builtin.clear_ a0 a1 a2):=jS.2.2.2.2.1
theorem uB{P:Program}{φ:α->Prop}:∀ a1,Safe P φ 0 (runtimePanic a1:Sem α):=by
 intro a1;unfold runtimePanic
 repeat' (first|(with_reducible first|apply sD|apply qEA|apply dD.2.2.1|apply dD.2.2.2.2.2.1|apply Ok.bind)|intro _|split|dsimp only)
theorem oG{P:Program}:∀ a1 a2 a3,Ok P (Builtin.unsafeAdd_ a1 a2 a3):=by
 intro a1 a2 a3;obtain⟨l⟩:=a3;rcases l with _|⟨x,_|⟨y,_|⟨z,t⟩⟩⟩
 . exact xA
 . exact xA
 . cases x<;>first|exact xA|skip
   refine Ok.bind (eH _) λn=>?_
   repeat' (first|(with_reducible first|exact Ok.pure|exact Ok.halt trivial|apply eH|apply gB|apply sF.2.1|apply vI|apply sD|apply Ok.bind|apply Ok.map|apply bD|apply xC|apply gD)|intro _|split|dsimp only)
 . exact xA
theorem vBA{P:Program}:∀ a1 a2 a3,Ok P (Builtin.max_ a1 a2 a3):=by
 intro a1 a2 a3;unfold Builtin.max_
 split
 . exact xA
 . exact sMA oJ.2.2.2.2.2.2.2.2.2.2.1 _ _
theorem aCA{P:Program}:∀ a1 a2 a3,Ok P (Builtin.min_ a1 a2 a3):=by
 intro a1 a2 a3;unfold Builtin.min_
 split
 . exact xA
 . exact sMA oJ.2.2.2.2.2.2.2.2.2.2.2.1 _ _
theorem dZ{P:Program}:∀ a1 a2 a3 a4,Ok P (Builtin.pieces a1 a2 a3 a4):=by
 intro a1 a2 a3 a4;unfold Builtin.pieces
 repeat' (first|(with_reducible first|exact Ok.pure|apply oJ.2.2.2.2.2.2.2.2.2.2.2.2.1|apply xA|apply Ok.bind|apply d3A|apply bD)|intro _|split|dsimp only)
theorem uN{P:Program}:∀ a1 a2 a3,Ok P (Builtin.unsafeSliceData_ a1 a2 a3):=by
 intro a1 a2 a3;obtain⟨l⟩:=a3;rcases l with _|⟨x,_|⟨y,t⟩⟩
 . exact xA
 . cases x<;>first|exact xA|skip
   rename_i a n c
   cases a with
   | none=>exact Ok.pure
   | some a =>
     show Ok P (if c≠0 then Pure.pure (Value.pointer (some a)) else _)
     repeat' (first|(with_reducible first|exact Ok.pure|exact Ok.halt trivial|apply sF.2.1|apply jI|apply dD.2.2.2.2.2.1|apply Ok.bind|apply Ok.map|apply bD|apply xC|apply gD)|intro _|split|dsimp only)
 . exact xA
theorem dN{P:Program}:∀ a1 a2 a3,Ok P (Builtin.unsafeStringData_ a1 a2 a3):=by
 intro a1 a2 a3;obtain⟨l⟩:=a3;rcases l with _|⟨x,_|⟨y,t⟩⟩
 . exact xA
 . cases x<;>first|exact xA|skip
   rename_i s;have b:Ok P (do let a <- newRow (<- elemOf a2) (s.data.map λb=>Value.int .u8 b.toNat);freeze a s.size;Pure.pure (Value.pointer (some a)):Sem Value) :=
    Ok.bind (dD.2.2.2.2.2.1 _) λ_=>Ok.bind (dI _ _) λ_=>Ok.bind gAA λ_=>Ok.pure
   have a:Ok P (do
       if (← choose (.extern "unsafe.StringData.empty" 2)) = 0 then return Value.pointer none
       let a <- newRow (<- elemOf a2) #[]
       markStringish a
       return Value.pointer (some a):Sem Value):=by
     repeat' (first|(with_reducible first|exact Ok.pure|exact Ok.halt trivial|apply vE|apply dD.2.2.2.2.2.1|apply dI|apply sF.2.2.2.2.2.2.1|apply Ok.bind|apply Ok.map|apply bD|apply xC|apply gD)|intro _|split|dsimp only)
   show Ok P (if s.size=0 then _ else _)
   split
   . exact a
   . exact b
 . exact xA
theorem vK{P:Program}:(∀ a0 a1 a2,Ok P (Instr.alloc a0 a1 a2))/\(∀ a0 a1,Ok P (Instr.loadAt a0 a1))/\(∀ a0 a1 a2,Ok P (Instr.storeAt a0 a1 a2))/\(∀ a0 a1 a2 a3 a4,Ok P (Op.shift a0 a1 a2 a3 a4))/\(∀ a0 a1 a2 a3,Ok P (Op.intDiv a0 a1 a2 a3))/\(∀ a0 a1 a2 a3,Ok P (Op.Complex.product a0 a1 a2 a3))/\(∀ a0 a1 a2 a3 a4,Ok P (Op.Complex.corrected a0 a1 a2 a3 a4))/\(∀ a0 a1,Ok P (samePointer a0 a1))/\(∀ a0 a1 a2,Ok P (movedPointer a0 a1 a2))/\(∀ a0 a1,Ok P (Op.twoPlaces a0 a1))/\(∀ a0 a1 a2,Ok P (Op.addrMod a0 a1 a2))/\(∀ a0 a1 a2,Ok P (convert a0 a1 a2))/\(∀ a0 a1,Ok P (Instr.arrayAt a0 a1))/\(∀ a0 a1,Ok P (Instr.makeChan a0 a1)):=by
 refine⟨?_,?_,?_,?_,?_,?_,?_,?_,?_,?_,?_,?_,?_,?_⟩<;>intros<;>(first|unfold Instr.alloc|unfold Instr.loadAt|unfold Instr.storeAt|unfold Op.shift|unfold Op.intDiv|unfold Op.Complex.product|unfold Op.Complex.corrected|unfold samePointer|unfold movedPointer|unfold Op.twoPlaces|unfold Op.addrMod|unfold convert|unfold Instr.arrayAt|unfold Instr.makeChan) <;>
 repeat' (first|(with_reducible first|exact Ok.pure|exact Ok.halt trivial|apply dD.2.2.1|apply kF.1|apply dF|apply dG.2.2.2.2.1|apply kF.2.2.2.2.1|apply uB|apply xA|apply kF.2.2.2.2.2.2.2.2.1|apply kF.2.2.2.2.2.2.1|apply kF.2.2.2.2.2.2.2.1|apply kF.2.2.2.2.2.2.2.2.2.2.2.1|apply oG|apply sF.1|apply gB|apply kF.2.2.2.2.2.2.2.2.2.2.1|apply sD|apply vI|apply eD|apply kF.2.2.2.2.2.2.2.2.2.2.2.2.1|apply oJ.2.1|apply dG.2.2.2.2.2.2.2.2.2.2.2.2.1|apply sF.2.2.2.2.2.1|apply yJA.2.1|apply yJA.1|apply yJA.2.2.1|apply kF.2.2.2.2.2.2.2.2.2.2.2.2.2|apply oJ.2.2.1|apply oJ.2.2.2.1|apply jS.1|apply sF.2.2.2.2.2.2.1|apply aC|apply eH|apply jI|apply Ok.bind|apply Ok.map|apply vG|apply dH|apply bD|apply xC|apply gD)|intro _|split|dsimp only)
theorem lCA{P:Program}:∀ a0 a1 a2,Ok P (Instr.alloc a0 a1 a2):=vK.1
theorem qBA{P:Program}:∀ a0 a1,Ok P (Instr.loadAt a0 a1):=vK.2.1
theorem hAA{P:Program}:∀ a0 a1 a2,Ok P (Instr.storeAt a0 a1 a2):=vK.2.2.1
theorem hSA{P:Program}:∀ a0 a1 a2,Ok P (convert a0 a1 a2):=vK.2.2.2.2.2.2.2.2.2.2.2.1
theorem cAA{P:Program}:∀ a0 a1,Ok P (Instr.arrayAt a0 a1):=vK.2.2.2.2.2.2.2.2.2.2.2.2.1
theorem dY{P:Program}:∀ a0 a1,Ok P (Instr.makeChan a0 a1):=vK.2.2.2.2.2.2.2.2.2.2.2.2.2
theorem gN{P:Program}:(∀ a0 a1 a2,Ok P (Instr.makeSlice a0 a1 a2))/\(∀ a0,Ok P (asAddr a0))/\(∀ a0 a1 a2,Ok P (partAt a0 a1 a2))/\(∀ a0 a1 a2,Ok P (Instr.field a0 a1 a2))/\(∀ a0 a1 a2 a3,Ok P (Instr.typeAssert a0 a1 a2 a3))/\(∀ a0 a1 a2,Ok P (Builtin.copy_ a0 a1 a2))/\(∀ a0,Ok P (Instr.panic a0))/\(∀ a0 a1,Ok P (Place.get a0 a1))/\(∀ a0,Ok P (Instr.beginRound a0))/\(∀ a0,Ok P (Instr.endLoop a0)):=by
 refine⟨?_,?_,?_,?_,?_,?_,?_,?_,?_,?_⟩<;>intros<;>(first|unfold Instr.makeSlice|unfold asAddr|unfold partAt|unfold Instr.field|unfold Instr.typeAssert|unfold Builtin.copy_|unfold Instr.panic|unfold Place.get|unfold Instr.beginRound|unfold Instr.endLoop) <;>
 repeat' (first|(with_reducible first|exact Ok.pure|exact Ok.halt trivial|apply eH|apply nO|apply vE|apply dI|apply uB|apply dD.2.1|apply xA|apply eD|apply aC|apply dF|apply kF.2.2.2.2.2.2.2.2.2.2.1|apply kKA|apply kF.2.2.2.2.2.1|apply jS.2.2.2.1|apply aN.2.2.1|apply iG|apply yY|apply qEA|apply kF.2.2.2.2.1|apply zL|apply dJ|apply Ok.bind|apply Ok.map|apply vG|apply dH|apply bD|apply xC|apply gD)|intro _|split|dsimp only)
theorem wW{P:Program}:∀ a0 a1 a2,Ok P (Instr.makeSlice a0 a1 a2):=gN.1
theorem bV{P:Program}:∀ a0,Ok P (asAddr a0):=gN.2.1
theorem fDA{P:Program}:∀ a0 a1 a2,Ok P (Instr.field a0 a1 a2):=gN.2.2.2.1
theorem sV{P:Program}:∀ a0 a1 a2 a3,Ok P (Instr.typeAssert a0 a1 a2 a3):=gN.2.2.2.2.1
theorem y9{P:Program}:∀ a0 a1 a2,Ok P (Builtin.copy_ a0 a1 a2):=gN.2.2.2.2.2.1
theorem lU{P:Program}:∀ a0,Ok P (Instr.panic a0):=gN.2.2.2.2.2.2.1
theorem wV{P:Program}:∀ a0,Ok P (Instr.beginRound a0):=gN.2.2.2.2.2.2.2.2.1
theorem bAA{P:Program}:∀ a0,Ok P (Instr.endLoop a0):=gN.2.2.2.2.2.2.2.2.2
theorem qFA{P:Program}:∀ a1 a2 a3,Ok P (followBlind a1 a2 a3):=by
 intro a1
 induction a1 with
 | nil=>intro a2 a3;exact Ok.pure
 | cons s l ih =>
   intro a2 a3;unfold followBlind
   repeat' (first|(with_reducible first|exact Ok.pure|exact Ok.halt trivial|apply ih|apply aC|apply xA|apply kF.2.2.2.2.2.1|apply Ok.bind|apply Ok.map|apply bD|apply xC|apply gD)|intro _|split|dsimp only)
theorem uBA{P:Program}:∀ a1 a2 a3 a4,Ok P (Op.eqGuardIn a1 a2 a3 a4):=by
 intro a1
 induction a1 with
 | zero=>intro a2 a3 a4;exact gB
 | succ n ih =>
   intro a2 a3 a4;unfold Op.eqGuardIn
   repeat' (first|(with_reducible first|exact Ok.pure|exact Ok.halt trivial|apply ih|apply aC|apply kF.2.2.2.2.2.1|apply dD.2.1|apply Ok.bind|apply Ok.map|apply bD|apply xC|apply gD)|intro _|split|dsimp only)
theorem jEA{P:Program}:∀ a1 a2 a3,Ok P (movedNumber a1 a2 a3):=by
 intro a1 a2 a3;unfold movedNumber;have tail:∀ v (l:Bool),Ok P (match v with|Value.pointer (some b)=>asNumber b l|v=>Pure.pure v):=by
  intro v l
  split
  . exact sF.2.2.2.2.1 _ _
  . exact Ok.pure
 have all:Ok P (match a2 with
     | Value.pointer (some n) => (do
       let(a,lost) <- behindNumber n
       match <- Builtin.unsafeAdd_ #[] a1 #[Value.pointer (some a),a3] with
       | .pointer (some b)=>asNumber b lost
       | v=>Pure.pure v:Sem Value)
     | _=>Builtin.unsafeAdd_ #[] a1 #[a2,a3]):=by
   split
   . exact Ok.bind (dD.2.2.2.2.2.2.2.2.2.1 _) λx=>Ok.bind (oG _ _ _) λv=>tail v _
   . exact oG _ _ _
 refine Ok.bind (aC _) λu=>?_
 cases u<;>first|exact all|exact Ok.bind gB λ_=>all
theorem zDA{P:Program}{φ:α->Prop}:∀ a1 a2 a3 a4,Safe P φ 0 (boundsPanic a1 a2 a3 a4:Sem α):=by
 intro a1 a2 a3 a4;unfold boundsPanic
 repeat' (first|(with_reducible first|exact Ok.pure|apply vE|apply uB|apply Ok.bind|apply Ok.map)|intro _|split|dsimp only)
theorem vZ{P:Program}:∀ a1 a2 a3 a4,Ok P (Instr.checkKey a1 a2 a3 a4):=by
 intro a1 a2
 induction a2 with
 | zero=>intro a3 a4;exact gB
 | succ n ih =>
   intro a3 a4;unfold Instr.checkKey
   repeat' (first|(with_reducible first|exact Ok.pure|exact Ok.halt trivial|apply ih|apply aC|apply eD|apply uB|apply tX|apply kF.2.2.2.2.2.1|apply dD.2.1|apply xA|apply gB|apply Ok.bind|apply Ok.map|apply bD|apply xC|apply gD)|intro _|split|dsimp only)
theorem bX{P:Program}:∀ a1 a2 a3,Ok P (Builtin.append_ a1 a2 a3):=by
 intro a1 a2 a3;unfold Builtin.append_
 split
 . rename_i sType s x _;refine Ok.bind (aC _) λu=>?_
   split
   . rename_i elem
     split
     . rename_i base sLen sCap;refine Ok.bind (dD.2.1 _) λsize=>?_
       extract_lets -underBinder +onlyGivenNames J
       have hJ:∀ r,Ok P (J r):=by
        intro zeros;dsimp -zeta -zetaHave only[J];clear J
        extract_lets -underBinder +onlyGivenNames J
        have hJ:∀ r,Ok P (J r):=by
         intro n;dsimp -zeta -zetaHave only[J];clear J
         extract_lets -underBinder +onlyGivenNames A
         have hA:Ok P A:=by
          dsimp -zeta -zetaHave only[A]
          repeat' (first|(extract_lets -underBinder +onlyGivenNames j;first|((refine jp (P:=P) (φ:=λ_=>True) j _ (λr=>?_) (λhj=>?_))<;>first|(have _h:∀ r,Safe P (λ_=>True) 0 (j r):=hj;clear_value j)|(dsimp -zeta -zetaHave only[j];clear j))|((refine jq (P:=P) j _ ?_ (λhj=>?_))<;>first|(have _h:Safe P (λ_=>True) 0 j:=hj;clear_value j)|(dsimp -zeta -zetaHave only[j];clear j))|clear_value j)|(with_reducible first|exact hj _|exact Ok.pure|exact Ok.halt trivial|apply aC|apply dD.2.1|apply xA|apply aN.2.2.1|apply eH|apply uB|apply eD|apply vE|apply jS.2.2.2.1|apply dF|apply iG|apply oJ.2.2.2.2.2.2.2.1|apply wK|apply gB|apply nO|apply dI|apply Ok.bind)|intro _|split)
         clear_value A
         repeat' (first|(extract_lets -underBinder +onlyGivenNames j;first|((refine jp (P:=P) (φ:=λ_=>True) j _ (λr=>?_) (λhj=>?_))<;>first|(have _h:∀ r,Safe P (λ_=>True) 0 (j r):=hj;clear_value j)|(dsimp -zeta -zetaHave only[j];clear j))|((refine jq (P:=P) j _ ?_ (λhj=>?_))<;>first|(have _h:Safe P (λ_=>True) 0 j:=hj;clear_value j)|(dsimp -zeta -zetaHave only[j];clear j))|clear_value j)|(with_reducible first|exact hj _|exact Ok.pure|exact Ok.halt trivial|exact hA|apply aC|apply dD.2.1|apply xA|apply aN.2.2.1|apply eH|apply uB|apply eD|apply vE|apply jS.2.2.2.1|apply dF|apply iG|apply oJ.2.2.2.2.2.2.2.1|apply wK|apply gB|apply nO|apply dI|apply Ok.bind)|intro _|split)
        clear_value J
        repeat' (first|(extract_lets -underBinder +onlyGivenNames j;first|((refine jp (P:=P) (φ:=λ_=>True) j _ (λr=>?_) (λhj=>?_))<;>first|(have _h:∀ r,Safe P (λ_=>True) 0 (j r):=hj;clear_value j)|(dsimp -zeta -zetaHave only[j];clear j))|((refine jq (P:=P) j _ ?_ (λhj=>?_))<;>first|(have _h:Safe P (λ_=>True) 0 j:=hj;clear_value j)|(dsimp -zeta -zetaHave only[j];clear j))|clear_value j)|(with_reducible first|exact hJ _|exact hj _|exact Ok.pure|exact Ok.halt trivial|apply aC|apply dD.2.1|apply xA|apply aN.2.2.1|apply eH|apply uB|apply eD|apply vE|apply jS.2.2.2.1|apply dF|apply iG|apply oJ.2.2.2.2.2.2.2.1|apply wK|apply gB|apply nO|apply dI|apply Ok.bind)|intro _|split)
       clear_value J
       repeat' (first|(extract_lets -underBinder +onlyGivenNames j;first|((refine jp (P:=P) (φ:=λ_=>True) j _ (λr=>?_) (λhj=>?_))<;>first|(have _h:∀ r,Safe P (λ_=>True) 0 (j r):=hj;clear_value j)|(dsimp -zeta -zetaHave only[j];clear j))|((refine jq (P:=P) j _ ?_ (λhj=>?_))<;>first|(have _h:Safe P (λ_=>True) 0 j:=hj;clear_value j)|(dsimp -zeta -zetaHave only[j];clear j))|clear_value j)|(with_reducible first|exact hJ _|exact hj _|exact Ok.pure|exact Ok.halt trivial|apply aC|apply dD.2.1|apply xA|apply aN.2.2.1|apply eH|apply uB|apply eD|apply vE|apply jS.2.2.2.1|apply dF|apply iG|apply oJ.2.2.2.2.2.2.2.1|apply wK|apply gB|apply nO|apply dI|apply Ok.bind)|intro _|split)
     . exact xA
   . exact xA
 . exact xA
theorem fZ{P:Program}:∀ a1 a2 a3,Ok P (Builtin.close_ a1 a2 a3):=by
 intro a1 a2 a3;obtain⟨l⟩:=a3;rcases l with _|⟨x,_|⟨y,t⟩⟩
 . exact xA
 . cases x<;>first|exact xA|skip
   rename_i c
   cases c with
   | none=>exact(uB (.plain _):Ok P (runtimePanic _:Sem Value))
   | some r =>
     refine Ok.bind mK λo=>?_
     repeat' (first|(with_reducible first|exact Ok.pure|exact Ok.halt trivial|apply uB|apply dJ|apply xA|apply Ok.bind|apply Ok.map|apply bD|apply xC|apply gD)|intro _|split|dsimp only)
 . exact xA
theorem pQ{P:Program}:∀ a1 a2 a3,Ok P (Builtin.unsafeSlice_ a1 a2 a3):=by
 intro a1 a2 a3;obtain⟨l⟩:=a3;rcases l with _|⟨x,_|⟨y,_|⟨z,t⟩⟩⟩
 . exact xA
 . exact xA
 . cases x<;>first|exact xA|skip
   refine Ok.bind (eH _) λn=>?_
   repeat' (first|(with_reducible first|exact Ok.pure|exact Ok.halt trivial|apply eH|apply gB|apply sF.2.1|apply vI|apply sD|apply dD.2.2.2.2.2.1|apply uB|apply eD|apply dD.2.1|apply sF.2.2.2.2.2.2.2.2.1|apply jI|apply xA|apply Ok.bind|apply Ok.map|apply bD|apply xC|apply gD)|intro _|split|dsimp only)
 . exact xA
theorem mQ{P:Program}:∀ a1 a2 a3,Ok P (Builtin.unsafeString_ a1 a2 a3):=by
 intro a1 a2 a3;obtain⟨l⟩:=a3;rcases l with _|⟨x,_|⟨y,_|⟨z,t⟩⟩⟩
 . exact xA
 . exact xA
 . cases x<;>first|exact xA|skip
   refine Ok.bind (eH _) λn=>?_
   repeat' (first|(with_reducible first|exact Ok.pure|exact Ok.halt trivial|apply eH|apply gB|apply sF.2.1|apply vI|apply sD|apply dD.2.2.2.2.2.1|apply uB|apply eD|apply dD.2.1|apply sF.2.2.2.2.2.2.2.2.1|apply jI|apply xA|apply fKA|apply gAA|apply Ok.bind|apply Ok.map|apply bD|apply xC|apply gD)|intro _|split|dsimp only)
 . exact xA
theorem vKA{P:Program}{a1:Array TypeId}{m:ByteArray}:Ok P (do
    if (← choose (.extern "ssa:wrapnilchk.dereferenced" 2)) == 1 then runtimePanic .nilDeref
    let some pt := a1[0]? | stuck "ssa:wrapnilchk: no argument types"
    let .pointer t ← underlying pt | stuck "ssa:wrapnilchk: pointer type expected"
    let .named name _ := (← typeInfo t).desc | stuck "ssa:wrapnilchk: defined type expected"
    let some m := String.fromUTF8? m | stuck "ssa:wrapnilchk: the method's name is not UTF-8"
    let base := (name.splitOn "[").headD ""
    let targs := if base == name then "" else "[...]"
    match ((base.splitOn "/").getLastD "").splitOn "." with
    | [_, typ] => runtimePanic (.plain (toString "value method " ++ toString base ++ toString targs ++ toString "." ++ toString m ++ toString " called using nil *" ++ toString typ ++ toString targs ++ toString " pointer"))
    | _ => unsupported (.noEntry "builtin/ssaWrapNilChk.dot in the package path") : Sem Value) := by
  repeat' (first|(with_reducible first|exact Ok.pure|exact Ok.halt trivial|apply vE|apply uB|apply xA|apply aC|apply eD|apply gB|apply Ok.bind|apply Ok.map|apply bD|apply xC|apply gD)|intro _|split|dsimp only)
theorem jP{P:Program}:∀ a1 a2 a3,Ok P (Builtin.ssaWrapNilChk_ a1 a2 a3):=by
 intro a1 a2 a3;obtain⟨l⟩:=a3;rcases l with _|⟨x,_|⟨y,_|⟨z,_|⟨u,t⟩⟩⟩⟩
 . exact xA
 . exact xA
 . exact xA
 . cases y<;>cases z<;>first|exact xA|skip
   rename_i s m
   cases x<;>first|exact xA|skip
   rename_i p
   cases p with
   | some a=>exact Ok.pure
   | none=>exact vKA (m:=m)
 . exact xA
theorem zM{P:Program}:(∀ a0 a1 a2 a3 a4 a5,Ok P (eqGuard a0 a1 a2 a3 a4 a5))/\(∀ a0 a1 a2 a3,Ok P (Op.Complex.quotient a0 a1 a2 a3))/\(∀ a0 a1 a2,Ok P (Op.addrSub a0 a1 a2))/\(∀ a0 a1 a2,Ok P (Op.addrCmp a0 a1 a2))/\(∀ a0 a1 a2,Ok P (Instr.sliceBound a0 a1 a2))/\(∀ a0 a1,Ok P (fieldPlace a0 a1))/\(∀ a0 a1 a2,Ok P (Instr.indexAt a0 a1 a2))/\(∀ a0 a1 a2,Ok P (Instr.index a0 a1 a2))/\(∀ a0 a1 a2 a3,Ok P (receiverAt a0 a1 a2 a3))/\(∀ a0 a1,Ok P (results a0 a1)):=by
 refine⟨?_,?_,?_,?_,?_,?_,?_,?_,?_,?_⟩<;>intros<;>(first|unfold eqGuard|unfold Op.Complex.quotient|unfold Op.addrSub|unfold Op.addrCmp|unfold Instr.sliceBound|unfold fieldPlace|unfold Instr.indexAt|unfold Instr.index|unfold receiverAt|unfold results) <;>
 repeat' (first|(with_reducible first|exact Ok.pure|exact Ok.halt trivial|apply uBA|apply sD|apply gB|apply kF.2.2.2.2.2.2.2.2.1|apply dD.2.2.2.2.2.2.2.2.1|apply vK.2.2.2.2.2.2.1|apply kF.2.2.2.2.2.2.1|apply kF.2.2.2.2.2.2.2.2.2.1|apply kF.2.2.2.2.2.2.2.1|apply vK.2.2.2.2.2.2.2.2.2.1|apply sF.2.2.2.1|apply zDA|apply gN.2.2.1|apply dD.2.1|apply dG.2.2.2.2.1|apply xA|apply aC|apply kF.2.2.2.2.2.1|apply jP|apply gN.2.2.2.2.2.2.2.1|apply bV|apply kF.2.2.2.2.1|apply Ok.bind|apply Ok.map|apply vG|apply dH|apply bD|apply xC|apply gD)|intro _|split|dsimp only)
theorem qSA{P:Program}:∀ a0 a1 a2 a3 a4 a5,Ok P (eqGuard a0 a1 a2 a3 a4 a5):=zM.1
theorem j5{P:Program}:∀ a0 a1 a2,Ok P (Instr.indexAt a0 a1 a2):=zM.2.2.2.2.2.2.1
theorem nEA{P:Program}:∀ a0 a1 a2,Ok P (Instr.index a0 a1 a2):=zM.2.2.2.2.2.2.2.1
theorem mOA{P:Program}:∀ a0 a1,Ok P (results a0 a1):=zM.2.2.2.2.2.2.2.2.2
theorem tNA{P:Program}:∀ a1 a2 a3 a4,Ok P (nilAhead a1 a2 a3 a4):=by
 intro a1
 induction a1 with
 | zero=>intro a2 a3 a4;exact Ok.pure
 | succ n ih =>
   intro a2 a3 a4;unfold nilAhead
   repeat' (first|(with_reducible first|exact Ok.pure|exact Ok.halt trivial|apply ih|apply aC|apply xA|apply eD|apply qFA|apply Ok.bind|apply Ok.map|apply bD|apply xC|apply gD)|intro _|split|dsimp only)
theorem rGA{P:Program}:∀ a1 a2 a3 a4,Ok P (Op.equalIn a1 a2 a3 a4):=by
 intro a1
 induction a1 with
 | zero=>intro a2 a3 a4;exact gB
 | succ n ih =>
   intro a2 a3 a4;unfold Op.equalIn
   repeat' (first|(with_reducible first|exact Ok.pure|exact Ok.halt trivial|apply ih|apply aC|apply kF.2.2.2.2.2.1|apply dD.2.1|apply eD|apply vK.2.2.2.2.2.2.2.1|apply xA|apply vE|apply dD.2.2.2.2.2.2.2.2.2.1|apply kF.2.2.2.2.2.2.2.2.2.2.1|apply sD|apply gB|apply uB|apply kF.2.2.2.2.2.2.2.2.2.2.2.1|apply tX|apply Ok.bind|apply Ok.map|apply bD|apply xC|apply gD)|intro _|split|dsimp only)
theorem zZ{P:Program}:(∀ a0 a1 a2 a3 a4 a5,Ok P (Op.complexOp a0 a1 a2 a3 a4 a5))/\(∀ a0 a1 a2,Ok P (Op.equal a0 a1 a2))/\(∀ a0 a1 a2 a3 a4 a5,Ok P (Instr.sliceBounds a0 a1 a2 a3 a4 a5))/\(∀ a0 a1 a2,Ok P (Instr.fieldAt a0 a1 a2)):=by
 refine⟨?_,?_,?_,?_⟩<;>intros<;>(first|unfold Op.complexOp|unfold Op.equal|unfold Instr.sliceBounds|unfold Instr.fieldAt) <;>
 repeat' (first|(with_reducible first|exact Ok.pure|exact Ok.halt trivial|apply dD.2.2.2.2.2.2.1|apply dD.2.2.2.2.2.2.2.2.1|apply dD.2.2.2.2.2.2.2.1|apply vK.2.2.2.2.2.1|apply zM.2.1|apply xA|apply rGA|apply zM.2.2.2.2.1|apply dG.2.2.2.2.1|apply zM.2.2.2.2.2.1|apply aC|apply Ok.bind|apply Ok.map|apply vG|apply dH|apply bD|apply xC|apply gD)|intro _|split|dsimp only)
theorem o9{P:Program}:∀ a0 a1 a2,Ok P (Instr.fieldAt a0 a1 a2):=zZ.2.2.2
theorem eIA{P:Program}:∀ a1 a2 a3,Ok P (follow a1 a2 a3):=by
 intro a1
 induction a1 with
 | nil=>exact λ_ _=>Ok.pure
 | cons s l ih =>
   intro a2 a3;unfold follow
   repeat' (first|(with_reducible first|exact Ok.pure|exact Ok.halt trivial|apply ih|apply aC|apply xA|apply bV|apply gN.2.2.2.2.2.2.2.1|apply zM.2.2.2.2.2.1|apply kF.2.2.2.2.2.1|apply Ok.bind|apply Ok.map|apply bD|apply xC|apply gD)|intro _|split|dsimp only)
theorem jPA{P:Program}:(∀ a0 a1 a2 a3,Ok P (binOp a0 a1 a2 a3))/\(∀ a0 a1 a2 a3 a4,Ok P (Instr.slice a0 a1 a2 a3 a4))/\(∀ a0 a1 a2 a3,Ok P (receiverVia a0 a1 a2 a3)):=by
 refine⟨?_,?_,?_⟩<;>intros<;>(first|unfold binOp|unfold Instr.slice|unfold receiverVia) <;>
 repeat' (first|(with_reducible first|exact Ok.pure|exact Ok.halt trivial|apply zM.2.2.2.1|apply vK.2.2.2.2.2.2.2.2.2.2.1|apply zM.2.2.1|apply zZ.1|apply zZ.2.1|apply dG.2.2.2.2.2.2.2.2.2.2.1|apply dG.2.2.2.2.2.2.2.2.2.2.2.1|apply dG.2.2.2.2.2.2.2.1|apply dG.2.2.2.2.2.2.2.2.1|apply dG.2.2.2.2.2.2.2.2.2.1|apply vK.2.2.2.2.1|apply vK.2.2.2.1|apply dG.2.2.2.2.2.2.2.2.2.2.2.2.2|apply dD.2.2.2.2.2.2.2.2.2.1|apply jEA|apply vK.2.2.2.2.2.2.2.2.1|apply xA|apply aC|apply gB|apply zZ.2.2.1|apply bV|apply dD.2.1|apply eIA|apply zM.2.2.2.2.2.2.2.2.1|apply Ok.bind|apply Ok.map|apply vG|apply dH|apply bD|apply xC|apply gD)|intro _|split|dsimp only)
theorem d1A{P:Program}:∀ a0 a1 a2 a3,Ok P (binOp a0 a1 a2 a3):=jPA.1
theorem fGA{P:Program}:∀ a0 a1 a2 a3,Ok P (receiverVia a0 a1 a2 a3):=jPA.2.2
theorem vV{P:Program}:∀ a1 a2 a3 a4,Ok P (Instr.findAsking a1 a2 a3 a4):=by
 intro a1 a2 a3
 induction a3 with
 | nil=>intro a4;exact Ok.pure
 | cons e l ih =>
   intro a4;unfold Instr.findAsking
   repeat' (first|(with_reducible first|exact Ok.pure|exact Ok.halt trivial|apply ih|apply zZ.2.1|apply Ok.bind|apply Ok.map|apply bD|apply xC|apply gD)|intro _|split|dsimp only)
theorem iYA{P:Program}:∀ a1 a2 a3 a4,Ok P (method a1 a2 a3 a4):=by
 intro a1
 induction a1 with
 | zero=>exact λ_ _ _=>gB
 | succ n ih =>
   intro a2 a3 a4;unfold method
   repeat' (first|(with_reducible first|exact Ok.pure|exact Ok.halt trivial|apply ih|apply eD|apply xA|apply eIA|apply gN.2.2.2.2.2.2.2.1|apply uB|apply zM.2.2.2.2.2.2.2.2.1|apply Ok.bind|apply Ok.map|apply bD|apply xC|apply gD)|intro _|split|dsimp only)
theorem y2A{P:Program}:(∀ a0 a1 a2 a3 a4,Ok P (Instr.sliceAt a0 a1 a2 a3 a4))/\(∀ a0 a1 a2,Ok P (Instr.findKey a0 a1 a2)):=by
 refine⟨?_,?_⟩<;>intros<;>(first|unfold Instr.sliceAt|unfold Instr.findKey) <;>
 repeat' (first|(with_reducible first|exact Ok.pure|exact Ok.halt trivial|apply jPA.2.1|apply zZ.2.2.1|apply dG.2.2.2.2.1|apply dD.2.1|apply aC|apply vV|apply Ok.bind|apply Ok.map|apply vG|apply dH|apply bD|apply xC|apply gD)|intro _|split|dsimp only)
theorem o6{P:Program}:∀ a0 a1 a2 a3 a4,Ok P (Instr.sliceAt a0 a1 a2 a3 a4):=y2A.1
theorem jJA{P:Program}:(∀ a0 a1 a2 a3,Ok P (Instr.lookup a0 a1 a2 a3))/\(∀ a0 a1 a2 a3,Ok P (Instr.mapUpdate a0 a1 a2 a3))/\(∀ a0 a1 a2,Ok P (Instr.mapEntry a0 a1 a2))/\(∀ a0 a1 a2,Ok P (Builtin.delete_ a0 a1 a2)):=by
 refine⟨?_,?_,?_,?_⟩<;>intros<;>(first|unfold Instr.lookup|unfold Instr.mapUpdate|unfold Instr.mapEntry|unfold Builtin.delete_) <;>
 repeat' (first|(with_reducible first|exact Ok.pure|exact Ok.halt trivial|apply vZ|apply y2A.2|apply mK|apply xA|apply aC|apply dF|apply sF.2.2.2.2.2.2.2.2.2.2.1|apply uB|apply dJ|apply Ok.bind|apply Ok.map|apply vG|apply dH|apply bD|apply xC|apply gD)|intro _|split|dsimp only)
theorem xBA{P:Program}:∀ a0 a1 a2 a3,Ok P (Instr.lookup a0 a1 a2 a3):=jJA.1
theorem jO{P:Program}:∀ a0 a1 a2 a3,Ok P (Instr.mapUpdate a0 a1 a2 a3):=jJA.2.1
theorem uY{P:Program}:∀ a0 a1 a2,Ok P (Instr.mapEntry a0 a1 a2):=jJA.2.2.1
theorem qW{P:Program}:∀ a0 a1 a2,Ok P (Builtin.delete_ a0 a1 a2):=jJA.2.2.2
def lJA:Next->Prop
  | .value _|.skip|.enter _ _|.round _ _ _ _ _|.defer _|.recover|.spawn _|.comm _ _ _|.coroswitch _ true=>True
  | .row r _ => r = "runtime.print$piece"
  | _=>False
abbrev OkN(P:Program)(s:Sem Next):Prop:=Safe P lJA 0 s
theorem OkN.pure{P:Program}{x:Next}(h:lJA x):OkN P (Pure.pure x):=⟨rfl,h⟩
theorem OkN.value{P:Program}{s:Sem Value}(h:Ok P s):OkN P (do Pure.pure (.value (<- s))):=Ok.bind h λ_=>⟨rfl,trivial⟩
theorem OkN.unit{P:Program}{s:Sem Unit}(h:Ok P s):OkN P (do s;Pure.pure .skip):=Ok.bind h λ_=>⟨rfl,trivial⟩
structure Tame (P:Program):Prop where
 name : ∀ (f : FuncId) (fn : Func), P.funcs[f]? = some fn → (fn.name == "runtime.NumGoroutine") = false
 next:∀(f:FuncId) (fn:Func) e,P.funcs[f]? = some fn->fn.body.isNone=true->Extern.findNext fn=some e->∀ args,OkN P (e args)
 value:∀(f:FuncId) (fn:Func) e,P.funcs[f]? = some fn->fn.body.isNone=true->Extern.findNext fn=none->Extern.find fn=some e->∀ args,Ok P (e args)
variable {P : Program}
theorem mU(T:Tame P)(f:FuncId)(args:Array Value):OkN P (callFunc f args):=by
 unfold callFunc;refine Safe.bind (ψ:=λp=>p=P) (s:=program) ⟨rfl,rfl⟩ λp hp=>?_
 subst hp
 split
 . exact xA
 . rename_i fn hfn;rw[if_neg (by rw[T.name f fn hfn];simp)]
   split
   . rename_i hb;refine Ok.bind (s:=mark (.extern f)) ⟨rfl,trivial⟩ λ_=>?_
     split
     . rename_i e he;exact T.next f fn e hfn hb he args
     . rename_i he;have he':Extern.findNext fn=none:=by
        cases h:Extern.findNext fn with
        | none=>rfl
        | some e=>exact absurd h (he e)
       split
       . rename_i e hv;exact OkN.value (T.value f fn e hfn hb he' hv args)
       . split
         . exact⟨rfl,trivial⟩
         . exact gB
   . exact⟨rfl,trivial⟩
theorem bW(T:Tame P)(v:Value)(n:String)(args:Array Value):OkN P (callMethod v n args):=by
 unfold callMethod
 split
 . exact Ok.bind sD λ_=>Ok.bind (iYA _ _ _ _) λx=>mU T _ _
 . exact uB _
 . exact xA
theorem lKA(a b:Array TypeId)(args:Array Value):OkN P (Extern.PrintPieces.piece a b args):=by
 unfold Extern.PrintPieces.piece
 split
 . rename_i fst _
   split
   . rename_i p _;by_cases hp:p.size > 65536
     . simp only[if_pos hp];exact⟨trivial,.inl rfl⟩
     . simp only[if_neg hp]
       cases hl:(args.size==2)<;>cases fst<;>simp only[Bool.not_true,Bool.not_false,Qs,if_true,if_false]
       . exact Ok.bind bS λ_=>⟨rfl,rfl⟩
       . refine λv=>?_
         cases v with
         | bool b =>
           cases b with
           | false=>exact⟨Nat.one_pos,(show Safe P lJA 0 (writeFd 2 p >>= λ_=>_) from Ok.bind bS λ_=>⟨rfl,rfl⟩)⟩
           | true=>exact⟨trivial,.inr trivial⟩
         | _=>exact⟨trivial,.inr trivial⟩
       . exact Ok.bind bS λ_=>⟨Nat.one_pos,rfl,trivial⟩
       . refine λv=>?_
         cases v with
         | bool b =>
           cases b with
           | false=>exact⟨Nat.one_pos,(show Safe P lJA 0 (writeFd 2 p >>= λ_=>_) from Ok.bind bS λ_=>⟨rfl,trivial⟩)⟩
           | true=>exact⟨trivial,.inr trivial⟩
         | _=>exact⟨trivial,.inr trivial⟩
   . exact xA
 . exact xA
theorem mFA(a1:Bool)(a2:Array Bool)(a3:Array TypeId)(a4:Array Value):OkN P (Builtin.printMarked a1 a2 a3 a4):=by
 unfold Builtin.printMarked;refine Ok.bind (dZ _ _ _ _) λps=>?_
 split
 . exact⟨rfl,trivial⟩
 . exact lKA _ _ _
theorem ePA(b:Builtin)(a2:Array TypeId)(a3:TypeId)(a4:Array Bool)(a5:Array Value):OkN P (builtin b a2 a3 a4 a5):=by
 cases b<;>first
   | exact OkN.value (bX _ _ _)
   | exact OkN.value (pBA _ _ _)
   | exact OkN.value (wZ _ _ _)
   | exact OkN.value (fZ _ _ _)
   | exact OkN.value (tV _ _ _)
   | exact OkN.value (y9 _ _ _)
   | exact OkN.value (qW _ _ _)
   | exact OkN.value (jAA _ _ _)
   | exact OkN.value (nBA _ _ _)
   | exact OkN.value (vBA _ _ _)
   | exact OkN.value (aCA _ _ _)
   | exact OkN.value (lU _)
   | exact OkN.value (l9 _ _ _)
   | exact OkN.value (oG _ _ _)
   | exact OkN.value (pQ _ _ _)
   | exact OkN.value (uN _ _ _)
   | exact OkN.value (mQ _ _ _)
   | exact OkN.value (dN _ _ _)
   | exact mFA _ _ _ _
   | exact⟨rfl,trivial⟩
   | exact xA
   | exact gB
   | exact Ok.bind (eD _) λ_=>⟨rfl,trivial⟩
theorem b2A(l:Nat)(args:Array Value):OkN P (Instr.yield l args):=by
 unfold Instr.yield
 repeat' (first|(with_reducible apply zL)|(with_reducible apply xA)|(with_reducible apply dJ)|(with_reducible apply uB)|(with_reducible apply Ok.bind)|exact OkN.pure trivial|intro _|split|dsimp only)
theorem fV(T:Tame P)(t:Target)(args:Array Value):OkN P (invoke t args):=by
 unfold invoke
 split
 . exact uB _
 . exact ePA _ _ _ _ _
 . exact mU T _ _
 . split
   . exact bW T _ _ _
   . exact xA
 . split
   . exact Ok.bind (aC _) λ_=>bW T _ _ _
   . exact xA
 . split
   . exact Ok.bind (fGA _ _ _ _) λ_=>mU T _ _
   . exact xA
 . exact b2A _ _
 . exact xA
 . exact⟨rfl,trivial⟩
theorem uO(ρ:Operand->Value)(c:Call)(t:TypeId):Ok P (resolve ρ c t):=by
 unfold resolve;dsimp only
 split
 . exact Ok.pure
 . exact Ok.pure
 . exact uV _ _
theorem jYA(T:Tame P)(ρ:Operand->Value)(o:Oper):OkN P (execOp ρ o):=by
 unfold execOp;dsimp only
 split
 . exact⟨rfl,trivial⟩
 . exact⟨rfl,trivial⟩
 . exact Ok.bind (mAA _) λ_=>⟨rfl,trivial⟩
 . exact OkN.value (lCA _ _ _)
 . exact OkN.value (cKA _ _)
 . exact OkN.value (wEA _ _)
 . exact OkN.value (xV _ _ _)
 . exact OkN.value (qBA _ _)
 . exact OkN.unit (hAA _ _ _)
 . exact OkN.unit (aEA _)
 . exact OkN.value (aDA _)
 . split
   . exact uB _
   . exact uB _
   . exact uB _
   . split
     . exact uB _
     . refine Ok.bind sD λ_=>Ok.bind (tNA _ _ _ _) λr=>?_
       split
       . exact Ok.bind gB λ_=>⟨rfl,trivial⟩
       . exact⟨rfl,trivial⟩
     . exact⟨rfl,trivial⟩
   . exact⟨rfl,trivial⟩
 . exact OkN.value (Ok.bind (qSA _ _ _ _ _ _) λ_=>d1A _ _ _ _)
 . exact OkN.value (pMA _ _)
 . exact OkN.value (hSA _ _ _)
 . exact OkN.value (cAA _ _)
 . exact OkN.value (vS _ _)
 . exact OkN.value (tY _ _ _)
 . exact OkN.value (j3 _ _)
 . exact OkN.value (dY _ _)
 . exact OkN.value (wW _ _ _)
 . exact OkN.value (o6 _ _ _ _ _)
 . exact OkN.value (o9 _ _ _)
 . exact OkN.value (fDA _ _ _)
 . exact OkN.value (j5 _ _ _)
 . exact OkN.value (nEA _ _ _)
 . exact OkN.value (xBA _ _ _ _)
 . exact OkN.unit (jO _ _ _ _)
 . exact OkN.unit (jO _ _ _ _)
 . exact OkN.value (uY _ _ _)
 . exact OkN.unit (yV _ _ _ _)
 . exact OkN.value (cFA _ _)
 . exact OkN.value (kGA _ _ _)
 . exact OkN.value (uCA _)
 . exact OkN.value (sV _ _ _ _)
 . exact OkN.value (rAA _ _)
 . exact Ok.bind (uO _ _ _) λ_=>fV T _ _
 . exact Ok.bind (uO _ _ _) λ_=>⟨rfl,trivial⟩
 . exact Ok.bind (uO _ _ _) λ_=>⟨rfl,trivial⟩
 . exact OkN.value (lU _)
 . exact⟨rfl,trivial⟩
 . refine Ok.bind (aC _) λ_=>?_
   split
   . exact Ok.bind (dF _) λ_=>⟨rfl,trivial⟩
   . exact xA
 . exact Ok.bind (vG λ_=>Ok.bind (dF _) λ_=>Ok.pure) λ_=>⟨rfl,trivial⟩
def MS(e:Event):Prop:=∀ m,e.loc = .mark m->e.sync=true
theorem gV{es:Array Event}{e:Event}(h:∀ x∈es,MS x)(he:MS e):∀ x∈es.push e,MS x:=by
 intro x hx;rcases Array.mem_push.1 hx with hx|rfl
 . exact h x hx
 . exact he
theorem v1A{es u:Array Event}(h:∀ x∈es,MS x)(he:∀ x∈u,MS x):∀ x∈es++u,MS x:=λx hx=>(Array.mem_append.1 hx).elim (h x) (he x)
theorem r7A{P:Program}{α:Type}(s:Sem α):∀(w:World) (es:Array Event),(∀ x∈es,MS x)->∀ x∈(s.runT P w es).2,MS x:=by
 induction s with
 | pure a=>exact λw es h=>h
 | halt h=>exact λw es h=>h
 | load m a k ih =>
   intro w es h;simp only[Sem.runT]
   split
   . exact ih _ _ _ (gV h (by intro m hm;cases hm))
   . split
     . exact ih _ _ _ (v1A h (by intro e he m hm;simp at he;obtain⟨_,_,rfl⟩:=he;cases hm))
     . exact h
 | store m a v k ih =>
   intro w es h;by_cases hv:(∃ x,v = .agg x)∨∃ x,v = .tuple x
   . rcases hv with⟨x,rfl⟩|⟨x,rfl⟩<;>exact h
   . have e0:∀(w:World),(Sem.store m a v k).runT P w es=match w.cell? a with
         | some _ =>
           if w.frozen? a then (.halt (.unsupported (.unsafePointer "a write to bytes that a string shares")) w, es)
           else k.runT P (w.setCell a v) (es.push ⟨.cell a,true,m == .atomic⟩)
         | none => match w.farStore P a v (m == .atomic) with
           | .ok (w,touched)=>k.runT P w (es++touched.toArray.map (⟨.cell ·,true,m == .atomic⟩))
           | .error h=>(.halt h w,es):=by
       intro w
       cases v<;>first|rfl|exact absurd (.inl ⟨_,rfl⟩) hv|exact absurd (.inr ⟨_,rfl⟩) hv
     rw[e0]
     split
     . split
       . exact h
       . exact ih _ _ (gV h (by intro m hm;cases hm))
     . split
       . exact ih _ _ (v1A h (by intro e he m hm;simp at he;obtain⟨_,_,rfl⟩:=he;cases hm))
       . exact h
 | new o k ih=>exact λw es h=>ih _ _ _ h
 | shape r k ih=>exact λw es h=>ih _ _ _ h
 | freeze a n k ih=>exact λw es h=>ih _ _ h
 | frozen a k ih=>exact λw es h=>ih _ _ _ h
 | getObj r k ih =>
   intro w es h;simp only[Sem.runT]
   split
   . exact h
   . exact ih _ _ _ (gV h (by intro m hm;cases hm))
   . exact h
 | setObj r o k ih =>
   intro w es h;simp only[Sem.runT]
   split
   . exact h
   . exact ih _ _ (gV h (by intro m hm;cases hm))
   . exact h
 | choose q k ih =>
   intro w es h;simp only[Sem.runT]
   split
   . exact ih _ _ _ h
   . exact ih _ _ _ h
 | sys c k ih=>exact λw es h=>ih _ _ _ (gV h (by intro m hm;cases hm))
 | program k ih=>exact λw es h=>ih _ _ _ h
 | mark m k ih=>exact λw es h=>ih _ _ (gV h (by intro m hm;rfl))
theorem dGA(P:Program)(fn:FuncId){es:Array Event}(h:∀ x∈es,MS x)(d:Nat):deafBehind d (seen P fn es)=deafBehind d es:=by
 obtain⟨l⟩:=es;have key:∀(l:List Event) (q:Bool) (kept:Array Event),(∀ x∈l,MS x) ->
  deafBehind d (l.foldl (λ(x:Bool×Array Event) e=>match e.loc with
    | .mark (.extern f)=>((P.funcs[f]?).any (·.norace),x.2)
    | _=>(x.1,if x.1 && !e.sync then x.2 else x.2.push e)) (q,kept)).2=deafBehind d (kept++l.toArray):=by
  intro l
  induction l with
  | nil=>intro q kept _;simp
  | cons e l ih =>
    intro q kept h;have hl:=λx hx=>h x (Qh _ hx)
    have he:=h e (by simp);have e1:kept++(e::l).toArray=(kept++#[e])++l.toArray:=by
     apply Array.ext';simp
    simp only[List.foldl_cons]
    split
    . rename_i f hf;rw[ih _ _ hl,e1,fF,fF,fF];congr 1
      rw[tJ,tJ];simp[vCA,hf]
    . split
      . rename_i hq;rw[ih _ _ hl,e1,fF,fF,fF];congr 1
        have hns:e.sync=false:=by
         cases hs:e.sync with
         | false=>rfl
         | true=>simp[hs]at hq
        rw[uQ (es:=#[e]) (by
          intro x hx m hm;simp at hx;subst hx;rw[he m hm]at hns
          cases hns)]
      . rw[ih _ _ hl,e1,tO]
 have:=key l ((P.funcs[fn]?).any (·.norace)) #[] (λx hx=>h x (by simpa using hx));unfold seen;dsimp only;rw[<- Array.foldl_toList];rw[Array.empty_append]at this;exact this
theorem sZ:∀ x∈(#[]:Array Event),MS x:=by simp
end Go.Lx
