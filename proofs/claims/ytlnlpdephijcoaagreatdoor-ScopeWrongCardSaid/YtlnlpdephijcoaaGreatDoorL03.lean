/- Part 3 of what the proof rests on. -/
import Derived.Test.YtlnlpdephijcoaaGreatDoorL02
set_option linter.unusedSimpArgs false
set_option linter.unusedVariables false
namespace Go.Lx
def uCA(d:Nat)(e:Event):Nat:=match e.loc with | .mark .disable=>d+1 | .mark .enable=>d - 1 | _=>d
theorem nJ(d:Nat)(es:Array Event):deafBehind d es=es.toList.foldl uCA d:=by
 unfold deafBehind;rw[← Array.foldl_toList];rfl
theorem xE(d:Nat)(a b:Array Event):deafBehind d (a++b)=deafBehind (deafBehind d a) b:=by
 simp only[nJ,Array.toList_append,List.foldl_append]
theorem kQ{d:Nat}{es:Array Event}(h:∀ e∈es,∀ m,e.loc≠.mark m):deafBehind d es=d:=by
 rw[nJ];obtain⟨l⟩:=es
 induction l generalizing d with
 | nil=>rfl
 | cons e l ih =>
   have h1:uCA d e=d:=by
    have:=h e (by simp);unfold uCA
    split<;>first | rfl | (rename_i hl;exact absurd hl (this _))
   simp only[List.foldl_cons,h1];exact ih fun x hx=>h x (by simp at hx ⊢;exact .inr hx)
def Bal(d:Nat)(new:Array Event):Prop:=∀ x,deafBehind (x+d) new=x
def BalR {α : Type} (φ : α → Prop) (d : Nat) (new : Array Event) : Result α → Prop
  | .ok a _=>φ a∧Bal d new
  | .halt h _=>calm h∧(rV h∨Bal d new)
theorem Bal.cons{d:Nat}{pre new:Array Event}(h:Bal d new)(hp:∀ e∈pre,∀ m,e.loc≠.mark m):Bal d (pre++new):=fun x=>by
 rw[xE,kQ hp];exact h x
theorem BalR.cons{α:Type}{φ:α→Prop}{d:Nat}{pre new:Array Event}{r:Result α}(h:BalR φ d new r)(hp:∀ e∈pre,∀ m,e.loc≠.mark m):BalR φ d (pre++new) r:=by
 cases r with
 | ok a w=>exact⟨h.1,h.2.cons hp⟩
 | halt x w=>exact⟨h.1,h.2.imp id fun b=>b.cons hp⟩
theorem wO{α:Type}{φ:α→Prop}{d:Nat}{es pre:Array Event}{x:Result α×Array Event}(h:∃ new,x.2=(es++pre)++new∧BalR φ d new x.1)(hp:∀ e∈pre,∀ m,e.loc≠.mark m) :
 ∃ new,x.2=es++new∧BalR φ d new x.1:=by
 obtain⟨new,h1,h2⟩:=h;exact⟨pre++new,by rw[h1,Array.append_assoc],h2.cons hp⟩
theorem tHA{P:Program}{w:World}{a:Addr}{b:Bool}{h:Halt}(e:w.farLoad P a b = .error h):rV h:=by
 unfold World.farLoad World.noCell at e
 repeat' (split at e<;>first | (cases e;done) | (cases e;trivial) | skip)
theorem wFA{P:Program}{w:World}{a:Addr}{v:Value}{b:Bool}{h:Halt}(e:w.farStore P a v b = .error h):rV h:=by
 unfold World.farStore World.noCell at e
 repeat' (split at e<;>first | (cases e;done) | (cases e;trivial) | skip)
theorem uO(es:Array Event)(e:Event):es.push e=es++#[e]:=by simp
theorem eP{α:Type}{φ:α→Prop}{d:Nat}{es:Array Event}{h:Halt}{w:World}(hh:rV h):∃ new,(Result.halt (α:=α) h w,es).2=es++new∧BalR φ d new (Result.halt (α:=α) h w,es).1 :=
 ⟨#[],by simp,(by cases h<;>first | trivial | exact absurd hh id),.inl hh⟩
theorem wXA{P:Program}{α:Type}{φ:α→Prop}(s:Sem α):∀(d:Nat),Safe P φ d s→∀(w:World) (es:Array Event),
 ∃ new,(s.runT P w es).2=es++new∧BalR φ d new (s.runT P w es).1:=by
 induction s with
 | pure a =>
   rintro d ⟨rfl,ha⟩ w es;exact⟨#[],by simp[Sem.runT],ha,fun x=>rfl⟩
 | halt h =>
   intro d hs w es;refine⟨#[],by simp[Sem.runT],?_⟩;obtain⟨hq,hs⟩:=hs;rcases hs with rfl | hs
   · exact⟨hq,.inr fun x=>rfl⟩
   · exact⟨hq,.inl hs⟩
 | load m a k ih =>
   intro d hs w es
   cases hc:w.cell? a with
   | some v =>
     have:=ih v d (hs v) w (es.push ⟨.cell a,false,m == .atomic⟩);simp only[Sem.runT,hc];rw[uO]at this ⊢;exact wO this (by simp)
   | none =>
     cases hf:w.farLoad P a (m == .atomic) with
     | ok x =>
       obtain⟨v,t⟩:=x;have:=ih v d (hs v) w (es++t.toArray.map (⟨.cell ·,false,m == .atomic⟩));simp only[Sem.runT,hc,hf];exact wO this (by intro e he m;simp at he;obtain⟨_,_,rfl⟩:=he;simp)
     | error h =>
       simp only[Sem.runT,hc,hf];exact eP (tHA hf)
 | store m a v k ih =>
   intro d hs w es;by_cases hv:(∃ x,v = .agg x)∨∃ x,v = .tuple x
   · rcases hv with⟨x,rfl⟩ | ⟨x,rfl⟩<;>exact eP trivial
   · have e0 : ∀ (w : World), (Sem.store m a v k).runT P w es = match w.cell? a with
         | some _ =>
           if w.frozen? a then (.halt (.unsupported (.unsafePointer "a write to bytes that a string shares")) w, es)
           else k.runT P (w.setCell a v) (es.push ⟨.cell a,true,m == .atomic⟩)
         | none => match w.farStore P a v (m == .atomic) with
           | .ok (w,touched)=>k.runT P w (es++touched.toArray.map (⟨.cell ·,true,m == .atomic⟩))
           | .error h=>(.halt h w,es):=by
       intro w
       cases v<;>first | rfl | exact absurd (.inl ⟨_,rfl⟩) hv | exact absurd (.inr ⟨_,rfl⟩) hv
     rw[e0]
     cases hc:w.cell? a with
     | some x =>
       simp only
       split
       · exact eP trivial
       · have:=ih d hs (w.setCell a v) (es.push ⟨.cell a,true,m == .atomic⟩);rw[uO]at this ⊢;exact wO this (by simp)
     | none =>
       cases hf:w.farStore P a v (m == .atomic) with
       | ok x =>
         obtain⟨w',t⟩:=x;exact wO (ih d hs w' (es++t.toArray.map (⟨.cell ·,true,m == .atomic⟩))) (by intro e he m;simp at he;obtain⟨_,_,rfl⟩:=he;simp)
       | error h=>exact eP (wFA hf)
 | new o k ih=>intro d hs w es;exact ih w.heap.size d (hs _) { w with heap:=w.heap.push o } es
 | shape r k ih=>intro d hs w es;exact ih (w.shape? r) d (hs _) w es
 | freeze a n k ih=>intro d hs w es;exact ih d hs (w.freeze a n) es
 | frozen a k ih=>intro d hs w es;exact ih (w.frozen? a) d (hs _) w es
 | getObj r k ih =>
   intro d hs w es;simp only[Sem.runT]
   split
   · exact eP trivial
   · rename_i o _ _;have:=ih o d (hs o) w (es.push ⟨.obj r,false,o.isChan⟩);rw[uO]at this ⊢;exact wO this (by simp)
   · exact eP trivial
 | setObj r o k ih =>
   intro d hs w es;simp only[Sem.runT]
   split
   · exact eP trivial
   · have:=ih d hs { w with heap:=w.heap.setIfInBounds r o } (es.push ⟨.obj r,true,o.isChan⟩);rw[uO]at this ⊢;exact wO this (by simp)
   · exact eP trivial
 | choose q k ih =>
   intro d hs w es;simp only[Sem.runT]
   split
   · exact ih 0 d (hs 0) w es
   · exact ih _ d (hs _) _ es
 | sys c k ih =>
   intro d hs w es;have:=ih (w.sys c).1 d (hs.2 _) (w.sys c).2 (es.push ⟨.output,true,false⟩);simp only[Sem.runT];rw[uO]at this ⊢;exact wO this (by simp)
 | program k ih=>intro d hs w es;exact ih P d hs w es
 | mark m k ih =>
   intro d hs w es;have key:∀ d',Safe P φ d' k→(∀ x,uCA (x+d) ⟨.mark m,false,true⟩=x+d')→∃ new,((Sem.mark m k).runT P w es).2=es++new∧BalR φ d new ((Sem.mark m k).runT P w es).1:=by
    intro d' hd' hst;obtain⟨new,h1,h2⟩:=ih d' hd' w (es.push ⟨.mark m,false,true⟩);refine⟨#[⟨.mark m,false,true⟩]++new,by simp only[Sem.runT];rw[h1,uO,Array.append_assoc],?_⟩;have hb:Bal d' new→Bal d (#[⟨.mark m,false,true⟩]++new):=fun b x=>by
     rw[xE,show deafBehind (x+d) #[⟨.mark m,false,true⟩]=uCA (x+d) ⟨.mark m,false,true⟩ from by rw[nJ];rfl,hst x];exact b x
    simp only[Sem.runT]
    revert h2
    cases(k.runT P w (es.push ⟨.mark m,false,true⟩)).1 with
    | ok a w=>exact fun h2=>⟨h2.1,hb h2.2⟩
    | halt h w=>exact fun h2=>⟨h2.1,h2.2.imp id hb⟩
   cases m with
   | disable=>exact key (d+1) hs fun x=>rfl
   | enable=>exact key (d - 1) hs.2 fun x=>by have:=hs.1;simp only[uCA];omega
   | _=>exact key d hs fun x=>rfl
end Go.Lx
