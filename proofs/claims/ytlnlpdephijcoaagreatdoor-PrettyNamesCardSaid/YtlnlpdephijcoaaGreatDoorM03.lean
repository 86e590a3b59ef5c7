/- Part 3 of what the proof rests on. -/
import Derived.Laws.Sem
import Derived.Test.YtlnlpdephijcoaaGreatDoorM02
set_option linter.unusedSimpArgs false
set_option linter.unusedVariables false
set_option maxHeartbeats 4000000
namespace Go.Lx
def eGA(d:Nat)(e:Event):Nat:=match e.loc with | .mark .disable=>d+1 | .mark .enable=>d - 1 | _=>d
theorem rJ(d:Nat)(es:Array Event):deafBehind d es=es.toList.foldl eGA d:=by
 unfold deafBehind;rw[← Array.foldl_toList];rfl
theorem iF(d:Nat)(a b:Array Event):deafBehind d (a++b)=deafBehind (deafBehind d a) b:=by
 simp only[rJ,Array.toList_append,List.foldl_append]
theorem dS{d:Nat}{es:Array Event}(h:∀ e∈es,∀ m,e.loc≠.mark m):deafBehind d es=d:=by
 rw[rJ];obtain⟨l⟩:=es
 induction l generalizing d with
 | nil=>rfl
 | cons e l ih =>
   have h1:eGA d e=d:=by
    have:=h e (by simp);unfold eGA
    split<;>first | rfl | (rename_i hl;exact absurd hl (this _))
   simp only[List.foldl_cons,h1];exact ih fun x hx=>h x (by simp at hx ⊢;exact .inr hx)
def Bal(d:Nat)(new:Array Event):Prop:=∀ x,deafBehind (x+d) new=x
def BalR {α : Type} (φ : α → Prop) (d : Nat) (new : Array Event) : Result α → Prop
  | .ok a _=>φ a∧Bal d new
  | .halt h _=>calm h∧(uY h∨Bal d new)
theorem Bal.cons{d:Nat}{pre new:Array Event}(h:Bal d new)(hp:∀ e∈pre,∀ m,e.loc≠.mark m):Bal d (pre++new):=fun x=>by
 rw[iF,dS hp];exact h x
theorem BalR.cons{α:Type}{φ:α→Prop}{d:Nat}{pre new:Array Event}{r:Result α}(h:BalR φ d new r)(hp:∀ e∈pre,∀ m,e.loc≠.mark m):BalR φ d (pre++new) r:=by
 cases r with
 | ok a w=>exact⟨h.1,h.2.cons hp⟩
 | halt x w=>exact⟨h.1,h.2.imp id fun b=>b.cons hp⟩
theorem mP{α:Type}{φ:α→Prop}{d:Nat}{es pre:Array Event}{x:Result α×Array Event}(h:∃ new,x.2=(es++pre)++new∧BalR φ d new x.1)(hp:∀ e∈pre,∀ m,e.loc≠.mark m) :
 ∃ new,x.2=es++new∧BalR φ d new x.1:=by
 obtain⟨new,h1,h2⟩:=h;exact⟨pre++new,by rw[h1,Array.append_assoc],h2.cons hp⟩
theorem wKA{P:Program}{w:World}{a:Addr}{b:Bool}{h:Halt}(e:w.farLoad P a b = .error h):uY h:=by
 unfold World.farLoad World.noCell at e
 repeat' (split at e<;>first | (cases e;done) | (cases e;trivial) | skip)
theorem cIA{P:Program}{w:World}{a:Addr}{v:Value}{b:Bool}{h:Halt}(e:w.farStore P a v b = .error h):uY h:=by
 unfold World.farStore World.noCell at e
 repeat' (split at e<;>first | (cases e;done) | (cases e;trivial) | skip)
theorem kP(es:Array Event)(e:Event):es.push e=es++#[e]:=by simp
theorem fQ{α:Type}{φ:α→Prop}{d:Nat}{es:Array Event}{h:Halt}{w:World}(hh:uY h):∃ new,(Result.halt (α:=α) h w,es).2=es++new∧BalR φ d new (Result.halt (α:=α) h w,es).1 :=
 ⟨#[],by simp,(by cases h<;>first | trivial | exact absurd hh id),.inl hh⟩
theorem n2A{P:Program}{α:Type}{φ:α→Prop}(s:Sem α):∀(d:Nat),Safe P φ d s→∀(w:World) (es:Array Event),
 ∃ new,(s.runT P w es).2=es++new∧BalR φ d new (s.runT P w es).1:=by
 induction s with
 | pure a =>
   rintro d ⟨rfl,ha⟩ w es;exact⟨#[],by simp[Sem.runT],ha,fun x=>rfl⟩
 | halt h =>
   intro d hs w es;refine⟨#[],by simp[Sem.runT],?_⟩;obtain⟨hq,hs⟩:=hs;rcases hs with rfl | hs
   · exact⟨hq,.inr fun x=>rfl⟩
   · exact⟨hq,.inl hs⟩
 | load m a k ih =>
   intro d hs w es
   cases hc:w.cell? a with
   | some v =>
     have:=ih v d (hs v) w (es.push ⟨.cell a,false,m == .atomic⟩);simp only[Sem.runT,hc];rw[kP]at this ⊢;exact mP this (by simp)
   | none =>
     cases hf:w.farLoad P a (m == .atomic) with
     | ok x =>
       obtain⟨v,t⟩:=x;have:=ih v d (hs v) w (es++t.toArray.map (⟨.cell ·,false,m == .atomic⟩));simp only[Sem.runT,hc,hf];exact mP this (by intro e he m;simp at he;obtain⟨_,_,rfl⟩:=he;simp)
     | error h =>
       simp only[Sem.runT,hc,hf];exact fQ (wKA hf)
 | store m a v k ih =>
   intro d hs w es;by_cases hv:(∃ x,v = .agg x)∨∃ x,v = .tuple x
   · rcases hv with⟨x,rfl⟩ | ⟨x,rfl⟩<;>exact fQ trivial
   · have e0 : ∀ (w : World), (Sem.store m a v k).runT P w es = match w.cell? a with
         | some _ =>
           if w.frozen? a then (.halt (.unsupported (.unsafePointer "a write to bytes that a string shares")) w, es)
           else k.runT P (w.setCell a v) (es.push ⟨.cell a,true,m == .atomic⟩)
         | none => match w.farStore P a v (m == .atomic) with
           | .ok (w,touched)=>k.runT P w (es++touched.toArray.map (⟨.cell ·,true,m == .atomic⟩))
           | .error h=>(.halt h w,es):=by
       intro w
       cases v<;>first | rfl | exact absurd (.inl ⟨_,rfl⟩) hv | exact absurd (.inr ⟨_,rfl⟩) hv
     rw[e0]
     cases hc:w.cell? a with
     | some x =>
       simp only
       split
       · exact fQ trivial
       · have:=ih d hs (w.setCell a v) (es.push ⟨.cell a,true,m == .atomic⟩);rw[kP]at this ⊢;exact mP this (by simp)
     | none =>
       cases hf:w.farStore P a v (m == .atomic) with
       | ok x =>
         obtain⟨w',t⟩:=x;exact mP (ih d hs w' (es++t.toArray.map (⟨.cell ·,true,m == .atomic⟩))) (by intro e he m;simp at he;obtain⟨_,_,rfl⟩:=he;simp)
       | error h=>exact fQ (cIA hf)
 | new o k ih=>intro d hs w es;exact ih w.heap.size d (hs _) { w with heap:=w.heap.push o } es
 | shape r k ih=>intro d hs w es;exact ih (w.shape? r) d (hs _) w es
 | freeze a n k ih=>intro d hs w es;exact ih d hs (w.freeze a n) es
 | frozen a k ih=>intro d hs w es;exact ih (w.frozen? a) d (hs _) w es
 | getObj r k ih =>
   intro d hs w es;simp only[Sem.runT]
   split
   · exact fQ trivial
   · rename_i o _ _;have:=ih o d (hs o) w (es.push ⟨.obj r,false,o.isChan⟩);rw[kP]at this ⊢;exact mP this (by simp)
   · exact fQ trivial
 | setObj r o k ih =>
   intro d hs w es;simp only[Sem.runT]
   split
   · exact fQ trivial
   · have:=ih d hs { w with heap:=w.heap.setIfInBounds r o } (es.push ⟨.obj r,true,o.isChan⟩);rw[kP]at this ⊢;exact mP this (by simp)
   · exact fQ trivial
 | choose q k ih =>
   intro d hs w es;simp only[Sem.runT]
   split
   · exact ih 0 d (hs 0) w es
   · exact ih _ d (hs _) _ es
 | sys c k ih =>
   intro d hs w es;have:=ih (w.sys c).1 d (hs.2 _) (w.sys c).2 (es.push ⟨.output,true,false⟩);simp only[Sem.runT];rw[kP]at this ⊢;exact mP this (by simp)
 | program k ih=>intro d hs w es;exact ih P d hs w es
 | mark m k ih =>
   intro d hs w es;have key:∀ d',Safe P φ d' k→(∀ x,eGA (x+d) ⟨.mark m,false,true⟩=x+d')→∃ new,((Sem.mark m k).runT P w es).2=es++new∧BalR φ d new ((Sem.mark m k).runT P w es).1:=by
    intro d' hd' hst;obtain⟨new,h1,h2⟩:=ih d' hd' w (es.push ⟨.mark m,false,true⟩);refine⟨#[⟨.mark m,false,true⟩]++new,by simp only[Sem.runT];rw[h1,kP,Array.append_assoc],?_⟩;have hb:Bal d' new→Bal d (#[⟨.mark m,false,true⟩]++new):=fun b x=>by
     rw[iF,show deafBehind (x+d) #[⟨.mark m,false,true⟩]=eGA (x+d) ⟨.mark m,false,true⟩ from by rw[rJ];rfl,hst x];exact b x
    simp only[Sem.runT]
    revert h2
    cases(k.runT P w (es.push ⟨.mark m,false,true⟩)).1 with
    | ok a w=>exact fun h2=>⟨h2.1,hb h2.2⟩
    | halt h w=>exact fun h2=>⟨h2.1,h2.2.imp id hb⟩
   cases m with
   | disable=>exact key (d+1) hs fun x=>rfl
   | enable=>exact key (d - 1) hs.2 fun x=>by have:=hs.1;simp only[eGA];omega
   | _=>exact key d hs fun x=>rfl
variable {α β : Type}
theorem Safe.bind{P:Program}{ψ:α→Prop}{φ:β→Prop}{s:Sem α}{f:α→Sem β}:∀ {d:Nat},Safe P ψ d s→(∀ a,ψ a→Safe P φ 0 (f a))→Safe P φ d (s.bind f):=by
 induction s with
 | pure a=>rintro d ⟨rfl,h⟩ hf;exact hf a h
 | load m a k ih=>exact fun h hf v=>ih v (h v) hf
 | store m a v k ih=>exact fun h hf=>ih h hf
 | new o k ih=>exact fun h hf r=>ih r (h r) hf
 | shape r k ih=>exact fun h hf v=>ih v (h v) hf
 | freeze a n k ih=>exact fun h hf=>ih h hf
 | frozen a k ih=>exact fun h hf v=>ih v (h v) hf
 | getObj r k ih=>exact fun h hf v=>ih v (h v) hf
 | setObj r o k ih=>exact fun h hf=>ih h hf
 | choose q k ih=>exact fun h hf v=>ih v (h v) hf
 | sys c k ih =>
   rintro d ⟨⟨x,hd,hx⟩,h⟩ hf;exact⟨⟨x,hd,by show(k SysRet.wouldBlock).bind f=_;rw[hx];rfl⟩,fun v=>ih v (h v) hf⟩
 | program k ih=>exact fun h hf=>ih _ h hf
 | mark m k ih =>
   intro d h hf
   cases m with
   | disable=>exact ih h hf
   | enable=>exact⟨h.1,ih h.2 hf⟩
   | _=>exact ih h hf
 | halt h'=>exact fun h _=>h
abbrev Ok(P:Program)(s:Sem α):Prop:=Safe P (fun _=>True) 0 s
theorem Ok.bind{P:Program}{φ:β→Prop}{s:Sem α}{f:α→Sem β}(h:Ok P s)(hf:∀ a,Safe P φ 0 (f a)):Safe P φ 0 (s >>= f):=Safe.bind h fun a _=>hf a
theorem Ok.pure{P:Program}{a:α}:Ok P (Pure.pure a:Sem α):=⟨rfl,trivial⟩
theorem Ok.halt{P:Program}{φ:α→Prop}{h:Halt}(hq:calm h):Safe P φ 0 (.halt h):=⟨hq,.inl rfl⟩
theorem Ok.map{P:Program}{f:α→β}{s:Sem α}(h:Ok P s):Ok P (f <$> s):=Safe.bind h fun _ _=>⟨rfl,trivial⟩
theorem jp{γ:Type}{P:Program}{φ:β→Prop}(j:γ→Sem β)(Q:Prop)(hj:∀ r,Safe P φ 0 (j r))(h:(∀ r,Safe P φ 0 (j r))→Q):Q:=h hj
theorem jq{P:Program}(j:Sem β)(Q:Prop)(hj:Ok P j)(h:Ok P j→Q):Q:=h hj
theorem yG{P:Program}{f:α→Sem β}(h:∀ a,Ok P (f a))(l:List α):Ok P (l.mapM f):=by
 have key:∀(l:List α) (acc:List β),Ok P (List.mapM.loop f l acc):=by
  intro l
  induction l with
  | nil=>exact fun acc=>Ok.pure
  | cons a l ih=>exact fun acc=>Ok.bind (h a) fun b=>ih _
 exact key l []
theorem zG{P:Program}{f:α→Sem β}{l:Array α}(h:∀ a,Ok P (f a)):Ok P (l.mapM f):=by
 rw[Array.mapM_eq_mapM_toList];exact Ok.map (yG h _)
theorem yC{P:Program}{f:α→β→Sem (ForInStep β)}{l:List α}{b:β}(h:∀ a b,Ok P (f a b)):Ok P (forIn l b f):=by
 induction l generalizing b with
 | nil=>exact Ok.pure
 | cons a l ih =>
   rw[List.forIn_cons];refine Ok.bind (h a b) fun r=>?_
   cases r with
   | done b=>exact Ok.pure
   | yield b=>exact ih
theorem dD{P:Program}{f:α→β→Sem (ForInStep β)}{l:Array α}{b:β}(h:∀ a b,Ok P (f a b)):Ok P (forIn l b f):=by
 rw[← Array.forIn_toList];exact yC h
theorem iD{P:Program}{f:Nat→β→Sem (ForInStep β)}{l:Std.Legacy.Range}{b:β}(h:∀ a b,Ok P (f a b)):Ok P (forIn l b f):=by
 rw[Std.Legacy.Range.forIn_eq_forIn_range'];exact yC h
theorem yNA{P:Program}{f:β→α→Sem β}(h:∀ b a,Ok P (f b a))(l:List α):∀ b,Ok P (l.foldlM f b):=by
 induction l with
 | nil=>exact fun b=>Ok.pure
 | cons a l ih=>exact fun b=>Ok.bind (h b a) fun c=>ih c
theorem i6A{P:Program}{l:Std.Legacy.Range}{f:(a:Nat)→a∈l→β→Sem (ForInStep β)}{b:β}(h:∀ a m b,Ok P (f a m b)):Ok P (forIn' l b f):=by
 rw[Std.Legacy.Range.forIn'_eq_forIn'_range'];have key:∀(L:List Nat) (g:(a:Nat)→a∈L→β→Sem (ForInStep β)) (b:β),(∀ a m b,Ok P (g a m b))→Ok P (forIn' L b g):=by
  intro L
  induction L with
  | nil=>exact fun g b _=>Ok.pure
  | cons a L ih =>
    intro g b hg;rw[List.forIn'_cons];refine Ok.bind (hg _ _ _) fun r=>?_
    cases r with
    | done b=>exact Ok.pure
    | yield b=>exact ih _ _ fun _ _ _=>hg _ _ _
 exact key _ _ _ fun _ _ _=>h _ _ _
theorem iZ{P:Program}{a m}:Ok P (load a m):=fun _=>⟨rfl,trivial⟩
theorem l4A{P:Program}{a v m}:Ok P (store a v m):=⟨rfl,trivial⟩
theorem iI{P:Program}{o}:Ok P (newObj o):=fun _=>⟨rfl,trivial⟩
theorem dJ{P:Program}{o}:Ok P (shape o):=fun _=>⟨rfl,trivial⟩
theorem pAA{P:Program}{a n}:Ok P (freeze a n):=⟨rfl,trivial⟩
theorem iBA{P:Program}{a}:Ok P (frozen a):=fun _=>⟨rfl,trivial⟩
theorem pK{P:Program}{a}:Ok P (getObj a):=fun _=>⟨rfl,trivial⟩
theorem gJ{P:Program}{a o}:Ok P (setObj a o):=⟨rfl,trivial⟩
theorem qE{P:Program}{a}:Ok P (choose a):=fun _=>⟨rfl,trivial⟩
theorem sD{P:Program}:Ok P program:=⟨rfl,trivial⟩
theorem dA{P:Program}{φ:α→Prop}{a}:Safe P φ 0 (stuck a:Sem α):=⟨trivial,.inl rfl⟩
theorem zA{P:Program}{φ:α→Prop}{a}:Safe P φ 0 (unsupported a:Sem α):=⟨trivial,.inl rfl⟩
theorem xGA{P:Program}{φ:α→Prop}{a}:Safe P φ 0 (goPanic a:Sem α):=⟨trivial,.inl rfl⟩
theorem k1A{P:Program}{φ:α→Prop}{a}:Safe P φ 0 (throw a:Sem α):=⟨trivial,.inl rfl⟩
theorem nM{P:Program}{n}:Ok P (askRoom n):=by
 unfold askRoom;split
 · exact⟨rfl,trivial⟩
 · exact⟨rfl,trivial⟩
theorem lL{P:Program}:Ok P (mark .noRoom):=⟨rfl,trivial⟩
theorem uS{P:Program}{a b}:Ok P (writeFd a b):=by
 unfold writeFd;refine⟨⟨.unsupported (.noEntry _),trivial,rfl⟩,fun r=>?_⟩
 cases r<;>first | exact⟨rfl,trivial⟩ | exact⟨trivial,.inl rfl⟩
theorem pLA{P:Program}:(∀ a0 a1,Ok P (Conv.intToInt a0 a1))∧(∀ a0 a1,Ok P (Conv.intToFloat a0 a1))∧(∀ a0,Ok P (Conv.intToString a0))∧(∀ a0 a1 a2,Ok P (Instr.makeFunc a0 a1 a2)):=by
 refine⟨?_,?_,?_,?_⟩<;>intros<;>(first | unfold Conv.intToInt | unfold Conv.intToFloat | unfold Conv.intToString | unfold Instr.makeFunc) <;>
 repeat' (first | (with_reducible first | exact Ok.pure | exact Ok.halt trivial | apply Ok.bind | apply Ok.map | apply zG | apply yG | apply dD | apply yC | apply iD) | intro _ | split | dsimp only)
theorem l9{P:Program}:∀ a0 a1 a2,Ok P (Instr.makeFunc a0 a1 a2):=pLA.2.2.2
theorem bG{P:Program}:(∀ a0,Ok P (asBool a0))∧(∀ a0,Ok P (typeInfo a0))∧(∀ a0 a1,Ok P (newRow a0 a1))∧(∀ a0,Ok P (underlying a0))∧(∀ a0,Ok P (Instr.sureAddr a0))∧(∀ a0,Ok P (Instr.ready a0))∧(∀ a0,Ok P (Instr.waits a0))∧(∀ a0 a1 a2 a3,Ok P (Op.intArith a0 a1 a2 a3))∧(∀ a0 a1 a2 a3,Ok P (Op.intBits a0 a1 a2 a3))∧(∀ a0 a1 a2,Ok P (Op.intCmp a0 a1 a2))∧(∀ a0 a1 a2 a3,Ok P (Op.floatArith a0 a1 a2 a3))∧(∀ a0 a1 a2 a3,Ok P (Op.floatCmp a0 a1 a2 a3))∧(∀ a0 a1 a2,Ok P (Conv.floatToFloat a0 a1 a2))∧(∀ a0 a1 a2,Ok P (Op.stringOp a0 a1 a2)):=by
 refine⟨?_,?_,?_,?_,?_,?_,?_,?_,?_,?_,?_,?_,?_,?_⟩<;>intros<;>(first | unfold asBool | unfold typeInfo | unfold newRow | unfold underlying | unfold Instr.sureAddr | unfold Instr.ready | unfold Instr.waits | unfold Op.intArith | unfold Op.intBits | unfold Op.intCmp | unfold Op.floatArith | unfold Op.floatCmp | unfold Conv.floatToFloat | unfold Op.stringOp) <;>
 repeat' (first | (with_reducible first | exact Ok.pure | exact Ok.halt trivial | apply dA | apply sD | apply iI | apply pK | apply gJ | apply dJ | apply qE | apply zA | apply Ok.bind | apply Ok.map | apply zG | apply yG | apply dD | apply yC | apply iD) | intro _ | split | dsimp only)
theorem hBA{P:Program}:∀ a0,Ok P (asBool a0):=bG.1
theorem gD{P:Program}:∀ a0,Ok P (typeInfo a0):=bG.2.1
theorem lH{P:Program}:∀ a0 a1,Ok P (newRow a0 a1):=bG.2.2.1
theorem iB{P:Program}:∀ a0,Ok P (underlying a0):=bG.2.2.2.1
theorem yDA{P:Program}:∀ a0,Ok P (Instr.ready a0):=bG.2.2.2.2.2.1
theorem iFA{P:Program}:∀ a0,Ok P (Instr.waits a0):=bG.2.2.2.2.2.2.1
theorem tF{P:Program}:(∀ a0,Ok P (numberAt a0))∧(∀ a0,Ok P (viewAt a0))∧(∀ a0,Ok P (stringish a0))∧(∀ a0,Ok P (asIntOf a0))∧(∀ a0 a1,Ok P (asNumber a0 a1))∧(∀ a0 a1 a2,Ok P (Conv.floatToInt a0 a1 a2))∧(∀ a0,Ok P (markStringish a0))∧(∀ a0,Ok P (cellsIn a0))∧(∀ a0 a1 a2,Ok P (variablesAt a0 a1 a2))∧(∀ a0,Ok P (asAgg a0))∧(∀ a0 a1,Ok P (Instr.keyThatStays a0 a1))∧(∀ a0 a1 a2,Ok P (Instr.next a0 a1 a2))∧(∀ a0,Ok P (Instr.entry a0))∧(∀ a0 a1,Ok P (Instr.extract a0 a1)):=by
 refine⟨?_,?_,?_,?_,?_,?_,?_,?_,?_,?_,?_,?_,?_,?_⟩<;>intros<;>(first | unfold numberAt | unfold viewAt | unfold stringish | unfold asIntOf | unfold asNumber | unfold Conv.floatToInt | unfold markStringish | unfold cellsIn | unfold variablesAt | unfold asAgg | unfold Instr.keyThatStays | unfold Instr.next | unfold Instr.entry | unfold Instr.extract) <;>
 repeat' (first | (with_reducible first | exact Ok.pure | exact Ok.halt trivial | apply pK | apply dJ | apply iBA | apply dA | apply zA | apply iI | apply qE | apply pAA | apply sD | apply gJ | apply Ok.bind | apply Ok.map | apply zG | apply yG | apply dD | apply yC | apply iD) | intro _ | split | dsimp only)
theorem xNA{P:Program}:∀ a0,Ok P (asAgg a0):=tF.2.2.2.2.2.2.2.2.2.1
theorem yHA{P:Program}:∀ a0 a1 a2,Ok P (Instr.next a0 a1 a2):=tF.2.2.2.2.2.2.2.2.2.2.2.1
theorem uEA{P:Program}:∀ a0,Ok P (Instr.entry a0):=tF.2.2.2.2.2.2.2.2.2.2.2.2.1
theorem fAA{P:Program}:∀ a0 a1,Ok P (Instr.extract a0 a1):=tF.2.2.2.2.2.2.2.2.2.2.2.2.2
theorem vN{P:Program}:(∀ a0 a1,Ok P (Deferred.ofValue a0 a1))∧(∀ a0 a1,Ok P (Builtin.holdsCells a0 a1))∧(∀ a0,Ok P (Builtin.lenOf a0))∧(∀ a0,Ok P (externState a0))∧(∀ a0,Ok P (asString a0))∧(∀ a0,Ok P (cutType a0))∧(∀ a0,Ok P (globalAddr a0))∧(∀ a0 a1 a2,Ok P (intVariablesAt a0 a1 a2))∧(∀ a0,Ok P (Instr.getLoop a0))∧(∀ a0,Ok P (Instr.takeDeferred a0))∧(∀ a0,Ok P (withAddress a0)):=by
 refine⟨?_,?_,?_,?_,?_,?_,?_,?_,?_,?_,?_⟩<;>intros<;>(first | unfold Deferred.ofValue | unfold Builtin.holdsCells | unfold Builtin.lenOf | unfold externState | unfold asString | unfold cutType | unfold globalAddr | unfold intVariablesAt | unfold Instr.getLoop | unfold Instr.takeDeferred | unfold withAddress) <;>
 repeat' (first | (with_reducible first | exact Ok.pure | exact Ok.halt trivial | apply dA | apply dJ | apply pK | apply iI | apply sD | apply gJ | apply qE | apply Ok.bind | apply Ok.map | apply zG | apply yG | apply dD | apply yC | apply iD) | intro _ | split | dsimp only)
theorem qW{P:Program}:∀ a0 a1,Ok P (Deferred.ofValue a0 a1):=vN.1
theorem gQ{P:Program}:∀ a0,Ok P (asString a0):=vN.2.2.2.2.1
theorem gM{P:Program}:∀ a0,Ok P (Instr.getLoop a0):=vN.2.2.2.2.2.2.2.2.1
theorem dU{P:Program}:∀ a0,Ok P (Instr.takeDeferred a0):=vN.2.2.2.2.2.2.2.2.2.1
theorem cGA{P:Program}:∀ a0,Ok P (withAddress a0):=vN.2.2.2.2.2.2.2.2.2.2
theorem eG{P:Program}:∀ a1 a2 a3,Ok P (storeCells a1 a2 a3):=by
 intro a1 a2
 induction a2 with
 | nil=>exact fun _=>Ok.pure
 | cons v l ih=>exact fun a3=>Ok.bind l4A fun _=>ih _
theorem zAA{P:Program}:∀ a1 a2 a3 a4,Ok P (loadCellsFrom a1 a2 a3 a4):=by
 intro a1 a2 a3
 induction a3 generalizing a2 with
 | zero=>exact fun _=>Ok.pure
 | succ n ih=>exact fun a4=>Ok.bind iZ fun _=>ih _ _
theorem wW{P:Program}:∀ a1 a2 a3,Ok P (Builtin.complex_ a1 a2 a3):=by
 intro a1 a2 a3;obtain⟨l⟩:=a3;rcases l with _ | ⟨x,_ | ⟨y,_ | ⟨z,t⟩⟩⟩
 · exact dA
 · exact dA
 · cases x <;> cases y <;> first | exact dA | skip
   rename_i k a k' b
   show Ok P (if k=k' then Pure.pure (Value.complex k a b) else stuck _)
   split
   · exact Ok.pure
   · exact dA
 · exact dA
theorem bBA{P:Program}:∀ a1 a2 a3,Ok P (Builtin.imag_ a1 a2 a3):=by
 intro a1 a2 a3;obtain⟨l⟩:=a3;rcases l with _ | ⟨x,_ | ⟨y,t⟩⟩
 · exact dA
 · cases x<;>first | exact dA | exact Ok.pure
 · exact dA
theorem cZ{P:Program}:Ok P Instr.panicnil:=by
 unfold Instr.panicnil;refine⟨⟨.stuck _,trivial,rfl⟩,fun r=>?_⟩
 cases r<;>first | exact dA | (show Safe P (fun _=>True) 0 (program >>= _);exact Ok.bind sD fun _=>Ok.pure)
theorem rAA{P:Program}:∀ a1 a2 a3,Ok P (Builtin.real_ a1 a2 a3):=by
 intro a1 a2 a3;obtain⟨l⟩:=a3;rcases l with _ | ⟨x,_ | ⟨y,t⟩⟩
 · exact dA
 · cases x<;>first | exact dA | exact Ok.pure
 · exact dA
theorem eMA{P:Program}:∀ a1 a2 a3,Ok P (loadBytes a1 a2 a3):=by
 intro a1 a2 a3
 induction a3 generalizing a1 a2 with
 | zero=>exact Ok.pure
 | succ n ih =>
   unfold loadBytes
   repeat' (first | (with_reducible first | exact Ok.pure | exact Ok.halt trivial | apply ih | apply iZ | apply dA | apply Ok.bind | apply Ok.map | apply dD | apply yC | apply iD) | intro _ | split | dsimp only)
theorem gEA{P:Program}:∀ a1 a2,Ok P (reportChain a1 a2):=by
 intro a1
 induction a1 with
 | nil=>exact fun _=>Ok.pure
 | cons e l ih =>
   intro a2;unfold reportChain
   repeat' (first | (with_reducible first | exact Ok.pure | exact Ok.halt trivial | apply ih | apply zA | apply sD | apply qE | apply Ok.bind | apply Ok.map | apply dD | apply yC | apply iD) | intro _ | split | dsimp only)
theorem fD{P:Program}:(∀ a0,Ok P (zeroValue a0))∧(∀ a0,Ok P (sizeOf a0))∧(∀ a0 a1,Ok P (newVar a0 a1))∧(∀ a0,Ok P (isAgg a0))∧(∀ a0 a1,Ok P (loadCells a0 a1))∧(∀ a0,Ok P (elemOf a0))∧(∀ a0 a1 a2 a3,Ok P (Op.Complex.arith a0 a1 a2 a3))∧(∀ a0 a1 a2,Ok P (Op.Complex.conv a0 a1 a2))∧(∀ a0 a1 a2 a3,Ok P (Op.Complex.cmp a0 a1 a2 a3))∧(∀ a0,Ok P (behindNumber a0))∧(∀ a0,Ok P (noView a0))∧(∀ a0 a1,Ok P (mayBeOne a0 a1))∧(∀ a0,Ok P (typeStr a0))∧(∀ a0,Ok P (asInt a0)):=by
 refine⟨?_,?_,?_,?_,?_,?_,?_,?_,?_,?_,?_,?_,?_,?_⟩<;>intros<;>(first | unfold zeroValue | unfold sizeOf | unfold newVar | unfold isAgg | unfold loadCells | unfold elemOf | unfold Op.Complex.arith | unfold Op.Complex.conv | unfold Op.Complex.cmp | unfold behindNumber | unfold noView | unfold mayBeOne | unfold typeStr | unfold asInt) <;>
 repeat' (first | (with_reducible first | exact Ok.pure | exact Ok.halt trivial | apply gD | apply zA | apply lH | apply iB | apply zAA | apply dA | apply bG.2.2.2.2.2.2.2.2.2.2.1 | apply bG.2.2.2.2.2.2.2.2.2.2.2.2.1 | apply bG.2.2.2.2.2.2.2.2.2.2.2.1 | apply hBA | apply tF.1 | apply tF.2.1 | apply dJ | apply tF.2.2.1 | apply tF.2.2.2.1 | apply Ok.bind | apply Ok.map | apply zG | apply yG | apply dD | apply yC | apply iD) | intro _ | split | dsimp only)
theorem fF{P:Program}:∀ a0,Ok P (zeroValue a0):=fD.1
theorem yX{P:Program}:∀ a0,Ok P (typeStr a0):=fD.2.2.2.2.2.2.2.2.2.2.2.2.1
theorem xG{P:Program}:∀ a0,Ok P (asInt a0):=fD.2.2.2.2.2.2.2.2.2.2.2.2.2
theorem mJ{P:Program}:(∀ a0 a1,Ok P (Op.unary a0 a1))∧(∀ a0 a1 a2 a3,Ok P (Conv.complexToComplex a0 a1 a2 a3))∧(∀ a0 a1,Ok P (Conv.stringToBytes a0 a1))∧(∀ a0 a1,Ok P (Conv.stringToRunes a0 a1))∧(∀ a0,Ok P (Conv.seenAt a0))∧(∀ a0 a1,Ok P (Instr.makeInterface a0 a1))∧(∀ a0 a1,Ok P (Instr.range a0 a1))∧(∀ a0 a1 a2 a3 a4,Ok P (Builtin.mayShare a0 a1 a2 a3 a4))∧(∀ a0 a1 a2,Ok P (Builtin.cap_ a0 a1 a2))∧(∀ a0 a1 a2,Ok P (Builtin.len_ a0 a1 a2))∧(∀ a0 a1,Ok P (Builtin.max2 a0 a1))∧(∀ a0 a1,Ok P (Builtin.min2 a0 a1))∧(∀ a0 a1,Ok P (Builtin.printOne a0 a1))∧(∀ a0 a1,Ok P (byteVariablesAt a0 a1)):=by
 refine⟨?_,?_,?_,?_,?_,?_,?_,?_,?_,?_,?_,?_,?_,?_⟩<;>intros<;>(first | unfold Op.unary | unfold Conv.complexToComplex | unfold Conv.stringToBytes | unfold Conv.stringToRunes | unfold Conv.seenAt | unfold Instr.makeInterface | unfold Instr.range | unfold Builtin.mayShare | unfold Builtin.cap_ | unfold Builtin.len_ | unfold Builtin.max2 | unfold Builtin.min2 | unfold Builtin.printOne | unfold byteVariablesAt) <;>
 repeat' (first | (with_reducible first | exact Ok.pure | exact Ok.halt trivial | apply bG.2.2.2.2.2.2.2.1 | apply bG.2.2.2.2.2.2.2.2.1 | apply dA | apply zA | apply bG.2.2.2.2.2.2.2.2.2.2.2.2.1 | apply qE | apply tF.2.2.2.2.2.2.1 | apply lH | apply sD | apply dJ | apply tF.2.1 | apply iB | apply pK | apply iI | apply vN.2.1 | apply iBA | apply bG.2.2.2.2.2.2.2.2.2.2.2.2.2 | apply hBA | apply gD | apply vN.2.2.2.2.2.2.2.1 | apply Ok.bind | apply Ok.map | apply zG | apply yG | apply dD | apply yC | apply iD) | intro _ | split | dsimp only)
theorem uOA{P:Program}:∀ a0 a1,Ok P (Op.unary a0 a1):=mJ.1
theorem sS{P:Program}:∀ a0 a1,Ok P (Instr.makeInterface a0 a1):=mJ.2.2.2.2.2.1
theorem qDA{P:Program}:∀ a0 a1,Ok P (Instr.range a0 a1):=mJ.2.2.2.2.2.2.1
theorem xCA{P:Program}:∀ a0 a1 a2,Ok P (Builtin.cap_ a0 a1 a2):=mJ.2.2.2.2.2.2.2.2.1
theorem dDA{P:Program}:∀ a0 a1 a2,Ok P (Builtin.len_ a0 a1 a2):=mJ.2.2.2.2.2.2.2.2.2.1
theorem jSA{P:Program}:(∀ a0 a1,Ok P (storeBytes a0 a1))∧(∀ a0 a1 a2 a3 a4 a5,Ok P (Instr.enterLoop a0 a1 a2 a3 a4 a5))∧(∀ a0 a1,Ok P (Instr.endRound a0 a1))∧(∀ a0 a1,Ok P (Instr.deferInRound a0 a1)):=by
 refine⟨?_,?_,?_,?_⟩<;>intros<;>(first | unfold storeBytes | unfold Instr.enterLoop | unfold Instr.endRound | unfold Instr.deferInRound) <;>
 repeat' (first | (with_reducible first | exact Ok.pure | exact Ok.halt trivial | apply eG | apply gM | apply iI | apply gJ | apply pK | apply dA | apply k1A | apply Ok.bind | apply Ok.map | apply zG | apply yG | apply dD | apply yC | apply iD) | intro _ | split | dsimp only)
theorem lY{P:Program}:∀ a0 a1 a2 a3 a4 a5,Ok P (Instr.enterLoop a0 a1 a2 a3 a4 a5):=jSA.2.1
theorem yZ{P:Program}:∀ a0 a1,Ok P (Instr.endRound a0 a1):=jSA.2.2.1
theorem eU{P:Program}:∀ a0 a1,Ok P (Instr.deferInRound a0 a1):=jSA.2.2.2
theorem kF{P:Program}:(∀ a0 a1 a2,Ok P (storeVar a0 a1 a2))∧(∀ a0 a1,Ok P (Instr.box a0 a1))∧(∀ a0 a1,Ok P (Instr.build a0 a1))∧(∀ a0 a1 a2,Ok P (Instr.buildSlice a0 a1 a2))∧(∀ a0 a1,Ok P (loadVar a0 a1))∧(∀ a0 a1 a2,Ok P (part a0 a1 a2))∧(∀ a0 a1,Ok P (Op.Complex.mul a0 a1))∧(∀ a0 a1,Ok P (Op.Complex.sub a0 a1))∧(∀ a0 a1,Ok P (Op.Complex.add a0 a1))∧(∀ a0 a1,Ok P (Op.Complex.quo a0 a1))∧(∀ a0,Ok P (byteOf a0))∧(∀ a0 a1,Ok P (sameAddr a0 a1))∧(∀ a0,Ok P (Conv.bytesToString a0))∧(∀ a0,Ok P (Conv.runesToString a0)):=by
 refine⟨?_,?_,?_,?_,?_,?_,?_,?_,?_,?_,?_,?_,?_,?_⟩<;>intros<;>(first | unfold storeVar | unfold Instr.box | unfold Instr.build | unfold Instr.buildSlice | unfold loadVar | unfold part | unfold Op.Complex.mul | unfold Op.Complex.sub | unfold Op.Complex.add | unfold Op.Complex.quo | unfold byteOf | unfold sameAddr | unfold Conv.bytesToString | unfold Conv.runesToString) <;>
 repeat' (first | (with_reducible first | exact Ok.pure | exact Ok.halt trivial | apply fD.2.1 | apply eG | apply dA | apply fD.2.2.1 | apply iB | apply fF | apply lH | apply zA | apply fD.2.2.2.1 | apply iZ | apply fD.2.2.2.2.1 | apply fD.2.2.2.2.2.2.1 | apply fD.2.2.2.2.2.2.2.2.2.2.1 | apply sD | apply dJ | apply qE | apply iBA | apply fD.2.2.2.2.2.2.2.2.2.2.2.1 | apply Ok.bind | apply Ok.map | apply zG | apply yG | apply dD | apply yC | apply iD) | intro _ | split | dsimp only)
theorem hMA{P:Program}:∀ a0 a1,Ok P (Instr.box a0 a1):=kF.2.1
theorem aGA{P:Program}:∀ a0 a1,Ok P (Instr.build a0 a1):=kF.2.2.1
theorem uW{P:Program}:∀ a0 a1 a2,Ok P (Instr.buildSlice a0 a1 a2):=kF.2.2.2.1
theorem tT{P:Program}:(∀ a0 a1 a2,Ok P (Conv.unsafePointer a0 a1 a2))∧(∀ a0 a1,Ok P (Instr.makeMap a0 a1))∧(∀ a0 a1 a2 a3,Ok P (Instr.entryStore a0 a1 a2 a3))∧(∀ a0 a1 a2,Ok P (Builtin.firstCells a0 a1 a2))∧(∀ a0 a1 a2,Ok P (Builtin.clear_ a0 a1 a2))∧(∀ a0,Ok P (backFromNumber a0)):=by
 refine⟨?_,?_,?_,?_,?_,?_⟩<;>intros<;>(first | unfold Conv.unsafePointer | unfold Instr.makeMap | unfold Instr.entryStore | unfold Builtin.firstCells | unfold Builtin.clear_ | unfold backFromNumber) <;>
 repeat' (first | (with_reducible first | exact Ok.pure | exact Ok.halt trivial | apply mJ.2.2.2.2.1 | apply tF.2.2.2.2.1 | apply tF.2.2.2.2.2.2.2.1 | apply iI | apply sD | apply dJ | apply fD.2.1 | apply dA | apply iB | apply zA | apply tF.2.2.2.2.2.2.2.2.1 | apply xG | apply pK | apply gJ | apply fD.2.2.2.2.1 | apply eG | apply fF | apply fD.2.2.2.2.2.2.2.2.2.1 | apply Ok.bind | apply Ok.map | apply zG | apply yG | apply dD | apply yC | apply iD) | intro _ | split | dsimp only)
theorem sAA{P:Program}:∀ a0 a1,Ok P (Instr.makeMap a0 a1):=tT.2.1
theorem rW{P:Program}:∀ a0 a1 a2 a3,Ok P (Instr.entryStore a0 a1 a2 a3):=tT.2.2.1
theorem aZ{P:Program}:∀ a0 a1 a2,Ok P (Builtin.clear_ a0 a1 a2):=tT.2.2.2.2.1
theorem dB{P:Program}{φ:α→Prop}:∀ a1,Safe P φ 0 (runtimePanic a1:Sem α):=by
 intro a1;unfold runtimePanic
 repeat' (first | (with_reducible first | apply sD | apply xGA | apply fD.2.2.1 | apply fD.2.2.2.2.2.1 | apply Ok.bind) | intro _ | split | dsimp only)
theorem kG{P:Program}:∀ a1 a2 a3,Ok P (Builtin.unsafeAdd_ a1 a2 a3):=by
 intro a1 a2 a3;obtain⟨l⟩:=a3;rcases l with _ | ⟨x,_ | ⟨y,_ | ⟨z,t⟩⟩⟩
 · exact dA
 · exact dA
 · cases x <;> first | exact dA | skip
   refine Ok.bind (xG _) fun n=>?_
   repeat' (first | (with_reducible first | exact Ok.pure | exact Ok.halt trivial | apply xG | apply zA | apply tF.2.1 | apply dJ | apply sD | apply Ok.bind | apply Ok.map | apply dD | apply yC | apply iD) | intro _ | split | dsimp only)
 · exact dA
theorem zCA{P:Program}:∀ a1 a2 a3,Ok P (Builtin.max_ a1 a2 a3):=by
 intro a1 a2 a3;unfold Builtin.max_
 split
 · exact dA
 · exact yNA mJ.2.2.2.2.2.2.2.2.2.2.1 _ _
theorem aDA{P:Program}:∀ a1 a2 a3,Ok P (Builtin.min_ a1 a2 a3):=by
 intro a1 a2 a3;unfold Builtin.min_
 split
 · exact dA
 · exact yNA mJ.2.2.2.2.2.2.2.2.2.2.2.1 _ _
theorem o9{P:Program}:∀ a1 a2 a3 a4,Ok P (Builtin.pieces a1 a2 a3 a4):=by
 intro a1 a2 a3 a4;unfold Builtin.pieces
 repeat' (first | (with_reducible first | exact Ok.pure | apply mJ.2.2.2.2.2.2.2.2.2.2.2.2.1 | apply dA | apply Ok.bind | apply i6A | apply dD) | intro _ | split | dsimp only)
theorem pO{P:Program}:∀ a1 a2 a3,Ok P (Builtin.unsafeSliceData_ a1 a2 a3):=by
 intro a1 a2 a3;obtain⟨l⟩:=a3;rcases l with _ | ⟨x,_ | ⟨y,t⟩⟩
 · exact dA
 · cases x <;> first | exact dA | skip
   rename_i a n c
   cases a with
   | none=>exact Ok.pure
   | some a =>
     show Ok P (if c≠0 then Pure.pure (Value.pointer (some a)) else _)
     repeat' (first | (with_reducible first | exact Ok.pure | exact Ok.halt trivial | apply tF.2.1 | apply iI | apply fD.2.2.2.2.2.1 | apply Ok.bind | apply Ok.map | apply dD | apply yC | apply iD) | intro _ | split | dsimp only)
 · exact dA
theorem yN{P:Program}:∀ a1 a2 a3,Ok P (Builtin.unsafeStringData_ a1 a2 a3):=by
 intro a1 a2 a3;obtain⟨l⟩:=a3;rcases l with _ | ⟨x,_ | ⟨y,t⟩⟩
 · exact dA
 · cases x <;> first | exact dA | skip
   rename_i s;have b:Ok P (do let a ← newRow (← elemOf a2) (s.data.map fun b=>Value.int .u8 b.toNat);freeze a s.size;Pure.pure (Value.pointer (some a)):Sem Value) :=
    Ok.bind (fD.2.2.2.2.2.1 _) fun _=>Ok.bind (lH _ _) fun _=>Ok.bind pAA fun _=>Ok.pure
   have a : Ok P (do
       if (← choose (.extern "unsafe.StringData.empty" 2)) = 0 then return Value.pointer none
       let a ← newRow (← elemOf a2) #[]
       markStringish a
       return Value.pointer (some a):Sem Value):=by
     repeat' (first | (with_reducible first | exact Ok.pure | exact Ok.halt trivial | apply qE | apply fD.2.2.2.2.2.1 | apply lH | apply tF.2.2.2.2.2.2.1 | apply Ok.bind | apply Ok.map | apply dD | apply yC | apply iD) | intro _ | split | dsimp only)
   show Ok P (if s.size=0 then _ else _)
   split
   · exact a
   · exact b
 · exact dA
theorem yK{P:Program}:(∀ a0 a1 a2,Ok P (Instr.alloc a0 a1 a2))∧(∀ a0 a1,Ok P (Instr.loadAt a0 a1))∧(∀ a0 a1 a2,Ok P (Instr.storeAt a0 a1 a2))∧(∀ a0 a1 a2 a3 a4,Ok P (Op.shift a0 a1 a2 a3 a4))∧(∀ a0 a1 a2 a3,Ok P (Op.intDiv a0 a1 a2 a3))∧(∀ a0 a1 a2 a3,Ok P (Op.Complex.product a0 a1 a2 a3))∧(∀ a0 a1 a2 a3 a4,Ok P (Op.Complex.corrected a0 a1 a2 a3 a4))∧(∀ a0 a1,Ok P (samePointer a0 a1))∧(∀ a0 a1 a2,Ok P (movedPointer a0 a1 a2))∧(∀ a0 a1,Ok P (Op.twoPlaces a0 a1))∧(∀ a0 a1 a2,Ok P (Op.addrMod a0 a1 a2))∧(∀ a0 a1 a2,Ok P (convert a0 a1 a2))∧(∀ a0 a1,Ok P (Instr.arrayAt a0 a1))∧(∀ a0 a1,Ok P (Instr.makeChan a0 a1)):=by
 refine⟨?_,?_,?_,?_,?_,?_,?_,?_,?_,?_,?_,?_,?_,?_⟩<;>intros<;>(first | unfold Instr.alloc | unfold Instr.loadAt | unfold Instr.storeAt | unfold Op.shift | unfold Op.intDiv | unfold Op.Complex.product | unfold Op.Complex.corrected | unfold samePointer | unfold movedPointer | unfold Op.twoPlaces | unfold Op.addrMod | unfold convert | unfold Instr.arrayAt | unfold Instr.makeChan) <;>
 repeat' (first | (with_reducible first | exact Ok.pure | exact Ok.halt trivial | apply fD.2.2.1 | apply kF.1 | apply fF | apply bG.2.2.2.2.1 | apply kF.2.2.2.2.1 | apply dB | apply dA | apply kF.2.2.2.2.2.2.2.2.1 | apply kF.2.2.2.2.2.2.1 | apply kF.2.2.2.2.2.2.2.1 | apply kF.2.2.2.2.2.2.2.2.2.2.2.1 | apply kG | apply tF.1 | apply zA | apply kF.2.2.2.2.2.2.2.2.2.2.1 | apply sD | apply dJ | apply gD | apply kF.2.2.2.2.2.2.2.2.2.2.2.2.1 | apply mJ.2.1 | apply bG.2.2.2.2.2.2.2.2.2.2.2.2.1 | apply tF.2.2.2.2.2.1 | apply pLA.2.1 | apply pLA.1 | apply pLA.2.2.1 | apply kF.2.2.2.2.2.2.2.2.2.2.2.2.2 | apply mJ.2.2.1 | apply mJ.2.2.2.1 | apply tT.1 | apply tF.2.2.2.2.2.2.1 | apply iB | apply xG | apply iI | apply Ok.bind | apply Ok.map | apply zG | apply yG | apply dD | apply yC | apply iD) | intro _ | split | dsimp only)
theorem wFA{P:Program}:∀ a0 a1 a2,Ok P (Instr.alloc a0 a1 a2):=yK.1
theorem yCA{P:Program}:∀ a0 a1,Ok P (Instr.loadAt a0 a1):=yK.2.1
theorem gAA{P:Program}:∀ a0 a1 a2,Ok P (Instr.storeAt a0 a1 a2):=yK.2.2.1
theorem aTA{P:Program}:∀ a0 a1 a2,Ok P (convert a0 a1 a2):=yK.2.2.2.2.2.2.2.2.2.2.2.1
theorem kAA{P:Program}:∀ a0 a1,Ok P (Instr.arrayAt a0 a1):=yK.2.2.2.2.2.2.2.2.2.2.2.2.1
theorem dZ{P:Program}:∀ a0 a1,Ok P (Instr.makeChan a0 a1):=yK.2.2.2.2.2.2.2.2.2.2.2.2.2
theorem sN{P:Program}:(∀ a0 a1 a2,Ok P (Instr.makeSlice a0 a1 a2))∧(∀ a0,Ok P (asAddr a0))∧(∀ a0 a1 a2,Ok P (partAt a0 a1 a2))∧(∀ a0 a1 a2,Ok P (Instr.field a0 a1 a2))∧(∀ a0 a1 a2 a3,Ok P (Instr.typeAssert a0 a1 a2 a3))∧(∀ a0 a1 a2,Ok P (Builtin.copy_ a0 a1 a2))∧(∀ a0,Ok P (Instr.panic a0))∧(∀ a0 a1,Ok P (Place.get a0 a1))∧(∀ a0,Ok P (Instr.beginRound a0))∧(∀ a0,Ok P (Instr.endLoop a0)):=by
 refine⟨?_,?_,?_,?_,?_,?_,?_,?_,?_,?_⟩<;>intros<;>(first | unfold Instr.makeSlice | unfold asAddr | unfold partAt | unfold Instr.field | unfold Instr.typeAssert | unfold Builtin.copy_ | unfold Instr.panic | unfold Place.get | unfold Instr.beginRound | unfold Instr.endLoop) <;>
 repeat' (first | (with_reducible first | exact Ok.pure | exact Ok.halt trivial | apply xG | apply nM | apply qE | apply lH | apply dB | apply fD.2.1 | apply dA | apply gD | apply iB | apply fF | apply kF.2.2.2.2.2.2.2.2.2.2.1 | apply xNA | apply kF.2.2.2.2.2.1 | apply tT.2.2.2.1 | apply vN.2.2.1 | apply eG | apply cZ | apply xGA | apply kF.2.2.2.2.1 | apply gM | apply gJ | apply Ok.bind | apply Ok.map | apply zG | apply yG | apply dD | apply yC | apply iD) | intro _ | split | dsimp only)
theorem xX{P:Program}:∀ a0 a1 a2,Ok P (Instr.makeSlice a0 a1 a2):=sN.1
theorem zV{P:Program}:∀ a0,Ok P (asAddr a0):=sN.2.1
theorem vDA{P:Program}:∀ a0 a1 a2,Ok P (Instr.field a0 a1 a2):=sN.2.2.2.1
theorem pW{P:Program}:∀ a0 a1 a2 a3,Ok P (Instr.typeAssert a0 a1 a2 a3):=sN.2.2.2.2.1
theorem rBA{P:Program}:∀ a0 a1 a2,Ok P (Builtin.copy_ a0 a1 a2):=sN.2.2.2.2.2.1
theorem iU{P:Program}:∀ a0,Ok P (Instr.panic a0):=sN.2.2.2.2.2.2.1
theorem oW{P:Program}:∀ a0,Ok P (Instr.beginRound a0):=sN.2.2.2.2.2.2.2.2.1
theorem wBA{P:Program}:∀ a0,Ok P (Instr.endLoop a0):=sN.2.2.2.2.2.2.2.2.2
theorem fEA{P:Program}:∀ a1 a2 a3,Ok P (followBlind a1 a2 a3):=by
 intro a1
 induction a1 with
 | nil=>intro a2 a3;exact Ok.pure
 | cons s l ih =>
   intro a2 a3;unfold followBlind
   repeat' (first | (with_reducible first | exact Ok.pure | exact Ok.halt trivial | apply ih | apply iB | apply dA | apply kF.2.2.2.2.2.1 | apply Ok.bind | apply Ok.map | apply dD | apply yC | apply iD) | intro _ | split | dsimp only)
theorem bDA{P:Program}:∀ a1 a2 a3 a4,Ok P (Op.eqGuardIn a1 a2 a3 a4):=by
 intro a1
 induction a1 with
 | zero=>intro a2 a3 a4;exact zA
 | succ n ih =>
   intro a2 a3 a4;unfold Op.eqGuardIn
   repeat' (first | (with_reducible first | exact Ok.pure | exact Ok.halt trivial | apply ih | apply iB | apply kF.2.2.2.2.2.1 | apply fD.2.1 | apply Ok.bind | apply Ok.map | apply dD | apply yC | apply iD) | intro _ | split | dsimp only)
theorem mGA{P:Program}:∀ a1 a2 a3,Ok P (movedNumber a1 a2 a3):=by
 intro a1 a2 a3;unfold movedNumber;have tail:∀ v (l:Bool),Ok P (match v with | Value.pointer (some b)=>asNumber b l | v=>Pure.pure v):=by
  intro v l
  split
  · exact tF.2.2.2.2.1 _ _
  · exact Ok.pure
 have all : Ok P (match a2 with
     | Value.pointer (some n) => (do
       let(a,lost) ← behindNumber n
       match ← Builtin.unsafeAdd_ #[] a1 #[Value.pointer (some a),a3] with
       | .pointer (some b)=>asNumber b lost
       | v=>Pure.pure v:Sem Value)
     | _=>Builtin.unsafeAdd_ #[] a1 #[a2,a3]):=by
   split
   · exact Ok.bind (fD.2.2.2.2.2.2.2.2.2.1 _) fun x=>Ok.bind (kG _ _ _) fun v=>tail v _
   · exact kG _ _ _
 refine Ok.bind (iB _) fun u=>?_
 cases u<;>first | exact all | exact Ok.bind zA fun _=>all
theorem vGA{P:Program}{φ:α→Prop}:∀ a1 a2 a3 a4,Safe P φ 0 (boundsPanic a1 a2 a3 a4:Sem α):=by
 intro a1 a2 a3 a4;unfold boundsPanic
 repeat' (first | (with_reducible first | exact Ok.pure | apply qE | apply dB | apply Ok.bind | apply Ok.map) | intro _ | split | dsimp only)
theorem nZ{P:Program}:∀ a1 a2 a3 a4,Ok P (Instr.checkKey a1 a2 a3 a4):=by
 intro a1 a2
 induction a2 with
 | zero=>intro a3 a4;exact zA
 | succ n ih =>
   intro a3 a4;unfold Instr.checkKey
   repeat' (first | (with_reducible first | exact Ok.pure | exact Ok.halt trivial | apply ih | apply iB | apply gD | apply dB | apply yX | apply kF.2.2.2.2.2.1 | apply fD.2.1 | apply dA | apply zA | apply Ok.bind | apply Ok.map | apply dD | apply yC | apply iD) | intro _ | split | dsimp only)
theorem rY{P:Program}:∀ a1 a2 a3,Ok P (Builtin.append_ a1 a2 a3):=by
 intro a1 a2 a3;unfold Builtin.append_
 split
 · rename_i sType s x _; refine Ok.bind (iB _) fun u => ?_
   split
   · rename_i elem
     split
     · rename_i base sLen sCap; refine Ok.bind (fD.2.1 _) fun size => ?_
       extract_lets -underBinder +onlyGivenNames J
       have hJ:∀ r,Ok P (J r):=by
        intro zeros;dsimp -zeta -zetaHave only[J];clear J
        extract_lets -underBinder +onlyGivenNames J
        have hJ:∀ r,Ok P (J r):=by
         intro n;dsimp -zeta -zetaHave only[J];clear J
         extract_lets -underBinder +onlyGivenNames A
         have hA:Ok P A:=by
          dsimp -zeta -zetaHave only[A]
          repeat' (first | (extract_lets -underBinder +onlyGivenNames j;first | ((refine jp (P:=P) (φ:=fun _=>True) j _ (fun r=>?_) (fun hj=>?_))<;>first | (have _h:∀ r,Safe P (fun _=>True) 0 (j r):=hj;clear_value j) | (dsimp -zeta -zetaHave only[j];clear j)) | ((refine jq (P:=P) j _ ?_ (fun hj=>?_))<;>first | (have _h:Safe P (fun _=>True) 0 j:=hj;clear_value j) | (dsimp -zeta -zetaHave only[j];clear j)) | clear_value j) | (with_reducible first | exact hj _ | exact Ok.pure | exact Ok.halt trivial | apply iB | apply fD.2.1 | apply dA | apply vN.2.2.1 | apply xG | apply dB | apply gD | apply qE | apply tT.2.2.2.1 | apply fF | apply eG | apply mJ.2.2.2.2.2.2.2.1 | apply lL | apply zA | apply nM | apply lH | apply Ok.bind) | intro _ | split)
         clear_value A
         repeat' (first | (extract_lets -underBinder +onlyGivenNames j;first | ((refine jp (P:=P) (φ:=fun _=>True) j _ (fun r=>?_) (fun hj=>?_))<;>first | (have _h:∀ r,Safe P (fun _=>True) 0 (j r):=hj;clear_value j) | (dsimp -zeta -zetaHave only[j];clear j)) | ((refine jq (P:=P) j _ ?_ (fun hj=>?_))<;>first | (have _h:Safe P (fun _=>True) 0 j:=hj;clear_value j) | (dsimp -zeta -zetaHave only[j];clear j)) | clear_value j) | (with_reducible first | exact hj _ | exact Ok.pure | exact Ok.halt trivial | exact hA | apply iB | apply fD.2.1 | apply dA | apply vN.2.2.1 | apply xG | apply dB | apply gD | apply qE | apply tT.2.2.2.1 | apply fF | apply eG | apply mJ.2.2.2.2.2.2.2.1 | apply lL | apply zA | apply nM | apply lH | apply Ok.bind) | intro _ | split)
        clear_value J
        repeat' (first | (extract_lets -underBinder +onlyGivenNames j;first | ((refine jp (P:=P) (φ:=fun _=>True) j _ (fun r=>?_) (fun hj=>?_))<;>first | (have _h:∀ r,Safe P (fun _=>True) 0 (j r):=hj;clear_value j) | (dsimp -zeta -zetaHave only[j];clear j)) | ((refine jq (P:=P) j _ ?_ (fun hj=>?_))<;>first | (have _h:Safe P (fun _=>True) 0 j:=hj;clear_value j) | (dsimp -zeta -zetaHave only[j];clear j)) | clear_value j) | (with_reducible first | exact hJ _ | exact hj _ | exact Ok.pure | exact Ok.halt trivial | apply iB | apply fD.2.1 | apply dA | apply vN.2.2.1 | apply xG | apply dB | apply gD | apply qE | apply tT.2.2.2.1 | apply fF | apply eG | apply mJ.2.2.2.2.2.2.2.1 | apply lL | apply zA | apply nM | apply lH | apply Ok.bind) | intro _ | split)
       clear_value J
       repeat' (first | (extract_lets -underBinder +onlyGivenNames j;first | ((refine jp (P:=P) (φ:=fun _=>True) j _ (fun r=>?_) (fun hj=>?_))<;>first | (have _h:∀ r,Safe P (fun _=>True) 0 (j r):=hj;clear_value j) | (dsimp -zeta -zetaHave only[j];clear j)) | ((refine jq (P:=P) j _ ?_ (fun hj=>?_))<;>first | (have _h:Safe P (fun _=>True) 0 j:=hj;clear_value j) | (dsimp -zeta -zetaHave only[j];clear j)) | clear_value j) | (with_reducible first | exact hJ _ | exact hj _ | exact Ok.pure | exact Ok.halt trivial | apply iB | apply fD.2.1 | apply dA | apply vN.2.2.1 | apply xG | apply dB | apply gD | apply qE | apply tT.2.2.2.1 | apply fF | apply eG | apply mJ.2.2.2.2.2.2.2.1 | apply lL | apply zA | apply nM | apply lH | apply Ok.bind) | intro _ | split)
     · exact dA
   · exact dA
 · exact dA
theorem xZ{P:Program}:∀ a1 a2 a3,Ok P (Builtin.close_ a1 a2 a3):=by
 intro a1 a2 a3;obtain⟨l⟩:=a3;rcases l with _ | ⟨x,_ | ⟨y,t⟩⟩
 · exact dA
 · cases x <;> first | exact dA | skip
   rename_i c
   cases c with
   | none=>exact(dB (.plain _):Ok P (runtimePanic _:Sem Value))
   | some r =>
     refine Ok.bind pK fun o=>?_
     repeat' (first | (with_reducible first | exact Ok.pure | exact Ok.halt trivial | apply dB | apply gJ | apply dA | apply Ok.bind | apply Ok.map | apply dD | apply yC | apply iD) | intro _ | split | dsimp only)
 · exact dA
theorem nR{P:Program}:∀ a1 a2 a3,Ok P (Builtin.unsafeSlice_ a1 a2 a3):=by
 intro a1 a2 a3;obtain⟨l⟩:=a3;rcases l with _ | ⟨x,_ | ⟨y,_ | ⟨z,t⟩⟩⟩
 · exact dA
 · exact dA
 · cases x <;> first | exact dA | skip
   refine Ok.bind (xG _) fun n=>?_
   repeat' (first | (with_reducible first | exact Ok.pure | exact Ok.halt trivial | apply xG | apply zA | apply tF.2.1 | apply dJ | apply sD | apply fD.2.2.2.2.2.1 | apply dB | apply gD | apply fD.2.1 | apply tF.2.2.2.2.2.2.2.2.1 | apply iI | apply dA | apply Ok.bind | apply Ok.map | apply dD | apply yC | apply iD) | intro _ | split | dsimp only)
 · exact dA
theorem yQ{P:Program}:∀ a1 a2 a3,Ok P (Builtin.unsafeString_ a1 a2 a3):=by
 intro a1 a2 a3;obtain⟨l⟩:=a3;rcases l with _ | ⟨x,_ | ⟨y,_ | ⟨z,t⟩⟩⟩
 · exact dA
 · exact dA
 · cases x <;> first | exact dA | skip
   refine Ok.bind (xG _) fun n=>?_
   repeat' (first | (with_reducible first | exact Ok.pure | exact Ok.halt trivial | apply xG | apply zA | apply tF.2.1 | apply dJ | apply sD | apply fD.2.2.2.2.2.1 | apply dB | apply gD | apply fD.2.1 | apply tF.2.2.2.2.2.2.2.2.1 | apply iI | apply dA | apply eMA | apply pAA | apply Ok.bind | apply Ok.map | apply dD | apply yC | apply iD) | intro _ | split | dsimp only)
 · exact dA
theorem qNA{P:Program}{a1:Array TypeId}{m:ByteArray}:Ok P (do
    if (← choose (.extern "ssa:wrapnilchk.dereferenced" 2)) == 1 then runtimePanic .nilDeref
    let some pt := a1[0]? | stuck "ssa:wrapnilchk: no argument types"
    let .pointer t ← underlying pt | stuck "ssa:wrapnilchk: pointer type expected"
    let .named name _ := (← typeInfo t).desc | stuck "ssa:wrapnilchk: defined type expected"
    let some m := String.fromUTF8? m | stuck "ssa:wrapnilchk: the method's name is not UTF-8"
    let base := (name.splitOn "[").headD ""
    let targs := if base == name then "" else "[...]"
    match ((base.splitOn "/").getLastD "").splitOn "." with
    | [_, typ] => runtimePanic (.plain (toString "value method " ++ toString base ++ toString targs ++ toString "." ++ toString m ++ toString " called using nil *" ++ toString typ ++ toString targs ++ toString " pointer"))
    | _ => unsupported (.noEntry "builtin/ssaWrapNilChk.dot in the package path") : Sem Value) := by
  repeat' (first | (with_reducible first | exact Ok.pure | exact Ok.halt trivial | apply qE | apply dB | apply dA | apply iB | apply gD | apply zA | apply Ok.bind | apply Ok.map | apply dD | apply yC | apply iD) | intro _ | split | dsimp only)
theorem yP{P:Program}:∀ a1 a2 a3,Ok P (Builtin.ssaWrapNilChk_ a1 a2 a3):=by
 intro a1 a2 a3;obtain⟨l⟩:=a3;rcases l with _ | ⟨x,_ | ⟨y,_ | ⟨z,_ | ⟨u,t⟩⟩⟩⟩
 · exact dA
 · exact dA
 · exact dA
 · cases y <;> cases z <;> first | exact dA | skip
   rename_i s m
   cases x<;>first | exact dA | skip
   rename_i p
   cases p with
   | some a=>exact Ok.pure
   | none=>exact qNA (m:=m)
 · exact dA
theorem xN{P:Program}:(∀ a0 a1 a2 a3 a4 a5,Ok P (eqGuard a0 a1 a2 a3 a4 a5))∧(∀ a0 a1 a2 a3,Ok P (Op.Complex.quotient a0 a1 a2 a3))∧(∀ a0 a1 a2,Ok P (Op.addrSub a0 a1 a2))∧(∀ a0 a1 a2,Ok P (Op.addrCmp a0 a1 a2))∧(∀ a0 a1 a2,Ok P (Instr.sliceBound a0 a1 a2))∧(∀ a0 a1,Ok P (fieldPlace a0 a1))∧(∀ a0 a1 a2,Ok P (Instr.indexAt a0 a1 a2))∧(∀ a0 a1 a2,Ok P (Instr.index a0 a1 a2))∧(∀ a0 a1 a2 a3,Ok P (receiverAt a0 a1 a2 a3))∧(∀ a0 a1,Ok P (results a0 a1)):=by
 refine⟨?_,?_,?_,?_,?_,?_,?_,?_,?_,?_⟩<;>intros<;>(first | unfold eqGuard | unfold Op.Complex.quotient | unfold Op.addrSub | unfold Op.addrCmp | unfold Instr.sliceBound | unfold fieldPlace | unfold Instr.indexAt | unfold Instr.index | unfold receiverAt | unfold results) <;>
 repeat' (first | (with_reducible first | exact Ok.pure | exact Ok.halt trivial | apply bDA | apply sD | apply zA | apply kF.2.2.2.2.2.2.2.2.1 | apply fD.2.2.2.2.2.2.2.2.1 | apply yK.2.2.2.2.2.2.1 | apply kF.2.2.2.2.2.2.1 | apply kF.2.2.2.2.2.2.2.2.2.1 | apply kF.2.2.2.2.2.2.2.1 | apply yK.2.2.2.2.2.2.2.2.2.1 | apply tF.2.2.2.1 | apply vGA | apply sN.2.2.1 | apply fD.2.1 | apply bG.2.2.2.2.1 | apply dA | apply iB | apply kF.2.2.2.2.2.1 | apply yP | apply sN.2.2.2.2.2.2.2.1 | apply zV | apply kF.2.2.2.2.1 | apply Ok.bind | apply Ok.map | apply zG | apply yG | apply dD | apply yC | apply iD) | intro _ | split | dsimp only)
theorem dSA{P:Program}:∀ a0 a1 a2 a3 a4 a5,Ok P (eqGuard a0 a1 a2 a3 a4 a5):=xN.1
theorem mBA{P:Program}:∀ a0 a1 a2,Ok P (Instr.indexAt a0 a1 a2):=xN.2.2.2.2.2.2.1
theorem bEA{P:Program}:∀ a0 a1 a2,Ok P (Instr.index a0 a1 a2):=xN.2.2.2.2.2.2.2.1
theorem oSA{P:Program}:∀ a0 a1,Ok P (results a0 a1):=xN.2.2.2.2.2.2.2.2.2
theorem bQA{P:Program}:∀ a1 a2 a3 a4,Ok P (nilAhead a1 a2 a3 a4):=by
 intro a1
 induction a1 with
 | zero=>intro a2 a3 a4;exact Ok.pure
 | succ n ih =>
   intro a2 a3 a4;unfold nilAhead
   repeat' (first | (with_reducible first | exact Ok.pure | exact Ok.halt trivial | apply ih | apply iB | apply dA | apply gD | apply fEA | apply Ok.bind | apply Ok.map | apply dD | apply yC | apply iD) | intro _ | split | dsimp only)
theorem vHA{P:Program}:∀ a1 a2 a3 a4,Ok P (Op.equalIn a1 a2 a3 a4):=by
 intro a1
 induction a1 with
 | zero=>intro a2 a3 a4;exact zA
 | succ n ih =>
   intro a2 a3 a4;unfold Op.equalIn
   repeat' (first | (with_reducible first | exact Ok.pure | exact Ok.halt trivial | apply ih | apply iB | apply kF.2.2.2.2.2.1 | apply fD.2.1 | apply gD | apply yK.2.2.2.2.2.2.2.1 | apply dA | apply qE | apply fD.2.2.2.2.2.2.2.2.2.1 | apply kF.2.2.2.2.2.2.2.2.2.2.1 | apply sD | apply zA | apply dB | apply kF.2.2.2.2.2.2.2.2.2.2.2.1 | apply yX | apply Ok.bind | apply Ok.map | apply dD | apply yC | apply iD) | intro _ | split | dsimp only)
theorem aCA{P:Program}:(∀ a0 a1 a2 a3 a4 a5,Ok P (Op.complexOp a0 a1 a2 a3 a4 a5))∧(∀ a0 a1 a2,Ok P (Op.equal a0 a1 a2))∧(∀ a0 a1 a2 a3 a4 a5,Ok P (Instr.sliceBounds a0 a1 a2 a3 a4 a5))∧(∀ a0 a1 a2,Ok P (Instr.fieldAt a0 a1 a2)):=by
 refine⟨?_,?_,?_,?_⟩<;>intros<;>(first | unfold Op.complexOp | unfold Op.equal | unfold Instr.sliceBounds | unfold Instr.fieldAt) <;>
 repeat' (first | (with_reducible first | exact Ok.pure | exact Ok.halt trivial | apply fD.2.2.2.2.2.2.1 | apply fD.2.2.2.2.2.2.2.2.1 | apply fD.2.2.2.2.2.2.2.1 | apply yK.2.2.2.2.2.1 | apply xN.2.1 | apply dA | apply vHA | apply xN.2.2.2.2.1 | apply bG.2.2.2.2.1 | apply xN.2.2.2.2.2.1 | apply iB | apply Ok.bind | apply Ok.map | apply zG | apply yG | apply dD | apply yC | apply iD) | intro _ | split | dsimp only)
theorem cBA{P:Program}:∀ a0 a1 a2,Ok P (Instr.fieldAt a0 a1 a2):=aCA.2.2.2
theorem nJA{P:Program}:∀ a1 a2 a3,Ok P (follow a1 a2 a3):=by
 intro a1
 induction a1 with
 | nil=>exact fun _ _=>Ok.pure
 | cons s l ih =>
   intro a2 a3;unfold follow
   repeat' (first | (with_reducible first | exact Ok.pure | exact Ok.halt trivial | apply ih | apply iB | apply dA | apply zV | apply sN.2.2.2.2.2.2.2.1 | apply xN.2.2.2.2.2.1 | apply kF.2.2.2.2.2.1 | apply Ok.bind | apply Ok.map | apply dD | apply yC | apply iD) | intro _ | split | dsimp only)
theorem aUA{P:Program}:(∀ a0 a1 a2 a3,Ok P (binOp a0 a1 a2 a3))∧(∀ a0 a1 a2 a3 a4,Ok P (Instr.slice a0 a1 a2 a3 a4))∧(∀ a0 a1 a2 a3,Ok P (receiverVia a0 a1 a2 a3)):=by
 refine⟨?_,?_,?_⟩<;>intros<;>(first | unfold binOp | unfold Instr.slice | unfold receiverVia) <;>
 repeat' (first | (with_reducible first | exact Ok.pure | exact Ok.halt trivial | apply xN.2.2.2.1 | apply yK.2.2.2.2.2.2.2.2.2.2.1 | apply xN.2.2.1 | apply aCA.1 | apply aCA.2.1 | apply bG.2.2.2.2.2.2.2.2.2.2.1 | apply bG.2.2.2.2.2.2.2.2.2.2.2.1 | apply bG.2.2.2.2.2.2.2.1 | apply bG.2.2.2.2.2.2.2.2.1 | apply bG.2.2.2.2.2.2.2.2.2.1 | apply yK.2.2.2.2.1 | apply yK.2.2.2.1 | apply bG.2.2.2.2.2.2.2.2.2.2.2.2.2 | apply fD.2.2.2.2.2.2.2.2.2.1 | apply mGA | apply yK.2.2.2.2.2.2.2.2.1 | apply dA | apply iB | apply zA | apply aCA.2.2.1 | apply zV | apply fD.2.1 | apply nJA | apply xN.2.2.2.2.2.2.2.2.1 | apply Ok.bind | apply Ok.map | apply zG | apply yG | apply dD | apply yC | apply iD) | intro _ | split | dsimp only)
theorem y4A{P:Program}:∀ a0 a1 a2 a3,Ok P (binOp a0 a1 a2 a3):=aUA.1
theorem uFA{P:Program}:∀ a0 a1 a2 a3,Ok P (receiverVia a0 a1 a2 a3):=aUA.2.2
theorem xW{P:Program}:∀ a1 a2 a3 a4,Ok P (Instr.findAsking a1 a2 a3 a4):=by
 intro a1 a2 a3
 induction a3 with
 | nil=>intro a4;exact Ok.pure
 | cons e l ih =>
   intro a4;unfold Instr.findAsking
   repeat' (first | (with_reducible first | exact Ok.pure | exact Ok.halt trivial | apply ih | apply aCA.2.1 | apply Ok.bind | apply Ok.map | apply dD | apply yC | apply iD) | intro _ | split | dsimp only)
theorem hZA{P:Program}:∀ a1 a2 a3 a4,Ok P (method a1 a2 a3 a4):=by
 intro a1
 induction a1 with
 | zero=>exact fun _ _ _=>zA
 | succ n ih =>
   intro a2 a3 a4;unfold method
   repeat' (first | (with_reducible first | exact Ok.pure | exact Ok.halt trivial | apply ih | apply gD | apply dA | apply nJA | apply sN.2.2.2.2.2.2.2.1 | apply dB | apply xN.2.2.2.2.2.2.2.2.1 | apply Ok.bind | apply Ok.map | apply dD | apply yC | apply iD) | intro _ | split | dsimp only)
theorem q2A{P:Program}:(∀ a0 a1 a2 a3 a4,Ok P (Instr.sliceAt a0 a1 a2 a3 a4))∧(∀ a0 a1 a2,Ok P (Instr.findKey a0 a1 a2)):=by
 refine⟨?_,?_⟩<;>intros<;>(first | unfold Instr.sliceAt | unfold Instr.findKey) <;>
 repeat' (first | (with_reducible first | exact Ok.pure | exact Ok.halt trivial | apply aUA.2.1 | apply aCA.2.2.1 | apply bG.2.2.2.2.1 | apply fD.2.1 | apply iB | apply xW | apply Ok.bind | apply Ok.map | apply zG | apply yG | apply dD | apply yC | apply iD) | intro _ | split | dsimp only)
theorem fBA{P:Program}:∀ a0 a1 a2 a3 a4,Ok P (Instr.sliceAt a0 a1 a2 a3 a4):=q2A.1
theorem rKA{P:Program}:(∀ a0 a1 a2 a3,Ok P (Instr.lookup a0 a1 a2 a3))∧(∀ a0 a1 a2 a3,Ok P (Instr.mapUpdate a0 a1 a2 a3))∧(∀ a0 a1 a2,Ok P (Instr.mapEntry a0 a1 a2))∧(∀ a0 a1 a2,Ok P (Builtin.delete_ a0 a1 a2)):=by
 refine⟨?_,?_,?_,?_⟩<;>intros<;>(first | unfold Instr.lookup | unfold Instr.mapUpdate | unfold Instr.mapEntry | unfold Builtin.delete_) <;>
 repeat' (first | (with_reducible first | exact Ok.pure | exact Ok.halt trivial | apply nZ | apply q2A.2 | apply pK | apply dA | apply iB | apply fF | apply tF.2.2.2.2.2.2.2.2.2.2.1 | apply dB | apply gJ | apply Ok.bind | apply Ok.map | apply zG | apply yG | apply dD | apply yC | apply iD) | intro _ | split | dsimp only)
theorem vCA{P:Program}:∀ a0 a1 a2 a3,Ok P (Instr.lookup a0 a1 a2 a3):=rKA.1
theorem vP{P:Program}:∀ a0 a1 a2 a3,Ok P (Instr.mapUpdate a0 a1 a2 a3):=rKA.2.1
theorem wZ{P:Program}:∀ a0 a1 a2,Ok P (Instr.mapEntry a0 a1 a2):=rKA.2.2.1
theorem wX{P:Program}:∀ a0 a1 a2,Ok P (Builtin.delete_ a0 a1 a2):=rKA.2.2.2
end Go.Lx
