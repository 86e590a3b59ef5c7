/- Part 1 of what the proof rests on. -/
import Derived.Laws.Sem
import Derived.Conc.Own
import Derived.RunT
import Derived.Test.YtggjbblgoddnjaaGreatDoorM00
set_option linter.unusedSimpArgs false
set_option linter.unusedVariables false
set_option maxHeartbeats 4000000
namespace Go.Lx
variable {α β : Type}
theorem Safe.bind{P:Program}{ψ:α→Prop}{φ:β→Prop}{s:Sem α}{f:α→Sem β}:∀ {d:Nat},Safe P ψ d s→(∀ a,ψ a→Safe P φ 0 (f a))→Safe P φ d (s.bind f):=by
 induction s with
 | pure a=>rintro d ⟨rfl,h⟩ hf;exact hf a h
 | load m a k ih=>exact fun h hf v=>ih v (h v) hf
 | store m a v k ih=>exact fun h hf=>ih h hf
 | new o k ih=>exact fun h hf r=>ih r (h r) hf
 | shape r k ih=>exact fun h hf v=>ih v (h v) hf
 | freeze a n k ih=>exact fun h hf=>ih h hf
 | frozen a k ih=>exact fun h hf v=>ih v (h v) hf
 | getObj r k ih=>exact fun h hf v=>ih v (h v) hf
 | setObj r o k ih=>exact fun h hf=>ih h hf
 | choose q k ih=>exact fun h hf v=>ih v (h v) hf
 | sys c k ih =>
   rintro d ⟨⟨x,hd,hx⟩,h⟩ hf;exact⟨⟨x,hd,by show(k SysRet.wouldBlock).bind f=_;rw[hx];rfl⟩,fun v=>ih v (h v) hf⟩
 | program k ih=>exact fun h hf=>ih _ h hf
 | mark m k ih =>
   intro d h hf
   cases m with
   | disable=>exact ih h hf
   | enable=>exact⟨h.1,ih h.2 hf⟩
   | _=>exact ih h hf
 | halt h'=>exact fun h _=>h
abbrev Ok(P:Program)(s:Sem α):Prop:=Safe P (fun _=>True) 0 s
theorem Ok.bind{P:Program}{φ:β→Prop}{s:Sem α}{f:α→Sem β}(h:Ok P s)(hf:∀ a,Safe P φ 0 (f a)):Safe P φ 0 (s >>= f):=Safe.bind h fun a _=>hf a
theorem Ok.pure{P:Program}{a:α}:Ok P (Pure.pure a:Sem α):=⟨rfl,trivial⟩
theorem Ok.halt{P:Program}{φ:α→Prop}{h:Halt}(hq:calm h):Safe P φ 0 (.halt h):=⟨hq,.inl rfl⟩
theorem Ok.map{P:Program}{f:α→β}{s:Sem α}(h:Ok P s):Ok P (f <$> s):=Safe.bind h fun _ _=>⟨rfl,trivial⟩
theorem jp{γ:Type}{P:Program}{φ:β→Prop}(j:γ→Sem β)(Q:Prop)(hj:∀ r,Safe P φ 0 (j r))(h:(∀ r,Safe P φ 0 (j r))→Q):Q:=h hj
theorem jq{P:Program}(j:Sem β)(Q:Prop)(hj:Ok P j)(h:Ok P j→Q):Q:=h hj
theorem gH{P:Program}{f:α→Sem β}(h:∀ a,Ok P (f a))(l:List α):Ok P (l.mapM f):=by
 have key:∀(l:List α) (acc:List β),Ok P (List.mapM.loop f l acc):=by
  intro l
  induction l with
  | nil=>exact fun acc=>Ok.pure
  | cons a l ih=>exact fun acc=>Ok.bind (h a) fun b=>ih _
 exact key l []
theorem bH{P:Program}{f:α→Sem β}{l:Array α}(h:∀ a,Ok P (f a)):Ok P (l.mapM f):=by
 rw[Array.mapM_eq_mapM_toList];exact Ok.map (gH h _)
theorem xC{P:Program}{f:α→β→Sem (ForInStep β)}{l:List α}{b:β}(h:∀ a b,Ok P (f a b)):Ok P (forIn l b f):=by
 induction l generalizing b with
 | nil=>exact Ok.pure
 | cons a l ih =>
   rw[List.forIn_cons];refine Ok.bind (h a b) fun r=>?_
   cases r with
   | done b=>exact Ok.pure
   | yield b=>exact ih
theorem bD{P:Program}{f:α→β→Sem (ForInStep β)}{l:Array α}{b:β}(h:∀ a b,Ok P (f a b)):Ok P (forIn l b f):=by
 rw[← Array.forIn_toList];exact xC h
theorem jD{P:Program}{f:Nat→β→Sem (ForInStep β)}{l:Std.Legacy.Range}{b:β}(h:∀ a b,Ok P (f a b)):Ok P (forIn l b f):=by
 rw[Std.Legacy.Range.forIn_eq_forIn_range'];exact xC h
theorem qQA{P:Program}{f:β→α→Sem β}(h:∀ b a,Ok P (f b a))(l:List α):∀ b,Ok P (l.foldlM f b):=by
 induction l with
 | nil=>exact fun b=>Ok.pure
 | cons a l ih=>exact fun b=>Ok.bind (h b a) fun c=>ih c
theorem j3A{P:Program}{l:Std.Legacy.Range}{f:(a:Nat)→a∈l→β→Sem (ForInStep β)}{b:β}(h:∀ a m b,Ok P (f a m b)):Ok P (forIn' l b f):=by
 rw[Std.Legacy.Range.forIn'_eq_forIn'_range'];have key:∀(L:List Nat) (g:(a:Nat)→a∈L→β→Sem (ForInStep β)) (b:β),(∀ a m b,Ok P (g a m b))→Ok P (forIn' L b g):=by
  intro L
  induction L with
  | nil=>exact fun g b _=>Ok.pure
  | cons a L ih =>
    intro g b hg;rw[List.forIn'_cons];refine Ok.bind (hg _ _ _) fun r=>?_
    cases r with
    | done b=>exact Ok.pure
    | yield b=>exact ih _ _ fun _ _ _=>hg _ _ _
 exact key _ _ _ fun _ _ _=>h _ _ _
theorem iAA{P:Program}{a m}:Ok P (load a m):=fun _=>⟨rfl,trivial⟩
theorem a7A{P:Program}{a v m}:Ok P (store a v m):=⟨rfl,trivial⟩
theorem aJ{P:Program}{o}:Ok P (newObj o):=fun _=>⟨rfl,trivial⟩
theorem mJ{P:Program}{o}:Ok P (shape o):=fun _=>⟨rfl,trivial⟩
theorem gCA{P:Program}{a n}:Ok P (freeze a n):=⟨rfl,trivial⟩
theorem sBA{P:Program}{a}:Ok P (frozen a):=fun _=>⟨rfl,trivial⟩
theorem vK{P:Program}{a}:Ok P (getObj a):=fun _=>⟨rfl,trivial⟩
theorem pJ{P:Program}{a o}:Ok P (setObj a o):=⟨rfl,trivial⟩
theorem dF{P:Program}{a}:Ok P (choose a):=fun _=>⟨rfl,trivial⟩
theorem yD{P:Program}:Ok P program:=⟨rfl,trivial⟩
theorem jA{P:Program}{φ:α→Prop}{a}:Safe P φ 0 (stuck a:Sem α):=⟨trivial,.inl rfl⟩
theorem fB{P:Program}{φ:α→Prop}{a}:Safe P φ 0 (unsupported a:Sem α):=⟨trivial,.inl rfl⟩
theorem gEA{P:Program}{φ:α→Prop}{a}:Safe P φ 0 (goPanic a:Sem α):=⟨trivial,.inl rfl⟩
theorem f2A{P:Program}{φ:α→Prop}{a}:Safe P φ 0 (throw a:Sem α):=⟨trivial,.inl rfl⟩
theorem aP{P:Program}{n}:Ok P (askRoom n):=by
 unfold askRoom;split
 · exact⟨rfl,trivial⟩
 · exact⟨rfl,trivial⟩
theorem oL{P:Program}:Ok P (mark .noRoom):=⟨rfl,trivial⟩
theorem fT{P:Program}{a b}:Ok P (writeFd a b):=by
 unfold writeFd;refine⟨⟨.unsupported (.noEntry _),trivial,rfl⟩,fun r=>?_⟩
 cases r<;>first | exact⟨rfl,trivial⟩ | exact⟨trivial,.inl rfl⟩
theorem qLA{P:Program}:(∀ a0 a1,Ok P (Conv.intToInt a0 a1))∧(∀ a0 a1,Ok P (Conv.intToFloat a0 a1))∧(∀ a0,Ok P (Conv.intToString a0))∧(∀ a0 a1 a2,Ok P (Instr.makeFunc a0 a1 a2)):=by
 refine⟨?_,?_,?_,?_⟩<;>intros<;>(first | unfold Conv.intToInt | unfold Conv.intToFloat | unfold Conv.intToString | unfold Instr.makeFunc) <;>
 repeat' (first | (with_reducible first | exact Ok.pure | exact Ok.halt trivial | apply Ok.bind | apply Ok.map | apply bH | apply gH | apply bD | apply xC | apply jD) | intro _ | split | dsimp only)
theorem o6{P:Program}:∀ a0 a1 a2,Ok P (Instr.makeFunc a0 a1 a2):=qLA.2.2.2
theorem oG{P:Program}:(∀ a0,Ok P (asBool a0))∧(∀ a0,Ok P (typeInfo a0))∧(∀ a0 a1,Ok P (newRow a0 a1))∧(∀ a0,Ok P (underlying a0))∧(∀ a0,Ok P (Instr.sureAddr a0))∧(∀ a0,Ok P (Instr.ready a0))∧(∀ a0,Ok P (Instr.waits a0))∧(∀ a0 a1 a2 a3,Ok P (Op.intArith a0 a1 a2 a3))∧(∀ a0 a1 a2 a3,Ok P (Op.intBits a0 a1 a2 a3))∧(∀ a0 a1 a2,Ok P (Op.intCmp a0 a1 a2))∧(∀ a0 a1 a2 a3,Ok P (Op.floatArith a0 a1 a2 a3))∧(∀ a0 a1 a2 a3,Ok P (Op.floatCmp a0 a1 a2 a3))∧(∀ a0 a1 a2,Ok P (Conv.floatToFloat a0 a1 a2))∧(∀ a0 a1 a2,Ok P (Op.stringOp a0 a1 a2)):=by
 refine⟨?_,?_,?_,?_,?_,?_,?_,?_,?_,?_,?_,?_,?_,?_⟩<;>intros<;>(first | unfold asBool | unfold typeInfo | unfold newRow | unfold underlying | unfold Instr.sureAddr | unfold Instr.ready | unfold Instr.waits | unfold Op.intArith | unfold Op.intBits | unfold Op.intCmp | unfold Op.floatArith | unfold Op.floatCmp | unfold Conv.floatToFloat | unfold Op.stringOp) <;>
 repeat' (first | (with_reducible first | exact Ok.pure | exact Ok.halt trivial | apply jA | apply yD | apply aJ | apply vK | apply pJ | apply mJ | apply dF | apply fB | apply Ok.bind | apply Ok.map | apply bH | apply gH | apply bD | apply xC | apply jD) | intro _ | split | dsimp only)
theorem eBA{P:Program}:∀ a0,Ok P (asBool a0):=oG.1
theorem iD{P:Program}:∀ a0,Ok P (typeInfo a0):=oG.2.1
theorem yI{P:Program}:∀ a0 a1,Ok P (newRow a0 a1):=oG.2.2.1
theorem aC{P:Program}:∀ a0,Ok P (underlying a0):=oG.2.2.2.1
theorem vFA{P:Program}:∀ a0,Ok P (Instr.ready a0):=oG.2.2.2.2.2.1
theorem zEA{P:Program}:∀ a0,Ok P (Instr.waits a0):=oG.2.2.2.2.2.2.1
theorem jG{P:Program}:(∀ a0,Ok P (numberAt a0))∧(∀ a0,Ok P (viewAt a0))∧(∀ a0,Ok P (stringish a0))∧(∀ a0,Ok P (asIntOf a0))∧(∀ a0 a1,Ok P (asNumber a0 a1))∧(∀ a0 a1 a2,Ok P (Conv.floatToInt a0 a1 a2))∧(∀ a0,Ok P (markStringish a0))∧(∀ a0,Ok P (cellsIn a0))∧(∀ a0 a1 a2,Ok P (variablesAt a0 a1 a2))∧(∀ a0,Ok P (asAgg a0))∧(∀ a0 a1,Ok P (Instr.keyThatStays a0 a1))∧(∀ a0 a1 a2,Ok P (Instr.next a0 a1 a2))∧(∀ a0,Ok P (Instr.entry a0))∧(∀ a0 a1,Ok P (Instr.extract a0 a1)):=by
 refine⟨?_,?_,?_,?_,?_,?_,?_,?_,?_,?_,?_,?_,?_,?_⟩<;>intros<;>(first | unfold numberAt | unfold viewAt | unfold stringish | unfold asIntOf | unfold asNumber | unfold Conv.floatToInt | unfold markStringish | unfold cellsIn | unfold variablesAt | unfold asAgg | unfold Instr.keyThatStays | unfold Instr.next | unfold Instr.entry | unfold Instr.extract) <;>
 repeat' (first | (with_reducible first | exact Ok.pure | exact Ok.halt trivial | apply vK | apply mJ | apply sBA | apply jA | apply fB | apply aJ | apply dF | apply gCA | apply yD | apply pJ | apply Ok.bind | apply Ok.map | apply bH | apply gH | apply bD | apply xC | apply jD) | intro _ | split | dsimp only)
theorem rQA{P:Program}:∀ a0,Ok P (asAgg a0):=jG.2.2.2.2.2.2.2.2.2.1
theorem yIA{P:Program}:∀ a0 a1 a2,Ok P (Instr.next a0 a1 a2):=jG.2.2.2.2.2.2.2.2.2.2.2.1
theorem dGA{P:Program}:∀ a0,Ok P (Instr.entry a0):=jG.2.2.2.2.2.2.2.2.2.2.2.2.1
theorem pBA{P:Program}:∀ a0 a1,Ok P (Instr.extract a0 a1):=jG.2.2.2.2.2.2.2.2.2.2.2.2.2
theorem uN{P:Program}:(∀ a0 a1,Ok P (Deferred.ofValue a0 a1))∧(∀ a0 a1,Ok P (Builtin.holdsCells a0 a1))∧(∀ a0,Ok P (Builtin.lenOf a0))∧(∀ a0,Ok P (externState a0))∧(∀ a0,Ok P (asString a0))∧(∀ a0,Ok P (cutType a0))∧(∀ a0,Ok P (globalAddr a0))∧(∀ a0 a1 a2,Ok P (intVariablesAt a0 a1 a2))∧(∀ a0,Ok P (Instr.getLoop a0))∧(∀ a0,Ok P (Instr.takeDeferred a0))∧(∀ a0,Ok P (withAddress a0)):=by
 refine⟨?_,?_,?_,?_,?_,?_,?_,?_,?_,?_,?_⟩<;>intros<;>(first | unfold Deferred.ofValue | unfold Builtin.holdsCells | unfold Builtin.lenOf | unfold externState | unfold asString | unfold cutType | unfold globalAddr | unfold intVariablesAt | unfold Instr.getLoop | unfold Instr.takeDeferred | unfold withAddress) <;>
 repeat' (first | (with_reducible first | exact Ok.pure | exact Ok.halt trivial | apply jA | apply mJ | apply vK | apply aJ | apply yD | apply pJ | apply dF | apply Ok.bind | apply Ok.map | apply bH | apply gH | apply bD | apply xC | apply jD) | intro _ | split | dsimp only)
theorem aX{P:Program}:∀ a0 a1,Ok P (Deferred.ofValue a0 a1):=uN.1
theorem nQ{P:Program}:∀ a0,Ok P (asString a0):=uN.2.2.2.2.1
theorem bM{P:Program}:∀ a0,Ok P (Instr.getLoop a0):=uN.2.2.2.2.2.2.2.2.1
theorem pU{P:Program}:∀ a0,Ok P (Instr.takeDeferred a0):=uN.2.2.2.2.2.2.2.2.2.1
theorem uHA{P:Program}:∀ a0,Ok P (withAddress a0):=uN.2.2.2.2.2.2.2.2.2.2
theorem pG{P:Program}:∀ a1 a2 a3,Ok P (storeCells a1 a2 a3):=by
 intro a1 a2
 induction a2 with
 | nil=>exact fun _=>Ok.pure
 | cons v l ih=>exact fun a3=>Ok.bind a7A fun _=>ih _
theorem rBA{P:Program}:∀ a1 a2 a3 a4,Ok P (loadCellsFrom a1 a2 a3 a4):=by
 intro a1 a2 a3
 induction a3 generalizing a2 with
 | zero=>exact fun _=>Ok.pure
 | succ n ih=>exact fun a4=>Ok.bind iAA fun _=>ih _ _
theorem jX{P:Program}:∀ a1 a2 a3,Ok P (Builtin.complex_ a1 a2 a3):=by
 intro a1 a2 a3;obtain⟨l⟩:=a3;rcases l with _ | ⟨x,_ | ⟨y,_ | ⟨z,t⟩⟩⟩
 · exact jA
 · exact jA
 · cases x <;> cases y <;> first | exact jA | skip
   rename_i k a k' b
   show Ok P (if k=k' then Pure.pure (Value.complex k a b) else stuck _)
   split
   · exact Ok.pure
   · exact jA
 · exact jA
theorem yBA{P:Program}:∀ a1 a2 a3,Ok P (Builtin.imag_ a1 a2 a3):=by
 intro a1 a2 a3;obtain⟨l⟩:=a3;rcases l with _ | ⟨x,_ | ⟨y,t⟩⟩
 · exact jA
 · cases x<;>first | exact jA | exact Ok.pure
 · exact jA
theorem j6{P:Program}:Ok P Instr.panicnil:=by
 unfold Instr.panicnil;refine⟨⟨.stuck _,trivial,rfl⟩,fun r=>?_⟩
 cases r<;>first | exact jA | (show Safe P (fun _=>True) 0 (program >>= _);exact Ok.bind yD fun _=>Ok.pure)
theorem qBA{P:Program}:∀ a1 a2 a3,Ok P (Builtin.real_ a1 a2 a3):=by
 intro a1 a2 a3;obtain⟨l⟩:=a3;rcases l with _ | ⟨x,_ | ⟨y,t⟩⟩
 · exact jA
 · cases x<;>first | exact jA | exact Ok.pure
 · exact jA
theorem cMA{P:Program}:∀ a1 a2 a3,Ok P (loadBytes a1 a2 a3):=by
 intro a1 a2 a3
 induction a3 generalizing a1 a2 with
 | zero=>exact Ok.pure
 | succ n ih =>
   unfold loadBytes
   repeat' (first | (with_reducible first | exact Ok.pure | exact Ok.halt trivial | apply ih | apply iAA | apply jA | apply Ok.bind | apply Ok.map | apply bD | apply xC | apply jD) | intro _ | split | dsimp only)
theorem kFA{P:Program}:∀ a1 a2,Ok P (reportChain a1 a2):=by
 intro a1
 induction a1 with
 | nil=>exact fun _=>Ok.pure
 | cons e l ih =>
   intro a2;unfold reportChain
   repeat' (first | (with_reducible first | exact Ok.pure | exact Ok.halt trivial | apply ih | apply fB | apply yD | apply dF | apply Ok.bind | apply Ok.map | apply bD | apply xC | apply jD) | intro _ | split | dsimp only)
theorem gD{P:Program}:(∀ a0,Ok P (zeroValue a0))∧(∀ a0,Ok P (sizeOf a0))∧(∀ a0 a1,Ok P (newVar a0 a1))∧(∀ a0,Ok P (isAgg a0))∧(∀ a0 a1,Ok P (loadCells a0 a1))∧(∀ a0,Ok P (elemOf a0))∧(∀ a0 a1 a2 a3,Ok P (Op.Complex.arith a0 a1 a2 a3))∧(∀ a0 a1 a2,Ok P (Op.Complex.conv a0 a1 a2))∧(∀ a0 a1 a2 a3,Ok P (Op.Complex.cmp a0 a1 a2 a3))∧(∀ a0,Ok P (behindNumber a0))∧(∀ a0,Ok P (noView a0))∧(∀ a0 a1,Ok P (mayBeOne a0 a1))∧(∀ a0,Ok P (typeStr a0))∧(∀ a0,Ok P (asInt a0)):=by
 refine⟨?_,?_,?_,?_,?_,?_,?_,?_,?_,?_,?_,?_,?_,?_⟩<;>intros<;>(first | unfold zeroValue | unfold sizeOf | unfold newVar | unfold isAgg | unfold loadCells | unfold elemOf | unfold Op.Complex.arith | unfold Op.Complex.conv | unfold Op.Complex.cmp | unfold behindNumber | unfold noView | unfold mayBeOne | unfold typeStr | unfold asInt) <;>
 repeat' (first | (with_reducible first | exact Ok.pure | exact Ok.halt trivial | apply iD | apply fB | apply yI | apply aC | apply rBA | apply jA | apply oG.2.2.2.2.2.2.2.2.2.2.1 | apply oG.2.2.2.2.2.2.2.2.2.2.2.2.1 | apply oG.2.2.2.2.2.2.2.2.2.2.2.1 | apply eBA | apply jG.1 | apply jG.2.1 | apply mJ | apply jG.2.2.1 | apply jG.2.2.2.1 | apply Ok.bind | apply Ok.map | apply bH | apply gH | apply bD | apply xC | apply jD) | intro _ | split | dsimp only)
theorem qF{P:Program}:∀ a0,Ok P (zeroValue a0):=gD.1
theorem pY{P:Program}:∀ a0,Ok P (typeStr a0):=gD.2.2.2.2.2.2.2.2.2.2.2.2.1
theorem fH{P:Program}:∀ a0,Ok P (asInt a0):=gD.2.2.2.2.2.2.2.2.2.2.2.2.2
theorem wJ{P:Program}:(∀ a0 a1,Ok P (Op.unary a0 a1))∧(∀ a0 a1 a2 a3,Ok P (Conv.complexToComplex a0 a1 a2 a3))∧(∀ a0 a1,Ok P (Conv.stringToBytes a0 a1))∧(∀ a0 a1,Ok P (Conv.stringToRunes a0 a1))∧(∀ a0,Ok P (Conv.seenAt a0))∧(∀ a0 a1,Ok P (Instr.makeInterface a0 a1))∧(∀ a0 a1,Ok P (Instr.range a0 a1))∧(∀ a0 a1 a2 a3 a4,Ok P (Builtin.mayShare a0 a1 a2 a3 a4))∧(∀ a0 a1 a2,Ok P (Builtin.cap_ a0 a1 a2))∧(∀ a0 a1 a2,Ok P (Builtin.len_ a0 a1 a2))∧(∀ a0 a1,Ok P (Builtin.max2 a0 a1))∧(∀ a0 a1,Ok P (Builtin.min2 a0 a1))∧(∀ a0 a1,Ok P (Builtin.printOne a0 a1))∧(∀ a0 a1,Ok P (byteVariablesAt a0 a1)):=by
 refine⟨?_,?_,?_,?_,?_,?_,?_,?_,?_,?_,?_,?_,?_,?_⟩<;>intros<;>(first | unfold Op.unary | unfold Conv.complexToComplex | unfold Conv.stringToBytes | unfold Conv.stringToRunes | unfold Conv.seenAt | unfold Instr.makeInterface | unfold Instr.range | unfold Builtin.mayShare | unfold Builtin.cap_ | unfold Builtin.len_ | unfold Builtin.max2 | unfold Builtin.min2 | unfold Builtin.printOne | unfold byteVariablesAt) <;>
 repeat' (first | (with_reducible first | exact Ok.pure | exact Ok.halt trivial | apply oG.2.2.2.2.2.2.2.1 | apply oG.2.2.2.2.2.2.2.2.1 | apply jA | apply fB | apply oG.2.2.2.2.2.2.2.2.2.2.2.2.1 | apply dF | apply jG.2.2.2.2.2.2.1 | apply yI | apply yD | apply mJ | apply jG.2.1 | apply aC | apply vK | apply aJ | apply uN.2.1 | apply sBA | apply oG.2.2.2.2.2.2.2.2.2.2.2.2.2 | apply eBA | apply iD | apply uN.2.2.2.2.2.2.2.1 | apply Ok.bind | apply Ok.map | apply bH | apply gH | apply bD | apply xC | apply jD) | intro _ | split | dsimp only)
theorem fNA{P:Program}:∀ a0 a1,Ok P (Op.unary a0 a1):=wJ.1
theorem fU{P:Program}:∀ a0 a1,Ok P (Instr.makeInterface a0 a1):=wJ.2.2.2.2.2.1
theorem mHA{P:Program}:∀ a0 a1,Ok P (Instr.range a0 a1):=wJ.2.2.2.2.2.2.1
theorem uDA{P:Program}:∀ a0 a1 a2,Ok P (Builtin.cap_ a0 a1 a2):=wJ.2.2.2.2.2.2.2.2.1
theorem oDA{P:Program}:∀ a0 a1 a2,Ok P (Builtin.len_ a0 a1 a2):=wJ.2.2.2.2.2.2.2.2.2.1
theorem pUA{P:Program}:(∀ a0 a1,Ok P (storeBytes a0 a1))∧(∀ a0 a1 a2 a3 a4 a5,Ok P (Instr.enterLoop a0 a1 a2 a3 a4 a5))∧(∀ a0 a1,Ok P (Instr.endRound a0 a1))∧(∀ a0 a1,Ok P (Instr.deferInRound a0 a1)):=by
 refine⟨?_,?_,?_,?_⟩<;>intros<;>(first | unfold storeBytes | unfold Instr.enterLoop | unfold Instr.endRound | unfold Instr.deferInRound) <;>
 repeat' (first | (with_reducible first | exact Ok.pure | exact Ok.halt trivial | apply pG | apply bM | apply aJ | apply pJ | apply vK | apply jA | apply f2A | apply Ok.bind | apply Ok.map | apply bH | apply gH | apply bD | apply xC | apply jD) | intro _ | split | dsimp only)
theorem qY{P:Program}:∀ a0 a1 a2 a3 a4 a5,Ok P (Instr.enterLoop a0 a1 a2 a3 a4 a5):=pUA.2.1
theorem uAA{P:Program}:∀ a0 a1,Ok P (Instr.endRound a0 a1):=pUA.2.2.1
theorem oU{P:Program}:∀ a0 a1,Ok P (Instr.deferInRound a0 a1):=pUA.2.2.2
theorem uF{P:Program}:(∀ a0 a1 a2,Ok P (storeVar a0 a1 a2))∧(∀ a0 a1,Ok P (Instr.box a0 a1))∧(∀ a0 a1,Ok P (Instr.build a0 a1))∧(∀ a0 a1 a2,Ok P (Instr.buildSlice a0 a1 a2))∧(∀ a0 a1,Ok P (loadVar a0 a1))∧(∀ a0 a1 a2,Ok P (part a0 a1 a2))∧(∀ a0 a1,Ok P (Op.Complex.mul a0 a1))∧(∀ a0 a1,Ok P (Op.Complex.sub a0 a1))∧(∀ a0 a1,Ok P (Op.Complex.add a0 a1))∧(∀ a0 a1,Ok P (Op.Complex.quo a0 a1))∧(∀ a0,Ok P (byteOf a0))∧(∀ a0 a1,Ok P (sameAddr a0 a1))∧(∀ a0,Ok P (Conv.bytesToString a0))∧(∀ a0,Ok P (Conv.runesToString a0)):=by
 refine⟨?_,?_,?_,?_,?_,?_,?_,?_,?_,?_,?_,?_,?_,?_⟩<;>intros<;>(first | unfold storeVar | unfold Instr.box | unfold Instr.build | unfold Instr.buildSlice | unfold loadVar | unfold part | unfold Op.Complex.mul | unfold Op.Complex.sub | unfold Op.Complex.add | unfold Op.Complex.quo | unfold byteOf | unfold sameAddr | unfold Conv.bytesToString | unfold Conv.runesToString) <;>
 repeat' (first | (with_reducible first | exact Ok.pure | exact Ok.halt trivial | apply gD.2.1 | apply pG | apply jA | apply gD.2.2.1 | apply aC | apply qF | apply yI | apply fB | apply gD.2.2.2.1 | apply iAA | apply gD.2.2.2.2.1 | apply gD.2.2.2.2.2.2.1 | apply gD.2.2.2.2.2.2.2.2.2.2.1 | apply yD | apply mJ | apply dF | apply sBA | apply gD.2.2.2.2.2.2.2.2.2.2.2.1 | apply Ok.bind | apply Ok.map | apply bH | apply gH | apply bD | apply xC | apply jD) | intro _ | split | dsimp only)
theorem iMA{P:Program}:∀ a0 a1,Ok P (Instr.box a0 a1):=uF.2.1
theorem uFA{P:Program}:∀ a0 a1,Ok P (Instr.build a0 a1):=uF.2.2.1
theorem lX{P:Program}:∀ a0 a1 a2,Ok P (Instr.buildSlice a0 a1 a2):=uF.2.2.2.1
theorem bT{P:Program}:(∀ a0 a1 a2,Ok P (Conv.unsafePointer a0 a1 a2))∧(∀ a0 a1,Ok P (Instr.makeMap a0 a1))∧(∀ a0 a1 a2 a3,Ok P (Instr.entryStore a0 a1 a2 a3))∧(∀ a0 a1 a2,Ok P (Builtin.firstCells a0 a1 a2))∧(∀ a0 a1 a2,Ok P (Builtin.clear_ a0 a1 a2))∧(∀ a0,Ok P (backFromNumber a0)):=by
 refine⟨?_,?_,?_,?_,?_,?_⟩<;>intros<;>(first | unfold Conv.unsafePointer | unfold Instr.makeMap | unfold Instr.entryStore | unfold Builtin.firstCells | unfold Builtin.clear_ | unfold backFromNumber) <;>
 repeat' (first | (with_reducible first | exact Ok.pure | exact Ok.halt trivial | apply wJ.2.2.2.2.1 | apply jG.2.2.2.2.1 | apply jG.2.2.2.2.2.2.2.1 | apply aJ | apply yD | apply mJ | apply gD.2.1 | apply jA | apply aC | apply fB | apply jG.2.2.2.2.2.2.2.2.1 | apply fH | apply vK | apply pJ | apply gD.2.2.2.2.1 | apply pG | apply qF | apply gD.2.2.2.2.2.2.2.2.2.1 | apply Ok.bind | apply Ok.map | apply bH | apply gH | apply bD | apply xC | apply jD) | intro _ | split | dsimp only)
theorem nBA{P:Program}:∀ a0 a1,Ok P (Instr.makeMap a0 a1):=bT.2.1
theorem kX{P:Program}:∀ a0 a1 a2 a3,Ok P (Instr.entryStore a0 a1 a2 a3):=bT.2.2.1
theorem p8{P:Program}:∀ a0 a1 a2,Ok P (Builtin.clear_ a0 a1 a2):=bT.2.2.2.2.1
theorem uB{P:Program}{φ:α→Prop}:∀ a1,Safe P φ 0 (runtimePanic a1:Sem α):=by
 intro a1;unfold runtimePanic
 repeat' (first | (with_reducible first | apply yD | apply gEA | apply gD.2.2.1 | apply gD.2.2.2.2.2.1 | apply Ok.bind) | intro _ | split | dsimp only)
theorem vG{P:Program}:∀ a1 a2 a3,Ok P (Builtin.unsafeAdd_ a1 a2 a3):=by
 intro a1 a2 a3;obtain⟨l⟩:=a3;rcases l with _ | ⟨x,_ | ⟨y,_ | ⟨z,t⟩⟩⟩
 · exact jA
 · exact jA
 · cases x <;> first | exact jA | skip
   refine Ok.bind (fH _) fun n=>?_
   repeat' (first | (with_reducible first | exact Ok.pure | exact Ok.halt trivial | apply fH | apply fB | apply jG.2.1 | apply mJ | apply yD | apply Ok.bind | apply Ok.map | apply bD | apply xC | apply jD) | intro _ | split | dsimp only)
 · exact jA
theorem vDA{P:Program}:∀ a1 a2 a3,Ok P (Builtin.max_ a1 a2 a3):=by
 intro a1 a2 a3;unfold Builtin.max_
 split
 · exact jA
 · exact qQA wJ.2.2.2.2.2.2.2.2.2.2.1 _ _
theorem pDA{P:Program}:∀ a1 a2 a3,Ok P (Builtin.min_ a1 a2 a3):=by
 intro a1 a2 a3;unfold Builtin.min_
 split
 · exact jA
 · exact qQA wJ.2.2.2.2.2.2.2.2.2.2.2.1 _ _
theorem qAA{P:Program}:∀ a1 a2 a3 a4,Ok P (Builtin.pieces a1 a2 a3 a4):=by
 intro a1 a2 a3 a4;unfold Builtin.pieces
 repeat' (first | (with_reducible first | exact Ok.pure | apply wJ.2.2.2.2.2.2.2.2.2.2.2.2.1 | apply jA | apply Ok.bind | apply j3A | apply bD) | intro _ | split | dsimp only)
theorem mO{P:Program}:∀ a1 a2 a3,Ok P (Builtin.unsafeSliceData_ a1 a2 a3):=by
 intro a1 a2 a3;obtain⟨l⟩:=a3;rcases l with _ | ⟨x,_ | ⟨y,t⟩⟩
 · exact jA
 · cases x <;> first | exact jA | skip
   rename_i a n c
   cases a with
   | none=>exact Ok.pure
   | some a =>
     show Ok P (if c≠0 then Pure.pure (Value.pointer (some a)) else _)
     repeat' (first | (with_reducible first | exact Ok.pure | exact Ok.halt trivial | apply jG.2.1 | apply aJ | apply gD.2.2.2.2.2.1 | apply Ok.bind | apply Ok.map | apply bD | apply xC | apply jD) | intro _ | split | dsimp only)
 · exact jA
theorem yN{P:Program}:∀ a1 a2 a3,Ok P (Builtin.unsafeStringData_ a1 a2 a3):=by
 intro a1 a2 a3;obtain⟨l⟩:=a3;rcases l with _ | ⟨x,_ | ⟨y,t⟩⟩
 · exact jA
 · cases x <;> first | exact jA | skip
   rename_i s;have b:Ok P (do let a ← newRow (← elemOf a2) (s.data.map fun b=>Value.int .u8 b.toNat);freeze a s.size;Pure.pure (Value.pointer (some a)):Sem Value) :=
    Ok.bind (gD.2.2.2.2.2.1 _) fun _=>Ok.bind (yI _ _) fun _=>Ok.bind gCA fun _=>Ok.pure
   have a : Ok P (do
       if (← choose (.extern "unsafe.StringData.empty" 2)) = 0 then return Value.pointer none
       let a ← newRow (← elemOf a2) #[]
       markStringish a
       return Value.pointer (some a):Sem Value):=by
     repeat' (first | (with_reducible first | exact Ok.pure | exact Ok.halt trivial | apply dF | apply gD.2.2.2.2.2.1 | apply yI | apply jG.2.2.2.2.2.2.1 | apply Ok.bind | apply Ok.map | apply bD | apply xC | apply jD) | intro _ | split | dsimp only)
   show Ok P (if s.size=0 then _ else _)
   split
   · exact a
   · exact b
 · exact jA
theorem tL{P:Program}:(∀ a0 a1 a2,Ok P (Instr.alloc a0 a1 a2))∧(∀ a0 a1,Ok P (Instr.loadAt a0 a1))∧(∀ a0 a1 a2,Ok P (Instr.storeAt a0 a1 a2))∧(∀ a0 a1 a2 a3 a4,Ok P (Op.shift a0 a1 a2 a3 a4))∧(∀ a0 a1 a2 a3,Ok P (Op.intDiv a0 a1 a2 a3))∧(∀ a0 a1 a2 a3,Ok P (Op.Complex.product a0 a1 a2 a3))∧(∀ a0 a1 a2 a3 a4,Ok P (Op.Complex.corrected a0 a1 a2 a3 a4))∧(∀ a0 a1,Ok P (samePointer a0 a1))∧(∀ a0 a1 a2,Ok P (movedPointer a0 a1 a2))∧(∀ a0 a1,Ok P (Op.twoPlaces a0 a1))∧(∀ a0 a1 a2,Ok P (Op.addrMod a0 a1 a2))∧(∀ a0 a1 a2,Ok P (convert a0 a1 a2))∧(∀ a0 a1,Ok P (Instr.arrayAt a0 a1))∧(∀ a0 a1,Ok P (Instr.makeChan a0 a1)):=by
 refine⟨?_,?_,?_,?_,?_,?_,?_,?_,?_,?_,?_,?_,?_,?_⟩<;>intros<;>(first | unfold Instr.alloc | unfold Instr.loadAt | unfold Instr.storeAt | unfold Op.shift | unfold Op.intDiv | unfold Op.Complex.product | unfold Op.Complex.corrected | unfold samePointer | unfold movedPointer | unfold Op.twoPlaces | unfold Op.addrMod | unfold convert | unfold Instr.arrayAt | unfold Instr.makeChan) <;>
 repeat' (first | (with_reducible first | exact Ok.pure | exact Ok.halt trivial | apply gD.2.2.1 | apply uF.1 | apply qF | apply oG.2.2.2.2.1 | apply uF.2.2.2.2.1 | apply uB | apply jA | apply uF.2.2.2.2.2.2.2.2.1 | apply uF.2.2.2.2.2.2.1 | apply uF.2.2.2.2.2.2.2.1 | apply uF.2.2.2.2.2.2.2.2.2.2.2.1 | apply vG | apply jG.1 | apply fB | apply uF.2.2.2.2.2.2.2.2.2.2.1 | apply yD | apply mJ | apply iD | apply uF.2.2.2.2.2.2.2.2.2.2.2.2.1 | apply wJ.2.1 | apply oG.2.2.2.2.2.2.2.2.2.2.2.2.1 | apply jG.2.2.2.2.2.1 | apply qLA.2.1 | apply qLA.1 | apply qLA.2.2.1 | apply uF.2.2.2.2.2.2.2.2.2.2.2.2.2 | apply wJ.2.2.1 | apply wJ.2.2.2.1 | apply bT.1 | apply jG.2.2.2.2.2.2.1 | apply aC | apply fH | apply aJ | apply Ok.bind | apply Ok.map | apply bH | apply gH | apply bD | apply xC | apply jD) | intro _ | split | dsimp only)
theorem lEA{P:Program}:∀ a0 a1 a2,Ok P (Instr.alloc a0 a1 a2):=tL.1
theorem tDA{P:Program}:∀ a0 a1,Ok P (Instr.loadAt a0 a1):=tL.2.1
theorem iCA{P:Program}:∀ a0 a1 a2,Ok P (Instr.storeAt a0 a1 a2):=tL.2.2.1
theorem iVA{P:Program}:∀ a0 a1 a2,Ok P (convert a0 a1 a2):=tL.2.2.2.2.2.2.2.2.2.2.2.1
theorem eCA{P:Program}:∀ a0 a1,Ok P (Instr.arrayAt a0 a1):=tL.2.2.2.2.2.2.2.2.2.2.2.2.1
theorem bAA{P:Program}:∀ a0 a1,Ok P (Instr.makeChan a0 a1):=tL.2.2.2.2.2.2.2.2.2.2.2.2.2
theorem oN{P:Program}:(∀ a0 a1 a2,Ok P (Instr.makeSlice a0 a1 a2))∧(∀ a0,Ok P (asAddr a0))∧(∀ a0 a1 a2,Ok P (partAt a0 a1 a2))∧(∀ a0 a1 a2,Ok P (Instr.field a0 a1 a2))∧(∀ a0 a1 a2 a3,Ok P (Instr.typeAssert a0 a1 a2 a3))∧(∀ a0 a1 a2,Ok P (Builtin.copy_ a0 a1 a2))∧(∀ a0,Ok P (Instr.panic a0))∧(∀ a0 a1,Ok P (Place.get a0 a1))∧(∀ a0,Ok P (Instr.beginRound a0))∧(∀ a0,Ok P (Instr.endLoop a0)):=by
 refine⟨?_,?_,?_,?_,?_,?_,?_,?_,?_,?_⟩<;>intros<;>(first | unfold Instr.makeSlice | unfold asAddr | unfold partAt | unfold Instr.field | unfold Instr.typeAssert | unfold Builtin.copy_ | unfold Instr.panic | unfold Place.get | unfold Instr.beginRound | unfold Instr.endLoop) <;>
 repeat' (first | (with_reducible first | exact Ok.pure | exact Ok.halt trivial | apply fH | apply aP | apply dF | apply yI | apply uB | apply gD.2.1 | apply jA | apply iD | apply aC | apply qF | apply uF.2.2.2.2.2.2.2.2.2.2.1 | apply rQA | apply uF.2.2.2.2.2.1 | apply bT.2.2.2.1 | apply uN.2.2.1 | apply pG | apply j6 | apply gEA | apply uF.2.2.2.2.1 | apply bM | apply pJ | apply Ok.bind | apply Ok.map | apply bH | apply gH | apply bD | apply xC | apply jD) | intro _ | split | dsimp only)
theorem uY{P:Program}:∀ a0 a1 a2,Ok P (Instr.makeSlice a0 a1 a2):=oN.1
theorem oW{P:Program}:∀ a0,Ok P (asAddr a0):=oN.2.1
theorem aGA{P:Program}:∀ a0 a1 a2,Ok P (Instr.field a0 a1 a2):=oN.2.2.2.1
theorem iX{P:Program}:∀ a0 a1 a2 a3,Ok P (Instr.typeAssert a0 a1 a2 a3):=oN.2.2.2.2.1
theorem oBA{P:Program}:∀ a0 a1 a2,Ok P (Builtin.copy_ a0 a1 a2):=oN.2.2.2.2.2.1
theorem jV{P:Program}:∀ a0,Ok P (Instr.panic a0):=oN.2.2.2.2.2.2.1
theorem eX{P:Program}:∀ a0,Ok P (Instr.beginRound a0):=oN.2.2.2.2.2.2.2.2.1
theorem iBA{P:Program}:∀ a0,Ok P (Instr.endLoop a0):=oN.2.2.2.2.2.2.2.2.2
theorem cIA{P:Program}:∀ a1 a2 a3,Ok P (followBlind a1 a2 a3):=by
 intro a1
 induction a1 with
 | nil=>intro a2 a3;exact Ok.pure
 | cons s l ih =>
   intro a2 a3;unfold followBlind
   repeat' (first | (with_reducible first | exact Ok.pure | exact Ok.halt trivial | apply ih | apply aC | apply jA | apply uF.2.2.2.2.2.1 | apply Ok.bind | apply Ok.map | apply bD | apply xC | apply jD) | intro _ | split | dsimp only)
theorem rDA{P:Program}:∀ a1 a2 a3 a4,Ok P (Op.eqGuardIn a1 a2 a3 a4):=by
 intro a1
 induction a1 with
 | zero=>intro a2 a3 a4;exact fB
 | succ n ih =>
   intro a2 a3 a4;unfold Op.eqGuardIn
   repeat' (first | (with_reducible first | exact Ok.pure | exact Ok.halt trivial | apply ih | apply aC | apply uF.2.2.2.2.2.1 | apply gD.2.1 | apply Ok.bind | apply Ok.map | apply bD | apply xC | apply jD) | intro _ | split | dsimp only)
theorem jGA{P:Program}:∀ a1 a2 a3,Ok P (movedNumber a1 a2 a3):=by
 intro a1 a2 a3;unfold movedNumber;have tail:∀ v (l:Bool),Ok P (match v with | Value.pointer (some b)=>asNumber b l | v=>Pure.pure v):=by
  intro v l
  split
  · exact jG.2.2.2.2.1 _ _
  · exact Ok.pure
 have all : Ok P (match a2 with
     | Value.pointer (some n) => (do
       let(a,lost) ← behindNumber n
       match ← Builtin.unsafeAdd_ #[] a1 #[Value.pointer (some a),a3] with
       | .pointer (some b)=>asNumber b lost
       | v=>Pure.pure v:Sem Value)
     | _=>Builtin.unsafeAdd_ #[] a1 #[a2,a3]):=by
   split
   · exact Ok.bind (gD.2.2.2.2.2.2.2.2.2.1 _) fun x=>Ok.bind (vG _ _ _) fun v=>tail v _
   · exact vG _ _ _
 refine Ok.bind (aC _) fun u=>?_
 cases u<;>first | exact all | exact Ok.bind fB fun _=>all
theorem cFA{P:Program}{φ:α→Prop}:∀ a1 a2 a3 a4,Safe P φ 0 (boundsPanic a1 a2 a3 a4:Sem α):=by
 intro a1 a2 a3 a4;unfold boundsPanic
 repeat' (first | (with_reducible first | exact Ok.pure | apply dF | apply uB | apply Ok.bind | apply Ok.map) | intro _ | split | dsimp only)
theorem j4{P:Program}:∀ a1 a2 a3 a4,Ok P (Instr.checkKey a1 a2 a3 a4):=by
 intro a1 a2
 induction a2 with
 | zero=>intro a3 a4;exact fB
 | succ n ih =>
   intro a3 a4;unfold Instr.checkKey
   repeat' (first | (with_reducible first | exact Ok.pure | exact Ok.halt trivial | apply ih | apply aC | apply iD | apply uB | apply pY | apply uF.2.2.2.2.2.1 | apply gD.2.1 | apply jA | apply fB | apply Ok.bind | apply Ok.map | apply bD | apply xC | apply jD) | intro _ | split | dsimp only)
theorem kZ{P:Program}:∀ a1 a2 a3,Ok P (Builtin.append_ a1 a2 a3):=by
 intro a1 a2 a3;unfold Builtin.append_
 split
 · rename_i sType s x _; refine Ok.bind (aC _) fun u => ?_
   split
   · rename_i elem
     split
     · rename_i base sLen sCap; refine Ok.bind (gD.2.1 _) fun size => ?_
       extract_lets -underBinder +onlyGivenNames J
       have hJ:∀ r,Ok P (J r):=by
        intro zeros;dsimp -zeta -zetaHave only[J];clear J
        extract_lets -underBinder +onlyGivenNames J
        have hJ:∀ r,Ok P (J r):=by
         intro n;dsimp -zeta -zetaHave only[J];clear J
         extract_lets -underBinder +onlyGivenNames A
         have hA:Ok P A:=by
          dsimp -zeta -zetaHave only[A]
          repeat' (first | (extract_lets -underBinder +onlyGivenNames j;first | ((refine jp (P:=P) (φ:=fun _=>True) j _ (fun r=>?_) (fun hj=>?_))<;>first | (have _h:∀ r,Safe P (fun _=>True) 0 (j r):=hj;clear_value j) | (dsimp -zeta -zetaHave only[j];clear j)) | ((refine jq (P:=P) j _ ?_ (fun hj=>?_))<;>first | (have _h:Safe P (fun _=>True) 0 j:=hj;clear_value j) | (dsimp -zeta -zetaHave only[j];clear j)) | clear_value j) | (with_reducible first | exact hj _ | exact Ok.pure | exact Ok.halt trivial | apply aC | apply gD.2.1 | apply jA | apply uN.2.2.1 | apply fH | apply uB | apply iD | apply dF | apply bT.2.2.2.1 | apply qF | apply pG | apply wJ.2.2.2.2.2.2.2.1 | apply oL | apply fB | apply aP | apply yI | apply Ok.bind) | intro _ | split)
         clear_value A
         repeat' (first | (extract_lets -underBinder +onlyGivenNames j;first | ((refine jp (P:=P) (φ:=fun _=>True) j _ (fun r=>?_) (fun hj=>?_))<;>first | (have _h:∀ r,Safe P (fun _=>True) 0 (j r):=hj;clear_value j) | (dsimp -zeta -zetaHave only[j];clear j)) | ((refine jq (P:=P) j _ ?_ (fun hj=>?_))<;>first | (have _h:Safe P (fun _=>True) 0 j:=hj;clear_value j) | (dsimp -zeta -zetaHave only[j];clear j)) | clear_value j) | (with_reducible first | exact hj _ | exact Ok.pure | exact Ok.halt trivial | exact hA | apply aC | apply gD.2.1 | apply jA | apply uN.2.2.1 | apply fH | apply uB | apply iD | apply dF | apply bT.2.2.2.1 | apply qF | apply pG | apply wJ.2.2.2.2.2.2.2.1 | apply oL | apply fB | apply aP | apply yI | apply Ok.bind) | intro _ | split)
        clear_value J
        repeat' (first | (extract_lets -underBinder +onlyGivenNames j;first | ((refine jp (P:=P) (φ:=fun _=>True) j _ (fun r=>?_) (fun hj=>?_))<;>first | (have _h:∀ r,Safe P (fun _=>True) 0 (j r):=hj;clear_value j) | (dsimp -zeta -zetaHave only[j];clear j)) | ((refine jq (P:=P) j _ ?_ (fun hj=>?_))<;>first | (have _h:Safe P (fun _=>True) 0 j:=hj;clear_value j) | (dsimp -zeta -zetaHave only[j];clear j)) | clear_value j) | (with_reducible first | exact hJ _ | exact hj _ | exact Ok.pure | exact Ok.halt trivial | apply aC | apply gD.2.1 | apply jA | apply uN.2.2.1 | apply fH | apply uB | apply iD | apply dF | apply bT.2.2.2.1 | apply qF | apply pG | apply wJ.2.2.2.2.2.2.2.1 | apply oL | apply fB | apply aP | apply yI | apply Ok.bind) | intro _ | split)
       clear_value J
       repeat' (first | (extract_lets -underBinder +onlyGivenNames j;first | ((refine jp (P:=P) (φ:=fun _=>True) j _ (fun r=>?_) (fun hj=>?_))<;>first | (have _h:∀ r,Safe P (fun _=>True) 0 (j r):=hj;clear_value j) | (dsimp -zeta -zetaHave only[j];clear j)) | ((refine jq (P:=P) j _ ?_ (fun hj=>?_))<;>first | (have _h:Safe P (fun _=>True) 0 j:=hj;clear_value j) | (dsimp -zeta -zetaHave only[j];clear j)) | clear_value j) | (with_reducible first | exact hJ _ | exact hj _ | exact Ok.pure | exact Ok.halt trivial | apply aC | apply gD.2.1 | apply jA | apply uN.2.2.1 | apply fH | apply uB | apply iD | apply dF | apply bT.2.2.2.1 | apply qF | apply pG | apply wJ.2.2.2.2.2.2.2.1 | apply oL | apply fB | apply aP | apply yI | apply Ok.bind) | intro _ | split)
     · exact jA
   · exact jA
 · exact jA
theorem xAA{P:Program}:∀ a1 a2 a3,Ok P (Builtin.close_ a1 a2 a3):=by
 intro a1 a2 a3;obtain⟨l⟩:=a3;rcases l with _ | ⟨x,_ | ⟨y,t⟩⟩
 · exact jA
 · cases x <;> first | exact jA | skip
   rename_i c
   cases c with
   | none=>exact(uB (.plain _):Ok P (runtimePanic _:Sem Value))
   | some r =>
     refine Ok.bind vK fun o=>?_
     repeat' (first | (with_reducible first | exact Ok.pure | exact Ok.halt trivial | apply uB | apply pJ | apply jA | apply Ok.bind | apply Ok.map | apply bD | apply xC | apply jD) | intro _ | split | dsimp only)
 · exact jA
theorem jS{P:Program}:∀ a1 a2 a3,Ok P (Builtin.unsafeSlice_ a1 a2 a3):=by
 intro a1 a2 a3;obtain⟨l⟩:=a3;rcases l with _ | ⟨x,_ | ⟨y,_ | ⟨z,t⟩⟩⟩
 · exact jA
 · exact jA
 · cases x <;> first | exact jA | skip
   refine Ok.bind (fH _) fun n=>?_
   repeat' (first | (with_reducible first | exact Ok.pure | exact Ok.halt trivial | apply fH | apply fB | apply jG.2.1 | apply mJ | apply yD | apply gD.2.2.2.2.2.1 | apply uB | apply iD | apply gD.2.1 | apply jG.2.2.2.2.2.2.2.2.1 | apply aJ | apply jA | apply Ok.bind | apply Ok.map | apply bD | apply xC | apply jD) | intro _ | split | dsimp only)
 · exact jA
theorem vQ{P:Program}:∀ a1 a2 a3,Ok P (Builtin.unsafeString_ a1 a2 a3):=by
 intro a1 a2 a3;obtain⟨l⟩:=a3;rcases l with _ | ⟨x,_ | ⟨y,_ | ⟨z,t⟩⟩⟩
 · exact jA
 · exact jA
 · cases x <;> first | exact jA | skip
   refine Ok.bind (fH _) fun n=>?_
   repeat' (first | (with_reducible first | exact Ok.pure | exact Ok.halt trivial | apply fH | apply fB | apply jG.2.1 | apply mJ | apply yD | apply gD.2.2.2.2.2.1 | apply uB | apply iD | apply gD.2.1 | apply jG.2.2.2.2.2.2.2.2.1 | apply aJ | apply jA | apply cMA | apply gCA | apply Ok.bind | apply Ok.map | apply bD | apply xC | apply jD) | intro _ | split | dsimp only)
 · exact jA
theorem dRA{P:Program}{a1:Array TypeId}{m:ByteArray}:Ok P (do
    if (← choose (.extern "ssa:wrapnilchk.dereferenced" 2)) == 1 then runtimePanic .nilDeref
    let some pt := a1[0]? | stuck "ssa:wrapnilchk: no argument types"
    let .pointer t ← underlying pt | stuck "ssa:wrapnilchk: pointer type expected"
    let .named name _ := (← typeInfo t).desc | stuck "ssa:wrapnilchk: defined type expected"
    let some m := String.fromUTF8? m | stuck "ssa:wrapnilchk: the method's name is not UTF-8"
    let base := (name.splitOn "[").headD ""
    let targs := if base == name then "" else "[...]"
    match ((base.splitOn "/").getLastD "").splitOn "." with
    | [_, typ] => runtimePanic (.plain (toString "value method " ++ toString base ++ toString targs ++ toString "." ++ toString m ++ toString " called using nil *" ++ toString typ ++ toString targs ++ toString " pointer"))
    | _ => unsupported (.noEntry "builtin/ssaWrapNilChk.dot in the package path") : Sem Value) := by
  repeat' (first | (with_reducible first | exact Ok.pure | exact Ok.halt trivial | apply dF | apply uB | apply jA | apply aC | apply iD | apply fB | apply Ok.bind | apply Ok.map | apply bD | apply xC | apply jD) | intro _ | split | dsimp only)
theorem aQ{P:Program}:∀ a1 a2 a3,Ok P (Builtin.ssaWrapNilChk_ a1 a2 a3):=by
 intro a1 a2 a3;obtain⟨l⟩:=a3;rcases l with _ | ⟨x,_ | ⟨y,_ | ⟨z,_ | ⟨u,t⟩⟩⟩⟩
 · exact jA
 · exact jA
 · exact jA
 · cases y <;> cases z <;> first | exact jA | skip
   rename_i s m
   cases x<;>first | exact jA | skip
   rename_i p
   cases p with
   | some a=>exact Ok.pure
   | none=>exact dRA (m:=m)
 · exact jA
theorem qN{P:Program}:(∀ a0 a1 a2 a3 a4 a5,Ok P (eqGuard a0 a1 a2 a3 a4 a5))∧(∀ a0 a1 a2 a3,Ok P (Op.Complex.quotient a0 a1 a2 a3))∧(∀ a0 a1 a2,Ok P (Op.addrSub a0 a1 a2))∧(∀ a0 a1 a2,Ok P (Op.addrCmp a0 a1 a2))∧(∀ a0 a1 a2,Ok P (Instr.sliceBound a0 a1 a2))∧(∀ a0 a1,Ok P (fieldPlace a0 a1))∧(∀ a0 a1 a2,Ok P (Instr.indexAt a0 a1 a2))∧(∀ a0 a1 a2,Ok P (Instr.index a0 a1 a2))∧(∀ a0 a1 a2 a3,Ok P (receiverAt a0 a1 a2 a3))∧(∀ a0 a1,Ok P (results a0 a1)):=by
 refine⟨?_,?_,?_,?_,?_,?_,?_,?_,?_,?_⟩<;>intros<;>(first | unfold eqGuard | unfold Op.Complex.quotient | unfold Op.addrSub | unfold Op.addrCmp | unfold Instr.sliceBound | unfold fieldPlace | unfold Instr.indexAt | unfold Instr.index | unfold receiverAt | unfold results) <;>
 repeat' (first | (with_reducible first | exact Ok.pure | exact Ok.halt trivial | apply rDA | apply yD | apply fB | apply uF.2.2.2.2.2.2.2.2.1 | apply gD.2.2.2.2.2.2.2.2.1 | apply tL.2.2.2.2.2.2.1 | apply uF.2.2.2.2.2.2.1 | apply uF.2.2.2.2.2.2.2.2.2.1 | apply uF.2.2.2.2.2.2.2.1 | apply tL.2.2.2.2.2.2.2.2.2.1 | apply jG.2.2.2.1 | apply cFA | apply oN.2.2.1 | apply gD.2.1 | apply oG.2.2.2.2.1 | apply jA | apply aC | apply uF.2.2.2.2.2.1 | apply aQ | apply oN.2.2.2.2.2.2.2.1 | apply oW | apply uF.2.2.2.2.1 | apply Ok.bind | apply Ok.map | apply bH | apply gH | apply bD | apply xC | apply jD) | intro _ | split | dsimp only)
theorem jRA{P:Program}:∀ a0 a1 a2 a3 a4 a5,Ok P (eqGuard a0 a1 a2 a3 a4 a5):=qN.1
theorem mBA{P:Program}:∀ a0 a1 a2,Ok P (Instr.indexAt a0 a1 a2):=qN.2.2.2.2.2.2.1
theorem tHA{P:Program}:∀ a0 a1 a2,Ok P (Instr.index a0 a1 a2):=qN.2.2.2.2.2.2.2.1
theorem sVA{P:Program}:∀ a0 a1,Ok P (results a0 a1):=qN.2.2.2.2.2.2.2.2.2
theorem vPA{P:Program}:∀ a1 a2 a3 a4,Ok P (nilAhead a1 a2 a3 a4):=by
 intro a1
 induction a1 with
 | zero=>intro a2 a3 a4;exact Ok.pure
 | succ n ih =>
   intro a2 a3 a4;unfold nilAhead
   repeat' (first | (with_reducible first | exact Ok.pure | exact Ok.halt trivial | apply ih | apply aC | apply jA | apply iD | apply cIA | apply Ok.bind | apply Ok.map | apply bD | apply xC | apply jD) | intro _ | split | dsimp only)
theorem sIA{P:Program}:∀ a1 a2 a3 a4,Ok P (Op.equalIn a1 a2 a3 a4):=by
 intro a1
 induction a1 with
 | zero=>intro a2 a3 a4;exact fB
 | succ n ih =>
   intro a2 a3 a4;unfold Op.equalIn
   repeat' (first | (with_reducible first | exact Ok.pure | exact Ok.halt trivial | apply ih | apply aC | apply uF.2.2.2.2.2.1 | apply gD.2.1 | apply iD | apply tL.2.2.2.2.2.2.2.1 | apply jA | apply dF | apply gD.2.2.2.2.2.2.2.2.2.1 | apply uF.2.2.2.2.2.2.2.2.2.2.1 | apply yD | apply fB | apply uB | apply uF.2.2.2.2.2.2.2.2.2.2.2.1 | apply pY | apply Ok.bind | apply Ok.map | apply bD | apply xC | apply jD) | intro _ | split | dsimp only)
theorem oCA{P:Program}:(∀ a0 a1 a2 a3 a4 a5,Ok P (Op.complexOp a0 a1 a2 a3 a4 a5))∧(∀ a0 a1 a2,Ok P (Op.equal a0 a1 a2))∧(∀ a0 a1 a2 a3 a4 a5,Ok P (Instr.sliceBounds a0 a1 a2 a3 a4 a5))∧(∀ a0 a1 a2,Ok P (Instr.fieldAt a0 a1 a2)):=by
 refine⟨?_,?_,?_,?_⟩<;>intros<;>(first | unfold Op.complexOp | unfold Op.equal | unfold Instr.sliceBounds | unfold Instr.fieldAt) <;>
 repeat' (first | (with_reducible first | exact Ok.pure | exact Ok.halt trivial | apply gD.2.2.2.2.2.2.1 | apply gD.2.2.2.2.2.2.2.2.1 | apply gD.2.2.2.2.2.2.2.1 | apply tL.2.2.2.2.2.1 | apply qN.2.1 | apply jA | apply sIA | apply qN.2.2.2.2.1 | apply oG.2.2.2.2.1 | apply qN.2.2.2.2.2.1 | apply aC | apply Ok.bind | apply Ok.map | apply bH | apply gH | apply bD | apply xC | apply jD) | intro _ | split | dsimp only)
theorem xBA{P:Program}:∀ a0 a1 a2,Ok P (Instr.fieldAt a0 a1 a2):=oCA.2.2.2
theorem eLA{P:Program}:∀ a1 a2 a3,Ok P (follow a1 a2 a3):=by
 intro a1
 induction a1 with
 | nil=>exact fun _ _=>Ok.pure
 | cons s l ih =>
   intro a2 a3;unfold follow
   repeat' (first | (with_reducible first | exact Ok.pure | exact Ok.halt trivial | apply ih | apply aC | apply jA | apply oW | apply oN.2.2.2.2.2.2.2.1 | apply qN.2.2.2.2.2.1 | apply uF.2.2.2.2.2.1 | apply Ok.bind | apply Ok.map | apply bD | apply xC | apply jD) | intro _ | split | dsimp only)
theorem lUA{P:Program}:(∀ a0 a1 a2 a3,Ok P (binOp a0 a1 a2 a3))∧(∀ a0 a1 a2 a3 a4,Ok P (Instr.slice a0 a1 a2 a3 a4))∧(∀ a0 a1 a2 a3,Ok P (receiverVia a0 a1 a2 a3)):=by
 refine⟨?_,?_,?_⟩<;>intros<;>(first | unfold binOp | unfold Instr.slice | unfold receiverVia) <;>
 repeat' (first | (with_reducible first | exact Ok.pure | exact Ok.halt trivial | apply qN.2.2.2.1 | apply tL.2.2.2.2.2.2.2.2.2.2.1 | apply qN.2.2.1 | apply oCA.1 | apply oCA.2.1 | apply oG.2.2.2.2.2.2.2.2.2.2.1 | apply oG.2.2.2.2.2.2.2.2.2.2.2.1 | apply oG.2.2.2.2.2.2.2.1 | apply oG.2.2.2.2.2.2.2.2.1 | apply oG.2.2.2.2.2.2.2.2.2.1 | apply tL.2.2.2.2.1 | apply tL.2.2.2.1 | apply oG.2.2.2.2.2.2.2.2.2.2.2.2.2 | apply gD.2.2.2.2.2.2.2.2.2.1 | apply jGA | apply tL.2.2.2.2.2.2.2.2.1 | apply jA | apply aC | apply fB | apply oCA.2.2.1 | apply oW | apply gD.2.1 | apply eLA | apply qN.2.2.2.2.2.2.2.2.1 | apply Ok.bind | apply Ok.map | apply bH | apply gH | apply bD | apply xC | apply jD) | intro _ | split | dsimp only)
theorem f6A{P:Program}:∀ a0 a1 a2 a3,Ok P (binOp a0 a1 a2 a3):=lUA.1
theorem fFA{P:Program}:∀ a0 a1 a2 a3,Ok P (receiverVia a0 a1 a2 a3):=lUA.2.2
theorem dX{P:Program}:∀ a1 a2 a3 a4,Ok P (Instr.findAsking a1 a2 a3 a4):=by
 intro a1 a2 a3
 induction a3 with
 | nil=>intro a4;exact Ok.pure
 | cons e l ih =>
   intro a4;unfold Instr.findAsking
   repeat' (first | (with_reducible first | exact Ok.pure | exact Ok.halt trivial | apply ih | apply oCA.2.1 | apply Ok.bind | apply Ok.map | apply bD | apply xC | apply jD) | intro _ | split | dsimp only)
theorem n0A{P:Program}:∀ a1 a2 a3 a4,Ok P (method a1 a2 a3 a4):=by
 intro a1
 induction a1 with
 | zero=>exact fun _ _ _=>fB
 | succ n ih =>
   intro a2 a3 a4;unfold method
   repeat' (first | (with_reducible first | exact Ok.pure | exact Ok.halt trivial | apply ih | apply iD | apply jA | apply eLA | apply oN.2.2.2.2.2.2.2.1 | apply uB | apply qN.2.2.2.2.2.2.2.2.1 | apply Ok.bind | apply Ok.map | apply bD | apply xC | apply jD) | intro _ | split | dsimp only)
theorem d7A{P:Program}:(∀ a0 a1 a2 a3 a4,Ok P (Instr.sliceAt a0 a1 a2 a3 a4))∧(∀ a0 a1 a2,Ok P (Instr.findKey a0 a1 a2)):=by
 refine⟨?_,?_⟩<;>intros<;>(first | unfold Instr.sliceAt | unfold Instr.findKey) <;>
 repeat' (first | (with_reducible first | exact Ok.pure | exact Ok.halt trivial | apply lUA.2.1 | apply oCA.2.2.1 | apply oG.2.2.2.2.1 | apply gD.2.1 | apply aC | apply dX | apply Ok.bind | apply Ok.map | apply bH | apply gH | apply bD | apply xC | apply jD) | intro _ | split | dsimp only)
theorem vBA{P:Program}:∀ a0 a1 a2 a3 a4,Ok P (Instr.sliceAt a0 a1 a2 a3 a4):=d7A.1
theorem uMA{P:Program}:(∀ a0 a1 a2 a3,Ok P (Instr.lookup a0 a1 a2 a3))∧(∀ a0 a1 a2 a3,Ok P (Instr.mapUpdate a0 a1 a2 a3))∧(∀ a0 a1 a2,Ok P (Instr.mapEntry a0 a1 a2))∧(∀ a0 a1 a2,Ok P (Builtin.delete_ a0 a1 a2)):=by
 refine⟨?_,?_,?_,?_⟩<;>intros<;>(first | unfold Instr.lookup | unfold Instr.mapUpdate | unfold Instr.mapEntry | unfold Builtin.delete_) <;>
 repeat' (first | (with_reducible first | exact Ok.pure | exact Ok.halt trivial | apply j4 | apply d7A.2 | apply vK | apply jA | apply aC | apply qF | apply jG.2.2.2.2.2.2.2.2.2.2.1 | apply uB | apply pJ | apply Ok.bind | apply Ok.map | apply bH | apply gH | apply bD | apply xC | apply jD) | intro _ | split | dsimp only)
theorem xDA{P:Program}:∀ a0 a1 a2 a3,Ok P (Instr.lookup a0 a1 a2 a3):=uMA.1
theorem yO{P:Program}:∀ a0 a1 a2 a3,Ok P (Instr.mapUpdate a0 a1 a2 a3):=uMA.2.1
theorem sAA{P:Program}:∀ a0 a1 a2,Ok P (Instr.mapEntry a0 a1 a2):=uMA.2.2.1
theorem nZ{P:Program}:∀ a0 a1 a2,Ok P (Builtin.delete_ a0 a1 a2):=uMA.2.2.2
def xLA : Next → Prop
  | .value _ | .skip | .enter _ _ | .round _ _ _ _ _ | .defer _ | .recover | .spawn _ | .comm _ _ _ | .coroswitch _ true=>True
  | .row r _ => r = "runtime.print$piece"
  | _=>False
abbrev OkN(P:Program)(s:Sem Next):Prop:=Safe P xLA 0 s
theorem OkN.pure{P:Program}{x:Next}(h:xLA x):OkN P (Pure.pure x):=⟨rfl,h⟩
theorem OkN.value{P:Program}{s:Sem Value}(h:Ok P s):OkN P (do Pure.pure (.value (← s))):=Ok.bind h fun _=>⟨rfl,trivial⟩
theorem OkN.unit{P:Program}{s:Sem Unit}(h:Ok P s):OkN P (do s;Pure.pure .skip):=Ok.bind h fun _=>⟨rfl,trivial⟩
structure Tame (P:Program):Prop where
 name : ∀ (f : FuncId) (fn : Func), P.funcs[f]? = some fn → (fn.name == "runtime.NumGoroutine") = false
 next:∀(f:FuncId) (fn:Func) e,P.funcs[f]? = some fn→fn.body.isNone=true→Extern.findNext fn=some e→∀ args,OkN P (e args)
 value:∀(f:FuncId) (fn:Func) e,P.funcs[f]? = some fn→fn.body.isNone=true→Extern.findNext fn=none→Extern.find fn=some e→∀ args,Ok P (e args)
variable {P : Program}
theorem dV(T:Tame P)(f:FuncId)(args:Array Value):OkN P (callFunc f args):=by
 unfold callFunc;refine Safe.bind (ψ:=fun p=>p=P) (s:=program) ⟨rfl,rfl⟩ fun p hp=>?_
 subst hp
 split
 · exact jA
 · rename_i fn hfn; rw [if_neg (by rw [T.name f fn hfn]; simp)]
   split
   · rename_i hb; refine Ok.bind (s := mark (.extern f)) ⟨rfl, trivial⟩ fun _ => ?_
     split
     · rename_i e he;exact T.next f fn e hfn hb he args
     · rename_i he; have he' : Extern.findNext fn = none := by
        cases h:Extern.findNext fn with
        | none=>rfl
        | some e=>exact absurd h (he e)
       split
       · rename_i e hv;exact OkN.value (T.value f fn e hfn hb he' hv args)
       · split
         · exact⟨rfl,trivial⟩
         · exact fB
   · exact⟨rfl,trivial⟩
theorem yX(T:Tame P)(v:Value)(n:String)(args:Array Value):OkN P (callMethod v n args):=by
 unfold callMethod
 split
 · exact Ok.bind yD fun _=>Ok.bind (n0A _ _ _ _) fun x=>dV T _ _
 · exact uB _
 · exact jA
theorem uPA(a b:Array TypeId)(args:Array Value):OkN P (Extern.PrintPieces.piece a b args):=by
 unfold Extern.PrintPieces.piece
 split
 · rename_i fst _
   split
   · rename_i p _; by_cases hp : p.size > 65536
     · simp only[if_pos hp];exact⟨trivial,.inl rfl⟩
     · simp only [if_neg hp]
       cases hl:(args.size==2)<;>cases fst<;>simp only[Bool.not_true,Bool.not_false,Bool.false_eq_true,if_true,if_false]
       · exact Ok.bind fT fun _=>⟨rfl,rfl⟩
       · refine fun v => ?_
         cases v with
         | bool b =>
           cases b with
           | false=>exact⟨Nat.one_pos,(show Safe P xLA 0 (writeFd 2 p >>= fun _=>_) from Ok.bind fT fun _=>⟨rfl,rfl⟩)⟩
           | true=>exact⟨trivial,.inr trivial⟩
         | _=>exact⟨trivial,.inr trivial⟩
       · exact Ok.bind fT fun _=>⟨Nat.one_pos,rfl,trivial⟩
       · refine fun v => ?_
         cases v with
         | bool b =>
           cases b with
           | false=>exact⟨Nat.one_pos,(show Safe P xLA 0 (writeFd 2 p >>= fun _=>_) from Ok.bind fT fun _=>⟨rfl,trivial⟩)⟩
           | true=>exact⟨trivial,.inr trivial⟩
         | _=>exact⟨trivial,.inr trivial⟩
   · exact jA
 · exact jA
theorem pEA(a1:Bool)(a2:Array Bool)(a3:Array TypeId)(a4:Array Value):OkN P (Builtin.printMarked a1 a2 a3 a4):=by
 unfold Builtin.printMarked;refine Ok.bind (qAA _ _ _ _) fun ps=>?_
 split
 · exact⟨rfl,trivial⟩
 · exact uPA _ _ _
theorem bVA(b:Builtin)(a2:Array TypeId)(a3:TypeId)(a4:Array Bool)(a5:Array Value):OkN P (builtin b a2 a3 a4 a5):=by
 cases b <;> first
   | exact OkN.value (kZ _ _ _)
   | exact OkN.value (uDA _ _ _)
   | exact OkN.value (p8 _ _ _)
   | exact OkN.value (xAA _ _ _)
   | exact OkN.value (jX _ _ _)
   | exact OkN.value (oBA _ _ _)
   | exact OkN.value (nZ _ _ _)
   | exact OkN.value (yBA _ _ _)
   | exact OkN.value (oDA _ _ _)
   | exact OkN.value (vDA _ _ _)
   | exact OkN.value (pDA _ _ _)
   | exact OkN.value (jV _)
   | exact OkN.value (qBA _ _ _)
   | exact OkN.value (vG _ _ _)
   | exact OkN.value (jS _ _ _)
   | exact OkN.value (mO _ _ _)
   | exact OkN.value (vQ _ _ _)
   | exact OkN.value (yN _ _ _)
   | exact pEA _ _ _ _
   | exact⟨rfl,trivial⟩
   | exact jA
   | exact fB
   | exact Ok.bind (iD _) fun _=>⟨rfl,trivial⟩
theorem o2A(l:Nat)(args:Array Value):OkN P (Instr.yield l args):=by
 unfold Instr.yield
 repeat' (first | (with_reducible apply bM) | (with_reducible apply jA) | (with_reducible apply pJ) | (with_reducible apply uB) | (with_reducible apply Ok.bind) | exact OkN.pure trivial | intro _ | split | dsimp only)
theorem uW(T:Tame P)(t:Target)(args:Array Value):OkN P (invoke t args):=by
 unfold invoke
 split
 · exact uB _
 · exact bVA _ _ _ _ _
 · exact dV T _ _
 · split
   · exact yX T _ _ _
   · exact jA
 · split
   · exact Ok.bind (aC _) fun _=>yX T _ _ _
   · exact jA
 · split
   · exact Ok.bind (fFA _ _ _ _) fun _=>dV T _ _
   · exact jA
 · exact o2A _ _
 · exact jA
 · exact⟨rfl,trivial⟩
theorem fP(ρ:Operand→Value)(c:Call)(t:TypeId):Ok P (resolve ρ c t):=by
 unfold resolve;dsimp only
 split
 · exact Ok.pure
 · exact Ok.pure
 · exact aX _ _
theorem o0A(T:Tame P)(ρ:Operand→Value)(o:Oper):OkN P (execOp ρ o):=by
 unfold execOp;dsimp only
 split
 · exact⟨rfl,trivial⟩
 · exact⟨rfl,trivial⟩
 · exact Ok.bind (eBA _) fun _=>⟨rfl,trivial⟩
 · exact OkN.value (lEA _ _ _)
 · exact OkN.value (iMA _ _)
 · exact OkN.value (uFA _ _)
 · exact OkN.value (lX _ _ _)
 · exact OkN.value (tDA _ _)
 · exact OkN.unit (iCA _ _ _)
 · exact OkN.unit (vFA _)
 · exact OkN.value (zEA _)
 · split
   · exact uB _
   · exact uB _
   · exact uB _
   · split
     · exact uB _
     · refine Ok.bind yD fun _ => Ok.bind (vPA _ _ _ _) fun r => ?_
       split
       · exact Ok.bind fB fun _=>⟨rfl,trivial⟩
       · exact⟨rfl,trivial⟩
     · exact⟨rfl,trivial⟩
   · exact⟨rfl,trivial⟩
 · exact OkN.value (Ok.bind (jRA _ _ _ _ _ _) fun _=>f6A _ _ _ _)
 · exact OkN.value (fNA _ _)
 · exact OkN.value (iVA _ _ _)
 · exact OkN.value (eCA _ _)
 · exact OkN.value (fU _ _)
 · exact OkN.value (o6 _ _ _)
 · exact OkN.value (nBA _ _)
 · exact OkN.value (bAA _ _)
 · exact OkN.value (uY _ _ _)
 · exact OkN.value (vBA _ _ _ _ _)
 · exact OkN.value (xBA _ _ _)
 · exact OkN.value (aGA _ _ _)
 · exact OkN.value (mBA _ _ _)
 · exact OkN.value (tHA _ _ _)
 · exact OkN.value (xDA _ _ _ _)
 · exact OkN.unit (yO _ _ _ _)
 · exact OkN.unit (yO _ _ _ _)
 · exact OkN.value (sAA _ _ _)
 · exact OkN.unit (kX _ _ _ _)
 · exact OkN.value (mHA _ _)
 · exact OkN.value (yIA _ _ _)
 · exact OkN.value (dGA _)
 · exact OkN.value (iX _ _ _ _)
 · exact OkN.value (pBA _ _)
 · exact Ok.bind (fP _ _ _) fun _=>uW T _ _
 · exact Ok.bind (fP _ _ _) fun _=>⟨rfl,trivial⟩
 · exact Ok.bind (fP _ _ _) fun _=>⟨rfl,trivial⟩
 · exact OkN.value (jV _)
 · exact⟨rfl,trivial⟩
 · refine Ok.bind (aC _) fun _ => ?_
   split
   · exact Ok.bind (qF _) fun _=>⟨rfl,trivial⟩
   · exact jA
 · exact Ok.bind (bH fun _=>Ok.bind (qF _) fun _=>Ok.pure) fun _=>⟨rfl,trivial⟩
def MS(e:Event):Prop:=∀ m,e.loc = .mark m→e.sync=true
theorem lW{es:Array Event}{e:Event}(h:∀ x∈es,MS x)(he:MS e):∀ x∈es.push e,MS x:=by
 intro x hx;rcases Array.mem_push.1 hx with hx | rfl
 · exact h x hx
 · exact he
theorem t1A{es u:Array Event}(h:∀ x∈es,MS x)(he:∀ x∈u,MS x):∀ x∈es++u,MS x:=fun x hx=>(Array.mem_append.1 hx).elim (h x) (he x)
theorem o8A{P:Program}{α:Type}(s:Sem α):∀(w:World) (es:Array Event),(∀ x∈es,MS x)→∀ x∈(s.runT P w es).2,MS x:=by
 induction s with
 | pure a=>exact fun w es h=>h
 | halt h=>exact fun w es h=>h
 | load m a k ih =>
   intro w es h;simp only[Sem.runT]
   split
   · exact ih _ _ _ (lW h (by intro m hm;cases hm))
   · split
     · exact ih _ _ _ (t1A h (by intro e he m hm;simp at he;obtain⟨_,_,rfl⟩:=he;cases hm))
     · exact h
 | store m a v k ih =>
   intro w es h;by_cases hv:(∃ x,v = .agg x)∨∃ x,v = .tuple x
   · rcases hv with⟨x,rfl⟩ | ⟨x,rfl⟩<;>exact h
   · have e0 : ∀ (w : World), (Sem.store m a v k).runT P w es = match w.cell? a with
         | some _ =>
           if w.frozen? a then (.halt (.unsupported (.unsafePointer "a write to bytes that a string shares")) w, es)
           else k.runT P (w.setCell a v) (es.push ⟨.cell a,true,m == .atomic⟩)
         | none => match w.farStore P a v (m == .atomic) with
           | .ok (w,touched)=>k.runT P w (es++touched.toArray.map (⟨.cell ·,true,m == .atomic⟩))
           | .error h=>(.halt h w,es):=by
       intro w
       cases v<;>first | rfl | exact absurd (.inl ⟨_,rfl⟩) hv | exact absurd (.inr ⟨_,rfl⟩) hv
     rw[e0]
     split
     · split
       · exact h
       · exact ih _ _ (lW h (by intro m hm;cases hm))
     · split
       · exact ih _ _ (t1A h (by intro e he m hm;simp at he;obtain⟨_,_,rfl⟩:=he;cases hm))
       · exact h
 | new o k ih=>exact fun w es h=>ih _ _ _ h
 | shape r k ih=>exact fun w es h=>ih _ _ _ h
 | freeze a n k ih=>exact fun w es h=>ih _ _ h
 | frozen a k ih=>exact fun w es h=>ih _ _ _ h
 | getObj r k ih =>
   intro w es h;simp only[Sem.runT]
   split
   · exact h
   · exact ih _ _ _ (lW h (by intro m hm;cases hm))
   · exact h
 | setObj r o k ih =>
   intro w es h;simp only[Sem.runT]
   split
   · exact h
   · exact ih _ _ (lW h (by intro m hm;cases hm))
   · exact h
 | choose q k ih =>
   intro w es h;simp only[Sem.runT]
   split
   · exact ih _ _ _ h
   · exact ih _ _ _ h
 | sys c k ih=>exact fun w es h=>ih _ _ _ (lW h (by intro m hm;cases hm))
 | program k ih=>exact fun w es h=>ih _ _ _ h
 | mark m k ih=>exact fun w es h=>ih _ _ (lW h (by intro m hm;rfl))
theorem hEA(P:Program)(fn:FuncId){es:Array Event}(h:∀ x∈es,MS x)(d:Nat):deafBehind d (seen P fn es)=deafBehind d es:=by
 obtain⟨l⟩:=es;have key:∀(l:List Event) (q:Bool) (kept:Array Event),(∀ x∈l,MS x) →
  deafBehind d (l.foldl (fun (x : Bool × Array Event) e => match e.loc with
    | .mark (.extern f)=>((P.funcs[f]?).any (·.norace),x.2)
    | _=>(x.1,if x.1 && !e.sync then x.2 else x.2.push e)) (q,kept)).2=deafBehind d (kept++l.toArray):=by
  intro l
  induction l with
  | nil=>intro q kept _;simp
  | cons e l ih =>
    intro q kept h;have hl:=fun x hx=>h x (List.mem_cons_of_mem _ hx)
    have he:=h e (by simp);have e1:kept++(e::l).toArray=(kept++#[e])++l.toArray:=by
     apply Array.ext';simp
    simp only[List.foldl_cons]
    split
    · rename_i f hf; rw [ih _ _ hl, e1, mF, mF, mF]; congr 1
      rw[zJ,zJ];simp[sGA,hf]
    · split
      · rename_i hq; rw [ih _ _ hl, e1, mF, mF, mF]; congr 1
        have hns:e.sync=false:=by
         cases hs:e.sync with
         | false=>rfl
         | true=>simp[hs]at hq
        rw [wR (es := #[e]) (by
          intro x hx m hm;simp at hx;subst hx;rw[he m hm]at hns
          cases hns)]
      · rw[ih _ _ hl,e1,oP]
 have:=key l ((P.funcs[fn]?).any (·.norace)) #[] (fun x hx=>h x (by simpa using hx));unfold seen;dsimp only;rw[← Array.foldl_toList];rw[Array.empty_append]at this;exact this
theorem lAA:∀ x∈(#[]:Array Event),MS x:=by simp
def gw : GStep → World
  | .go _ w _ | .comm _ _ _ _ w _ | .spawn _ _ w _ | .count _ w _ | .timer _ _ w _ | .alone _ _ w _ | .newcoro _ _ _ w _ | .coroswitch _ _ _ w _ | .collect _ w _ | .watch _ w _ | .ended _ w _=>w
def gre(s:GStep)(τ:Nat→Question→Nat)(d:Nat):GStep:=match s with
 | .go g w es=>.go g (re w τ d) es
 | .comm g a b c w es=>.comm g a b c (re w τ d) es
 | .spawn g a w es=>.spawn g a (re w τ d) es
 | .count g w es=>.count g (re w τ d) es
 | .timer g a w es=>.timer g a (re w τ d) es
 | .alone g a w es=>.alone g a (re w τ d) es
 | .newcoro g a b w es=>.newcoro g a b (re w τ d) es
 | .coroswitch g a b w es=>.coroswitch g a b (re w τ d) es
 | .collect g w es=>.collect g (re w τ d) es
 | .watch g w es=>.watch g (re w τ d) es
 | .ended o w es=>.ended o (re w τ d) es
def done : GStep → Prop
  | .ended _ _ _=>True
  | _=>False
def dP : Item → Prop
  | .call _ _ _ _=>False
  | .extern row _ => row = "runtime.print$piece"
  | _=>True
def mH(fr:Frame):Prop:=∀ i∈fr.todo,dP i
def fF(g:Goroutine):Prop:=g.status = .running∨g.status = .blocked∨g.status = .waiting∨g.status = .finished
structure GOk (g:Goroutine):Prop where
 top:mH g.frame
 below:∀ fr∈g.callers,mH fr
 st:fF g:=by simp[fF]
def SOk : GStep → Prop
  | .go g _ es=>GOk g∧Bal 0 es
  | .comm g _ _ _ _ es=>GOk g∧Bal 0 es
  | .spawn _ _ _ _=>True
  | .coroswitch g _ true _ es=>GOk g∧Bal 0 es
  | .ended _ _ _=>True
  | _=>False
def Win(F:World→GStep)(w:World):Prop :=
 ∃ c,(gw (F w)).drawn=w.drawn+c∧(gw (F w)).tape=w.tape∧∀ τ d,Agree w.tape w.drawn τ d c→F (re w τ d)=gre (F w) τ (d+c)
def Good(F:World→GStep)(w:World):Prop:=done (F w)∨(SOk (F w)∧Win F w)
theorem eG:Bal 0 #[]:=fun _=>rfl
theorem Bal.app{a b:Array Event}(ha:Bal 0 a)(hb:Bal 0 b):Bal 0 (a++b):=fun x=>by rw[mF];rw[ha x];exact hb x
theorem lC{es:Array Event}{s:GStep}(h:done s):done (GStep.after es s):=by cases s<;>first | exact h | cases h
theorem p0A{es:Array Event}{s:GStep}(he:Bal 0 es)(h:SOk s):SOk (GStep.after es s):=by
 cases s with
 | go g w e=>exact⟨h.1,he.app h.2⟩
 | comm g a b c w e=>exact⟨h.1,he.app h.2⟩
 | spawn=>trivial
 | coroswitch g c x w e=>cases x with | true=>exact⟨h.1,he.app h.2⟩ | false=>cases h
 | ended=>trivial
 | _=>cases h
theorem pPA(es:Array Event)(s:GStep):gw (GStep.after es s)=gw s:=by cases s<;>rfl
theorem tZA(es:Array Event)(s:GStep)(τ:Nat→Question→Nat)(d:Nat):gre (GStep.after es s) τ d=GStep.after es (gre s τ d):=by cases s<;>rfl
theorem tC{g:Goroutine}{es:Array Event}(hg:GOk g)(hb:Bal 0 es){w:World}:Good (fun v=>.go g v es) w:=.inr ⟨⟨hg,hb⟩,0,rfl,rfl,fun _ _ _=>rfl⟩
theorem aH{fr:Frame}(h:mH fr)(v:Value):mH (fr.finish v):=by
 obtain⟨fn,tmps,todo,defers,mode,kind,ro⟩:=fr
 cases todo with
 | nil=>exact h
 | cons i k =>
   have hk:∀ j∈k,dP j:=fun j hj=>h j (List.mem_cons_of_mem _ hj)
   cases i with
   | inRegion ops l =>
     cases l with
     | nil=>exact h
     | cons a l =>
       intro j hj;simp only[Frame.finish]at hj;rcases List.mem_cons.1 hj with rfl | hj
       · trivial
       · exact hk j hj
   | inRangeFunc l =>
     intro j hj;simp only[Frame.finish]at hj;rcases List.mem_cons.1 hj with rfl | hj
     · trivial
     · exact hk j hj
   | beginRound=>exact hk
   | call d b r s=>exact absurd (h (.call d b r s) List.mem_cons_self) id
   | extern r a=>exact hk
   | _=>exact h
theorem pK{fr:Frame}(h:mH fr)(vs:List PanicEntry):mH (fr.raise vs):=by
 unfold Frame.raise;split<;>exact h
theorem yL(P:Program)(f:FuncId)(args:Array Value)(k:CallKind):mH (Frame.enter P f args k):=by
 intro i hi;simp only[Frame.enter,List.mem_singleton]at hi;subst hi;trivial
theorem lFA(l:Nat)(f:FuncId)(t:Array Value)(a b:Code)(k:CallKind):mH (Frame.round l f t a b k):=by
 intro i hi;simp only[Frame.round,List.mem_cons,List.not_mem_nil,or_false]at hi;rcases hi with rfl | rfl | rfl<;>trivial
theorem wPA (P : Program) (args : Array Value) (k : CallKind) : mH (Frame.ofRow P "runtime.print$piece" args k) := by
 intro i hi;simp only[Frame.ofRow,List.mem_singleton]at hi;subst hi;rfl
theorem jW{fr:Frame}(h:mH fr)(ds:List Deferred):mH { fr with defers:=ds }:=h
theorem rYA{fr:Frame}(h:mH fr)(m:FrameMode):mH { fr with mode:=m }:=h
theorem bN{fr:Frame}{cs:List Frame}(h:mH fr)(hc:∀ f∈cs,mH f):∀ f∈fr::cs,mH f:=fun f hf=>by
 rcases List.mem_cons.1 hf with rfl | hf
 · exact h
 · exact hc f hf
theorem uM:∀(cs:List Frame) (fr:Frame) {v:Value} {cs':List Frame},(∀ f∈cs,mH f)→tryRecover fr cs=some (v,cs')→∀ f∈cs',mH f:=by
 intro cs
 induction cs with
 | nil=>intro fr v cs' _ h;unfold tryRecover at h;split at h<;>first | cases h | simp_all
 | cons c cs ih =>
   intro fr v cs' hc h;unfold tryRecover at h
   split at h
   · rename_i caller rest _ heq
     cases heq
     split at h
     · cases h;exact bN (rYA (hc _ (by simp)) _) fun f hf=>hc f (List.mem_cons_of_mem _ hf)
     · cases h
   · rename_i wrapper rest _ heq
     cases heq;obtain⟨x,hx,hy⟩:=Option.map_eq_some_iff.1 h
     cases hy;exact bN (hc _ (by simp)) (ih _ (fun f hf=>hc f (List.mem_cons_of_mem _ hf)) hx)
   · cases h
theorem j5:∀(cs:List Frame) (l:Nat) {v:Value} {cs':List Frame},(∀ f∈cs,mH f)→tryRecoverLoop l cs=some (v,cs')→∀ f∈cs',mH f:=by
 intro cs
 induction cs with
 | nil=>intro l v cs' _ h;cases h
 | cons c cs ih =>
   intro l v cs' hc h;have hcs:=fun f hf=>hc f (List.mem_cons_of_mem _ hf)
   unfold tryRecoverLoop at h;obtain⟨x,hx,hy⟩:=Option.map_eq_some_iff.1 h
   cases hy;refine bN (hc _ (by simp)) ?_
   split at hx
   · exact ih _ hcs hx
   · split at hx
     · exact uM _ _ hcs hx
     · exact ih _ hcs hx
   · exact ih _ hcs hx
variable {P : Program}
theorem nJ{α:Type}{φ:α→Prop}{s:Sem α}(hs:Safe P φ 0 s)(w:World) :
 ∃ r es,s.runT P w #[]=(r,es)∧(∀ x∈es,MS x)∧BalR φ 0 es r ∧
  (aBA r∨∃ c,(wOf r).drawn=w.drawn+c∧(wOf r).tape=w.tape∧∀ τ d,Agree w.tape w.drawn τ d c→s.runT P (re w τ d) #[]=(reR r τ (d+c),es)):=by
 refine⟨(s.runT P w #[]).1,(s.runT P w #[]).2,rfl,o8A s w #[] lAA,?_,r1A s 0 hs w #[]⟩;obtain⟨new,h1,h2⟩:=b3A s 0 hs w #[];rw[Array.empty_append]at h1;rw[h1];exact h2
theorem xB{es:Array Event}{F:World→GStep}{w:World}(hb:¬ done (F w)→Bal 0 es)(h:Good F w):Good (fun v=>GStep.after es (F v)) w:=by
 rcases h with h | ⟨hS,c,h1,h2,h3⟩
 · exact .inl (lC h)
 · by_cases hd : done (F w)
   · exact .inl (lC hd)
   · exact .inr ⟨p0A (hb hd) hS,c,by rw[pPA];exact h1,by rw[pPA];exact h2,fun τ d ha=>by show GStep.after es (F (re w τ d))=_;rw[h3 τ d ha,tZA]⟩
theorem hOA(w:World)(τ:Nat→Question→Nat)(d:Nat):∀(n:Nat) (f:FuncId),P.found (re w τ d) n f=P.found w n f:=by
 intro n
 induction n with
 | zero=>intro f;rfl
 | succ n ih =>
   intro f;have hsh:(re w τ d).shape? = w.shape? := rfl;have hhp:(re w τ d).heap=w.heap:=rfl;simp only[Program.found,ih,hsh,hhp]
theorem vEA(w:World)(τ:Nat→Question→Nat)(d:Nat):∀(n:Nat) (l seen:List FuncId),P.brought (re w τ d) n l seen=P.brought w n l seen:=by
 intro n
 induction n with
 | zero=>intro l seen;rfl
 | succ n ih =>
   intro l seen;have hsh:(re w τ d).shape? = w.shape? := rfl;have hhp:(re w τ d).heap=w.heap:=rfl
   cases l with
   | nil=>rfl
   | cons f l=>simp only[Program.brought,ih,hhp]
variable {P : Program}
theorem fXA(w:World):re w w.tape w.drawn=w:=rfl
theorem jY{F:World→GStep}{w:World}(hs:done (F w)∨SOk (F w))(hd:∀ τ d,F (re w τ d)=gre (F w) τ d):Good F w:=by
 have h0:gw (F w)=re (gw (F w)) w.tape w.drawn:=by
  have e:=hd w.tape w.drawn;rw[fXA]at e;have:gw (F w)=gw (gre (F w) w.tape w.drawn):=congrArg gw e;rw[this]
  cases F w<;>rfl
 rcases hs with h | h
 · exact .inl h
 · exact .inr ⟨h,0,by rw[h0];rfl,by rw[h0];rfl,fun τ d _=>by rw[hd];rfl⟩
theorem sHA{F:World→GStep}{w:World}(c:Nat)(hs:done (F w)∨SOk (F w))(hd:∀ τ d,Agree w.tape w.drawn τ d c→F (re w τ d)=gre (F w) τ (d+c)):Good F w:=by
 have h0:gw (F w)=re (gw (F w)) w.tape (w.drawn+c):=by
  have e:=hd w.tape w.drawn (fun _ _ _=>rfl);rw[fXA]at e;have:gw (F w)=gw (gre (F w) w.tape (w.drawn+c)):=congrArg gw e;rw[this]
  cases F w<;>rfl
 rcases hs with h | h
 · exact .inl h
 · exact .inr ⟨h,c,by rw[h0];rfl,by rw[h0];rfl,hd⟩
theorem rZ{q:Question}(hq:q.forced=false)(w:World):(choose q).run P w = .ok (q.cut (w.tape w.drawn q)) (re w w.tape (w.drawn+1)):=by
 simp only[choose,Sem.run,hq,Bool.false_eq_true,if_false];rfl
theorem xX{q:Question}(hq:q.forced=false){w:World}{τ:Nat→Question→Nat}{d c:Nat}(ha:Agree w.tape w.drawn τ d (1+c)) :
 (choose q).run P (re w τ d) = .ok (q.cut (w.tape w.drawn q)) (re w τ (d+1)):=by
 rw[rZ hq]
 show Result.ok (q.cut (τ d q)) _=_
 rw[ha.head q];rfl
theorem gSA{fr:Frame}{cs:List Frame}{dy:Option Dying}{g:Nat}(hf:mH fr)(hc:∀ f∈cs,mH f)(w:World):Good (fun w=>early P fr cs dy g w) w:=by
 have hgo:GOk { frame:=fr,callers:=cs,status:=.running,dying:=dy }:=⟨hf,hc,(by simp[fF])⟩;have hth:∀(f:FuncId) (l:List FuncId),GOk { frame:=Frame.enter P f #[] .early,callers:=l.map (Frame.enter P · #[] .early)++fr::cs,status:=.running,dying:=dy }:=by
  intro f l;refine⟨yL _ _ _ _,fun x hx=>?_,(by simp[fF])⟩;rcases List.mem_append.1 hx with hx | hx
  · obtain⟨y,_,rfl⟩:=List.mem_map.1 hx;exact yL _ _ _ _
  · exact bN hf hc x hx
 have hsh:∀ τ d,(re w τ d).shape? = w.shape? := fun _ _=>rfl
 have hhp:∀ τ d,(re w τ d).heap=w.heap:=fun _ _=>rfl
 have all:done (early P fr cs dy g w)∨SOk (early P fr cs dy g w):=by
  unfold early;dsimp only
  repeat' (first | exact .inl trivial | exact .inr ⟨hgo,eG⟩ | exact .inr ⟨hth _ _,eG⟩ | split)
 by_cases hdraw:∃ f,P.follows .staticDataAhead=true∧P.stepOf g=some f∧(P.code? f).any P.atRunTime=false∧(((P.code? f).bind fun c=>(readies c).getLast?).bind w.shape?).isSome=false ∧
  P.found w P.funcs.size f = .either∧(fr.kind == .early)=false∧(P.code? f).any P.plainData=false∧(P.code? f).any P.bareCopy=true
 · obtain ⟨f, h1, h2, h3, h4, h5, h6, h7, h8⟩ := hdraw; refine sHA 1 all fun τ d ha => ?_
   have r1:=rZ (P:=P) (q:=.early g) rfl w;have r2:=xX (P:=P) (q:=.early g) rfl (w:=w) (τ:=τ) (d:=d) (c:=0) (by simpa using ha);have h5':P.found (re w τ d) P.funcs.size f = .either:=by rw[hOA];exact h5
   simp only[early,h1,h2,h3,hsh,h4,h5,h5',h6,h7,h8,Bool.not_true,Bool.false_eq_true,if_false,r1,r2]
   cases Question.cut (.early g) (w.tape w.drawn (.early g)) with
   | zero =>
     have e1:(re w τ (d+1)).heap=w.heap:=rfl;have e2:(re w w.tape (w.drawn+1)).heap=w.heap:=rfl;simp only[e1,e2]
     cases w.heap[g]? with
     | none=>rfl
     | some o=>cases o<;>rfl
   | succ n=>rfl
 · refine jY all fun τ d => ?_
   cases h1:P.follows .staticDataAhead with
   | false =>
     simp only[early,h1,hhp,Bool.not_false,if_true]
     cases w.heap[g]? with
     | none=>rfl
     | some o=>cases o<;>rfl
   | true =>
     cases h2:P.stepOf g with
     | none=>simp only[early,h1,h2,Bool.not_true,Bool.false_eq_true,if_false];rfl
     | some f =>
       cases h3:(P.code? f).any P.atRunTime with
       | true =>
         simp only[early,h1,h2,h3,hhp,Bool.not_true,Bool.false_eq_true,if_false,if_true]
         cases w.heap[g]? with
         | none=>rfl
         | some o=>cases o<;>rfl
       | false =>
         cases h4:(((P.code? f).bind fun c=>(readies c).getLast?).bind w.shape?).isSome with
         | true =>
           simp only[early,h1,h2,h3,hsh,h4,hhp,Bool.not_true,Bool.false_eq_true,if_false,if_true]
           cases w.heap[g]? with
           | none=>rfl
           | some o=>cases o<;>rfl
         | false =>
           have h5':P.found (re w τ d) P.funcs.size f=P.found w P.funcs.size f:=hOA _ _ _ _ _
           cases h6:(fr.kind == .early) with
           | true =>
             cases h5 : P.found w P.funcs.size f <;>
               simp only[early,h1,h2,h3,hsh,h4,h5',h5,h6,vEA,Bool.not_true,Bool.false_eq_true,if_false]<;>rfl
           | false =>
             cases h5:P.found w P.funcs.size f with
             | unknown=>simp only[early,h1,h2,h3,hsh,h4,h5',h5,h6,Bool.not_true,Bool.false_eq_true,if_false];rfl
             | notYet =>
               simp only[early,h1,h2,h3,hsh,h4,h5',h5,h6,hhp,Bool.not_true,Bool.false_eq_true,if_false]
               cases w.heap[g]? with
               | none=>rfl
               | some o=>cases o<;>rfl
             | either =>
               cases h7:(P.code? f).any P.plainData with
               | true=>simp only[early,h1,h2,h3,hsh,h4,h5',h5,h6,h7,vEA,Bool.not_true,Bool.false_eq_true,if_false,if_true];rfl
               | false =>
                 cases h8:(P.code? f).any P.bareCopy with
                 | true=>exact absurd ⟨f,h1,h2,h3,h4,h5,h6,h7,h8⟩ hdraw
                 | false =>
                   simp only[early,h1,h2,h3,hsh,h4,h5',h5,h6,h7,h8,hhp,Bool.not_true,Bool.not_false,Bool.false_eq_true,if_false,if_true]
                   cases w.heap[g]? with
                   | none=>rfl
                   | some o=>cases o<;>rfl
variable {P : Program}
theorem yB {F A : World → GStep} {w w' : World} {c : Nat} (h1 : w'.drawn = w.drawn + c) (h2 : w'.tape = w.tape) (e : F w = A w')
    (e':∀ τ d,Agree w.tape w.drawn τ d c→F (re w τ d)=A (re w' τ (d+c))) (hA:Good A w'):Good F w:=by
  rcases hA with hA | ⟨hS,c',g1,g2,g3⟩
  · left;rw[e];exact hA
  · right
    refine⟨by rw[e];exact hS,c+c',by rw[e,g1,h1];omega,by rw[e,g2,h2],fun τ d ha=>?_⟩;rw[e' τ d ha.left,e,g3 τ (d+c) (by rw[h1,h2];exact ha.right),Nat.add_assoc]
theorem aIA{fn:FuncId}{k:CallKind}{es:Array Event}(hms:∀ x∈es,MS x)(hb:Bal 0 es):Bal 0 (seen P fn (if k == .early then #[] else es)):=by
 intro x
 split
 · rw[hEA P fn lAA];rfl
 · rw[hEA P fn hms];exact hb x
theorem wM{fr:Frame}{m:String}{w:World}(hf:mH fr):Good (fun v=>endThrow fr m v) w:=tC ⟨hf,by simp,(by simp[fF])⟩ eG
theorem mP{fr:Frame}{cs:List Frame}{dy:Option Dying}{s:Sem Next}(hf:mH fr)(hc:∀ f∈cs,mH f)(hs:OkN P s)(w:World):Good (fun w=>stepG.apply P true fr cs dy s w) w:=by
 obtain⟨r,es,hr,hms,hb,hn⟩:=nJ hs w;rcases hn with⟨h,w',hd,rfl⟩ | ⟨c,h1,h2,h3⟩
 · left
   cases h with
   | stuck x=>simp only[stepG.apply,if_true,hr];exact lC trivial
   | unsupported u =>
     cases u with
     | noEntry x=>simp only[stepG.apply,if_true,hr];exact lC trivial
     | _=>cases hd
   | _=>cases hd
 · cases r with
   | ok a w' =>
     have q1:w'.drawn=w.drawn+c:=h1;have q2:w'.tape=w.tape:=h2;have hbal:=aIA (P:=P) (fn:=fr.fn) (k:=fr.kind) hms hb.2;have hN:=hb.1
     cases a with
     | value v =>
       refine yB (w':=w') q1 q2 (by simp only[stepG.apply,if_true,hr];rfl) (fun τ d ha=>by simp only[stepG.apply,if_true,h3 τ d ha];rfl) ?_;exact xB (fun _=>hbal) (tC ⟨aH hf _,hc,(by simp[fF])⟩ eG)
     | skip =>
       refine yB (w':=w') q1 q2 (by simp only[stepG.apply,if_true,hr];rfl) (fun τ d ha=>by simp only[stepG.apply,if_true,h3 τ d ha];rfl) ?_;exact xB (fun _=>hbal) (tC ⟨aH hf _,hc,(by simp[fF])⟩ eG)
     | enter f args =>
       refine yB (w':=w') q1 q2 (by simp only[stepG.apply,if_true,hr];rfl) (fun τ d ha=>by simp only[stepG.apply,if_true,h3 τ d ha];rfl) ?_;exact xB (fun _=>hbal) (tC ⟨yL _ _ _ _,bN hf hc,(by simp[fF])⟩ eG)
     | round l f t a b =>
       refine yB (w':=w') q1 q2 (by simp only[stepG.apply,if_true,hr];rfl) (fun τ d ha=>by simp only[stepG.apply,if_true,h3 τ d ha];rfl) ?_;exact xB (fun _=>hbal) (tC ⟨lFA _ _ _ _ _ _,bN hf hc,(by simp[fF])⟩ eG)
     | «defer» d =>
       refine yB (w':=w') q1 q2 (by simp only[stepG.apply,if_true,hr];rfl) (fun τ d ha=>by simp only[stepG.apply,if_true,h3 τ d ha];rfl) ?_;exact xB (fun _=>hbal) (tC ⟨aH (jW hf _) _,hc,(by simp[fF])⟩ eG)
     | recover =>
       refine yB (w':=w') q1 q2 (by simp only[stepG.apply,if_true,hr];rfl) (fun τ d ha=>by simp only[stepG.apply,if_true,h3 τ d ha];rfl) ?_;refine xB (fun _=>hbal) ?_;have hnone:Good (fun v=>GStep.go { frame:=fr.finish .nilIface,callers:=cs,status:=.running,dying:=dy } v) w':=tC ⟨aH hf _,hc,(by simp[fF])⟩ eG
       split
       · rename_i v cs' heq; refine tC ⟨aH hf _, ?_, (by simp [fF])⟩ eG
         split at heq
         · split at heq
           · exact uM _ _ hc heq
           · exact j5 _ _ hc heq
         · exact uM _ _ hc heq
       · exact hnone
     | spawn d =>
       refine yB (w':=w') q1 q2 (by simp only[stepG.apply,if_true,hr];rfl) (fun τ d ha=>by simp only[stepG.apply,if_true,h3 τ d ha];rfl) ?_;refine xB (fun _=>hbal) ?_
       split<;>(split<;>first | exact wM hf | exact .inr ⟨trivial,0,rfl,rfl,fun _ _ _=>rfl⟩)
     | comm a b sh =>
       refine yB (w':=w') q1 q2 (by simp only[stepG.apply,if_true,hr];rfl) (fun τ d ha=>by simp only[stepG.apply,if_true,h3 τ d ha];rfl) ?_;exact xB (fun _=>hbal) (.inr ⟨⟨⟨hf,hc,(by simp[fF])⟩,eG⟩,0,rfl,rfl,fun _ _ _=>rfl⟩)
     | coroswitch cc x =>
       cases x with
       | false=>exact absurd hN id
       | true =>
         refine yB (w':=w') q1 q2 (by simp only[stepG.apply,if_true,hr];rfl) (fun τ d ha=>by simp only[stepG.apply,if_true,h3 τ d ha];rfl) ?_;exact xB (fun _=>hbal) (.inr ⟨⟨⟨hf,hc,(by simp[fF])⟩,eG⟩,0,rfl,rfl,fun _ _ _=>rfl⟩)
     | row row args =>
       obtain rfl : row = "runtime.print$piece" := hN; refine yB (w' := w') q1 q2 (by simp only [stepG.apply, if_true, hr]; rfl) (fun τ d ha => by simp only [stepG.apply, if_true, h3 τ d ha]; rfl) ?_; refine xB (fun _ => hbal) ?_
       split
       · rename_i k heq; refine tC ⟨?_, hc, (by simp [fF])⟩ eG; intro i hi; rcases List.mem_cons.1 hi with rfl | hi
         · rfl
         · exact hf i (by rw[heq];exact List.mem_cons_of_mem _ hi)
       · exact tC ⟨wPA _ _ _,bN hf hc,(by simp[fF])⟩ eG
     | _=>exact absurd hN id
   | halt h w' =>
     have q1:w'.drawn=w.drawn+c:=h1;have q2:w'.tape=w.tape:=h2;have hbal:¬ jZ h→Bal 0 (seen P fr.fn (if fr.kind == .early then #[] else es)):=fun hh=>aIA hms (hb.2.resolve_left hh)
     have hb0:Bal 0 (seen P fr.fn (if fr.kind == .early then #[] else #[])):=aIA lAA eG
     cases h with
     | panic v =>
       refine yB (w':=w') q1 q2 (by simp only[stepG.apply,if_true,hr];rfl) (fun τ d ha=>by simp only[stepG.apply,if_true,h3 τ d ha];rfl) ?_;exact xB (fun _=>hbal id) (tC ⟨pK hf _,hc,(by simp[fF])⟩ eG)
     | goexit =>
       refine yB (w':=w') q1 q2 (by simp only[stepG.apply,if_true,hr];rfl) (fun τ d ha=>by simp only[stepG.apply,if_true,h3 τ d ha];rfl) ?_;exact xB (fun _=>hbal id) (tC ⟨pK hf _,hc,(by simp[fF])⟩ eG)
     | blocked =>
       refine yB (w':=w') q1 q2 (by simp only[stepG.apply,if_true,hr];rfl) (fun τ d ha=>by simp only[stepG.apply,if_true,h3 τ d ha];rfl) ?_;exact xB (fun _=>hb0) (tC ⟨hf,hc,(by simp[fF])⟩ eG)
     | waiting =>
       refine yB (w':=w') q1 q2 (by simp only[stepG.apply,if_true,hr];rfl) (fun τ d ha=>by simp only[stepG.apply,if_true,h3 τ d ha];rfl) ?_;exact xB (fun _=>hb0) (tC ⟨hf,hc,(by simp[fF])⟩ eG)
     | exit x=>left;simp only[stepG.apply,if_true,hr];exact lC trivial
     | fatal m=>exact absurd hb.1 id
     | throw m =>
       refine yB (w':=w') q1 q2 (by simp only[stepG.apply,if_true,hr];rfl) (fun τ d ha=>by simp only[stepG.apply,if_true,h3 τ d ha];rfl) ?_;exact xB (fun _=>hbal id) (wM hf)
     | stuck x=>left;simp only[stepG.apply,if_true,hr];exact lC trivial
     | unsupported u =>
       cases u with
       | initOrder g =>
         refine yB (w':=w') q1 q2 (by simp only[stepG.apply,if_true,hr];rfl) (fun τ d ha=>by simp only[stepG.apply,if_true,h3 τ d ha];rfl) ?_;exact xB (fun _=>hb0) (gSA hf hc w')
       | _=>left;simp only[stepG.apply,if_true,hr];exact lC trivial
theorem zQ{main:Bool}{fr:Frame}{cs:List Frame}{dy:Option Dying}{v:Value}(hf:mH fr)(hc:∀ f∈cs,mH f)(w:World):Good (fun w=>doReturn P main fr cs dy v w) w:=by
 refine jY ?_ fun τ d=>?_
 · unfold doReturn
   cases cs with
   | nil =>
     dsimp only
     split
     · exact .inr ⟨⟨hf,by simp,(by simp[fF])⟩,eG⟩
     · exact .inl trivial
     · split
       · exact .inr ⟨⟨hf,by simp,(by simp[fF])⟩,eG⟩
       · split
         · exact .inr ⟨⟨yL _ _ _ _,by simp,(by simp[fF])⟩,eG⟩
         · exact .inl trivial
   | cons c cs =>
     have h1:=hc c (by simp);have h2:=fun f hf=>hc f (List.mem_cons_of_mem c hf)
     dsimp only
     split
     · exact .inr ⟨⟨aH h1 _,h2,(by simp[fF])⟩,eG⟩
     · exact .inr ⟨⟨aH h1 _,h2,(by simp[fF])⟩,eG⟩
     · exact .inr ⟨⟨h1,h2,(by simp[fF])⟩,eG⟩
     · refine .inr ⟨⟨?_, h2, (by simp [fF])⟩, eG⟩; dsimp only
       split
       · split
         · exact h1
         · exact h1
       · exact h1
 · unfold doReturn
   cases cs with
   | nil =>
     dsimp only
     split
     · rfl
     · rfl
     · split
       · rfl
       · split<;>rfl
   | cons c cs =>
     dsimp only
     split<;>rfl
variable {P : Program}
theorem lG{fn:FuncId}{es:Array Event}(hms:∀ x∈es,MS x)(hb:Bal 0 es):Bal 0 (seen P fn es):=fun x=>by rw[hEA P fn hms];exact hb x
theorem kEA{c:Prop}[Decidable c]{A B:World→GStep}{w:World}(hA:Good A w)(hB:Good B w):Good (fun v=>if c then A v else B v) w:=by
 by_cases h:c
 · simp only[if_pos h];exact hA
 · simp only[if_neg h];exact hB
theorem oAA(T:Tame P){fr:Frame}{cs:List Frame}{dy:Option Dying}{dd:Deferred}(hf:mH fr)(hc:∀ f∈cs,mH f)(w:World):Good (fun w=>callDeferred P fr cs dy dd w) w:=by
 unfold callDeferred;refine kEA (.inl trivial) ?_
 · obtain ⟨r, es, hr, hms, hb, hn⟩ := nJ (uW T dd.target dd.args) w; rcases hn with ⟨h, w', hd, rfl⟩ | ⟨c, h1, h2, h3⟩
   · left
     cases h with
     | stuck x=>simp only[hr];exact lC trivial
     | unsupported u =>
       cases u with
       | noEntry x=>simp only[hr];exact lC trivial
       | _=>cases hd
     | _=>cases hd
   · cases r with
     | ok a w' =>
       have q1:w'.drawn=w.drawn+c:=h1;have q2:w'.tape=w.tape:=h2;have hbal:=lG (P:=P) (fn:=fr.fn) hms hb.2;have hN:=hb.1;have hcs:=bN hf hc;have go:Good (fun v=>GStep.go { frame:=fr,callers:=cs,status:=.running,dying:=dy } v) w':=tC ⟨hf,hc,(by simp[fF])⟩ eG
       cases a with
       | enter f args =>
         refine yB (w':=w') q1 q2 (by simp only[hr];rfl) (fun τ d ha=>by simp only[h3 τ d ha];rfl) ?_;exact xB (fun _=>hbal) (tC ⟨yL _ _ _ _,hcs,(by simp[fF])⟩ eG)
       | round l f t a b =>
         refine yB (w':=w') q1 q2 (by simp only[hr];rfl) (fun τ d ha=>by simp only[h3 τ d ha];rfl) ?_;exact xB (fun _=>hbal) (tC ⟨lFA _ _ _ _ _ _,hcs,(by simp[fF])⟩ eG)
       | row row args =>
         obtain rfl : row = "runtime.print$piece" := hN; refine yB (w' := w') q1 q2 (by simp only [hr]; rfl) (fun τ d ha => by simp only [h3 τ d ha]; rfl) ?_; exact xB (fun _ => hbal) (tC ⟨wPA _ _ _, hcs, (by simp [fF])⟩ eG)
       | recover =>
         refine yB (w':=w') q1 q2 (by simp only[hr];rfl) (fun τ d ha=>by simp only[h3 τ d ha];rfl) ?_;refine xB (fun _=>hbal) ?_
         split
         · rename_i heq;exact tC ⟨hf,uM _ _ hc heq,(by simp[fF])⟩ eG
         · exact go
       | coroswitch cc x =>
         cases x with
         | false=>exact absurd hN id
         | true =>
           refine yB (w':=w') q1 q2 (by simp only[hr];rfl) (fun τ d ha=>by simp only[h3 τ d ha];rfl) ?_;exact xB (fun _=>hbal) (.inr ⟨⟨⟨hf,hc,(by simp[fF])⟩,eG⟩,0,rfl,rfl,fun _ _ _=>rfl⟩)
       | value v =>
         refine yB (w':=w') q1 q2 (by simp only[hr];rfl) (fun τ d ha=>by simp only[h3 τ d ha];rfl) ?_;exact xB (fun _=>hbal) go
       | skip =>
         refine yB (w':=w') q1 q2 (by simp only[hr];rfl) (fun τ d ha=>by simp only[h3 τ d ha];rfl) ?_;exact xB (fun _=>hbal) go
       | «defer» d =>
         refine yB (w':=w') q1 q2 (by simp only[hr];rfl) (fun τ d ha=>by simp only[h3 τ d ha];rfl) ?_;exact xB (fun _=>hbal) go
       | spawn d =>
         refine yB (w':=w') q1 q2 (by simp only[hr];rfl) (fun τ d ha=>by simp only[h3 τ d ha];rfl) ?_;exact xB (fun _=>hbal) go
       | comm a b sh =>
         refine yB (w':=w') q1 q2 (by simp only[hr];rfl) (fun τ d ha=>by simp only[h3 τ d ha];rfl) ?_;exact xB (fun _=>hbal) go
       | _=>exact absurd hN id
     | halt h w' =>
       have q1:w'.drawn=w.drawn+c:=h1;have q2:w'.tape=w.tape:=h2;have hbal:¬ jZ h→Bal 0 (seen P fr.fn es):=fun hh=>lG hms (hb.2.resolve_left hh)
       have hb0:Bal 0 (seen P fr.fn #[]):=lG lAA eG
       cases h with
       | panic v =>
         refine yB (w':=w') q1 q2 (by simp only[hr];rfl) (fun τ d ha=>by simp only[h3 τ d ha];rfl) ?_;exact xB (fun _=>hbal id) (tC ⟨pK hf _,hc,(by simp[fF])⟩ eG)
       | goexit =>
         refine yB (w':=w') q1 q2 (by simp only[hr];rfl) (fun τ d ha=>by simp only[h3 τ d ha];rfl) ?_;exact xB (fun _=>hbal id) (tC ⟨pK hf _,hc,(by simp[fF])⟩ eG)
       | blocked =>
         refine yB (w':=w') q1 q2 (by simp only[hr];rfl) (fun τ d ha=>by simp only[h3 τ d ha];rfl) ?_;exact xB (fun _=>hb0) (tC ⟨jW hf _,hc,(by simp[fF])⟩ eG)
       | waiting =>
         refine yB (w':=w') q1 q2 (by simp only[hr];rfl) (fun τ d ha=>by simp only[h3 τ d ha];rfl) ?_;exact xB (fun _=>hb0) (tC ⟨jW hf _,hc,(by simp[fF])⟩ eG)
       | throw m =>
         refine yB (w':=w') q1 q2 (by simp only[hr];rfl) (fun τ d ha=>by simp only[h3 τ d ha];rfl) ?_;exact xB (fun _=>hbal id) (wM hf)
       | fatal m=>exact absurd hb.1 id
       | exit x=>left;simp only[hr];exact lC trivial
       | stuck x=>left;simp only[hr];exact lC trivial
       | unsupported u=>left;simp only[hr];exact lC trivial
end Go.Lx
