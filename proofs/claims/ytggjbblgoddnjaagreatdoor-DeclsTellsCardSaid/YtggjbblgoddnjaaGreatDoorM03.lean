/- Part 3 of what the proof rests on. -/
import Derived.Laws.Sem
import Derived.Test.YtggjbblgoddnjaaGreatDoorM02
set_option linter.unusedSimpArgs false
set_option linter.unusedVariables false
set_option maxHeartbeats 4000000
namespace Go.Lx
variable {α β : Type}
theorem Safe.bind{P:Program}{ψ:α→Prop}{φ:β→Prop}{s:Sem α}{f:α→Sem β}:∀ {d:Nat},Safe P ψ d s→(∀ a,ψ a→Safe P φ 0 (f a))→Safe P φ d (s.bind f):=by
 induction s with
 | pure a=>rintro d ⟨rfl,h⟩ hf;exact hf a h
 | load m a k ih=>exact fun h hf v=>ih v (h v) hf
 | store m a v k ih=>exact fun h hf=>ih h hf
 | new o k ih=>exact fun h hf r=>ih r (h r) hf
 | shape r k ih=>exact fun h hf v=>ih v (h v) hf
 | freeze a n k ih=>exact fun h hf=>ih h hf
 | frozen a k ih=>exact fun h hf v=>ih v (h v) hf
 | getObj r k ih=>exact fun h hf v=>ih v (h v) hf
 | setObj r o k ih=>exact fun h hf=>ih h hf
 | choose q k ih=>exact fun h hf v=>ih v (h v) hf
 | sys c k ih =>
   rintro d ⟨⟨x,hd,hx⟩,h⟩ hf;exact⟨⟨x,hd,by show(k SysRet.wouldBlock).bind f=_;rw[hx];rfl⟩,fun v=>ih v (h v) hf⟩
 | program k ih=>exact fun h hf=>ih _ h hf
 | mark m k ih =>
   intro d h hf
   cases m with
   | disable=>exact ih h hf
   | enable=>exact⟨h.1,ih h.2 hf⟩
   | _=>exact ih h hf
 | halt h'=>exact fun h _=>h
abbrev Ok(P:Program)(s:Sem α):Prop:=Safe P (fun _=>True) 0 s
theorem Ok.bind{P:Program}{φ:β→Prop}{s:Sem α}{f:α→Sem β}(h:Ok P s)(hf:∀ a,Safe P φ 0 (f a)):Safe P φ 0 (s >>= f):=Safe.bind h fun a _=>hf a
theorem Ok.pure{P:Program}{a:α}:Ok P (Pure.pure a:Sem α):=⟨rfl,trivial⟩
theorem Ok.halt{P:Program}{φ:α→Prop}{h:Halt}(hq:calm h):Safe P φ 0 (.halt h):=⟨hq,.inl rfl⟩
theorem Ok.map{P:Program}{f:α→β}{s:Sem α}(h:Ok P s):Ok P (f <$> s):=Safe.bind h fun _ _=>⟨rfl,trivial⟩
theorem jp{γ:Type}{P:Program}{φ:β→Prop}(j:γ→Sem β)(Q:Prop)(hj:∀ r,Safe P φ 0 (j r))(h:(∀ r,Safe P φ 0 (j r))→Q):Q:=h hj
theorem jq{P:Program}(j:Sem β)(Q:Prop)(hj:Ok P j)(h:Ok P j→Q):Q:=h hj
theorem mG{P:Program}{f:α→Sem β}(h:∀ a,Ok P (f a))(l:List α):Ok P (l.mapM f):=by
 have key:∀(l:List α) (acc:List β),Ok P (List.mapM.loop f l acc):=by
  intro l
  induction l with
  | nil=>exact fun acc=>Ok.pure
  | cons a l ih=>exact fun acc=>Ok.bind (h a) fun b=>ih _
 exact key l []
theorem kG{P:Program}{f:α→Sem β}{l:Array α}(h:∀ a,Ok P (f a)):Ok P (l.mapM f):=by
 rw[Array.mapM_eq_mapM_toList];exact Ok.map (mG h _)
theorem uC{P:Program}{f:α→β→Sem (ForInStep β)}{l:List α}{b:β}(h:∀ a b,Ok P (f a b)):Ok P (forIn l b f):=by
 induction l generalizing b with
 | nil=>exact Ok.pure
 | cons a l ih =>
   rw[List.forIn_cons];refine Ok.bind (h a b) fun r=>?_
   cases r with
   | done b=>exact Ok.pure
   | yield b=>exact ih
theorem zC{P:Program}{f:α→β→Sem (ForInStep β)}{l:Array α}{b:β}(h:∀ a b,Ok P (f a b)):Ok P (forIn l b f):=by
 rw[← Array.forIn_toList];exact uC h
theorem eD{P:Program}{f:Nat→β→Sem (ForInStep β)}{l:Std.Legacy.Range}{b:β}(h:∀ a b,Ok P (f a b)):Ok P (forIn l b f):=by
 rw[Std.Legacy.Range.forIn_eq_forIn_range'];exact uC h
theorem zHA{P:Program}{f:β→α→Sem β}(h:∀ b a,Ok P (f b a))(l:List α):∀ b,Ok P (l.foldlM f b):=by
 induction l with
 | nil=>exact fun b=>Ok.pure
 | cons a l ih=>exact fun b=>Ok.bind (h b a) fun c=>ih c
theorem wVA{P:Program}{l:Std.Legacy.Range}{f:(a:Nat)→a∈l→β→Sem (ForInStep β)}{b:β}(h:∀ a m b,Ok P (f a m b)):Ok P (forIn' l b f):=by
 rw[Std.Legacy.Range.forIn'_eq_forIn'_range'];have key:∀(L:List Nat) (g:(a:Nat)→a∈L→β→Sem (ForInStep β)) (b:β),(∀ a m b,Ok P (g a m b))→Ok P (forIn' L b g):=by
  intro L
  induction L with
  | nil=>exact fun g b _=>Ok.pure
  | cons a L ih =>
    intro g b hg;rw[List.forIn'_cons];refine Ok.bind (hg _ _ _) fun r=>?_
    cases r with
    | done b=>exact Ok.pure
    | yield b=>exact ih _ _ fun _ _ _=>hg _ _ _
 exact key _ _ _ fun _ _ _=>h _ _ _
theorem gX{P:Program}{a m}:Ok P (load a m):=fun _=>⟨rfl,trivial⟩
theorem xWA{P:Program}{a v m}:Ok P (store a v m):=⟨rfl,trivial⟩
theorem nH{P:Program}{o}:Ok P (newObj o):=fun _=>⟨rfl,trivial⟩
theorem zH{P:Program}{o}:Ok P (shape o):=fun _=>⟨rfl,trivial⟩
theorem dY{P:Program}{a n}:Ok P (freeze a n):=⟨rfl,trivial⟩
theorem wX{P:Program}{a}:Ok P (frozen a):=fun _=>⟨rfl,trivial⟩
theorem gJ{P:Program}{a}:Ok P (getObj a):=fun _=>⟨rfl,trivial⟩
theorem fI{P:Program}{a o}:Ok P (setObj a o):=⟨rfl,trivial⟩
theorem nE{P:Program}{a}:Ok P (choose a):=fun _=>⟨rfl,trivial⟩
theorem mD{P:Program}:Ok P program:=⟨rfl,trivial⟩
theorem nA{P:Program}{φ:α→Prop}{a}:Safe P φ 0 (stuck a:Sem α):=⟨trivial,.inl rfl⟩
theorem zA{P:Program}{φ:α→Prop}{a}:Safe P φ 0 (unsupported a:Sem α):=⟨trivial,.inl rfl⟩
theorem cDA{P:Program}{φ:α→Prop}{a}:Safe P φ 0 (goPanic a:Sem α):=⟨trivial,.inl rfl⟩
theorem zXA{P:Program}{φ:α→Prop}{a}:Safe P φ 0 (throw a:Sem α):=⟨trivial,.inl rfl⟩
theorem vM{P:Program}{n}:Ok P (askRoom n):=by
 unfold askRoom;split
 · exact⟨rfl,trivial⟩
 · exact⟨rfl,trivial⟩
theorem oJ{P:Program}:Ok P (mark .noRoom):=⟨rfl,trivial⟩
theorem bQ{P:Program}{a b}:Ok P (writeFd a b):=by
 unfold writeFd;refine⟨⟨.unsupported (.noEntry _),trivial,rfl⟩,fun r=>?_⟩
 cases r<;>first | exact⟨rfl,trivial⟩ | exact⟨trivial,.inl rfl⟩
theorem dHA{P:Program}:(∀ a0 a1,Ok P (Conv.intToInt a0 a1))∧(∀ a0 a1,Ok P (Conv.intToFloat a0 a1))∧(∀ a0,Ok P (Conv.intToString a0))∧(∀ a0 a1 a2,Ok P (Instr.makeFunc a0 a1 a2)):=by
 refine⟨?_,?_,?_,?_⟩<;>intros<;>(first | unfold Conv.intToInt | unfold Conv.intToFloat | unfold Conv.intToString | unfold Instr.makeFunc) <;>
 repeat' (first | (with_reducible first | exact Ok.pure | exact Ok.halt trivial | apply Ok.bind | apply Ok.map | apply kG | apply mG | apply zC | apply uC | apply eD) | intro _ | split | dsimp only)
theorem qW{P:Program}:∀ a0 a1 a2,Ok P (Instr.makeFunc a0 a1 a2):=dHA.2.2.2
theorem rF{P:Program}:(∀ a0,Ok P (asBool a0))∧(∀ a0,Ok P (typeInfo a0))∧(∀ a0 a1,Ok P (newRow a0 a1))∧(∀ a0,Ok P (underlying a0))∧(∀ a0,Ok P (Instr.sureAddr a0))∧(∀ a0,Ok P (Instr.ready a0))∧(∀ a0,Ok P (Instr.waits a0))∧(∀ a0 a1 a2 a3,Ok P (Op.intArith a0 a1 a2 a3))∧(∀ a0 a1 a2 a3,Ok P (Op.intBits a0 a1 a2 a3))∧(∀ a0 a1 a2,Ok P (Op.intCmp a0 a1 a2))∧(∀ a0 a1 a2 a3,Ok P (Op.floatArith a0 a1 a2 a3))∧(∀ a0 a1 a2 a3,Ok P (Op.floatCmp a0 a1 a2 a3))∧(∀ a0 a1 a2,Ok P (Conv.floatToFloat a0 a1 a2))∧(∀ a0 a1 a2,Ok P (Op.stringOp a0 a1 a2)):=by
 refine⟨?_,?_,?_,?_,?_,?_,?_,?_,?_,?_,?_,?_,?_,?_⟩<;>intros<;>(first | unfold asBool | unfold typeInfo | unfold newRow | unfold underlying | unfold Instr.sureAddr | unfold Instr.ready | unfold Instr.waits | unfold Op.intArith | unfold Op.intBits | unfold Op.intCmp | unfold Op.floatArith | unfold Op.floatCmp | unfold Conv.floatToFloat | unfold Op.stringOp) <;>
 repeat' (first | (with_reducible first | exact Ok.pure | exact Ok.halt trivial | apply nA | apply mD | apply nH | apply gJ | apply fI | apply zH | apply nE | apply zA | apply Ok.bind | apply Ok.map | apply kG | apply mG | apply zC | apply uC | apply eD) | intro _ | split | dsimp only)
theorem lY{P:Program}:∀ a0,Ok P (asBool a0):=rF.1
theorem dD{P:Program}:∀ a0,Ok P (typeInfo a0):=rF.2.1
theorem sH{P:Program}:∀ a0 a1,Ok P (newRow a0 a1):=rF.2.2.1
theorem uB{P:Program}:∀ a0,Ok P (underlying a0):=rF.2.2.2.1
theorem mDA{P:Program}:∀ a0,Ok P (Instr.ready a0):=rF.2.2.2.2.2.1
theorem dBA{P:Program}:∀ a0,Ok P (Instr.waits a0):=rF.2.2.2.2.2.2.1
theorem kF{P:Program}:(∀ a0,Ok P (numberAt a0))∧(∀ a0,Ok P (viewAt a0))∧(∀ a0,Ok P (stringish a0))∧(∀ a0,Ok P (asIntOf a0))∧(∀ a0 a1,Ok P (asNumber a0 a1))∧(∀ a0 a1 a2,Ok P (Conv.floatToInt a0 a1 a2))∧(∀ a0,Ok P (markStringish a0))∧(∀ a0,Ok P (cellsIn a0))∧(∀ a0 a1 a2,Ok P (variablesAt a0 a1 a2))∧(∀ a0,Ok P (asAgg a0))∧(∀ a0 a1,Ok P (Instr.keyThatStays a0 a1))∧(∀ a0 a1 a2,Ok P (Instr.next a0 a1 a2))∧(∀ a0,Ok P (Instr.entry a0))∧(∀ a0 a1,Ok P (Instr.extract a0 a1)):=by
 refine⟨?_,?_,?_,?_,?_,?_,?_,?_,?_,?_,?_,?_,?_,?_⟩<;>intros<;>(first | unfold numberAt | unfold viewAt | unfold stringish | unfold asIntOf | unfold asNumber | unfold Conv.floatToInt | unfold markStringish | unfold cellsIn | unfold variablesAt | unfold asAgg | unfold Instr.keyThatStays | unfold Instr.next | unfold Instr.entry | unfold Instr.extract) <;>
 repeat' (first | (with_reducible first | exact Ok.pure | exact Ok.halt trivial | apply gJ | apply zH | apply wX | apply nA | apply zA | apply nH | apply nE | apply dY | apply mD | apply fI | apply Ok.bind | apply Ok.map | apply kG | apply mG | apply zC | apply uC | apply eD) | intro _ | split | dsimp only)
theorem wJA{P:Program}:∀ a0,Ok P (asAgg a0):=kF.2.2.2.2.2.2.2.2.2.1
theorem lEA{P:Program}:∀ a0 a1 a2,Ok P (Instr.next a0 a1 a2):=kF.2.2.2.2.2.2.2.2.2.2.2.1
theorem tAA{P:Program}:∀ a0,Ok P (Instr.entry a0):=kF.2.2.2.2.2.2.2.2.2.2.2.2.1
theorem rX{P:Program}:∀ a0 a1,Ok P (Instr.extract a0 a1):=kF.2.2.2.2.2.2.2.2.2.2.2.2.2
theorem bL{P:Program}:(∀ a0 a1,Ok P (Deferred.ofValue a0 a1))∧(∀ a0 a1,Ok P (Builtin.holdsCells a0 a1))∧(∀ a0,Ok P (Builtin.lenOf a0))∧(∀ a0,Ok P (externState a0))∧(∀ a0,Ok P (asString a0))∧(∀ a0,Ok P (cutType a0))∧(∀ a0,Ok P (globalAddr a0))∧(∀ a0 a1 a2,Ok P (intVariablesAt a0 a1 a2))∧(∀ a0,Ok P (Instr.getLoop a0))∧(∀ a0,Ok P (Instr.takeDeferred a0))∧(∀ a0,Ok P (withAddress a0)):=by
 refine⟨?_,?_,?_,?_,?_,?_,?_,?_,?_,?_,?_⟩<;>intros<;>(first | unfold Deferred.ofValue | unfold Builtin.holdsCells | unfold Builtin.lenOf | unfold externState | unfold asString | unfold cutType | unfold globalAddr | unfold intVariablesAt | unfold Instr.getLoop | unfold Instr.takeDeferred | unfold withAddress) <;>
 repeat' (first | (with_reducible first | exact Ok.pure | exact Ok.halt trivial | apply nA | apply zH | apply gJ | apply nH | apply mD | apply fI | apply nE | apply Ok.bind | apply Ok.map | apply kG | apply mG | apply zC | apply uC | apply eD) | intro _ | split | dsimp only)
theorem fT{P:Program}:∀ a0 a1,Ok P (Deferred.ofValue a0 a1):=bL.1
theorem qN{P:Program}:∀ a0,Ok P (asString a0):=bL.2.2.2.2.1
theorem fK{P:Program}:∀ a0,Ok P (Instr.getLoop a0):=bL.2.2.2.2.2.2.2.2.1
theorem wQ{P:Program}:∀ a0,Ok P (Instr.takeDeferred a0):=bL.2.2.2.2.2.2.2.2.2.1
theorem rAA{P:Program}:∀ a0,Ok P (withAddress a0):=bL.2.2.2.2.2.2.2.2.2.2
theorem tF{P:Program}:∀ a1 a2 a3,Ok P (storeCells a1 a2 a3):=by
 intro a1 a2
 induction a2 with
 | nil=>exact fun _=>Ok.pure
 | cons v l ih=>exact fun a3=>Ok.bind xWA fun _=>ih _
theorem aY{P:Program}:∀ a1 a2 a3 a4,Ok P (loadCellsFrom a1 a2 a3 a4):=by
 intro a1 a2 a3
 induction a3 generalizing a2 with
 | zero=>exact fun _=>Ok.pure
 | succ n ih=>exact fun a4=>Ok.bind gX fun _=>ih _ _
theorem lT{P:Program}:∀ a1 a2 a3,Ok P (Builtin.complex_ a1 a2 a3):=by
 intro a1 a2 a3;obtain⟨l⟩:=a3;rcases l with _ | ⟨x,_ | ⟨y,_ | ⟨z,t⟩⟩⟩
 · exact nA
 · exact nA
 · cases x <;> cases y <;> first | exact nA | skip
   rename_i k a k' b
   show Ok P (if k=k' then Pure.pure (Value.complex k a b) else stuck _)
   split
   · exact Ok.pure
   · exact nA
 · exact nA
theorem tX{P:Program}:∀ a1 a2 a3,Ok P (Builtin.imag_ a1 a2 a3):=by
 intro a1 a2 a3;obtain⟨l⟩:=a3;rcases l with _ | ⟨x,_ | ⟨y,t⟩⟩
 · exact nA
 · cases x<;>first | exact nA | exact Ok.pure
 · exact nA
theorem uW{P:Program}:Ok P Instr.panicnil:=by
 unfold Instr.panicnil;refine⟨⟨.stuck _,trivial,rfl⟩,fun r=>?_⟩
 cases r<;>first | exact nA | (show Safe P (fun _=>True) 0 (program >>= _);exact Ok.bind mD fun _=>Ok.pure)
theorem qY{P:Program}:∀ a1 a2 a3,Ok P (Builtin.real_ a1 a2 a3):=by
 intro a1 a2 a3;obtain⟨l⟩:=a3;rcases l with _ | ⟨x,_ | ⟨y,t⟩⟩
 · exact nA
 · cases x<;>first | exact nA | exact Ok.pure
 · exact nA
theorem oHA{P:Program}:∀ a1 a2 a3,Ok P (loadBytes a1 a2 a3):=by
 intro a1 a2 a3
 induction a3 generalizing a1 a2 with
 | zero=>exact Ok.pure
 | succ n ih =>
   unfold loadBytes
   repeat' (first | (with_reducible first | exact Ok.pure | exact Ok.halt trivial | apply ih | apply gX | apply nA | apply Ok.bind | apply Ok.map | apply zC | apply uC | apply eD) | intro _ | split | dsimp only)
theorem uAA{P:Program}:∀ a1 a2,Ok P (reportChain a1 a2):=by
 intro a1
 induction a1 with
 | nil=>exact fun _=>Ok.pure
 | cons e l ih =>
   intro a2;unfold reportChain
   repeat' (first | (with_reducible first | exact Ok.pure | exact Ok.halt trivial | apply ih | apply zA | apply mD | apply nE | apply Ok.bind | apply Ok.map | apply zC | apply uC | apply eD) | intro _ | split | dsimp only)
theorem bD{P:Program}:(∀ a0,Ok P (zeroValue a0))∧(∀ a0,Ok P (sizeOf a0))∧(∀ a0 a1,Ok P (newVar a0 a1))∧(∀ a0,Ok P (isAgg a0))∧(∀ a0 a1,Ok P (loadCells a0 a1))∧(∀ a0,Ok P (elemOf a0))∧(∀ a0 a1 a2 a3,Ok P (Op.Complex.arith a0 a1 a2 a3))∧(∀ a0 a1 a2,Ok P (Op.Complex.conv a0 a1 a2))∧(∀ a0 a1 a2 a3,Ok P (Op.Complex.cmp a0 a1 a2 a3))∧(∀ a0,Ok P (behindNumber a0))∧(∀ a0,Ok P (noView a0))∧(∀ a0 a1,Ok P (mayBeOne a0 a1))∧(∀ a0,Ok P (typeStr a0))∧(∀ a0,Ok P (asInt a0)):=by
 refine⟨?_,?_,?_,?_,?_,?_,?_,?_,?_,?_,?_,?_,?_,?_⟩<;>intros<;>(first | unfold zeroValue | unfold sizeOf | unfold newVar | unfold isAgg | unfold loadCells | unfold elemOf | unfold Op.Complex.arith | unfold Op.Complex.conv | unfold Op.Complex.cmp | unfold behindNumber | unfold noView | unfold mayBeOne | unfold typeStr | unfold asInt) <;>
 repeat' (first | (with_reducible first | exact Ok.pure | exact Ok.halt trivial | apply dD | apply zA | apply sH | apply uB | apply aY | apply nA | apply rF.2.2.2.2.2.2.2.2.2.2.1 | apply rF.2.2.2.2.2.2.2.2.2.2.2.2.1 | apply rF.2.2.2.2.2.2.2.2.2.2.2.1 | apply lY | apply kF.1 | apply kF.2.1 | apply zH | apply kF.2.2.1 | apply kF.2.2.2.1 | apply Ok.bind | apply Ok.map | apply kG | apply mG | apply zC | apply uC | apply eD) | intro _ | split | dsimp only)
theorem wE{P:Program}:∀ a0,Ok P (zeroValue a0):=bD.1
theorem fV{P:Program}:∀ a0,Ok P (typeStr a0):=bD.2.2.2.2.2.2.2.2.2.2.2.2.1
theorem lG{P:Program}:∀ a0,Ok P (asInt a0):=bD.2.2.2.2.2.2.2.2.2.2.2.2.2
theorem iI{P:Program}:(∀ a0 a1,Ok P (Op.unary a0 a1))∧(∀ a0 a1 a2 a3,Ok P (Conv.complexToComplex a0 a1 a2 a3))∧(∀ a0 a1,Ok P (Conv.stringToBytes a0 a1))∧(∀ a0 a1,Ok P (Conv.stringToRunes a0 a1))∧(∀ a0,Ok P (Conv.seenAt a0))∧(∀ a0 a1,Ok P (Instr.makeInterface a0 a1))∧(∀ a0 a1,Ok P (Instr.range a0 a1))∧(∀ a0 a1 a2 a3 a4,Ok P (Builtin.mayShare a0 a1 a2 a3 a4))∧(∀ a0 a1 a2,Ok P (Builtin.cap_ a0 a1 a2))∧(∀ a0 a1 a2,Ok P (Builtin.len_ a0 a1 a2))∧(∀ a0 a1,Ok P (Builtin.max2 a0 a1))∧(∀ a0 a1,Ok P (Builtin.min2 a0 a1))∧(∀ a0 a1,Ok P (Builtin.printOne a0 a1))∧(∀ a0 a1,Ok P (byteVariablesAt a0 a1)):=by
 refine⟨?_,?_,?_,?_,?_,?_,?_,?_,?_,?_,?_,?_,?_,?_⟩<;>intros<;>(first | unfold Op.unary | unfold Conv.complexToComplex | unfold Conv.stringToBytes | unfold Conv.stringToRunes | unfold Conv.seenAt | unfold Instr.makeInterface | unfold Instr.range | unfold Builtin.mayShare | unfold Builtin.cap_ | unfold Builtin.len_ | unfold Builtin.max2 | unfold Builtin.min2 | unfold Builtin.printOne | unfold byteVariablesAt) <;>
 repeat' (first | (with_reducible first | exact Ok.pure | exact Ok.halt trivial | apply rF.2.2.2.2.2.2.2.1 | apply rF.2.2.2.2.2.2.2.2.1 | apply nA | apply zA | apply rF.2.2.2.2.2.2.2.2.2.2.2.2.1 | apply nE | apply kF.2.2.2.2.2.2.1 | apply sH | apply mD | apply zH | apply kF.2.1 | apply uB | apply gJ | apply nH | apply bL.2.1 | apply wX | apply rF.2.2.2.2.2.2.2.2.2.2.2.2.2 | apply lY | apply dD | apply bL.2.2.2.2.2.2.2.1 | apply Ok.bind | apply Ok.map | apply kG | apply mG | apply zC | apply uC | apply eD) | intro _ | split | dsimp only)
theorem lKA{P:Program}:∀ a0 a1,Ok P (Op.unary a0 a1):=iI.1
theorem pQ{P:Program}:∀ a0 a1,Ok P (Instr.makeInterface a0 a1):=iI.2.2.2.2.2.1
theorem mAA{P:Program}:∀ a0 a1,Ok P (Instr.range a0 a1):=iI.2.2.2.2.2.2.1
theorem o9{P:Program}:∀ a0 a1 a2,Ok P (Builtin.cap_ a0 a1 a2):=iI.2.2.2.2.2.2.2.2.1
theorem y8{P:Program}:∀ a0 a1 a2,Ok P (Builtin.len_ a0 a1 a2):=iI.2.2.2.2.2.2.2.2.2.1
theorem pMA{P:Program}:(∀ a0 a1,Ok P (storeBytes a0 a1))∧(∀ a0 a1 a2 a3 a4 a5,Ok P (Instr.enterLoop a0 a1 a2 a3 a4 a5))∧(∀ a0 a1,Ok P (Instr.endRound a0 a1))∧(∀ a0 a1,Ok P (Instr.deferInRound a0 a1)):=by
 refine⟨?_,?_,?_,?_⟩<;>intros<;>(first | unfold storeBytes | unfold Instr.enterLoop | unfold Instr.endRound | unfold Instr.deferInRound) <;>
 repeat' (first | (with_reducible first | exact Ok.pure | exact Ok.halt trivial | apply tF | apply fK | apply nH | apply fI | apply gJ | apply nA | apply zXA | apply Ok.bind | apply Ok.map | apply kG | apply mG | apply zC | apply uC | apply eD) | intro _ | split | dsimp only)
theorem uU{P:Program}:∀ a0 a1 a2 a3 a4 a5,Ok P (Instr.enterLoop a0 a1 a2 a3 a4 a5):=pMA.2.1
theorem jX{P:Program}:∀ a0 a1,Ok P (Instr.endRound a0 a1):=pMA.2.2.1
theorem vQ{P:Program}:∀ a0 a1,Ok P (Instr.deferInRound a0 a1):=pMA.2.2.2
theorem yE{P:Program}:(∀ a0 a1 a2,Ok P (storeVar a0 a1 a2))∧(∀ a0 a1,Ok P (Instr.box a0 a1))∧(∀ a0 a1,Ok P (Instr.build a0 a1))∧(∀ a0 a1 a2,Ok P (Instr.buildSlice a0 a1 a2))∧(∀ a0 a1,Ok P (loadVar a0 a1))∧(∀ a0 a1 a2,Ok P (part a0 a1 a2))∧(∀ a0 a1,Ok P (Op.Complex.mul a0 a1))∧(∀ a0 a1,Ok P (Op.Complex.sub a0 a1))∧(∀ a0 a1,Ok P (Op.Complex.add a0 a1))∧(∀ a0 a1,Ok P (Op.Complex.quo a0 a1))∧(∀ a0,Ok P (byteOf a0))∧(∀ a0 a1,Ok P (sameAddr a0 a1))∧(∀ a0,Ok P (Conv.bytesToString a0))∧(∀ a0,Ok P (Conv.runesToString a0)):=by
 refine⟨?_,?_,?_,?_,?_,?_,?_,?_,?_,?_,?_,?_,?_,?_⟩<;>intros<;>(first | unfold storeVar | unfold Instr.box | unfold Instr.build | unfold Instr.buildSlice | unfold loadVar | unfold part | unfold Op.Complex.mul | unfold Op.Complex.sub | unfold Op.Complex.add | unfold Op.Complex.quo | unfold byteOf | unfold sameAddr | unfold Conv.bytesToString | unfold Conv.runesToString) <;>
 repeat' (first | (with_reducible first | exact Ok.pure | exact Ok.halt trivial | apply bD.2.1 | apply tF | apply nA | apply bD.2.2.1 | apply uB | apply wE | apply sH | apply zA | apply bD.2.2.2.1 | apply gX | apply bD.2.2.2.2.1 | apply bD.2.2.2.2.2.2.1 | apply bD.2.2.2.2.2.2.2.2.2.2.1 | apply mD | apply zH | apply nE | apply wX | apply bD.2.2.2.2.2.2.2.2.2.2.2.1 | apply Ok.bind | apply Ok.map | apply kG | apply mG | apply zC | apply uC | apply eD) | intro _ | split | dsimp only)
theorem sHA{P:Program}:∀ a0 a1,Ok P (Instr.box a0 a1):=yE.2.1
theorem nBA{P:Program}:∀ a0 a1,Ok P (Instr.build a0 a1):=yE.2.2.1
theorem nT{P:Program}:∀ a0 a1 a2,Ok P (Instr.buildSlice a0 a1 a2):=yE.2.2.2.1
theorem aQ{P:Program}:(∀ a0 a1 a2,Ok P (Conv.unsafePointer a0 a1 a2))∧(∀ a0 a1,Ok P (Instr.makeMap a0 a1))∧(∀ a0 a1 a2 a3,Ok P (Instr.entryStore a0 a1 a2 a3))∧(∀ a0 a1 a2,Ok P (Builtin.firstCells a0 a1 a2))∧(∀ a0 a1 a2,Ok P (Builtin.clear_ a0 a1 a2))∧(∀ a0,Ok P (backFromNumber a0)):=by
 refine⟨?_,?_,?_,?_,?_,?_⟩<;>intros<;>(first | unfold Conv.unsafePointer | unfold Instr.makeMap | unfold Instr.entryStore | unfold Builtin.firstCells | unfold Builtin.clear_ | unfold backFromNumber) <;>
 repeat' (first | (with_reducible first | exact Ok.pure | exact Ok.halt trivial | apply iI.2.2.2.2.1 | apply kF.2.2.2.2.1 | apply kF.2.2.2.2.2.2.2.1 | apply nH | apply mD | apply zH | apply bD.2.1 | apply nA | apply uB | apply zA | apply kF.2.2.2.2.2.2.2.2.1 | apply lG | apply gJ | apply fI | apply bD.2.2.2.2.1 | apply tF | apply wE | apply bD.2.2.2.2.2.2.2.2.2.1 | apply Ok.bind | apply Ok.map | apply kG | apply mG | apply zC | apply uC | apply eD) | intro _ | split | dsimp only)
theorem uY{P:Program}:∀ a0 a1,Ok P (Instr.makeMap a0 a1):=aQ.2.1
theorem iT{P:Program}:∀ a0 a1 a2 a3,Ok P (Instr.entryStore a0 a1 a2 a3):=aQ.2.2.1
theorem kW{P:Program}:∀ a0 a1 a2,Ok P (Builtin.clear_ a0 a1 a2):=aQ.2.2.2.2.1
theorem dB{P:Program}{φ:α→Prop}:∀ a1,Safe P φ 0 (runtimePanic a1:Sem α):=by
 intro a1;unfold runtimePanic
 repeat' (first | (with_reducible first | apply mD | apply cDA | apply bD.2.2.1 | apply bD.2.2.2.2.2.1 | apply Ok.bind) | intro _ | split | dsimp only)
theorem wF{P:Program}:∀ a1 a2 a3,Ok P (Builtin.unsafeAdd_ a1 a2 a3):=by
 intro a1 a2 a3;obtain⟨l⟩:=a3;rcases l with _ | ⟨x,_ | ⟨y,_ | ⟨z,t⟩⟩⟩
 · exact nA
 · exact nA
 · cases x <;> first | exact nA | skip
   refine Ok.bind (lG _) fun n=>?_
   repeat' (first | (with_reducible first | exact Ok.pure | exact Ok.halt trivial | apply lG | apply zA | apply kF.2.1 | apply zH | apply mD | apply Ok.bind | apply Ok.map | apply zC | apply uC | apply eD) | intro _ | split | dsimp only)
 · exact nA
theorem j6{P:Program}:∀ a1 a2 a3,Ok P (Builtin.max_ a1 a2 a3):=by
 intro a1 a2 a3;unfold Builtin.max_
 split
 · exact nA
 · exact zHA iI.2.2.2.2.2.2.2.2.2.2.1 _ _
theorem z8{P:Program}:∀ a1 a2 a3,Ok P (Builtin.min_ a1 a2 a3):=by
 intro a1 a2 a3;unfold Builtin.min_
 split
 · exact nA
 · exact zHA iI.2.2.2.2.2.2.2.2.2.2.2.1 _ _
theorem rW{P:Program}:∀ a1 a2 a3 a4,Ok P (Builtin.pieces a1 a2 a3 a4):=by
 intro a1 a2 a3 a4;unfold Builtin.pieces
 repeat' (first | (with_reducible first | exact Ok.pure | apply iI.2.2.2.2.2.2.2.2.2.2.2.2.1 | apply nA | apply Ok.bind | apply wVA | apply zC) | intro _ | split | dsimp only)
theorem nL{P:Program}:∀ a1 a2 a3,Ok P (Builtin.unsafeSliceData_ a1 a2 a3):=by
 intro a1 a2 a3;obtain⟨l⟩:=a3;rcases l with _ | ⟨x,_ | ⟨y,t⟩⟩
 · exact nA
 · cases x <;> first | exact nA | skip
   rename_i a n c
   cases a with
   | none=>exact Ok.pure
   | some a =>
     show Ok P (if c≠0 then Pure.pure (Value.pointer (some a)) else _)
     repeat' (first | (with_reducible first | exact Ok.pure | exact Ok.halt trivial | apply kF.2.1 | apply nH | apply bD.2.2.2.2.2.1 | apply Ok.bind | apply Ok.map | apply zC | apply uC | apply eD) | intro _ | split | dsimp only)
 · exact nA
theorem dL{P:Program}:∀ a1 a2 a3,Ok P (Builtin.unsafeStringData_ a1 a2 a3):=by
 intro a1 a2 a3;obtain⟨l⟩:=a3;rcases l with _ | ⟨x,_ | ⟨y,t⟩⟩
 · exact nA
 · cases x <;> first | exact nA | skip
   rename_i s;have b:Ok P (do let a ← newRow (← elemOf a2) (s.data.map fun b=>Value.int .u8 b.toNat);freeze a s.size;Pure.pure (Value.pointer (some a)):Sem Value) :=
    Ok.bind (bD.2.2.2.2.2.1 _) fun _=>Ok.bind (sH _ _) fun _=>Ok.bind dY fun _=>Ok.pure
   have a : Ok P (do
       if (← choose (.extern "unsafe.StringData.empty" 2)) = 0 then return Value.pointer none
       let a ← newRow (← elemOf a2) #[]
       markStringish a
       return Value.pointer (some a):Sem Value):=by
     repeat' (first | (with_reducible first | exact Ok.pure | exact Ok.halt trivial | apply nE | apply bD.2.2.2.2.2.1 | apply sH | apply kF.2.2.2.2.2.2.1 | apply Ok.bind | apply Ok.map | apply zC | apply uC | apply eD) | intro _ | split | dsimp only)
   show Ok P (if s.size=0 then _ else _)
   split
   · exact a
   · exact b
 · exact nA
theorem pJ{P:Program}:(∀ a0 a1 a2,Ok P (Instr.alloc a0 a1 a2))∧(∀ a0 a1,Ok P (Instr.loadAt a0 a1))∧(∀ a0 a1 a2,Ok P (Instr.storeAt a0 a1 a2))∧(∀ a0 a1 a2 a3 a4,Ok P (Op.shift a0 a1 a2 a3 a4))∧(∀ a0 a1 a2 a3,Ok P (Op.intDiv a0 a1 a2 a3))∧(∀ a0 a1 a2 a3,Ok P (Op.Complex.product a0 a1 a2 a3))∧(∀ a0 a1 a2 a3 a4,Ok P (Op.Complex.corrected a0 a1 a2 a3 a4))∧(∀ a0 a1,Ok P (samePointer a0 a1))∧(∀ a0 a1 a2,Ok P (movedPointer a0 a1 a2))∧(∀ a0 a1,Ok P (Op.twoPlaces a0 a1))∧(∀ a0 a1 a2,Ok P (Op.addrMod a0 a1 a2))∧(∀ a0 a1 a2,Ok P (convert a0 a1 a2))∧(∀ a0 a1,Ok P (Instr.arrayAt a0 a1))∧(∀ a0 a1,Ok P (Instr.makeChan a0 a1)):=by
 refine⟨?_,?_,?_,?_,?_,?_,?_,?_,?_,?_,?_,?_,?_,?_⟩<;>intros<;>(first | unfold Instr.alloc | unfold Instr.loadAt | unfold Instr.storeAt | unfold Op.shift | unfold Op.intDiv | unfold Op.Complex.product | unfold Op.Complex.corrected | unfold samePointer | unfold movedPointer | unfold Op.twoPlaces | unfold Op.addrMod | unfold convert | unfold Instr.arrayAt | unfold Instr.makeChan) <;>
 repeat' (first | (with_reducible first | exact Ok.pure | exact Ok.halt trivial | apply bD.2.2.1 | apply yE.1 | apply wE | apply rF.2.2.2.2.1 | apply yE.2.2.2.2.1 | apply dB | apply nA | apply yE.2.2.2.2.2.2.2.2.1 | apply yE.2.2.2.2.2.2.1 | apply yE.2.2.2.2.2.2.2.1 | apply yE.2.2.2.2.2.2.2.2.2.2.2.1 | apply wF | apply kF.1 | apply zA | apply yE.2.2.2.2.2.2.2.2.2.2.1 | apply mD | apply zH | apply dD | apply yE.2.2.2.2.2.2.2.2.2.2.2.2.1 | apply iI.2.1 | apply rF.2.2.2.2.2.2.2.2.2.2.2.2.1 | apply kF.2.2.2.2.2.1 | apply dHA.2.1 | apply dHA.1 | apply dHA.2.2.1 | apply yE.2.2.2.2.2.2.2.2.2.2.2.2.2 | apply iI.2.2.1 | apply iI.2.2.2.1 | apply aQ.1 | apply kF.2.2.2.2.2.2.1 | apply uB | apply lG | apply nH | apply Ok.bind | apply Ok.map | apply kG | apply mG | apply zC | apply uC | apply eD) | intro _ | split | dsimp only)
theorem qBA{P:Program}:∀ a0 a1 a2,Ok P (Instr.alloc a0 a1 a2):=pJ.1
theorem o6{P:Program}:∀ a0 a1,Ok P (Instr.loadAt a0 a1):=pJ.2.1
theorem zX{P:Program}:∀ a0 a1 a2,Ok P (Instr.storeAt a0 a1 a2):=pJ.2.2.1
theorem tLA{P:Program}:∀ a0 a1 a2,Ok P (convert a0 a1 a2):=pJ.2.2.2.2.2.2.2.2.2.2.2.1
theorem cZ{P:Program}:∀ a0 a1,Ok P (Instr.arrayAt a0 a1):=pJ.2.2.2.2.2.2.2.2.2.2.2.2.1
theorem wV{P:Program}:∀ a0 a1,Ok P (Instr.makeChan a0 a1):=pJ.2.2.2.2.2.2.2.2.2.2.2.2.2
theorem yK{P:Program}:(∀ a0 a1 a2,Ok P (Instr.makeSlice a0 a1 a2))∧(∀ a0,Ok P (asAddr a0))∧(∀ a0 a1 a2,Ok P (partAt a0 a1 a2))∧(∀ a0 a1 a2,Ok P (Instr.field a0 a1 a2))∧(∀ a0 a1 a2 a3,Ok P (Instr.typeAssert a0 a1 a2 a3))∧(∀ a0 a1 a2,Ok P (Builtin.copy_ a0 a1 a2))∧(∀ a0,Ok P (Instr.panic a0))∧(∀ a0 a1,Ok P (Place.get a0 a1))∧(∀ a0,Ok P (Instr.beginRound a0))∧(∀ a0,Ok P (Instr.endLoop a0)):=by
 refine⟨?_,?_,?_,?_,?_,?_,?_,?_,?_,?_⟩<;>intros<;>(first | unfold Instr.makeSlice | unfold asAddr | unfold partAt | unfold Instr.field | unfold Instr.typeAssert | unfold Builtin.copy_ | unfold Instr.panic | unfold Place.get | unfold Instr.beginRound | unfold Instr.endLoop) <;>
 repeat' (first | (with_reducible first | exact Ok.pure | exact Ok.halt trivial | apply lG | apply vM | apply nE | apply sH | apply dB | apply bD.2.1 | apply nA | apply dD | apply uB | apply wE | apply yE.2.2.2.2.2.2.2.2.2.2.1 | apply wJA | apply yE.2.2.2.2.2.1 | apply aQ.2.2.2.1 | apply bL.2.2.1 | apply tF | apply uW | apply cDA | apply yE.2.2.2.2.1 | apply fK | apply fI | apply Ok.bind | apply Ok.map | apply kG | apply mG | apply zC | apply uC | apply eD) | intro _ | split | dsimp only)
theorem nU{P:Program}:∀ a0 a1 a2,Ok P (Instr.makeSlice a0 a1 a2):=yK.1
theorem vS{P:Program}:∀ a0,Ok P (asAddr a0):=yK.2.1
theorem kCA{P:Program}:∀ a0 a1 a2,Ok P (Instr.field a0 a1 a2):=yK.2.2.2.1
theorem tT{P:Program}:∀ a0 a1 a2 a3,Ok P (Instr.typeAssert a0 a1 a2 a3):=yK.2.2.2.2.1
theorem mY{P:Program}:∀ a0 a1 a2,Ok P (Builtin.copy_ a0 a1 a2):=yK.2.2.2.2.2.1
theorem mR{P:Program}:∀ a0,Ok P (Instr.panic a0):=yK.2.2.2.2.2.2.1
theorem rT{P:Program}:∀ a0,Ok P (Instr.beginRound a0):=yK.2.2.2.2.2.2.2.2.1
theorem vX{P:Program}:∀ a0,Ok P (Instr.endLoop a0):=yK.2.2.2.2.2.2.2.2.2
theorem jBA{P:Program}:∀ a1 a2 a3,Ok P (followBlind a1 a2 a3):=by
 intro a1
 induction a1 with
 | nil=>intro a2 a3;exact Ok.pure
 | cons s l ih =>
   intro a2 a3;unfold followBlind
   repeat' (first | (with_reducible first | exact Ok.pure | exact Ok.halt trivial | apply ih | apply uB | apply nA | apply yE.2.2.2.2.2.1 | apply Ok.bind | apply Ok.map | apply zC | apply uC | apply eD) | intro _ | split | dsimp only)
theorem l8{P:Program}:∀ a1 a2 a3 a4,Ok P (Op.eqGuardIn a1 a2 a3 a4):=by
 intro a1
 induction a1 with
 | zero=>intro a2 a3 a4;exact zA
 | succ n ih =>
   intro a2 a3 a4;unfold Op.eqGuardIn
   repeat' (first | (with_reducible first | exact Ok.pure | exact Ok.halt trivial | apply ih | apply uB | apply yE.2.2.2.2.2.1 | apply bD.2.1 | apply Ok.bind | apply Ok.map | apply zC | apply uC | apply eD) | intro _ | split | dsimp only)
theorem kDA{P:Program}:∀ a1 a2 a3,Ok P (movedNumber a1 a2 a3):=by
 intro a1 a2 a3;unfold movedNumber;have tail:∀ v (l:Bool),Ok P (match v with | Value.pointer (some b)=>asNumber b l | v=>Pure.pure v):=by
  intro v l
  split
  · exact kF.2.2.2.2.1 _ _
  · exact Ok.pure
 have all : Ok P (match a2 with
     | Value.pointer (some n) => (do
       let(a,lost) ← behindNumber n
       match ← Builtin.unsafeAdd_ #[] a1 #[Value.pointer (some a),a3] with
       | .pointer (some b)=>asNumber b lost
       | v=>Pure.pure v:Sem Value)
     | _=>Builtin.unsafeAdd_ #[] a1 #[a2,a3]):=by
   split
   · exact Ok.bind (bD.2.2.2.2.2.2.2.2.2.1 _) fun x=>Ok.bind (wF _ _ _) fun v=>tail v _
   · exact wF _ _ _
 refine Ok.bind (uB _) fun u=>?_
 cases u<;>first | exact all | exact Ok.bind zA fun _=>all
theorem rBA{P:Program}{φ:α→Prop}:∀ a1 a2 a3 a4,Safe P φ 0 (boundsPanic a1 a2 a3 a4:Sem α):=by
 intro a1 a2 a3 a4;unfold boundsPanic
 repeat' (first | (with_reducible first | exact Ok.pure | apply nE | apply dB | apply Ok.bind | apply Ok.map) | intro _ | split | dsimp only)
theorem pV{P:Program}:∀ a1 a2 a3 a4,Ok P (Instr.checkKey a1 a2 a3 a4):=by
 intro a1 a2
 induction a2 with
 | zero=>intro a3 a4;exact zA
 | succ n ih =>
   intro a3 a4;unfold Instr.checkKey
   repeat' (first | (with_reducible first | exact Ok.pure | exact Ok.halt trivial | apply ih | apply uB | apply dD | apply dB | apply fV | apply yE.2.2.2.2.2.1 | apply bD.2.1 | apply nA | apply zA | apply Ok.bind | apply Ok.map | apply zC | apply uC | apply eD) | intro _ | split | dsimp only)
theorem lU{P:Program}:∀ a1 a2 a3,Ok P (Builtin.append_ a1 a2 a3):=by
 intro a1 a2 a3;unfold Builtin.append_
 split
 · rename_i sType s x _; refine Ok.bind (uB _) fun u => ?_
   split
   · rename_i elem
     split
     · rename_i base sLen sCap; refine Ok.bind (bD.2.1 _) fun size => ?_
       extract_lets -underBinder +onlyGivenNames J
       have hJ:∀ r,Ok P (J r):=by
        intro zeros;dsimp -zeta -zetaHave only[J];clear J
        extract_lets -underBinder +onlyGivenNames J
        have hJ:∀ r,Ok P (J r):=by
         intro n;dsimp -zeta -zetaHave only[J];clear J
         extract_lets -underBinder +onlyGivenNames A
         have hA:Ok P A:=by
          dsimp -zeta -zetaHave only[A]
          repeat' (first | (extract_lets -underBinder +onlyGivenNames j;first | ((refine jp (P:=P) (φ:=fun _=>True) j _ (fun r=>?_) (fun hj=>?_))<;>first | (have _h:∀ r,Safe P (fun _=>True) 0 (j r):=hj;clear_value j) | (dsimp -zeta -zetaHave only[j];clear j)) | ((refine jq (P:=P) j _ ?_ (fun hj=>?_))<;>first | (have _h:Safe P (fun _=>True) 0 j:=hj;clear_value j) | (dsimp -zeta -zetaHave only[j];clear j)) | clear_value j) | (with_reducible first | exact hj _ | exact Ok.pure | exact Ok.halt trivial | apply uB | apply bD.2.1 | apply nA | apply bL.2.2.1 | apply lG | apply dB | apply dD | apply nE | apply aQ.2.2.2.1 | apply wE | apply tF | apply iI.2.2.2.2.2.2.2.1 | apply oJ | apply zA | apply vM | apply sH | apply Ok.bind) | intro _ | split)
         clear_value A
         repeat' (first | (extract_lets -underBinder +onlyGivenNames j;first | ((refine jp (P:=P) (φ:=fun _=>True) j _ (fun r=>?_) (fun hj=>?_))<;>first | (have _h:∀ r,Safe P (fun _=>True) 0 (j r):=hj;clear_value j) | (dsimp -zeta -zetaHave only[j];clear j)) | ((refine jq (P:=P) j _ ?_ (fun hj=>?_))<;>first | (have _h:Safe P (fun _=>True) 0 j:=hj;clear_value j) | (dsimp -zeta -zetaHave only[j];clear j)) | clear_value j) | (with_reducible first | exact hj _ | exact Ok.pure | exact Ok.halt trivial | exact hA | apply uB | apply bD.2.1 | apply nA | apply bL.2.2.1 | apply lG | apply dB | apply dD | apply nE | apply aQ.2.2.2.1 | apply wE | apply tF | apply iI.2.2.2.2.2.2.2.1 | apply oJ | apply zA | apply vM | apply sH | apply Ok.bind) | intro _ | split)
        clear_value J
        repeat' (first | (extract_lets -underBinder +onlyGivenNames j;first | ((refine jp (P:=P) (φ:=fun _=>True) j _ (fun r=>?_) (fun hj=>?_))<;>first | (have _h:∀ r,Safe P (fun _=>True) 0 (j r):=hj;clear_value j) | (dsimp -zeta -zetaHave only[j];clear j)) | ((refine jq (P:=P) j _ ?_ (fun hj=>?_))<;>first | (have _h:Safe P (fun _=>True) 0 j:=hj;clear_value j) | (dsimp -zeta -zetaHave only[j];clear j)) | clear_value j) | (with_reducible first | exact hJ _ | exact hj _ | exact Ok.pure | exact Ok.halt trivial | apply uB | apply bD.2.1 | apply nA | apply bL.2.2.1 | apply lG | apply dB | apply dD | apply nE | apply aQ.2.2.2.1 | apply wE | apply tF | apply iI.2.2.2.2.2.2.2.1 | apply oJ | apply zA | apply vM | apply sH | apply Ok.bind) | intro _ | split)
       clear_value J
       repeat' (first | (extract_lets -underBinder +onlyGivenNames j;first | ((refine jp (P:=P) (φ:=fun _=>True) j _ (fun r=>?_) (fun hj=>?_))<;>first | (have _h:∀ r,Safe P (fun _=>True) 0 (j r):=hj;clear_value j) | (dsimp -zeta -zetaHave only[j];clear j)) | ((refine jq (P:=P) j _ ?_ (fun hj=>?_))<;>first | (have _h:Safe P (fun _=>True) 0 j:=hj;clear_value j) | (dsimp -zeta -zetaHave only[j];clear j)) | clear_value j) | (with_reducible first | exact hJ _ | exact hj _ | exact Ok.pure | exact Ok.halt trivial | apply uB | apply bD.2.1 | apply nA | apply bL.2.2.1 | apply lG | apply dB | apply dD | apply nE | apply aQ.2.2.2.1 | apply wE | apply tF | apply iI.2.2.2.2.2.2.2.1 | apply oJ | apply zA | apply vM | apply sH | apply Ok.bind) | intro _ | split)
     · exact nA
   · exact nA
 · exact nA
theorem xV{P:Program}:∀ a1 a2 a3,Ok P (Builtin.close_ a1 a2 a3):=by
 intro a1 a2 a3;obtain⟨l⟩:=a3;rcases l with _ | ⟨x,_ | ⟨y,t⟩⟩
 · exact nA
 · cases x <;> first | exact nA | skip
   rename_i c
   cases c with
   | none=>exact(dB (.plain _):Ok P (runtimePanic _:Sem Value))
   | some r =>
     refine Ok.bind gJ fun o=>?_
     repeat' (first | (with_reducible first | exact Ok.pure | exact Ok.halt trivial | apply dB | apply fI | apply nA | apply Ok.bind | apply Ok.map | apply zC | apply uC | apply eD) | intro _ | split | dsimp only)
 · exact nA
theorem iP{P:Program}:∀ a1 a2 a3,Ok P (Builtin.unsafeSlice_ a1 a2 a3):=by
 intro a1 a2 a3;obtain⟨l⟩:=a3;rcases l with _ | ⟨x,_ | ⟨y,_ | ⟨z,t⟩⟩⟩
 · exact nA
 · exact nA
 · cases x <;> first | exact nA | skip
   refine Ok.bind (lG _) fun n=>?_
   repeat' (first | (with_reducible first | exact Ok.pure | exact Ok.halt trivial | apply lG | apply zA | apply kF.2.1 | apply zH | apply mD | apply bD.2.2.2.2.2.1 | apply dB | apply dD | apply bD.2.1 | apply kF.2.2.2.2.2.2.2.2.1 | apply nH | apply nA | apply Ok.bind | apply Ok.map | apply zC | apply uC | apply eD) | intro _ | split | dsimp only)
 · exact nA
theorem jO{P:Program}:∀ a1 a2 a3,Ok P (Builtin.unsafeString_ a1 a2 a3):=by
 intro a1 a2 a3;obtain⟨l⟩:=a3;rcases l with _ | ⟨x,_ | ⟨y,_ | ⟨z,t⟩⟩⟩
 · exact nA
 · exact nA
 · cases x <;> first | exact nA | skip
   refine Ok.bind (lG _) fun n=>?_
   repeat' (first | (with_reducible first | exact Ok.pure | exact Ok.halt trivial | apply lG | apply zA | apply kF.2.1 | apply zH | apply mD | apply bD.2.2.2.2.2.1 | apply dB | apply dD | apply bD.2.1 | apply kF.2.2.2.2.2.2.2.2.1 | apply nH | apply nA | apply oHA | apply dY | apply Ok.bind | apply Ok.map | apply zC | apply uC | apply eD) | intro _ | split | dsimp only)
 · exact nA
theorem lJA{P:Program}{a1:Array TypeId}{m:ByteArray}:Ok P (do
    if (← choose (.extern "ssa:wrapnilchk.dereferenced" 2)) == 1 then runtimePanic .nilDeref
    let some pt := a1[0]? | stuck "ssa:wrapnilchk: no argument types"
    let .pointer t ← underlying pt | stuck "ssa:wrapnilchk: pointer type expected"
    let .named name _ := (← typeInfo t).desc | stuck "ssa:wrapnilchk: defined type expected"
    let some m := String.fromUTF8? m | stuck "ssa:wrapnilchk: the method's name is not UTF-8"
    let base := (name.splitOn "[").headD ""
    let targs := if base == name then "" else "[...]"
    match ((base.splitOn "/").getLastD "").splitOn "." with
    | [_, typ] => runtimePanic (.plain (toString "value method " ++ toString base ++ toString targs ++ toString "." ++ toString m ++ toString " called using nil *" ++ toString typ ++ toString targs ++ toString " pointer"))
    | _ => unsupported (.noEntry "builtin/ssaWrapNilChk.dot in the package path") : Sem Value) := by
  repeat' (first | (with_reducible first | exact Ok.pure | exact Ok.halt trivial | apply nE | apply dB | apply nA | apply uB | apply dD | apply zA | apply Ok.bind | apply Ok.map | apply zC | apply uC | apply eD) | intro _ | split | dsimp only)
theorem jN{P:Program}:∀ a1 a2 a3,Ok P (Builtin.ssaWrapNilChk_ a1 a2 a3):=by
 intro a1 a2 a3;obtain⟨l⟩:=a3;rcases l with _ | ⟨x,_ | ⟨y,_ | ⟨z,_ | ⟨u,t⟩⟩⟩⟩
 · exact nA
 · exact nA
 · exact nA
 · cases y <;> cases z <;> first | exact nA | skip
   rename_i s m
   cases x<;>first | exact nA | skip
   rename_i p
   cases p with
   | some a=>exact Ok.pure
   | none=>exact lJA (m:=m)
 · exact nA
theorem vK{P:Program}:(∀ a0 a1 a2 a3 a4 a5,Ok P (eqGuard a0 a1 a2 a3 a4 a5))∧(∀ a0 a1 a2 a3,Ok P (Op.Complex.quotient a0 a1 a2 a3))∧(∀ a0 a1 a2,Ok P (Op.addrSub a0 a1 a2))∧(∀ a0 a1 a2,Ok P (Op.addrCmp a0 a1 a2))∧(∀ a0 a1 a2,Ok P (Instr.sliceBound a0 a1 a2))∧(∀ a0 a1,Ok P (fieldPlace a0 a1))∧(∀ a0 a1 a2,Ok P (Instr.indexAt a0 a1 a2))∧(∀ a0 a1 a2,Ok P (Instr.index a0 a1 a2))∧(∀ a0 a1 a2 a3,Ok P (receiverAt a0 a1 a2 a3))∧(∀ a0 a1,Ok P (results a0 a1)):=by
 refine⟨?_,?_,?_,?_,?_,?_,?_,?_,?_,?_⟩<;>intros<;>(first | unfold eqGuard | unfold Op.Complex.quotient | unfold Op.addrSub | unfold Op.addrCmp | unfold Instr.sliceBound | unfold fieldPlace | unfold Instr.indexAt | unfold Instr.index | unfold receiverAt | unfold results) <;>
 repeat' (first | (with_reducible first | exact Ok.pure | exact Ok.halt trivial | apply l8 | apply mD | apply zA | apply yE.2.2.2.2.2.2.2.2.1 | apply bD.2.2.2.2.2.2.2.2.1 | apply pJ.2.2.2.2.2.2.1 | apply yE.2.2.2.2.2.2.1 | apply yE.2.2.2.2.2.2.2.2.2.1 | apply yE.2.2.2.2.2.2.2.1 | apply pJ.2.2.2.2.2.2.2.2.2.1 | apply kF.2.2.2.1 | apply rBA | apply yK.2.2.1 | apply bD.2.1 | apply rF.2.2.2.2.1 | apply nA | apply uB | apply yE.2.2.2.2.2.1 | apply jN | apply yK.2.2.2.2.2.2.2.1 | apply vS | apply yE.2.2.2.2.1 | apply Ok.bind | apply Ok.map | apply kG | apply mG | apply zC | apply uC | apply eD) | intro _ | split | dsimp only)
theorem bNA{P:Program}:∀ a0 a1 a2 a3 a4 a5,Ok P (eqGuard a0 a1 a2 a3 a4 a5):=vK.1
theorem bZ{P:Program}:∀ a0 a1 a2,Ok P (Instr.indexAt a0 a1 a2):=vK.2.2.2.2.2.2.1
theorem eBA{P:Program}:∀ a0 a1 a2,Ok P (Instr.index a0 a1 a2):=vK.2.2.2.2.2.2.2.1
theorem nLA{P:Program}:∀ a0 a1,Ok P (results a0 a1):=vK.2.2.2.2.2.2.2.2.2
theorem uIA{P:Program}:∀ a1 a2 a3 a4,Ok P (nilAhead a1 a2 a3 a4):=by
 intro a1
 induction a1 with
 | zero=>intro a2 a3 a4;exact Ok.pure
 | succ n ih =>
   intro a2 a3 a4;unfold nilAhead
   repeat' (first | (with_reducible first | exact Ok.pure | exact Ok.halt trivial | apply ih | apply uB | apply nA | apply dD | apply jBA | apply Ok.bind | apply Ok.map | apply zC | apply uC | apply eD) | intro _ | split | dsimp only)
theorem yDA{P:Program}:∀ a1 a2 a3 a4,Ok P (Op.equalIn a1 a2 a3 a4):=by
 intro a1
 induction a1 with
 | zero=>intro a2 a3 a4;exact zA
 | succ n ih =>
   intro a2 a3 a4;unfold Op.equalIn
   repeat' (first | (with_reducible first | exact Ok.pure | exact Ok.halt trivial | apply ih | apply uB | apply yE.2.2.2.2.2.1 | apply bD.2.1 | apply dD | apply pJ.2.2.2.2.2.2.2.1 | apply nA | apply nE | apply bD.2.2.2.2.2.2.2.2.2.1 | apply yE.2.2.2.2.2.2.2.2.2.2.1 | apply mD | apply zA | apply dB | apply yE.2.2.2.2.2.2.2.2.2.2.2.1 | apply fV | apply Ok.bind | apply Ok.map | apply zC | apply uC | apply eD) | intro _ | split | dsimp only)
theorem xX{P:Program}:(∀ a0 a1 a2 a3 a4 a5,Ok P (Op.complexOp a0 a1 a2 a3 a4 a5))∧(∀ a0 a1 a2,Ok P (Op.equal a0 a1 a2))∧(∀ a0 a1 a2 a3 a4 a5,Ok P (Instr.sliceBounds a0 a1 a2 a3 a4 a5))∧(∀ a0 a1 a2,Ok P (Instr.fieldAt a0 a1 a2)):=by
 refine⟨?_,?_,?_,?_⟩<;>intros<;>(first | unfold Op.complexOp | unfold Op.equal | unfold Instr.sliceBounds | unfold Instr.fieldAt) <;>
 repeat' (first | (with_reducible first | exact Ok.pure | exact Ok.halt trivial | apply bD.2.2.2.2.2.2.1 | apply bD.2.2.2.2.2.2.2.2.1 | apply bD.2.2.2.2.2.2.2.1 | apply pJ.2.2.2.2.2.1 | apply vK.2.1 | apply nA | apply yDA | apply vK.2.2.2.2.1 | apply rF.2.2.2.2.1 | apply vK.2.2.2.2.2.1 | apply uB | apply Ok.bind | apply Ok.map | apply kG | apply mG | apply zC | apply uC | apply eD) | intro _ | split | dsimp only)
theorem fZ{P:Program}:∀ a0 a1 a2,Ok P (Instr.fieldAt a0 a1 a2):=xX.2.2.2
theorem uEA{P:Program}:∀ a1 a2 a3,Ok P (follow a1 a2 a3):=by
 intro a1
 induction a1 with
 | nil=>exact fun _ _=>Ok.pure
 | cons s l ih =>
   intro a2 a3;unfold follow
   repeat' (first | (with_reducible first | exact Ok.pure | exact Ok.halt trivial | apply ih | apply uB | apply nA | apply vS | apply yK.2.2.2.2.2.2.2.1 | apply vK.2.2.2.2.2.1 | apply yE.2.2.2.2.2.1 | apply Ok.bind | apply Ok.map | apply zC | apply uC | apply eD) | intro _ | split | dsimp only)
theorem cPA{P:Program}:(∀ a0 a1 a2 a3,Ok P (binOp a0 a1 a2 a3))∧(∀ a0 a1 a2 a3 a4,Ok P (Instr.slice a0 a1 a2 a3 a4))∧(∀ a0 a1 a2 a3,Ok P (receiverVia a0 a1 a2 a3)):=by
 refine⟨?_,?_,?_⟩<;>intros<;>(first | unfold binOp | unfold Instr.slice | unfold receiverVia) <;>
 repeat' (first | (with_reducible first | exact Ok.pure | exact Ok.halt trivial | apply vK.2.2.2.1 | apply pJ.2.2.2.2.2.2.2.2.2.2.1 | apply vK.2.2.1 | apply xX.1 | apply xX.2.1 | apply rF.2.2.2.2.2.2.2.2.2.2.1 | apply rF.2.2.2.2.2.2.2.2.2.2.2.1 | apply rF.2.2.2.2.2.2.2.1 | apply rF.2.2.2.2.2.2.2.2.1 | apply rF.2.2.2.2.2.2.2.2.2.1 | apply pJ.2.2.2.2.1 | apply pJ.2.2.2.1 | apply rF.2.2.2.2.2.2.2.2.2.2.2.2.2 | apply bD.2.2.2.2.2.2.2.2.2.1 | apply kDA | apply pJ.2.2.2.2.2.2.2.2.1 | apply nA | apply uB | apply zA | apply xX.2.2.1 | apply vS | apply bD.2.1 | apply uEA | apply vK.2.2.2.2.2.2.2.2.1 | apply Ok.bind | apply Ok.map | apply kG | apply mG | apply zC | apply uC | apply eD) | intro _ | split | dsimp only)
theorem qUA{P:Program}:∀ a0 a1 a2 a3,Ok P (binOp a0 a1 a2 a3):=cPA.1
theorem eAA{P:Program}:∀ a0 a1 a2 a3,Ok P (receiverVia a0 a1 a2 a3):=cPA.2.2
theorem kT{P:Program}:∀ a1 a2 a3 a4,Ok P (Instr.findAsking a1 a2 a3 a4):=by
 intro a1 a2 a3
 induction a3 with
 | nil=>intro a4;exact Ok.pure
 | cons e l ih =>
   intro a4;unfold Instr.findAsking
   repeat' (first | (with_reducible first | exact Ok.pure | exact Ok.halt trivial | apply ih | apply xX.2.1 | apply Ok.bind | apply Ok.map | apply zC | apply uC | apply eD) | intro _ | split | dsimp only)
theorem xTA{P:Program}:∀ a1 a2 a3 a4,Ok P (method a1 a2 a3 a4):=by
 intro a1
 induction a1 with
 | zero=>exact fun _ _ _=>zA
 | succ n ih =>
   intro a2 a3 a4;unfold method
   repeat' (first | (with_reducible first | exact Ok.pure | exact Ok.halt trivial | apply ih | apply dD | apply nA | apply uEA | apply yK.2.2.2.2.2.2.2.1 | apply dB | apply vK.2.2.2.2.2.2.2.2.1 | apply Ok.bind | apply Ok.map | apply zC | apply uC | apply eD) | intro _ | split | dsimp only)
theorem vUA{P:Program}:(∀ a0 a1 a2 a3 a4,Ok P (Instr.sliceAt a0 a1 a2 a3 a4))∧(∀ a0 a1 a2,Ok P (Instr.findKey a0 a1 a2)):=by
 refine⟨?_,?_⟩<;>intros<;>(first | unfold Instr.sliceAt | unfold Instr.findKey) <;>
 repeat' (first | (with_reducible first | exact Ok.pure | exact Ok.halt trivial | apply cPA.2.1 | apply xX.2.2.1 | apply rF.2.2.2.2.1 | apply bD.2.1 | apply uB | apply kT | apply Ok.bind | apply Ok.map | apply kG | apply mG | apply zC | apply uC | apply eD) | intro _ | split | dsimp only)
theorem yY{P:Program}:∀ a0 a1 a2 a3 a4,Ok P (Instr.sliceAt a0 a1 a2 a3 a4):=vUA.1
theorem fGA{P:Program}:(∀ a0 a1 a2 a3,Ok P (Instr.lookup a0 a1 a2 a3))∧(∀ a0 a1 a2 a3,Ok P (Instr.mapUpdate a0 a1 a2 a3))∧(∀ a0 a1 a2,Ok P (Instr.mapEntry a0 a1 a2))∧(∀ a0 a1 a2,Ok P (Builtin.delete_ a0 a1 a2)):=by
 refine⟨?_,?_,?_,?_⟩<;>intros<;>(first | unfold Instr.lookup | unfold Instr.mapUpdate | unfold Instr.mapEntry | unfold Builtin.delete_) <;>
 repeat' (first | (with_reducible first | exact Ok.pure | exact Ok.halt trivial | apply pV | apply vUA.2 | apply gJ | apply nA | apply uB | apply wE | apply kF.2.2.2.2.2.2.2.2.2.2.1 | apply dB | apply fI | apply Ok.bind | apply Ok.map | apply kG | apply mG | apply zC | apply uC | apply eD) | intro _ | split | dsimp only)
theorem q8{P:Program}:∀ a0 a1 a2 a3,Ok P (Instr.lookup a0 a1 a2 a3):=fGA.1
theorem bM{P:Program}:∀ a0 a1 a2 a3,Ok P (Instr.mapUpdate a0 a1 a2 a3):=fGA.2.1
theorem sW{P:Program}:∀ a0 a1 a2,Ok P (Instr.mapEntry a0 a1 a2):=fGA.2.2.1
theorem vU{P:Program}:∀ a0 a1 a2,Ok P (Builtin.delete_ a0 a1 a2):=fGA.2.2.2
end Go.Lx
