/- Part 3 of what the proof rests on. -/
import Derived.Laws.Sem
import Derived.Test.YtkmbmgmfcecfkaaDoorK02
set_option linter.unusedSimpArgs false
set_option linter.unusedVariables false
namespace Go.Lx
variable {α β : Type}
theorem Safe.bind {P : Program} {ψ : α → Prop} {φ : β → Prop} {s : Sem α} {f : α → Sem β} : ∀ {d : Nat}, Safe P ψ d s → (∀ a, ψ a → Safe P φ 0 (f a)) → Safe P φ d (s.bind f) := by
  induction s with
  | pure a => rintro d ⟨rfl, h⟩ hf; exact hf a h
  | load m a k ih => exact fun h hf v => ih v (h v) hf
  | store m a v k ih => exact fun h hf => ih h hf
  | new o k ih => exact fun h hf r => ih r (h r) hf
  | shape r k ih => exact fun h hf v => ih v (h v) hf
  | freeze a n k ih => exact fun h hf => ih h hf
  | frozen a k ih => exact fun h hf v => ih v (h v) hf
  | getObj r k ih => exact fun h hf v => ih v (h v) hf
  | setObj r o k ih => exact fun h hf => ih h hf
  | choose q k ih => exact fun h hf v => ih v (h v) hf
  | sys c k ih =>
    rintro d ⟨⟨x, hd, hx⟩, h⟩ hf
    exact ⟨⟨x, hd, by show (k SysRet.wouldBlock).bind f = _; rw [hx]; rfl⟩, fun v => ih v (h v) hf⟩
  | program k ih => exact fun h hf => ih _ h hf
  | mark m k ih =>
    intro d h hf
    cases m with
    | disable => exact ih h hf
    | enable => exact ⟨h.1, ih h.2 hf⟩
    | _ => exact ih h hf
  | halt h' => exact fun h _ => h
abbrev Ok (P : Program) (s : Sem α) : Prop := Safe P (fun _ => True) 0 s
theorem Ok.bind {P : Program} {φ : β → Prop} {s : Sem α} {f : α → Sem β} (h : Ok P s) (hf : ∀ a, Safe P φ 0 (f a)) : Safe P φ 0 (s >>= f) := Safe.bind h fun a _ => hf a
theorem Ok.pure {P : Program} {a : α} : Ok P (Pure.pure a : Sem α) := ⟨rfl, trivial⟩
theorem Ok.halt {P : Program} {φ : α → Prop} {h : Halt} (hq : calm h) : Safe P φ 0 (.halt h) := ⟨hq, .inl rfl⟩
theorem Ok.map {P : Program} {f : α → β} {s : Sem α} (h : Ok P s) : Ok P (f <$> s) := Safe.bind h fun _ _ => ⟨rfl, trivial⟩
theorem jp {γ : Type} {P : Program} {φ : β → Prop} (j : γ → Sem β) (Q : Prop) (hj : ∀ r, Safe P φ 0 (j r)) (h : (∀ r, Safe P φ 0 (j r)) → Q) : Q := h hj
theorem jq {P : Program} (j : Sem β) (Q : Prop) (hj : Ok P j) (h : Ok P j → Q) : Q := h hj
theorem ok_mapL {P : Program} {f : α → Sem β} (h : ∀ a, Ok P (f a)) (l : List α) : Ok P (l.mapM f) := by
  have key : ∀ (l : List α) (acc : List β), Ok P (List.mapM.loop f l acc) := by
    intro l
    induction l with
    | nil => exact fun acc => Ok.pure
    | cons a l ih => exact fun acc => Ok.bind (h a) fun b => ih _
  exact key l []
theorem ok_mapA {P : Program} {f : α → Sem β} {l : Array α} (h : ∀ a, Ok P (f a)) : Ok P (l.mapM f) := by
  rw [Array.mapM_eq_mapM_toList]
  exact Ok.map (ok_mapL h _)
theorem ok_forL {P : Program} {f : α → β → Sem (ForInStep β)} {l : List α} {b : β} (h : ∀ a b, Ok P (f a b)) : Ok P (forIn l b f) := by
  induction l generalizing b with
  | nil => exact Ok.pure
  | cons a l ih =>
    rw [List.forIn_cons]
    refine Ok.bind (h a b) fun r => ?_
    cases r with
    | done b => exact Ok.pure
    | yield b => exact ih
theorem ok_forA {P : Program} {f : α → β → Sem (ForInStep β)} {l : Array α} {b : β} (h : ∀ a b, Ok P (f a b)) : Ok P (forIn l b f) := by
  rw [← Array.forIn_toList]
  exact ok_forL h
theorem ok_forR {P : Program} {f : Nat → β → Sem (ForInStep β)} {l : Std.Legacy.Range} {b : β} (h : ∀ a b, Ok P (f a b)) : Ok P (forIn l b f) := by
  rw [Std.Legacy.Range.forIn_eq_forIn_range']
  exact ok_forL h
theorem ok_foldL {P : Program} {f : β → α → Sem β} (h : ∀ b a, Ok P (f b a)) (l : List α) : ∀ b, Ok P (l.foldlM f b) := by
  induction l with
  | nil => exact fun b => Ok.pure
  | cons a l ih => exact fun b => Ok.bind (h b a) fun c => ih c
theorem ok_forR' {P : Program} {l : Std.Legacy.Range} {f : (a : Nat) → a ∈ l → β → Sem (ForInStep β)} {b : β} (h : ∀ a m b, Ok P (f a m b)) : Ok P (forIn' l b f) := by
  rw [Std.Legacy.Range.forIn'_eq_forIn'_range']
  have key : ∀ (L : List Nat) (g : (a : Nat) → a ∈ L → β → Sem (ForInStep β)) (b : β), (∀ a m b, Ok P (g a m b)) → Ok P (forIn' L b g) := by
    intro L
    induction L with
    | nil => exact fun g b _ => Ok.pure
    | cons a L ih =>
      intro g b hg
      rw [List.forIn'_cons]
      refine Ok.bind (hg _ _ _) fun r => ?_
      cases r with
      | done b => exact Ok.pure
      | yield b => exact ih _ _ fun _ _ _ => hg _ _ _
  exact key _ _ _ fun _ _ _ => h _ _ _
theorem ok_load {P : Program} {a m} : Ok P (load a m) := fun _ => ⟨rfl, trivial⟩
theorem ok_store {P : Program} {a v m} : Ok P (store a v m) := ⟨rfl, trivial⟩
theorem ok_newObj {P : Program} {o} : Ok P (newObj o) := fun _ => ⟨rfl, trivial⟩
theorem ok_shape {P : Program} {o} : Ok P (shape o) := fun _ => ⟨rfl, trivial⟩
theorem ok_freeze {P : Program} {a n} : Ok P (freeze a n) := ⟨rfl, trivial⟩
theorem ok_frozen {P : Program} {a} : Ok P (frozen a) := fun _ => ⟨rfl, trivial⟩
theorem ok_getObj {P : Program} {a} : Ok P (getObj a) := fun _ => ⟨rfl, trivial⟩
theorem ok_setObj {P : Program} {a o} : Ok P (setObj a o) := ⟨rfl, trivial⟩
theorem ok_choose {P : Program} {a} : Ok P (choose a) := fun _ => ⟨rfl, trivial⟩
theorem ok_program {P : Program} : Ok P program := ⟨rfl, trivial⟩
theorem ok_stuck {P : Program} {φ : α → Prop} {a} : Safe P φ 0 (stuck a : Sem α) := ⟨trivial, .inl rfl⟩
theorem ok_unsupported {P : Program} {φ : α → Prop} {a} : Safe P φ 0 (unsupported a : Sem α) := ⟨trivial, .inl rfl⟩
theorem ok_goPanic {P : Program} {φ : α → Prop} {a} : Safe P φ 0 (goPanic a : Sem α) := ⟨trivial, .inl rfl⟩
theorem ok_throw {P : Program} {φ : α → Prop} {a} : Safe P φ 0 (throw a : Sem α) := ⟨trivial, .inl rfl⟩
theorem ok_askRoom {P : Program} {n} : Ok P (askRoom n) := by
  unfold askRoom; split
  · exact ⟨rfl, trivial⟩
  · exact ⟨rfl, trivial⟩
theorem ok_mark_noRoom {P : Program} : Ok P (mark .noRoom) := ⟨rfl, trivial⟩
theorem ok_writeFd {P : Program} {a b} : Ok P (writeFd a b) := by
  unfold writeFd
  refine ⟨⟨.unsupported (.noEntry _), trivial, rfl⟩, fun r => ?_⟩
  cases r <;> first | exact ⟨rfl, trivial⟩ | exact ⟨trivial, .inl rfl⟩
theorem ok_asBool {P : Program} : ∀ a1, Ok P (asBool a1) := by
  intro a1; unfold asBool
  repeat' (first | (with_reducible exact Ok.pure) | (with_reducible exact Ok.halt trivial) | (with_reducible apply ok_stuck) | (with_reducible apply Ok.bind) | (with_reducible apply Ok.map) | (with_reducible apply ok_mapA) | (with_reducible apply ok_mapL) | (with_reducible apply ok_forA) | (with_reducible apply ok_forL) | (with_reducible apply ok_forR) | intro _ | split | dsimp only)
theorem ok_typeInfo {P : Program} : ∀ a1, Ok P (typeInfo a1) := by
  intro a1; unfold typeInfo
  repeat' (first | (with_reducible exact Ok.pure) | (with_reducible exact Ok.halt trivial) | (with_reducible apply ok_stuck) | (with_reducible apply ok_program) | (with_reducible apply Ok.bind) | (with_reducible apply Ok.map) | (with_reducible apply ok_mapA) | (with_reducible apply ok_mapL) | (with_reducible apply ok_forA) | (with_reducible apply ok_forL) | (with_reducible apply ok_forR) | intro _ | split | dsimp only)
theorem ok_zeroValue {P : Program} : ∀ a1, Ok P (zeroValue a1) := by
  intro a1; unfold zeroValue
  repeat' (first | (with_reducible exact Ok.pure) | (with_reducible exact Ok.halt trivial) | (with_reducible apply ok_typeInfo) | (with_reducible apply ok_unsupported) | (with_reducible apply Ok.bind) | (with_reducible apply Ok.map) | (with_reducible apply ok_mapA) | (with_reducible apply ok_mapL) | (with_reducible apply ok_forA) | (with_reducible apply ok_forL) | (with_reducible apply ok_forR) | intro _ | split | dsimp only)
theorem ok_sizeOf {P : Program} : ∀ a1, Ok P (sizeOf a1) := by
  intro a1; unfold sizeOf
  repeat' (first | (with_reducible exact Ok.pure) | (with_reducible exact Ok.halt trivial) | (with_reducible apply ok_typeInfo) | (with_reducible apply Ok.bind) | (with_reducible apply Ok.map) | (with_reducible apply ok_mapA) | (with_reducible apply ok_mapL) | (with_reducible apply ok_forA) | (with_reducible apply ok_forL) | (with_reducible apply ok_forR) | intro _ | split | dsimp only)
theorem ok_storeCells {P : Program} : ∀ a1 a2 a3, Ok P (storeCells a1 a2 a3) := by
  intro a1 a2
  induction a2 with
  | nil => exact fun _ => Ok.pure
  | cons v l ih => exact fun a3 => Ok.bind ok_store fun _ => ih _
theorem ok_storeVar {P : Program} : ∀ a1 a2 a3, Ok P (storeVar a1 a2 a3) := by
  intro a1 a2 a3; unfold storeVar
  repeat' (first | (with_reducible exact Ok.pure) | (with_reducible exact Ok.halt trivial) | (with_reducible apply ok_sizeOf) | (with_reducible apply ok_stuck) | (with_reducible apply ok_storeCells) | (with_reducible apply Ok.bind) | (with_reducible apply Ok.map) | (with_reducible apply ok_mapA) | (with_reducible apply ok_mapL) | (with_reducible apply ok_forA) | (with_reducible apply ok_forL) | (with_reducible apply ok_forR) | intro _ | split | dsimp only)
theorem ok_newRow {P : Program} : ∀ a1 a2, Ok P (newRow a1 a2) := by
  intro a1 a2; unfold newRow
  repeat' (first | (with_reducible exact Ok.pure) | (with_reducible exact Ok.halt trivial) | (with_reducible apply ok_newObj) | (with_reducible apply Ok.bind) | (with_reducible apply Ok.map) | (with_reducible apply ok_mapA) | (with_reducible apply ok_mapL) | (with_reducible apply ok_forA) | (with_reducible apply ok_forL) | (with_reducible apply ok_forR) | intro _ | split | dsimp only)
theorem ok_newVar {P : Program} : ∀ a1 a2, Ok P (newVar a1 a2) := by
  intro a1 a2; unfold newVar
  repeat' (first | (with_reducible exact Ok.pure) | (with_reducible exact Ok.halt trivial) | (with_reducible apply ok_newRow) | (with_reducible apply Ok.bind) | (with_reducible apply Ok.map) | (with_reducible apply ok_mapA) | (with_reducible apply ok_mapL) | (with_reducible apply ok_forA) | (with_reducible apply ok_forL) | (with_reducible apply ok_forR) | intro _ | split | dsimp only)
theorem ok_Instr_alloc {P : Program} : ∀ a1 a2 a3, Ok P (Instr.alloc a1 a2 a3) := by
  intro a1 a2 a3; unfold Instr.alloc
  repeat' (first | (with_reducible exact Ok.pure) | (with_reducible exact Ok.halt trivial) | (with_reducible apply ok_zeroValue) | (with_reducible apply ok_storeVar) | (with_reducible apply ok_newVar) | (with_reducible apply Ok.bind) | (with_reducible apply Ok.map) | (with_reducible apply ok_mapA) | (with_reducible apply ok_mapL) | (with_reducible apply ok_forA) | (with_reducible apply ok_forL) | (with_reducible apply ok_forR) | intro _ | split | dsimp only)
theorem ok_Instr_box {P : Program} : ∀ a1 a2, Ok P (Instr.box a1 a2) := by
  intro a1 a2; unfold Instr.box
  repeat' (first | (with_reducible exact Ok.pure) | (with_reducible exact Ok.halt trivial) | (with_reducible apply ok_newVar) | (with_reducible apply Ok.bind) | (with_reducible apply Ok.map) | (with_reducible apply ok_mapA) | (with_reducible apply ok_mapL) | (with_reducible apply ok_forA) | (with_reducible apply ok_forL) | (with_reducible apply ok_forR) | intro _ | split | dsimp only)
theorem ok_underlying {P : Program} : ∀ a1, Ok P (underlying a1) := by
  intro a1; unfold underlying
  repeat' (first | (with_reducible exact Ok.pure) | (with_reducible exact Ok.halt trivial) | (with_reducible apply ok_stuck) | (with_reducible apply ok_program) | (with_reducible apply Ok.bind) | (with_reducible apply Ok.map) | (with_reducible apply ok_mapA) | (with_reducible apply ok_mapL) | (with_reducible apply ok_forA) | (with_reducible apply ok_forL) | (with_reducible apply ok_forR) | intro _ | split | dsimp only)
theorem ok_Instr_build {P : Program} : ∀ a1 a2, Ok P (Instr.build a1 a2) := by
  intro a1 a2; unfold Instr.build
  repeat' (first | (with_reducible exact Ok.pure) | (with_reducible exact Ok.halt trivial) | (with_reducible apply ok_zeroValue) | (with_reducible apply ok_sizeOf) | (with_reducible apply ok_stuck) | (with_reducible apply ok_underlying) | (with_reducible apply Ok.bind) | (with_reducible apply Ok.map) | (with_reducible apply ok_mapA) | (with_reducible apply ok_mapL) | (with_reducible apply ok_forA) | (with_reducible apply ok_forL) | (with_reducible apply ok_forR) | intro _ | split | dsimp only)
theorem ok_Instr_buildSlice {P : Program} : ∀ a1 a2 a3, Ok P (Instr.buildSlice a1 a2 a3) := by
  intro a1 a2 a3; unfold Instr.buildSlice
  repeat' (first | (with_reducible exact Ok.pure) | (with_reducible exact Ok.halt trivial) | (with_reducible apply ok_zeroValue) | (with_reducible apply ok_sizeOf) | (with_reducible apply ok_newRow) | (with_reducible apply ok_stuck) | (with_reducible apply ok_unsupported) | (with_reducible apply ok_underlying) | (with_reducible apply Ok.bind) | (with_reducible apply Ok.map) | (with_reducible apply ok_mapA) | (with_reducible apply ok_mapL) | (with_reducible apply ok_forA) | (with_reducible apply ok_forL) | (with_reducible apply ok_forR) | intro _ | split | dsimp only)
theorem ok_Instr_sureAddr {P : Program} : ∀ a1, Ok P (Instr.sureAddr a1) := by
  intro a1; unfold Instr.sureAddr
  repeat' (first | (with_reducible exact Ok.pure) | (with_reducible exact Ok.halt trivial) | (with_reducible apply ok_stuck) | (with_reducible apply Ok.bind) | (with_reducible apply Ok.map) | (with_reducible apply ok_mapA) | (with_reducible apply ok_mapL) | (with_reducible apply ok_forA) | (with_reducible apply ok_forL) | (with_reducible apply ok_forR) | intro _ | split | dsimp only)
theorem ok_isAgg {P : Program} : ∀ a1, Ok P (isAgg a1) := by
  intro a1; unfold isAgg
  repeat' (first | (with_reducible exact Ok.pure) | (with_reducible exact Ok.halt trivial) | (with_reducible apply ok_underlying) | (with_reducible apply Ok.bind) | (with_reducible apply Ok.map) | (with_reducible apply ok_mapA) | (with_reducible apply ok_mapL) | (with_reducible apply ok_forA) | (with_reducible apply ok_forL) | (with_reducible apply ok_forR) | intro _ | split | dsimp only)
theorem ok_loadCellsFrom {P : Program} : ∀ a1 a2 a3 a4, Ok P (loadCellsFrom a1 a2 a3 a4) := by
  intro a1 a2 a3
  induction a3 generalizing a2 with
  | zero => exact fun _ => Ok.pure
  | succ n ih => exact fun a4 => Ok.bind ok_load fun _ => ih _ _
theorem ok_loadCells {P : Program} : ∀ a1 a2, Ok P (loadCells a1 a2) := by
  intro a1 a2; unfold loadCells
  repeat' (first | (with_reducible exact Ok.pure) | (with_reducible exact Ok.halt trivial) | (with_reducible apply ok_loadCellsFrom) | (with_reducible apply Ok.bind) | (with_reducible apply Ok.map) | (with_reducible apply ok_mapA) | (with_reducible apply ok_mapL) | (with_reducible apply ok_forA) | (with_reducible apply ok_forL) | (with_reducible apply ok_forR) | intro _ | split | dsimp only)
theorem ok_loadVar {P : Program} : ∀ a1 a2, Ok P (loadVar a1 a2) := by
  intro a1 a2; unfold loadVar
  repeat' (first | (with_reducible exact Ok.pure) | (with_reducible exact Ok.halt trivial) | (with_reducible apply ok_isAgg) | (with_reducible apply ok_sizeOf) | (with_reducible apply ok_loadCells) | (with_reducible apply ok_load) | (with_reducible apply Ok.bind) | (with_reducible apply Ok.map) | (with_reducible apply ok_mapA) | (with_reducible apply ok_mapL) | (with_reducible apply ok_forA) | (with_reducible apply ok_forL) | (with_reducible apply ok_forR) | intro _ | split | dsimp only)
theorem ok_Instr_loadAt {P : Program} : ∀ a1 a2, Ok P (Instr.loadAt a1 a2) := by
  intro a1 a2; unfold Instr.loadAt
  repeat' (first | (with_reducible exact Ok.pure) | (with_reducible exact Ok.halt trivial) | (with_reducible apply ok_loadVar) | (with_reducible apply ok_Instr_sureAddr) | (with_reducible apply Ok.bind) | (with_reducible apply Ok.map) | (with_reducible apply ok_mapA) | (with_reducible apply ok_mapL) | (with_reducible apply ok_forA) | (with_reducible apply ok_forL) | (with_reducible apply ok_forR) | intro _ | split | dsimp only)
theorem ok_Instr_storeAt {P : Program} : ∀ a1 a2 a3, Ok P (Instr.storeAt a1 a2 a3) := by
  intro a1 a2 a3; unfold Instr.storeAt
  repeat' (first | (with_reducible exact Ok.pure) | (with_reducible exact Ok.halt trivial) | (with_reducible apply ok_storeVar) | (with_reducible apply ok_Instr_sureAddr) | (with_reducible apply Ok.bind) | (with_reducible apply Ok.map) | (with_reducible apply ok_mapA) | (with_reducible apply ok_mapL) | (with_reducible apply ok_forA) | (with_reducible apply ok_forL) | (with_reducible apply ok_forR) | intro _ | split | dsimp only)
theorem ok_Instr_ready {P : Program} : ∀ a1, Ok P (Instr.ready a1) := by
  intro a1; unfold Instr.ready
  repeat' (first | (with_reducible exact Ok.pure) | (with_reducible exact Ok.halt trivial) | (with_reducible apply ok_getObj) | (with_reducible apply ok_stuck) | (with_reducible apply ok_setObj) | (with_reducible apply ok_shape) | (with_reducible apply Ok.bind) | (with_reducible apply Ok.map) | (with_reducible apply ok_mapA) | (with_reducible apply ok_mapL) | (with_reducible apply ok_forA) | (with_reducible apply ok_forL) | (with_reducible apply ok_forR) | intro _ | split | dsimp only)
theorem ok_Instr_waits {P : Program} : ∀ a1, Ok P (Instr.waits a1) := by
  intro a1; unfold Instr.waits
  repeat' (first | (with_reducible exact Ok.pure) | (with_reducible exact Ok.halt trivial) | (with_reducible apply ok_shape) | (with_reducible apply Ok.bind) | (with_reducible apply Ok.map) | (with_reducible apply ok_mapA) | (with_reducible apply ok_mapL) | (with_reducible apply ok_forA) | (with_reducible apply ok_forL) | (with_reducible apply ok_forR) | intro _ | split | dsimp only)
theorem ok_elemOf {P : Program} : ∀ a1, Ok P (elemOf a1) := by
  intro a1; unfold elemOf
  repeat' (first | (with_reducible exact Ok.pure) | (with_reducible exact Ok.halt trivial) | (with_reducible apply ok_stuck) | (with_reducible apply ok_underlying) | (with_reducible apply Ok.bind) | (with_reducible apply Ok.map) | (with_reducible apply ok_mapA) | (with_reducible apply ok_mapL) | (with_reducible apply ok_forA) | (with_reducible apply ok_forL) | (with_reducible apply ok_forR) | intro _ | split | dsimp only)
theorem ok_runtimePanic {P : Program} {φ : α → Prop} : ∀ a1, Safe P φ 0 (runtimePanic a1 : Sem α) := by
  intro a1; unfold runtimePanic
  repeat' (first | (with_reducible apply ok_program) | (with_reducible apply ok_goPanic) | (with_reducible apply ok_newVar) | (with_reducible apply ok_elemOf) | (with_reducible apply Ok.bind) | intro _ | split | dsimp only)
theorem ok_part {P : Program} : ∀ a1 a2 a3, Ok P (part a1 a2 a3) := by
  intro a1 a2 a3; unfold part
  repeat' (first | (with_reducible exact Ok.pure) | (with_reducible exact Ok.halt trivial) | (with_reducible apply ok_isAgg) | (with_reducible apply ok_sizeOf) | (with_reducible apply ok_stuck) | (with_reducible apply Ok.bind) | (with_reducible apply Ok.map) | (with_reducible apply ok_mapA) | (with_reducible apply ok_mapL) | (with_reducible apply ok_forA) | (with_reducible apply ok_forL) | (with_reducible apply ok_forR) | intro _ | split | dsimp only)
theorem ok_followBlind {P : Program} : ∀ a1 a2 a3, Ok P (followBlind a1 a2 a3) := by
  intro a1
  induction a1 with
  | nil => intro a2 a3; exact Ok.pure
  | cons s l ih =>
    intro a2 a3; unfold followBlind
    repeat' (first | (with_reducible exact Ok.pure) | (with_reducible exact Ok.halt trivial) | (with_reducible apply ih) | (with_reducible apply ok_underlying) | (with_reducible apply ok_stuck) | (with_reducible apply ok_part) | (with_reducible apply Ok.bind) | (with_reducible apply Ok.map) | (with_reducible apply ok_forA) | (with_reducible apply ok_forL) | (with_reducible apply ok_forR) | intro _ | split | dsimp only)
theorem ok_nilAhead {P : Program} : ∀ a1 a2 a3 a4, Ok P (nilAhead a1 a2 a3 a4) := by
  intro a1
  induction a1 with
  | zero => intro a2 a3 a4; exact Ok.pure
  | succ n ih =>
    intro a2 a3 a4; unfold nilAhead
    repeat' (first | (with_reducible exact Ok.pure) | (with_reducible exact Ok.halt trivial) | (with_reducible apply ih) | (with_reducible apply ok_underlying) | (with_reducible apply ok_stuck) | (with_reducible apply ok_typeInfo) | (with_reducible apply ok_followBlind) | (with_reducible apply Ok.bind) | (with_reducible apply Ok.map) | (with_reducible apply ok_forA) | (with_reducible apply ok_forL) | (with_reducible apply ok_forR) | intro _ | split | dsimp only)
theorem ok_Op_eqGuardIn {P : Program} : ∀ a1 a2 a3 a4, Ok P (Op.eqGuardIn a1 a2 a3 a4) := by
  intro a1
  induction a1 with
  | zero => intro a2 a3 a4; exact ok_unsupported
  | succ n ih =>
    intro a2 a3 a4; unfold Op.eqGuardIn
    repeat' (first | (with_reducible exact Ok.pure) | (with_reducible exact Ok.halt trivial) | (with_reducible apply ih) | (with_reducible apply ok_underlying) | (with_reducible apply ok_part) | (with_reducible apply ok_sizeOf) | (with_reducible apply Ok.bind) | (with_reducible apply Ok.map) | (with_reducible apply ok_forA) | (with_reducible apply ok_forL) | (with_reducible apply ok_forR) | intro _ | split | dsimp only)
theorem ok_eqGuard {P : Program} : ∀ a1 a2 a3 a4 a5 a6, Ok P (eqGuard a1 a2 a3 a4 a5 a6) := by
  intro a1 a2 a3 a4 a5 a6; unfold eqGuard
  repeat' (first | (with_reducible exact Ok.pure) | (with_reducible exact Ok.halt trivial) | (with_reducible apply ok_Op_eqGuardIn) | (with_reducible apply ok_program) | (with_reducible apply ok_unsupported) | (with_reducible apply Ok.bind) | (with_reducible apply Ok.map) | (with_reducible apply ok_mapA) | (with_reducible apply ok_mapL) | (with_reducible apply ok_forA) | (with_reducible apply ok_forL) | (with_reducible apply ok_forR) | intro _ | split | dsimp only)
theorem ok_Op_shift {P : Program} : ∀ a1 a2 a3 a4 a5, Ok P (Op.shift a1 a2 a3 a4 a5) := by
  intro a1 a2 a3 a4 a5; unfold Op.shift
  repeat' (first | (with_reducible exact Ok.pure) | (with_reducible exact Ok.halt trivial) | (with_reducible apply ok_stuck) | (with_reducible apply ok_runtimePanic) | (with_reducible apply Ok.bind) | (with_reducible apply Ok.map) | (with_reducible apply ok_mapA) | (with_reducible apply ok_mapL) | (with_reducible apply ok_forA) | (with_reducible apply ok_forL) | (with_reducible apply ok_forR) | intro _ | split | dsimp only)
theorem ok_Op_intArith {P : Program} : ∀ a1 a2 a3 a4, Ok P (Op.intArith a1 a2 a3 a4) := by
  intro a1 a2 a3 a4; unfold Op.intArith
  repeat' (first | (with_reducible exact Ok.pure) | (with_reducible exact Ok.halt trivial) | (with_reducible apply ok_stuck) | (with_reducible apply Ok.bind) | (with_reducible apply Ok.map) | (with_reducible apply ok_mapA) | (with_reducible apply ok_mapL) | (with_reducible apply ok_forA) | (with_reducible apply ok_forL) | (with_reducible apply ok_forR) | intro _ | split | dsimp only)
theorem ok_Op_intDiv {P : Program} : ∀ a1 a2 a3 a4, Ok P (Op.intDiv a1 a2 a3 a4) := by
  intro a1 a2 a3 a4; unfold Op.intDiv
  repeat' (first | (with_reducible exact Ok.pure) | (with_reducible exact Ok.halt trivial) | (with_reducible apply ok_stuck) | (with_reducible apply ok_runtimePanic) | (with_reducible apply Ok.bind) | (with_reducible apply Ok.map) | (with_reducible apply ok_mapA) | (with_reducible apply ok_mapL) | (with_reducible apply ok_forA) | (with_reducible apply ok_forL) | (with_reducible apply ok_forR) | intro _ | split | dsimp only)
theorem ok_Op_intBits {P : Program} : ∀ a1 a2 a3 a4, Ok P (Op.intBits a1 a2 a3 a4) := by
  intro a1 a2 a3 a4; unfold Op.intBits
  repeat' (first | (with_reducible exact Ok.pure) | (with_reducible exact Ok.halt trivial) | (with_reducible apply ok_stuck) | (with_reducible apply Ok.bind) | (with_reducible apply Ok.map) | (with_reducible apply ok_mapA) | (with_reducible apply ok_mapL) | (with_reducible apply ok_forA) | (with_reducible apply ok_forL) | (with_reducible apply ok_forR) | intro _ | split | dsimp only)
theorem ok_Op_intCmp {P : Program} : ∀ a1 a2 a3, Ok P (Op.intCmp a1 a2 a3) := by
  intro a1 a2 a3; unfold Op.intCmp
  repeat' (first | (with_reducible exact Ok.pure) | (with_reducible exact Ok.halt trivial) | (with_reducible apply ok_stuck) | (with_reducible apply Ok.bind) | (with_reducible apply Ok.map) | (with_reducible apply ok_mapA) | (with_reducible apply ok_mapL) | (with_reducible apply ok_forA) | (with_reducible apply ok_forL) | (with_reducible apply ok_forR) | intro _ | split | dsimp only)
theorem ok_Op_floatArith {P : Program} : ∀ a1 a2 a3 a4, Ok P (Op.floatArith a1 a2 a3 a4) := by
  intro a1 a2 a3 a4; unfold Op.floatArith
  repeat' (first | (with_reducible exact Ok.pure) | (with_reducible exact Ok.halt trivial) | (with_reducible apply ok_stuck) | (with_reducible apply ok_choose) | (with_reducible apply Ok.bind) | (with_reducible apply Ok.map) | (with_reducible apply ok_mapA) | (with_reducible apply ok_mapL) | (with_reducible apply ok_forA) | (with_reducible apply ok_forL) | (with_reducible apply ok_forR) | intro _ | split | dsimp only)
theorem ok_Op_floatCmp {P : Program} : ∀ a1 a2 a3 a4, Ok P (Op.floatCmp a1 a2 a3 a4) := by
  intro a1 a2 a3 a4; unfold Op.floatCmp
  repeat' (first | (with_reducible exact Ok.pure) | (with_reducible exact Ok.halt trivial) | (with_reducible apply ok_stuck) | (with_reducible apply Ok.bind) | (with_reducible apply Ok.map) | (with_reducible apply ok_mapA) | (with_reducible apply ok_mapL) | (with_reducible apply ok_forA) | (with_reducible apply ok_forL) | (with_reducible apply ok_forR) | intro _ | split | dsimp only)
theorem ok_Op_Complex_arith {P : Program} : ∀ a1 a2 a3 a4, Ok P (Op.Complex.arith a1 a2 a3 a4) := by
  intro a1 a2 a3 a4; unfold Op.Complex.arith
  repeat' (first | (with_reducible exact Ok.pure) | (with_reducible exact Ok.halt trivial) | (with_reducible apply ok_Op_floatArith) | (with_reducible apply ok_stuck) | (with_reducible apply Ok.bind) | (with_reducible apply Ok.map) | (with_reducible apply ok_mapA) | (with_reducible apply ok_mapL) | (with_reducible apply ok_forA) | (with_reducible apply ok_forL) | (with_reducible apply ok_forR) | intro _ | split | dsimp only)
theorem ok_Conv_floatToFloat {P : Program} : ∀ a1 a2 a3, Ok P (Conv.floatToFloat a1 a2 a3) := by
  intro a1 a2 a3; unfold Conv.floatToFloat
  repeat' (first | (with_reducible exact Ok.pure) | (with_reducible exact Ok.halt trivial) | (with_reducible apply ok_choose) | (with_reducible apply Ok.bind) | (with_reducible apply Ok.map) | (with_reducible apply ok_mapA) | (with_reducible apply ok_mapL) | (with_reducible apply ok_forA) | (with_reducible apply ok_forL) | (with_reducible apply ok_forR) | intro _ | split | dsimp only)
theorem ok_Op_Complex_conv {P : Program} : ∀ a1 a2 a3, Ok P (Op.Complex.conv a1 a2 a3) := by
  intro a1 a2 a3; unfold Op.Complex.conv
  repeat' (first | (with_reducible exact Ok.pure) | (with_reducible exact Ok.halt trivial) | (with_reducible apply ok_Conv_floatToFloat) | (with_reducible apply ok_stuck) | (with_reducible apply Ok.bind) | (with_reducible apply Ok.map) | (with_reducible apply ok_mapA) | (with_reducible apply ok_mapL) | (with_reducible apply ok_forA) | (with_reducible apply ok_forL) | (with_reducible apply ok_forR) | intro _ | split | dsimp only)
theorem ok_Op_Complex_mul {P : Program} : ∀ a1 a2, Ok P (Op.Complex.mul a1 a2) := by
  intro a1 a2; unfold Op.Complex.mul
  repeat' (first | (with_reducible exact Ok.pure) | (with_reducible exact Ok.halt trivial) | (with_reducible apply ok_Op_Complex_arith) | (with_reducible apply Ok.bind) | (with_reducible apply Ok.map) | (with_reducible apply ok_mapA) | (with_reducible apply ok_mapL) | (with_reducible apply ok_forA) | (with_reducible apply ok_forL) | (with_reducible apply ok_forR) | intro _ | split | dsimp only)
theorem ok_Op_Complex_sub {P : Program} : ∀ a1 a2, Ok P (Op.Complex.sub a1 a2) := by
  intro a1 a2; unfold Op.Complex.sub
  repeat' (first | (with_reducible exact Ok.pure) | (with_reducible exact Ok.halt trivial) | (with_reducible apply ok_Op_Complex_arith) | (with_reducible apply Ok.bind) | (with_reducible apply Ok.map) | (with_reducible apply ok_mapA) | (with_reducible apply ok_mapL) | (with_reducible apply ok_forA) | (with_reducible apply ok_forL) | (with_reducible apply ok_forR) | intro _ | split | dsimp only)
theorem ok_Op_Complex_add {P : Program} : ∀ a1 a2, Ok P (Op.Complex.add a1 a2) := by
  intro a1 a2; unfold Op.Complex.add
  repeat' (first | (with_reducible exact Ok.pure) | (with_reducible exact Ok.halt trivial) | (with_reducible apply ok_Op_Complex_arith) | (with_reducible apply Ok.bind) | (with_reducible apply Ok.map) | (with_reducible apply ok_mapA) | (with_reducible apply ok_mapL) | (with_reducible apply ok_forA) | (with_reducible apply ok_forL) | (with_reducible apply ok_forR) | intro _ | split | dsimp only)
theorem ok_Op_Complex_product {P : Program} : ∀ a1 a2 a3 a4, Ok P (Op.Complex.product a1 a2 a3 a4) := by
  intro a1 a2 a3 a4; unfold Op.Complex.product
  repeat' (first | (with_reducible exact Ok.pure) | (with_reducible exact Ok.halt trivial) | (with_reducible apply ok_Op_Complex_mul) | (with_reducible apply ok_Op_Complex_add) | (with_reducible apply ok_Op_Complex_sub) | (with_reducible apply Ok.bind) | (with_reducible apply Ok.map) | (with_reducible apply ok_mapA) | (with_reducible apply ok_mapL) | (with_reducible apply ok_forA) | (with_reducible apply ok_forL) | (with_reducible apply ok_forR) | intro _ | split | dsimp only)
theorem ok_Op_Complex_cmp {P : Program} : ∀ a1 a2 a3 a4, Ok P (Op.Complex.cmp a1 a2 a3 a4) := by
  intro a1 a2 a3 a4; unfold Op.Complex.cmp
  repeat' (first | (with_reducible exact Ok.pure) | (with_reducible exact Ok.halt trivial) | (with_reducible apply ok_asBool) | (with_reducible apply ok_Op_floatCmp) | (with_reducible apply Ok.bind) | (with_reducible apply Ok.map) | (with_reducible apply ok_mapA) | (with_reducible apply ok_mapL) | (with_reducible apply ok_forA) | (with_reducible apply ok_forL) | (with_reducible apply ok_forR) | intro _ | split | dsimp only)
theorem ok_Op_Complex_corrected {P : Program} : ∀ a1 a2 a3 a4 a5, Ok P (Op.Complex.corrected a1 a2 a3 a4 a5) := by
  intro a1 a2 a3 a4 a5; unfold Op.Complex.corrected
  repeat' (first | (with_reducible exact Ok.pure) | (with_reducible exact Ok.halt trivial) | (with_reducible apply ok_Op_Complex_mul) | (with_reducible apply ok_Op_Complex_add) | (with_reducible apply ok_Op_Complex_sub) | (with_reducible apply Ok.bind) | (with_reducible apply Ok.map) | (with_reducible apply ok_mapA) | (with_reducible apply ok_mapL) | (with_reducible apply ok_forA) | (with_reducible apply ok_forL) | (with_reducible apply ok_forR) | intro _ | split | dsimp only)
theorem ok_Op_Complex_quo {P : Program} : ∀ a1 a2, Ok P (Op.Complex.quo a1 a2) := by
  intro a1 a2; unfold Op.Complex.quo
  repeat' (first | (with_reducible exact Ok.pure) | (with_reducible exact Ok.halt trivial) | (with_reducible apply ok_Op_Complex_arith) | (with_reducible apply Ok.bind) | (with_reducible apply Ok.map) | (with_reducible apply ok_mapA) | (with_reducible apply ok_mapL) | (with_reducible apply ok_forA) | (with_reducible apply ok_forL) | (with_reducible apply ok_forR) | intro _ | split | dsimp only)
theorem ok_Op_Complex_quotient {P : Program} : ∀ a1 a2 a3 a4, Ok P (Op.Complex.quotient a1 a2 a3 a4) := by
  intro a1 a2 a3 a4; unfold Op.Complex.quotient
  repeat' (first | (with_reducible exact Ok.pure) | (with_reducible exact Ok.halt trivial) | (with_reducible apply ok_Op_Complex_mul) | (with_reducible apply ok_Op_Complex_cmp) | (with_reducible apply ok_Op_Complex_quo) | (with_reducible apply ok_Op_Complex_corrected) | (with_reducible apply ok_Op_Complex_add) | (with_reducible apply ok_Op_Complex_sub) | (with_reducible apply Ok.bind) | (with_reducible apply Ok.map) | (with_reducible apply ok_mapA) | (with_reducible apply ok_mapL) | (with_reducible apply ok_forA) | (with_reducible apply ok_forL) | (with_reducible apply ok_forR) | intro _ | split | dsimp only)
theorem ok_Op_complexOp {P : Program} : ∀ a1 a2 a3 a4 a5 a6, Ok P (Op.complexOp a1 a2 a3 a4 a5 a6) := by
  intro a1 a2 a3 a4 a5 a6; unfold Op.complexOp
  repeat' (first | (with_reducible exact Ok.pure) | (with_reducible exact Ok.halt trivial) | (with_reducible apply ok_Op_Complex_quotient) | (with_reducible apply ok_Op_Complex_product) | (with_reducible apply ok_Op_Complex_conv) | (with_reducible apply ok_Op_Complex_arith) | (with_reducible apply ok_Op_Complex_cmp) | (with_reducible apply ok_stuck) | (with_reducible apply Ok.bind) | (with_reducible apply Ok.map) | (with_reducible apply ok_mapA) | (with_reducible apply ok_mapL) | (with_reducible apply ok_forA) | (with_reducible apply ok_forL) | (with_reducible apply ok_forR) | intro _ | split | dsimp only)
theorem ok_Op_stringOp {P : Program} : ∀ a1 a2 a3, Ok P (Op.stringOp a1 a2 a3) := by
  intro a1 a2 a3; unfold Op.stringOp
  repeat' (first | (with_reducible exact Ok.pure) | (with_reducible exact Ok.halt trivial) | (with_reducible apply ok_stuck) | (with_reducible apply ok_unsupported) | (with_reducible apply Ok.bind) | (with_reducible apply Ok.map) | (with_reducible apply ok_mapA) | (with_reducible apply ok_mapL) | (with_reducible apply ok_forA) | (with_reducible apply ok_forL) | (with_reducible apply ok_forR) | intro _ | split | dsimp only)
theorem ok_numberAt {P : Program} : ∀ a1, Ok P (numberAt a1) := by
  intro a1; unfold numberAt
  repeat' (first | (with_reducible exact Ok.pure) | (with_reducible exact Ok.halt trivial) | (with_reducible apply ok_getObj) | (with_reducible apply ok_shape) | (with_reducible apply Ok.bind) | (with_reducible apply Ok.map) | (with_reducible apply ok_mapA) | (with_reducible apply ok_mapL) | (with_reducible apply ok_forA) | (with_reducible apply ok_forL) | (with_reducible apply ok_forR) | intro _ | split | dsimp only)
theorem ok_behindNumber {P : Program} : ∀ a1, Ok P (behindNumber a1) := by
  intro a1; unfold behindNumber
  repeat' (first | (with_reducible exact Ok.pure) | (with_reducible exact Ok.halt trivial) | (with_reducible apply ok_numberAt) | (with_reducible apply Ok.bind) | (with_reducible apply Ok.map) | (with_reducible apply ok_mapA) | (with_reducible apply ok_mapL) | (with_reducible apply ok_forA) | (with_reducible apply ok_forL) | (with_reducible apply ok_forR) | intro _ | split | dsimp only)
theorem ok_viewAt {P : Program} : ∀ a1, Ok P (viewAt a1) := by
  intro a1; unfold viewAt
  repeat' (first | (with_reducible exact Ok.pure) | (with_reducible exact Ok.halt trivial) | (with_reducible apply ok_getObj) | (with_reducible apply ok_shape) | (with_reducible apply Ok.bind) | (with_reducible apply Ok.map) | (with_reducible apply ok_mapA) | (with_reducible apply ok_mapL) | (with_reducible apply ok_forA) | (with_reducible apply ok_forL) | (with_reducible apply ok_forR) | intro _ | split | dsimp only)
theorem ok_noView {P : Program} : ∀ a1, Ok P (noView a1) := by
  intro a1; unfold noView
  repeat' (first | (with_reducible exact Ok.pure) | (with_reducible exact Ok.halt trivial) | (with_reducible apply ok_viewAt) | (with_reducible apply ok_unsupported) | (with_reducible apply Ok.bind) | (with_reducible apply Ok.map) | (with_reducible apply ok_mapA) | (with_reducible apply ok_mapL) | (with_reducible apply ok_forA) | (with_reducible apply ok_forL) | (with_reducible apply ok_forR) | intro _ | split | dsimp only)
theorem ok_byteOf {P : Program} : ∀ a1, Ok P (byteOf a1) := by
  intro a1; unfold byteOf
  repeat' (first | (with_reducible exact Ok.pure) | (with_reducible exact Ok.halt trivial) | (with_reducible apply ok_stuck) | (with_reducible apply ok_noView) | (with_reducible apply ok_program) | (with_reducible apply ok_shape) | (with_reducible apply Ok.bind) | (with_reducible apply Ok.map) | (with_reducible apply ok_mapA) | (with_reducible apply ok_mapL) | (with_reducible apply ok_forA) | (with_reducible apply ok_forL) | (with_reducible apply ok_forR) | intro _ | split | dsimp only)
theorem ok_stringish {P : Program} : ∀ a1, Ok P (stringish a1) := by
  intro a1; unfold stringish
  repeat' (first | (with_reducible exact Ok.pure) | (with_reducible exact Ok.halt trivial) | (with_reducible apply ok_frozen) | (with_reducible apply ok_shape) | (with_reducible apply Ok.bind) | (with_reducible apply Ok.map) | (with_reducible apply ok_mapA) | (with_reducible apply ok_mapL) | (with_reducible apply ok_forA) | (with_reducible apply ok_forL) | (with_reducible apply ok_forR) | intro _ | split | dsimp only)
theorem ok_mayBeOne {P : Program} : ∀ a1 a2, Ok P (mayBeOne a1 a2) := by
  intro a1 a2; unfold mayBeOne
  repeat' (first | (with_reducible exact Ok.pure) | (with_reducible exact Ok.halt trivial) | (with_reducible apply ok_stringish) | (with_reducible apply ok_shape) | (with_reducible apply Ok.bind) | (with_reducible apply Ok.map) | (with_reducible apply ok_mapA) | (with_reducible apply ok_mapL) | (with_reducible apply ok_forA) | (with_reducible apply ok_forL) | (with_reducible apply ok_forR) | intro _ | split | dsimp only)
theorem ok_sameAddr {P : Program} : ∀ a1 a2, Ok P (sameAddr a1 a2) := by
  intro a1 a2; unfold sameAddr
  repeat' (first | (with_reducible exact Ok.pure) | (with_reducible exact Ok.halt trivial) | (with_reducible apply ok_frozen) | (with_reducible apply ok_choose) | (with_reducible apply ok_noView) | (with_reducible apply ok_unsupported) | (with_reducible apply ok_mayBeOne) | (with_reducible apply Ok.bind) | (with_reducible apply Ok.map) | (with_reducible apply ok_mapA) | (with_reducible apply ok_mapL) | (with_reducible apply ok_forA) | (with_reducible apply ok_forL) | (with_reducible apply ok_forR) | intro _ | split | dsimp only)
theorem ok_samePointer {P : Program} : ∀ a1 a2, Ok P (samePointer a1 a2) := by
  intro a1 a2; unfold samePointer
  repeat' (first | (with_reducible exact Ok.pure) | (with_reducible exact Ok.halt trivial) | (with_reducible apply ok_sameAddr) | (with_reducible apply Ok.bind) | (with_reducible apply Ok.map) | (with_reducible apply ok_mapA) | (with_reducible apply ok_mapL) | (with_reducible apply ok_forA) | (with_reducible apply ok_forL) | (with_reducible apply ok_forR) | intro _ | split | dsimp only)
theorem ok_typeStr {P : Program} : ∀ a1, Ok P (typeStr a1) := by
  intro a1; unfold typeStr
  repeat' (first | (with_reducible exact Ok.pure) | (with_reducible exact Ok.halt trivial) | (with_reducible apply ok_typeInfo) | (with_reducible apply ok_unsupported) | (with_reducible apply Ok.bind) | (with_reducible apply Ok.map) | (with_reducible apply ok_mapA) | (with_reducible apply ok_mapL) | (with_reducible apply ok_forA) | (with_reducible apply ok_forL) | (with_reducible apply ok_forR) | intro _ | split | dsimp only)
theorem ok_Op_equalIn {P : Program} : ∀ a1 a2 a3 a4, Ok P (Op.equalIn a1 a2 a3 a4) := by
  intro a1
  induction a1 with
  | zero => intro a2 a3 a4; exact ok_unsupported
  | succ n ih =>
    intro a2 a3 a4; unfold Op.equalIn
    repeat' (first | (with_reducible exact Ok.pure) | (with_reducible exact Ok.halt trivial) | (with_reducible apply ih) | (with_reducible apply ok_underlying) | (with_reducible apply ok_part) | (with_reducible apply ok_sizeOf) | (with_reducible apply ok_typeInfo) | (with_reducible apply ok_samePointer) | (with_reducible apply ok_stuck) | (with_reducible apply ok_choose) | (with_reducible apply ok_behindNumber) | (with_reducible apply ok_byteOf) | (with_reducible apply ok_program) | (with_reducible apply ok_unsupported) | (with_reducible apply ok_runtimePanic) | (with_reducible apply ok_sameAddr) | (with_reducible apply ok_typeStr) | (with_reducible apply Ok.bind) | (with_reducible apply Ok.map) | (with_reducible apply ok_forA) | (with_reducible apply ok_forL) | (with_reducible apply ok_forR) | intro _ | split | dsimp only)
theorem ok_Op_equal {P : Program} : ∀ a1 a2 a3, Ok P (Op.equal a1 a2 a3) := by
  intro a1 a2 a3; unfold Op.equal
  repeat' (first | (with_reducible exact Ok.pure) | (with_reducible exact Ok.halt trivial) | (with_reducible apply ok_Op_equalIn) | (with_reducible apply Ok.bind) | (with_reducible apply Ok.map) | (with_reducible apply ok_mapA) | (with_reducible apply ok_mapL) | (with_reducible apply ok_forA) | (with_reducible apply ok_forL) | (with_reducible apply ok_forR) | intro _ | split | dsimp only)
theorem ok_asIntOf {P : Program} : ∀ a1, Ok P (asIntOf a1) := by
  intro a1; unfold asIntOf
  repeat' (first | (with_reducible exact Ok.pure) | (with_reducible exact Ok.halt trivial) | (with_reducible apply ok_stuck) | (with_reducible apply ok_unsupported) | (with_reducible apply Ok.bind) | (with_reducible apply Ok.map) | (with_reducible apply ok_mapA) | (with_reducible apply ok_mapL) | (with_reducible apply ok_forA) | (with_reducible apply ok_forL) | (with_reducible apply ok_forR) | intro _ | split | dsimp only)
theorem ok_asInt {P : Program} : ∀ a1, Ok P (asInt a1) := by
  intro a1; unfold asInt
  repeat' (first | (with_reducible exact Ok.pure) | (with_reducible exact Ok.halt trivial) | (with_reducible apply ok_asIntOf) | (with_reducible apply Ok.bind) | (with_reducible apply Ok.map) | (with_reducible apply ok_mapA) | (with_reducible apply ok_mapL) | (with_reducible apply ok_forA) | (with_reducible apply ok_forL) | (with_reducible apply ok_forR) | intro _ | split | dsimp only)
theorem ok_Builtin_unsafeAdd_ {P : Program} : ∀ a1 a2 a3, Ok P (Builtin.unsafeAdd_ a1 a2 a3) := by
  intro a1 a2 a3
  obtain ⟨l⟩ := a3
  rcases l with _ | ⟨x, _ | ⟨y, _ | ⟨z, t⟩⟩⟩
  · exact ok_stuck
  · exact ok_stuck
  · cases x <;> first | exact ok_stuck | skip
    refine Ok.bind (ok_asInt _) fun n => ?_
    repeat' (first | (with_reducible exact Ok.pure) | (with_reducible exact Ok.halt trivial) | (with_reducible apply ok_asInt) | (with_reducible apply ok_unsupported) | (with_reducible apply ok_viewAt) | (with_reducible apply ok_shape) | (with_reducible apply ok_program) | (with_reducible apply Ok.bind) | (with_reducible apply Ok.map) | (with_reducible apply ok_forA) | (with_reducible apply ok_forL) | (with_reducible apply ok_forR) | intro _ | split | dsimp only)
  · exact ok_stuck
theorem ok_movedPointer {P : Program} : ∀ a1 a2 a3, Ok P (movedPointer a1 a2 a3) := by
  intro a1 a2 a3; unfold movedPointer
  repeat' (first | (with_reducible exact Ok.pure) | (with_reducible exact Ok.halt trivial) | (with_reducible apply ok_numberAt) | (with_reducible apply ok_unsupported) | (with_reducible apply ok_Builtin_unsafeAdd_) | (with_reducible apply Ok.bind) | (with_reducible apply Ok.map) | (with_reducible apply ok_mapA) | (with_reducible apply ok_mapL) | (with_reducible apply ok_forA) | (with_reducible apply ok_forL) | (with_reducible apply ok_forR) | intro _ | split | dsimp only)
theorem ok_asNumber {P : Program} : ∀ a1 a2, Ok P (asNumber a1 a2) := by
  intro a1 a2; unfold asNumber
  repeat' (first | (with_reducible exact Ok.pure) | (with_reducible exact Ok.halt trivial) | (with_reducible apply ok_newObj) | (with_reducible apply Ok.bind) | (with_reducible apply Ok.map) | (with_reducible apply ok_mapA) | (with_reducible apply ok_mapL) | (with_reducible apply ok_forA) | (with_reducible apply ok_forL) | (with_reducible apply ok_forR) | intro _ | split | dsimp only)
theorem ok_movedNumber {P : Program} : ∀ a1 a2 a3, Ok P (movedNumber a1 a2 a3) := by
  intro a1 a2 a3
  unfold movedNumber
  have tail : ∀ v (l : Bool), Ok P (match v with | Value.pointer (some b) => asNumber b l | v => Pure.pure v) := by
    intro v l
    split
    · exact ok_asNumber _ _
    · exact Ok.pure
  have all : Ok P (match a2 with
      | Value.pointer (some n) => (do
        let (a, lost) ← behindNumber n
        match ← Builtin.unsafeAdd_ #[] a1 #[Value.pointer (some a), a3] with
        | .pointer (some b) => asNumber b lost
        | v => Pure.pure v : Sem Value)
      | _ => Builtin.unsafeAdd_ #[] a1 #[a2, a3]) := by
    split
    · exact Ok.bind (ok_behindNumber _) fun x => Ok.bind (ok_Builtin_unsafeAdd_ _ _ _) fun v => tail v _
    · exact ok_Builtin_unsafeAdd_ _ _ _
  refine Ok.bind (ok_underlying _) fun u => ?_
  cases u <;> first | exact all | exact Ok.bind ok_unsupported fun _ => all
theorem ok_Op_twoPlaces {P : Program} : ∀ a1 a2, Ok P (Op.twoPlaces a1 a2) := by
  intro a1 a2; unfold Op.twoPlaces
  repeat' (first | (with_reducible exact Ok.pure) | (with_reducible exact Ok.halt trivial) | (with_reducible apply ok_byteOf) | (with_reducible apply ok_program) | (with_reducible apply ok_unsupported) | (with_reducible apply Ok.bind) | (with_reducible apply Ok.map) | (with_reducible apply ok_mapA) | (with_reducible apply ok_mapL) | (with_reducible apply ok_forA) | (with_reducible apply ok_forL) | (with_reducible apply ok_forR) | intro _ | split | dsimp only)
theorem ok_Op_addrSub {P : Program} : ∀ a1 a2 a3, Ok P (Op.addrSub a1 a2 a3) := by
  intro a1 a2 a3; unfold Op.addrSub
  repeat' (first | (with_reducible exact Ok.pure) | (with_reducible exact Ok.halt trivial) | (with_reducible apply ok_Op_twoPlaces) | (with_reducible apply Ok.bind) | (with_reducible apply Ok.map) | (with_reducible apply ok_mapA) | (with_reducible apply ok_mapL) | (with_reducible apply ok_forA) | (with_reducible apply ok_forL) | (with_reducible apply ok_forR) | intro _ | split | dsimp only)
theorem ok_Op_addrCmp {P : Program} : ∀ a1 a2 a3, Ok P (Op.addrCmp a1 a2 a3) := by
  intro a1 a2 a3; unfold Op.addrCmp
  repeat' (first | (with_reducible exact Ok.pure) | (with_reducible exact Ok.halt trivial) | (with_reducible apply ok_Op_twoPlaces) | (with_reducible apply ok_unsupported) | (with_reducible apply Ok.bind) | (with_reducible apply Ok.map) | (with_reducible apply ok_mapA) | (with_reducible apply ok_mapL) | (with_reducible apply ok_forA) | (with_reducible apply ok_forL) | (with_reducible apply ok_forR) | intro _ | split | dsimp only)
theorem ok_Op_addrMod {P : Program} : ∀ a1 a2 a3, Ok P (Op.addrMod a1 a2 a3) := by
  intro a1 a2 a3; unfold Op.addrMod
  repeat' (first | (with_reducible exact Ok.pure) | (with_reducible exact Ok.halt trivial) | (with_reducible apply ok_typeInfo) | (with_reducible apply ok_byteOf) | (with_reducible apply ok_unsupported) | (with_reducible apply ok_shape) | (with_reducible apply Ok.bind) | (with_reducible apply Ok.map) | (with_reducible apply ok_mapA) | (with_reducible apply ok_mapL) | (with_reducible apply ok_forA) | (with_reducible apply ok_forL) | (with_reducible apply ok_forR) | intro _ | split | dsimp only)
theorem ok_binOp {P : Program} : ∀ a1 a2 a3 a4, Ok P (binOp a1 a2 a3 a4) := by
  intro a1 a2 a3 a4; unfold binOp
  repeat' (first | (with_reducible exact Ok.pure) | (with_reducible exact Ok.halt trivial) | (with_reducible apply ok_Op_floatArith) | (with_reducible apply ok_Op_intCmp) | (with_reducible apply ok_Op_intBits) | (with_reducible apply ok_Op_addrMod) | (with_reducible apply ok_Op_intArith) | (with_reducible apply ok_Op_complexOp) | (with_reducible apply ok_Op_shift) | (with_reducible apply ok_movedNumber) | (with_reducible apply ok_stuck) | (with_reducible apply ok_behindNumber) | (with_reducible apply ok_Op_equal) | (with_reducible apply ok_movedPointer) | (with_reducible apply ok_unsupported) | (with_reducible apply ok_Op_addrCmp) | (with_reducible apply ok_Op_stringOp) | (with_reducible apply ok_underlying) | (with_reducible apply ok_Op_intDiv) | (with_reducible apply ok_Op_addrSub) | (with_reducible apply ok_Op_floatCmp) | (with_reducible apply Ok.bind) | (with_reducible apply Ok.map) | (with_reducible apply ok_mapA) | (with_reducible apply ok_mapL) | (with_reducible apply ok_forA) | (with_reducible apply ok_forL) | (with_reducible apply ok_forR) | intro _ | split | dsimp only)
theorem ok_Op_unary {P : Program} : ∀ a1 a2, Ok P (Op.unary a1 a2) := by
  intro a1 a2; unfold Op.unary
  repeat' (first | (with_reducible exact Ok.pure) | (with_reducible exact Ok.halt trivial) | (with_reducible apply ok_Op_intBits) | (with_reducible apply ok_Op_intArith) | (with_reducible apply ok_stuck) | (with_reducible apply ok_unsupported) | (with_reducible apply Ok.bind) | (with_reducible apply Ok.map) | (with_reducible apply ok_mapA) | (with_reducible apply ok_mapL) | (with_reducible apply ok_forA) | (with_reducible apply ok_forL) | (with_reducible apply ok_forR) | intro _ | split | dsimp only)
theorem ok_Conv_intToInt {P : Program} : ∀ a1 a2, Ok P (Conv.intToInt a1 a2) := by
  intro a1 a2; unfold Conv.intToInt
  repeat' (first | (with_reducible exact Ok.pure) | (with_reducible exact Ok.halt trivial) | (with_reducible apply Ok.bind) | (with_reducible apply Ok.map) | (with_reducible apply ok_mapA) | (with_reducible apply ok_mapL) | (with_reducible apply ok_forA) | (with_reducible apply ok_forL) | (with_reducible apply ok_forR) | intro _ | split | dsimp only)
theorem ok_Conv_intToFloat {P : Program} : ∀ a1 a2, Ok P (Conv.intToFloat a1 a2) := by
  intro a1 a2; unfold Conv.intToFloat
  repeat' (first | (with_reducible exact Ok.pure) | (with_reducible exact Ok.halt trivial) | (with_reducible apply Ok.bind) | (with_reducible apply Ok.map) | (with_reducible apply ok_mapA) | (with_reducible apply ok_mapL) | (with_reducible apply ok_forA) | (with_reducible apply ok_forL) | (with_reducible apply ok_forR) | intro _ | split | dsimp only)
theorem ok_Conv_floatToInt {P : Program} : ∀ a1 a2 a3, Ok P (Conv.floatToInt a1 a2 a3) := by
  intro a1 a2 a3; unfold Conv.floatToInt
  repeat' (first | (with_reducible exact Ok.pure) | (with_reducible exact Ok.halt trivial) | (with_reducible apply ok_choose) | (with_reducible apply Ok.bind) | (with_reducible apply Ok.map) | (with_reducible apply ok_mapA) | (with_reducible apply ok_mapL) | (with_reducible apply ok_forA) | (with_reducible apply ok_forL) | (with_reducible apply ok_forR) | intro _ | split | dsimp only)
theorem ok_Conv_complexToComplex {P : Program} : ∀ a1 a2 a3 a4, Ok P (Conv.complexToComplex a1 a2 a3 a4) := by
  intro a1 a2 a3 a4; unfold Conv.complexToComplex
  repeat' (first | (with_reducible exact Ok.pure) | (with_reducible exact Ok.halt trivial) | (with_reducible apply ok_Conv_floatToFloat) | (with_reducible apply ok_stuck) | (with_reducible apply Ok.bind) | (with_reducible apply Ok.map) | (with_reducible apply ok_mapA) | (with_reducible apply ok_mapL) | (with_reducible apply ok_forA) | (with_reducible apply ok_forL) | (with_reducible apply ok_forR) | intro _ | split | dsimp only)
theorem ok_Conv_intToString {P : Program} : ∀ a1, Ok P (Conv.intToString a1) := by
  intro a1; unfold Conv.intToString
  repeat' (first | (with_reducible exact Ok.pure) | (with_reducible exact Ok.halt trivial) | (with_reducible apply Ok.bind) | (with_reducible apply Ok.map) | (with_reducible apply ok_mapA) | (with_reducible apply ok_mapL) | (with_reducible apply ok_forA) | (with_reducible apply ok_forL) | (with_reducible apply ok_forR) | intro _ | split | dsimp only)
theorem ok_markStringish {P : Program} : ∀ a1, Ok P (markStringish a1) := by
  intro a1; unfold markStringish
  repeat' (first | (with_reducible exact Ok.pure) | (with_reducible exact Ok.halt trivial) | (with_reducible apply ok_freeze) | (with_reducible apply ok_shape) | (with_reducible apply Ok.bind) | (with_reducible apply Ok.map) | (with_reducible apply ok_mapA) | (with_reducible apply ok_mapL) | (with_reducible apply ok_forA) | (with_reducible apply ok_forL) | (with_reducible apply ok_forR) | intro _ | split | dsimp only)
theorem ok_Conv_stringToBytes {P : Program} : ∀ a1 a2, Ok P (Conv.stringToBytes a1 a2) := by
  intro a1 a2; unfold Conv.stringToBytes
  repeat' (first | (with_reducible exact Ok.pure) | (with_reducible exact Ok.halt trivial) | (with_reducible apply ok_markStringish) | (with_reducible apply ok_newRow) | (with_reducible apply ok_choose) | (with_reducible apply Ok.bind) | (with_reducible apply Ok.map) | (with_reducible apply ok_mapA) | (with_reducible apply ok_mapL) | (with_reducible apply ok_forA) | (with_reducible apply ok_forL) | (with_reducible apply ok_forR) | intro _ | split | dsimp only)
theorem ok_Conv_stringToRunes {P : Program} : ∀ a1 a2, Ok P (Conv.stringToRunes a1 a2) := by
  intro a1 a2; unfold Conv.stringToRunes
  repeat' (first | (with_reducible exact Ok.pure) | (with_reducible exact Ok.halt trivial) | (with_reducible apply ok_newRow) | (with_reducible apply ok_choose) | (with_reducible apply Ok.bind) | (with_reducible apply Ok.map) | (with_reducible apply ok_mapA) | (with_reducible apply ok_mapL) | (with_reducible apply ok_forA) | (with_reducible apply ok_forL) | (with_reducible apply ok_forR) | intro _ | split | dsimp only)
theorem ok_Conv_bytesToString {P : Program} : ∀ a1, Ok P (Conv.bytesToString a1) := by
  intro a1; unfold Conv.bytesToString
  repeat' (first | (with_reducible exact Ok.pure) | (with_reducible exact Ok.halt trivial) | (with_reducible apply ok_stuck) | (with_reducible apply ok_loadCells) | (with_reducible apply Ok.bind) | (with_reducible apply Ok.map) | (with_reducible apply ok_mapA) | (with_reducible apply ok_mapL) | (with_reducible apply ok_forA) | (with_reducible apply ok_forL) | (with_reducible apply ok_forR) | intro _ | split | dsimp only)
theorem ok_Conv_runesToString {P : Program} : ∀ a1, Ok P (Conv.runesToString a1) := by
  intro a1; unfold Conv.runesToString
  repeat' (first | (with_reducible exact Ok.pure) | (with_reducible exact Ok.halt trivial) | (with_reducible apply ok_stuck) | (with_reducible apply ok_loadCells) | (with_reducible apply Ok.bind) | (with_reducible apply Ok.map) | (with_reducible apply ok_mapA) | (with_reducible apply ok_mapL) | (with_reducible apply ok_forA) | (with_reducible apply ok_forL) | (with_reducible apply ok_forR) | intro _ | split | dsimp only)
theorem ok_Conv_seenAt {P : Program} : ∀ a1, Ok P (Conv.seenAt a1) := by
  intro a1; unfold Conv.seenAt
  repeat' (first | (with_reducible exact Ok.pure) | (with_reducible exact Ok.halt trivial) | (with_reducible apply ok_viewAt) | (with_reducible apply ok_program) | (with_reducible apply ok_unsupported) | (with_reducible apply ok_shape) | (with_reducible apply Ok.bind) | (with_reducible apply Ok.map) | (with_reducible apply ok_mapA) | (with_reducible apply ok_mapL) | (with_reducible apply ok_forA) | (with_reducible apply ok_forL) | (with_reducible apply ok_forR) | intro _ | split | dsimp only)
theorem ok_cellsIn {P : Program} : ∀ a1, Ok P (cellsIn a1) := by
  intro a1; unfold cellsIn
  repeat' (first | (with_reducible exact Ok.pure) | (with_reducible exact Ok.halt trivial) | (with_reducible apply ok_getObj) | (with_reducible apply ok_shape) | (with_reducible apply Ok.bind) | (with_reducible apply Ok.map) | (with_reducible apply ok_mapA) | (with_reducible apply ok_mapL) | (with_reducible apply ok_forA) | (with_reducible apply ok_forL) | (with_reducible apply ok_forR) | intro _ | split | dsimp only)
theorem ok_variablesAt {P : Program} : ∀ a1 a2 a3, Ok P (variablesAt a1 a2 a3) := by
  intro a1 a2 a3; unfold variablesAt
  repeat' (first | (with_reducible exact Ok.pure) | (with_reducible exact Ok.halt trivial) | (with_reducible apply ok_program) | (with_reducible apply ok_shape) | (with_reducible apply Ok.bind) | (with_reducible apply Ok.map) | (with_reducible apply ok_mapA) | (with_reducible apply ok_mapL) | (with_reducible apply ok_forA) | (with_reducible apply ok_forL) | (with_reducible apply ok_forR) | intro _ | split | dsimp only)
theorem ok_Conv_unsafePointer {P : Program} : ∀ a1 a2 a3, Ok P (Conv.unsafePointer a1 a2 a3) := by
  intro a1 a2 a3; unfold Conv.unsafePointer
  repeat' (first | (with_reducible exact Ok.pure) | (with_reducible exact Ok.halt trivial) | (with_reducible apply ok_sizeOf) | (with_reducible apply ok_asNumber) | (with_reducible apply ok_variablesAt) | (with_reducible apply ok_stuck) | (with_reducible apply ok_program) | (with_reducible apply ok_unsupported) | (with_reducible apply ok_Conv_seenAt) | (with_reducible apply ok_cellsIn) | (with_reducible apply ok_underlying) | (with_reducible apply ok_newObj) | (with_reducible apply ok_shape) | (with_reducible apply Ok.bind) | (with_reducible apply Ok.map) | (with_reducible apply ok_mapA) | (with_reducible apply ok_mapL) | (with_reducible apply ok_forA) | (with_reducible apply ok_forL) | (with_reducible apply ok_forR) | intro _ | split | dsimp only)
theorem ok_convert {P : Program} : ∀ a1 a2 a3, Ok P (convert a1 a2 a3) := by
  intro a1 a2 a3; unfold convert
  repeat' (first | (with_reducible exact Ok.pure) | (with_reducible exact Ok.halt trivial) | (with_reducible apply ok_Conv_stringToBytes) | (with_reducible apply ok_Conv_complexToComplex) | (with_reducible apply ok_Conv_bytesToString) | (with_reducible apply ok_Conv_floatToInt) | (with_reducible apply ok_markStringish) | (with_reducible apply ok_Conv_intToFloat) | (with_reducible apply ok_Conv_unsafePointer) | (with_reducible apply ok_Conv_intToString) | (with_reducible apply ok_Conv_floatToFloat) | (with_reducible apply ok_stuck) | (with_reducible apply ok_Conv_stringToRunes) | (with_reducible apply ok_Conv_intToInt) | (with_reducible apply ok_unsupported) | (with_reducible apply ok_Conv_runesToString) | (with_reducible apply ok_underlying) | (with_reducible apply Ok.bind) | (with_reducible apply Ok.map) | (with_reducible apply ok_mapA) | (with_reducible apply ok_mapL) | (with_reducible apply ok_forA) | (with_reducible apply ok_forL) | (with_reducible apply ok_forR) | intro _ | split | dsimp only)
theorem ok_Instr_arrayAt {P : Program} : ∀ a1 a2, Ok P (Instr.arrayAt a1 a2) := by
  intro a1 a2; unfold Instr.arrayAt
  repeat' (first | (with_reducible exact Ok.pure) | (with_reducible exact Ok.halt trivial) | (with_reducible apply ok_stuck) | (with_reducible apply ok_runtimePanic) | (with_reducible apply ok_underlying) | (with_reducible apply Ok.bind) | (with_reducible apply Ok.map) | (with_reducible apply ok_mapA) | (with_reducible apply ok_mapL) | (with_reducible apply ok_forA) | (with_reducible apply ok_forL) | (with_reducible apply ok_forR) | intro _ | split | dsimp only)
theorem ok_Instr_makeInterface {P : Program} : ∀ a1 a2, Ok P (Instr.makeInterface a1 a2) := by
  intro a1 a2; unfold Instr.makeInterface
  repeat' (first | (with_reducible exact Ok.pure) | (with_reducible exact Ok.halt trivial) | (with_reducible apply ok_stuck) | (with_reducible apply ok_underlying) | (with_reducible apply Ok.bind) | (with_reducible apply Ok.map) | (with_reducible apply ok_mapA) | (with_reducible apply ok_mapL) | (with_reducible apply ok_forA) | (with_reducible apply ok_forL) | (with_reducible apply ok_forR) | intro _ | split | dsimp only)
theorem ok_Instr_makeFunc {P : Program} : ∀ a1 a2 a3, Ok P (Instr.makeFunc a1 a2 a3) := by
  intro a1 a2 a3; unfold Instr.makeFunc
  repeat' (first | (with_reducible exact Ok.pure) | (with_reducible exact Ok.halt trivial) | (with_reducible apply Ok.bind) | (with_reducible apply Ok.map) | (with_reducible apply ok_mapA) | (with_reducible apply ok_mapL) | (with_reducible apply ok_forA) | (with_reducible apply ok_forL) | (with_reducible apply ok_forR) | intro _ | split | dsimp only)
theorem ok_Instr_makeMap {P : Program} : ∀ a1 a2, Ok P (Instr.makeMap a1 a2) := by
  intro a1 a2; unfold Instr.makeMap
  repeat' (first | (with_reducible exact Ok.pure) | (with_reducible exact Ok.halt trivial) | (with_reducible apply ok_asInt) | (with_reducible apply ok_stuck) | (with_reducible apply ok_underlying) | (with_reducible apply ok_newObj) | (with_reducible apply Ok.bind) | (with_reducible apply Ok.map) | (with_reducible apply ok_mapA) | (with_reducible apply ok_mapL) | (with_reducible apply ok_forA) | (with_reducible apply ok_forL) | (with_reducible apply ok_forR) | intro _ | split | dsimp only)
theorem ok_Instr_makeChan {P : Program} : ∀ a1 a2, Ok P (Instr.makeChan a1 a2) := by
  intro a1 a2; unfold Instr.makeChan
  repeat' (first | (with_reducible exact Ok.pure) | (with_reducible exact Ok.halt trivial) | (with_reducible apply ok_asInt) | (with_reducible apply ok_typeInfo) | (with_reducible apply ok_stuck) | (with_reducible apply ok_runtimePanic) | (with_reducible apply ok_underlying) | (with_reducible apply ok_newObj) | (with_reducible apply Ok.bind) | (with_reducible apply Ok.map) | (with_reducible apply ok_mapA) | (with_reducible apply ok_mapL) | (with_reducible apply ok_forA) | (with_reducible apply ok_forL) | (with_reducible apply ok_forR) | intro _ | split | dsimp only)
theorem ok_Instr_makeSlice {P : Program} : ∀ a1 a2 a3, Ok P (Instr.makeSlice a1 a2 a3) := by
  intro a1 a2 a3; unfold Instr.makeSlice
  repeat' (first | (with_reducible exact Ok.pure) | (with_reducible exact Ok.halt trivial) | (with_reducible apply ok_zeroValue) | (with_reducible apply ok_asInt) | (with_reducible apply ok_sizeOf) | (with_reducible apply ok_typeInfo) | (with_reducible apply ok_newRow) | (with_reducible apply ok_stuck) | (with_reducible apply ok_choose) | (with_reducible apply ok_runtimePanic) | (with_reducible apply ok_underlying) | (with_reducible apply ok_askRoom) | (with_reducible apply Ok.bind) | (with_reducible apply Ok.map) | (with_reducible apply ok_mapA) | (with_reducible apply ok_mapL) | (with_reducible apply ok_forA) | (with_reducible apply ok_forL) | (with_reducible apply ok_forR) | intro _ | split | dsimp only)
theorem ok_boundsPanic {P : Program} {φ : α → Prop} : ∀ a1 a2 a3 a4, Safe P φ 0 (boundsPanic a1 a2 a3 a4 : Sem α) := by
  intro a1 a2 a3 a4; unfold boundsPanic
  repeat' (first | (with_reducible exact Ok.pure) | (with_reducible apply ok_choose) | (with_reducible apply ok_runtimePanic) | (with_reducible apply Ok.bind) | (with_reducible apply Ok.map) | intro _ | split | dsimp only)
theorem ok_Instr_sliceBound {P : Program} : ∀ a1 a2 a3, Ok P (Instr.sliceBound a1 a2 a3) := by
  intro a1 a2 a3; unfold Instr.sliceBound
  repeat' (first | (with_reducible exact Ok.pure) | (with_reducible exact Ok.halt trivial) | (with_reducible apply ok_boundsPanic) | (with_reducible apply ok_asIntOf) | (with_reducible apply Ok.bind) | (with_reducible apply Ok.map) | (with_reducible apply ok_mapA) | (with_reducible apply ok_mapL) | (with_reducible apply ok_forA) | (with_reducible apply ok_forL) | (with_reducible apply ok_forR) | intro _ | split | dsimp only)
theorem ok_Instr_sliceBounds {P : Program} : ∀ a1 a2 a3 a4 a5 a6, Ok P (Instr.sliceBounds a1 a2 a3 a4 a5 a6) := by
  intro a1 a2 a3 a4 a5 a6; unfold Instr.sliceBounds
  repeat' (first | (with_reducible exact Ok.pure) | (with_reducible exact Ok.halt trivial) | (with_reducible apply ok_Instr_sliceBound) | (with_reducible apply ok_stuck) | (with_reducible apply Ok.bind) | (with_reducible apply Ok.map) | (with_reducible apply ok_mapA) | (with_reducible apply ok_mapL) | (with_reducible apply ok_forA) | (with_reducible apply ok_forL) | (with_reducible apply ok_forR) | intro _ | split | dsimp only)
theorem ok_asAddr {P : Program} : ∀ a1, Ok P (asAddr a1) := by
  intro a1; unfold asAddr
  repeat' (first | (with_reducible exact Ok.pure) | (with_reducible exact Ok.halt trivial) | (with_reducible apply ok_stuck) | (with_reducible apply ok_runtimePanic) | (with_reducible apply Ok.bind) | (with_reducible apply Ok.map) | (with_reducible apply ok_mapA) | (with_reducible apply ok_mapL) | (with_reducible apply ok_forA) | (with_reducible apply ok_forL) | (with_reducible apply ok_forR) | intro _ | split | dsimp only)
theorem ok_Instr_slice {P : Program} : ∀ a1 a2 a3 a4 a5, Ok P (Instr.slice a1 a2 a3 a4 a5) := by
  intro a1 a2 a3 a4 a5; unfold Instr.slice
  repeat' (first | (with_reducible exact Ok.pure) | (with_reducible exact Ok.halt trivial) | (with_reducible apply ok_asAddr) | (with_reducible apply ok_Instr_sliceBounds) | (with_reducible apply ok_sizeOf) | (with_reducible apply ok_stuck) | (with_reducible apply ok_underlying) | (with_reducible apply Ok.bind) | (with_reducible apply Ok.map) | (with_reducible apply ok_mapA) | (with_reducible apply ok_mapL) | (with_reducible apply ok_forA) | (with_reducible apply ok_forL) | (with_reducible apply ok_forR) | intro _ | split | dsimp only)
theorem ok_Instr_sliceAt {P : Program} : ∀ a1 a2 a3 a4 a5, Ok P (Instr.sliceAt a1 a2 a3 a4 a5) := by
  intro a1 a2 a3 a4 a5; unfold Instr.sliceAt
  repeat' (first | (with_reducible exact Ok.pure) | (with_reducible exact Ok.halt trivial) | (with_reducible apply ok_Instr_sliceBounds) | (with_reducible apply ok_Instr_slice) | (with_reducible apply ok_sizeOf) | (with_reducible apply ok_underlying) | (with_reducible apply ok_Instr_sureAddr) | (with_reducible apply Ok.bind) | (with_reducible apply Ok.map) | (with_reducible apply ok_mapA) | (with_reducible apply ok_mapL) | (with_reducible apply ok_forA) | (with_reducible apply ok_forL) | (with_reducible apply ok_forR) | intro _ | split | dsimp only)
theorem ok_partAt {P : Program} : ∀ a1 a2 a3, Ok P (partAt a1 a2 a3) := by
  intro a1 a2 a3; unfold partAt
  repeat' (first | (with_reducible exact Ok.pure) | (with_reducible exact Ok.halt trivial) | (with_reducible apply ok_byteOf) | (with_reducible apply Ok.bind) | (with_reducible apply Ok.map) | (with_reducible apply ok_mapA) | (with_reducible apply ok_mapL) | (with_reducible apply ok_forA) | (with_reducible apply ok_forL) | (with_reducible apply ok_forR) | intro _ | split | dsimp only)
theorem ok_fieldPlace {P : Program} : ∀ a1 a2, Ok P (fieldPlace a1 a2) := by
  intro a1 a2; unfold fieldPlace
  repeat' (first | (with_reducible exact Ok.pure) | (with_reducible exact Ok.halt trivial) | (with_reducible apply ok_sizeOf) | (with_reducible apply ok_partAt) | (with_reducible apply Ok.bind) | (with_reducible apply Ok.map) | (with_reducible apply ok_mapA) | (with_reducible apply ok_mapL) | (with_reducible apply ok_forA) | (with_reducible apply ok_forL) | (with_reducible apply ok_forR) | intro _ | split | dsimp only)
theorem ok_Instr_fieldAt {P : Program} : ∀ a1 a2 a3, Ok P (Instr.fieldAt a1 a2 a3) := by
  intro a1 a2 a3; unfold Instr.fieldAt
  repeat' (first | (with_reducible exact Ok.pure) | (with_reducible exact Ok.halt trivial) | (with_reducible apply ok_fieldPlace) | (with_reducible apply ok_stuck) | (with_reducible apply ok_underlying) | (with_reducible apply ok_Instr_sureAddr) | (with_reducible apply Ok.bind) | (with_reducible apply Ok.map) | (with_reducible apply ok_mapA) | (with_reducible apply ok_mapL) | (with_reducible apply ok_forA) | (with_reducible apply ok_forL) | (with_reducible apply ok_forR) | intro _ | split | dsimp only)
theorem ok_asAgg {P : Program} : ∀ a1, Ok P (asAgg a1) := by
  intro a1; unfold asAgg
  repeat' (first | (with_reducible exact Ok.pure) | (with_reducible exact Ok.halt trivial) | (with_reducible apply ok_stuck) | (with_reducible apply Ok.bind) | (with_reducible apply Ok.map) | (with_reducible apply ok_mapA) | (with_reducible apply ok_mapL) | (with_reducible apply ok_forA) | (with_reducible apply ok_forL) | (with_reducible apply ok_forR) | intro _ | split | dsimp only)
theorem ok_Instr_field {P : Program} : ∀ a1 a2 a3, Ok P (Instr.field a1 a2 a3) := by
  intro a1 a2 a3; unfold Instr.field
  repeat' (first | (with_reducible exact Ok.pure) | (with_reducible exact Ok.halt trivial) | (with_reducible apply ok_stuck) | (with_reducible apply ok_part) | (with_reducible apply ok_asAgg) | (with_reducible apply ok_underlying) | (with_reducible apply Ok.bind) | (with_reducible apply Ok.map) | (with_reducible apply ok_mapA) | (with_reducible apply ok_mapL) | (with_reducible apply ok_forA) | (with_reducible apply ok_forL) | (with_reducible apply ok_forR) | intro _ | split | dsimp only)
theorem ok_Instr_indexAt {P : Program} : ∀ a1 a2 a3, Ok P (Instr.indexAt a1 a2 a3) := by
  intro a1 a2 a3; unfold Instr.indexAt
  repeat' (first | (with_reducible exact Ok.pure) | (with_reducible exact Ok.halt trivial) | (with_reducible apply ok_sizeOf) | (with_reducible apply ok_boundsPanic) | (with_reducible apply ok_stuck) | (with_reducible apply ok_unsupported) | (with_reducible apply ok_asIntOf) | (with_reducible apply ok_underlying) | (with_reducible apply ok_Instr_sureAddr) | (with_reducible apply Ok.bind) | (with_reducible apply Ok.map) | (with_reducible apply ok_mapA) | (with_reducible apply ok_mapL) | (with_reducible apply ok_forA) | (with_reducible apply ok_forL) | (with_reducible apply ok_forR) | intro _ | split | dsimp only)
theorem ok_Instr_index {P : Program} : ∀ a1 a2 a3, Ok P (Instr.index a1 a2 a3) := by
  intro a1 a2 a3; unfold Instr.index
  repeat' (first | (with_reducible exact Ok.pure) | (with_reducible exact Ok.halt trivial) | (with_reducible apply ok_sizeOf) | (with_reducible apply ok_boundsPanic) | (with_reducible apply ok_stuck) | (with_reducible apply ok_part) | (with_reducible apply ok_asIntOf) | (with_reducible apply ok_underlying) | (with_reducible apply Ok.bind) | (with_reducible apply Ok.map) | (with_reducible apply ok_mapA) | (with_reducible apply ok_mapL) | (with_reducible apply ok_forA) | (with_reducible apply ok_forL) | (with_reducible apply ok_forR) | intro _ | split | dsimp only)
theorem ok_Instr_checkKey {P : Program} : ∀ a1 a2 a3 a4, Ok P (Instr.checkKey a1 a2 a3 a4) := by
  intro a1 a2
  induction a2 with
  | zero => intro a3 a4; exact ok_unsupported
  | succ n ih =>
    intro a3 a4; unfold Instr.checkKey
    repeat' (first | (with_reducible exact Ok.pure) | (with_reducible exact Ok.halt trivial) | (with_reducible apply ih) | (with_reducible apply ok_underlying) | (with_reducible apply ok_typeInfo) | (with_reducible apply ok_runtimePanic) | (with_reducible apply ok_typeStr) | (with_reducible apply ok_part) | (with_reducible apply ok_sizeOf) | (with_reducible apply ok_stuck) | (with_reducible apply ok_unsupported) | (with_reducible apply Ok.bind) | (with_reducible apply Ok.map) | (with_reducible apply ok_forA) | (with_reducible apply ok_forL) | (with_reducible apply ok_forR) | intro _ | split | dsimp only)
theorem ok_Instr_findAsking {P : Program} : ∀ a1 a2 a3 a4, Ok P (Instr.findAsking a1 a2 a3 a4) := by
  intro a1 a2 a3
  induction a3 with
  | nil => intro a4; exact Ok.pure
  | cons e l ih =>
    intro a4; unfold Instr.findAsking
    repeat' (first | (with_reducible exact Ok.pure) | (with_reducible exact Ok.halt trivial) | (with_reducible apply ih) | (with_reducible apply ok_Op_equal) | (with_reducible apply Ok.bind) | (with_reducible apply Ok.map) | (with_reducible apply ok_forA) | (with_reducible apply ok_forL) | (with_reducible apply ok_forR) | intro _ | split | dsimp only)
theorem ok_Instr_findKey {P : Program} : ∀ a1 a2 a3, Ok P (Instr.findKey a1 a2 a3) := by
  intro a1 a2 a3; unfold Instr.findKey
  repeat' (first | (with_reducible exact Ok.pure) | (with_reducible exact Ok.halt trivial) | (with_reducible apply ok_Instr_findAsking) | (with_reducible apply ok_underlying) | (with_reducible apply Ok.bind) | (with_reducible apply Ok.map) | (with_reducible apply ok_mapA) | (with_reducible apply ok_mapL) | (with_reducible apply ok_forA) | (with_reducible apply ok_forL) | (with_reducible apply ok_forR) | intro _ | split | dsimp only)
theorem ok_Instr_lookup {P : Program} : ∀ a1 a2 a3 a4, Ok P (Instr.lookup a1 a2 a3 a4) := by
  intro a1 a2 a3 a4; unfold Instr.lookup
  repeat' (first | (with_reducible exact Ok.pure) | (with_reducible exact Ok.halt trivial) | (with_reducible apply ok_getObj) | (with_reducible apply ok_Instr_checkKey) | (with_reducible apply ok_zeroValue) | (with_reducible apply ok_stuck) | (with_reducible apply ok_Instr_findKey) | (with_reducible apply ok_underlying) | (with_reducible apply Ok.bind) | (with_reducible apply Ok.map) | (with_reducible apply ok_mapA) | (with_reducible apply ok_mapL) | (with_reducible apply ok_forA) | (with_reducible apply ok_forL) | (with_reducible apply ok_forR) | intro _ | split | dsimp only)
theorem ok_Instr_keyThatStays {P : Program} : ∀ a1 a2, Ok P (Instr.keyThatStays a1 a2) := by
  intro a1 a2; unfold Instr.keyThatStays
  repeat' (first | (with_reducible exact Ok.pure) | (with_reducible exact Ok.halt trivial) | (with_reducible apply ok_choose) | (with_reducible apply Ok.bind) | (with_reducible apply Ok.map) | (with_reducible apply ok_mapA) | (with_reducible apply ok_mapL) | (with_reducible apply ok_forA) | (with_reducible apply ok_forL) | (with_reducible apply ok_forR) | intro _ | split | dsimp only)
theorem ok_Instr_mapUpdate {P : Program} : ∀ a1 a2 a3 a4, Ok P (Instr.mapUpdate a1 a2 a3 a4) := by
  intro a1 a2 a3 a4; unfold Instr.mapUpdate
  repeat' (first | (with_reducible exact Ok.pure) | (with_reducible exact Ok.halt trivial) | (with_reducible apply ok_getObj) | (with_reducible apply ok_Instr_keyThatStays) | (with_reducible apply ok_Instr_checkKey) | (with_reducible apply ok_stuck) | (with_reducible apply ok_runtimePanic) | (with_reducible apply ok_setObj) | (with_reducible apply ok_Instr_findKey) | (with_reducible apply ok_underlying) | (with_reducible apply Ok.bind) | (with_reducible apply Ok.map) | (with_reducible apply ok_mapA) | (with_reducible apply ok_mapL) | (with_reducible apply ok_forA) | (with_reducible apply ok_forL) | (with_reducible apply ok_forR) | intro _ | split | dsimp only)
theorem ok_Instr_mapEntry {P : Program} : ∀ a1 a2 a3, Ok P (Instr.mapEntry a1 a2 a3) := by
  intro a1 a2 a3; unfold Instr.mapEntry
  repeat' (first | (with_reducible exact Ok.pure) | (with_reducible exact Ok.halt trivial) | (with_reducible apply ok_getObj) | (with_reducible apply ok_Instr_keyThatStays) | (with_reducible apply ok_Instr_checkKey) | (with_reducible apply ok_zeroValue) | (with_reducible apply ok_stuck) | (with_reducible apply ok_runtimePanic) | (with_reducible apply ok_setObj) | (with_reducible apply ok_Instr_findKey) | (with_reducible apply ok_underlying) | (with_reducible apply Ok.bind) | (with_reducible apply Ok.map) | (with_reducible apply ok_mapA) | (with_reducible apply ok_mapL) | (with_reducible apply ok_forA) | (with_reducible apply ok_forL) | (with_reducible apply ok_forR) | intro _ | split | dsimp only)
theorem ok_Instr_entryStore {P : Program} : ∀ a1 a2 a3 a4, Ok P (Instr.entryStore a1 a2 a3 a4) := by
  intro a1 a2 a3 a4; unfold Instr.entryStore
  repeat' (first | (with_reducible exact Ok.pure) | (with_reducible exact Ok.halt trivial) | (with_reducible apply ok_getObj) | (with_reducible apply ok_asInt) | (with_reducible apply ok_stuck) | (with_reducible apply ok_unsupported) | (with_reducible apply ok_setObj) | (with_reducible apply Ok.bind) | (with_reducible apply Ok.map) | (with_reducible apply ok_mapA) | (with_reducible apply ok_mapL) | (with_reducible apply ok_forA) | (with_reducible apply ok_forL) | (with_reducible apply ok_forR) | intro _ | split | dsimp only)
theorem ok_Instr_range {P : Program} : ∀ a1 a2, Ok P (Instr.range a1 a2) := by
  intro a1 a2; unfold Instr.range
  repeat' (first | (with_reducible exact Ok.pure) | (with_reducible exact Ok.halt trivial) | (with_reducible apply ok_getObj) | (with_reducible apply ok_stuck) | (with_reducible apply ok_underlying) | (with_reducible apply ok_newObj) | (with_reducible apply Ok.bind) | (with_reducible apply Ok.map) | (with_reducible apply ok_mapA) | (with_reducible apply ok_mapL) | (with_reducible apply ok_forA) | (with_reducible apply ok_forL) | (with_reducible apply ok_forR) | intro _ | split | dsimp only)
theorem ok_Instr_next {P : Program} : ∀ a1 a2 a3, Ok P (Instr.next a1 a2 a3) := by
  intro a1 a2 a3; unfold Instr.next
  repeat' (first | (with_reducible exact Ok.pure) | (with_reducible exact Ok.halt trivial) | (with_reducible apply ok_getObj) | (with_reducible apply ok_stuck) | (with_reducible apply ok_choose) | (with_reducible apply ok_unsupported) | (with_reducible apply ok_setObj) | (with_reducible apply Ok.bind) | (with_reducible apply Ok.map) | (with_reducible apply ok_mapA) | (with_reducible apply ok_mapL) | (with_reducible apply ok_forA) | (with_reducible apply ok_forL) | (with_reducible apply ok_forR) | intro _ | split | dsimp only)
theorem ok_Instr_entry {P : Program} : ∀ a1, Ok P (Instr.entry a1) := by
  intro a1; unfold Instr.entry
  repeat' (first | (with_reducible exact Ok.pure) | (with_reducible exact Ok.halt trivial) | (with_reducible apply ok_getObj) | (with_reducible apply ok_stuck) | (with_reducible apply ok_unsupported) | (with_reducible apply Ok.bind) | (with_reducible apply Ok.map) | (with_reducible apply ok_mapA) | (with_reducible apply ok_mapL) | (with_reducible apply ok_forA) | (with_reducible apply ok_forL) | (with_reducible apply ok_forR) | intro _ | split | dsimp only)
theorem ok_Instr_typeAssert {P : Program} : ∀ a1 a2 a3 a4, Ok P (Instr.typeAssert a1 a2 a3 a4) := by
  intro a1 a2 a3 a4; unfold Instr.typeAssert
  repeat' (first | (with_reducible exact Ok.pure) | (with_reducible exact Ok.halt trivial) | (with_reducible apply ok_zeroValue) | (with_reducible apply ok_typeInfo) | (with_reducible apply ok_stuck) | (with_reducible apply ok_runtimePanic) | (with_reducible apply ok_underlying) | (with_reducible apply Ok.bind) | (with_reducible apply Ok.map) | (with_reducible apply ok_mapA) | (with_reducible apply ok_mapL) | (with_reducible apply ok_forA) | (with_reducible apply ok_forL) | (with_reducible apply ok_forR) | intro _ | split | dsimp only)
theorem ok_Instr_extract {P : Program} : ∀ a1 a2, Ok P (Instr.extract a1 a2) := by
  intro a1 a2; unfold Instr.extract
  repeat' (first | (with_reducible exact Ok.pure) | (with_reducible exact Ok.halt trivial) | (with_reducible apply ok_stuck) | (with_reducible apply Ok.bind) | (with_reducible apply Ok.map) | (with_reducible apply ok_mapA) | (with_reducible apply ok_mapL) | (with_reducible apply ok_forA) | (with_reducible apply ok_forL) | (with_reducible apply ok_forR) | intro _ | split | dsimp only)
theorem ok_Deferred_ofValue {P : Program} : ∀ a1 a2, Ok P (Deferred.ofValue a1 a2) := by
  intro a1 a2; unfold Deferred.ofValue
  repeat' (first | (with_reducible exact Ok.pure) | (with_reducible exact Ok.halt trivial) | (with_reducible apply ok_stuck) | (with_reducible apply Ok.bind) | (with_reducible apply Ok.map) | (with_reducible apply ok_mapA) | (with_reducible apply ok_mapL) | (with_reducible apply ok_forA) | (with_reducible apply ok_forL) | (with_reducible apply ok_forR) | intro _ | split | dsimp only)
theorem ok_Builtin_firstCells {P : Program} : ∀ a1 a2 a3, Ok P (Builtin.firstCells a1 a2 a3) := by
  intro a1 a2 a3; unfold Builtin.firstCells
  repeat' (first | (with_reducible exact Ok.pure) | (with_reducible exact Ok.halt trivial) | (with_reducible apply ok_stuck) | (with_reducible apply ok_loadCells) | (with_reducible apply Ok.bind) | (with_reducible apply Ok.map) | (with_reducible apply ok_mapA) | (with_reducible apply ok_mapL) | (with_reducible apply ok_forA) | (with_reducible apply ok_forL) | (with_reducible apply ok_forR) | intro _ | split | dsimp only)
theorem ok_Builtin_holdsCells {P : Program} : ∀ a1 a2, Ok P (Builtin.holdsCells a1 a2) := by
  intro a1 a2; unfold Builtin.holdsCells
  repeat' (first | (with_reducible exact Ok.pure) | (with_reducible exact Ok.halt trivial) | (with_reducible apply ok_shape) | (with_reducible apply Ok.bind) | (with_reducible apply Ok.map) | (with_reducible apply ok_mapA) | (with_reducible apply ok_mapL) | (with_reducible apply ok_forA) | (with_reducible apply ok_forL) | (with_reducible apply ok_forR) | intro _ | split | dsimp only)
theorem ok_Builtin_mayShare {P : Program} : ∀ a1 a2 a3 a4 a5, Ok P (Builtin.mayShare a1 a2 a3 a4 a5) := by
  intro a1 a2 a3 a4 a5; unfold Builtin.mayShare
  repeat' (first | (with_reducible exact Ok.pure) | (with_reducible exact Ok.halt trivial) | (with_reducible apply ok_frozen) | (with_reducible apply ok_Builtin_holdsCells) | (with_reducible apply Ok.bind) | (with_reducible apply Ok.map) | (with_reducible apply ok_mapA) | (with_reducible apply ok_mapL) | (with_reducible apply ok_forA) | (with_reducible apply ok_forL) | (with_reducible apply ok_forR) | intro _ | split | dsimp only)
theorem ok_Builtin_lenOf {P : Program} : ∀ a1, Ok P (Builtin.lenOf a1) := by
  intro a1; unfold Builtin.lenOf
  repeat' (first | (with_reducible exact Ok.pure) | (with_reducible exact Ok.halt trivial) | (with_reducible apply ok_stuck) | (with_reducible apply Ok.bind) | (with_reducible apply Ok.map) | (with_reducible apply ok_mapA) | (with_reducible apply ok_mapL) | (with_reducible apply ok_forA) | (with_reducible apply ok_forL) | (with_reducible apply ok_forR) | intro _ | split | dsimp only)
theorem ok_Builtin_append_ {P : Program} : ∀ a1 a2 a3, Ok P (Builtin.append_ a1 a2 a3) := by
  intro a1 a2 a3
  unfold Builtin.append_
  split
  · rename_i sType s x _
    refine Ok.bind (ok_underlying _) fun u => ?_
    split
    · rename_i elem
      split
      · rename_i base sLen sCap
        refine Ok.bind (ok_sizeOf _) fun size => ?_
        extract_lets -underBinder +onlyGivenNames J
        have hJ : ∀ r, Ok P (J r) := by
          intro zeros
          dsimp -zeta -zetaHave only [J]
          clear J
          extract_lets -underBinder +onlyGivenNames J
          have hJ : ∀ r, Ok P (J r) := by
            intro n
            dsimp -zeta -zetaHave only [J]
            clear J
            extract_lets -underBinder +onlyGivenNames A
            have hA : Ok P A := by
              dsimp -zeta -zetaHave only [A]
              repeat' (first | (extract_lets -underBinder +onlyGivenNames j; first | ((refine jp (P := P) (φ := fun _ => True) j _ (fun r => ?_) (fun hj => ?_)) <;> first | (have _h : ∀ r, Safe P (fun _ => True) 0 (j r) := hj; clear_value j) | (dsimp -zeta -zetaHave only [j]; clear j)) | ((refine jq (P := P) j _ ?_ (fun hj => ?_)) <;> first | (have _h : Safe P (fun _ => True) 0 j := hj; clear_value j) | (dsimp -zeta -zetaHave only [j]; clear j)) | clear_value j) | (with_reducible exact hj _) | (with_reducible exact Ok.pure) | (with_reducible exact Ok.halt trivial) | (with_reducible apply ok_underlying) | (with_reducible apply ok_sizeOf) | (with_reducible apply ok_stuck) | (with_reducible apply ok_Builtin_lenOf) | (with_reducible apply ok_asInt) | (with_reducible apply ok_runtimePanic) | (with_reducible apply ok_typeInfo) | (with_reducible apply ok_choose) | (with_reducible apply ok_Builtin_firstCells) | (with_reducible apply ok_zeroValue) | (with_reducible apply ok_storeCells) | (with_reducible apply ok_Builtin_mayShare) | (with_reducible apply ok_mark_noRoom) | (with_reducible apply ok_unsupported) | (with_reducible apply ok_askRoom) | (with_reducible apply ok_newRow) | (with_reducible apply Ok.bind) | intro _ | split)
            clear_value A
            repeat' (first | (extract_lets -underBinder +onlyGivenNames j; first | ((refine jp (P := P) (φ := fun _ => True) j _ (fun r => ?_) (fun hj => ?_)) <;> first | (have _h : ∀ r, Safe P (fun _ => True) 0 (j r) := hj; clear_value j) | (dsimp -zeta -zetaHave only [j]; clear j)) | ((refine jq (P := P) j _ ?_ (fun hj => ?_)) <;> first | (have _h : Safe P (fun _ => True) 0 j := hj; clear_value j) | (dsimp -zeta -zetaHave only [j]; clear j)) | clear_value j) | (with_reducible exact hj _) | (with_reducible exact Ok.pure) | (with_reducible exact Ok.halt trivial) | (with_reducible exact hA) | (with_reducible apply ok_underlying) | (with_reducible apply ok_sizeOf) | (with_reducible apply ok_stuck) | (with_reducible apply ok_Builtin_lenOf) | (with_reducible apply ok_asInt) | (with_reducible apply ok_runtimePanic) | (with_reducible apply ok_typeInfo) | (with_reducible apply ok_choose) | (with_reducible apply ok_Builtin_firstCells) | (with_reducible apply ok_zeroValue) | (with_reducible apply ok_storeCells) | (with_reducible apply ok_Builtin_mayShare) | (with_reducible apply ok_mark_noRoom) | (with_reducible apply ok_unsupported) | (with_reducible apply ok_askRoom) | (with_reducible apply ok_newRow) | (with_reducible apply Ok.bind) | intro _ | split)
          clear_value J
          repeat' (first | (extract_lets -underBinder +onlyGivenNames j; first | ((refine jp (P := P) (φ := fun _ => True) j _ (fun r => ?_) (fun hj => ?_)) <;> first | (have _h : ∀ r, Safe P (fun _ => True) 0 (j r) := hj; clear_value j) | (dsimp -zeta -zetaHave only [j]; clear j)) | ((refine jq (P := P) j _ ?_ (fun hj => ?_)) <;> first | (have _h : Safe P (fun _ => True) 0 j := hj; clear_value j) | (dsimp -zeta -zetaHave only [j]; clear j)) | clear_value j) | (with_reducible exact hJ _) | (with_reducible exact hj _) | (with_reducible exact Ok.pure) | (with_reducible exact Ok.halt trivial) | (with_reducible apply ok_underlying) | (with_reducible apply ok_sizeOf) | (with_reducible apply ok_stuck) | (with_reducible apply ok_Builtin_lenOf) | (with_reducible apply ok_asInt) | (with_reducible apply ok_runtimePanic) | (with_reducible apply ok_typeInfo) | (with_reducible apply ok_choose) | (with_reducible apply ok_Builtin_firstCells) | (with_reducible apply ok_zeroValue) | (with_reducible apply ok_storeCells) | (with_reducible apply ok_Builtin_mayShare) | (with_reducible apply ok_mark_noRoom) | (with_reducible apply ok_unsupported) | (with_reducible apply ok_askRoom) | (with_reducible apply ok_newRow) | (with_reducible apply Ok.bind) | intro _ | split)
        clear_value J
        repeat' (first | (extract_lets -underBinder +onlyGivenNames j; first | ((refine jp (P := P) (φ := fun _ => True) j _ (fun r => ?_) (fun hj => ?_)) <;> first | (have _h : ∀ r, Safe P (fun _ => True) 0 (j r) := hj; clear_value j) | (dsimp -zeta -zetaHave only [j]; clear j)) | ((refine jq (P := P) j _ ?_ (fun hj => ?_)) <;> first | (have _h : Safe P (fun _ => True) 0 j := hj; clear_value j) | (dsimp -zeta -zetaHave only [j]; clear j)) | clear_value j) | (with_reducible exact hJ _) | (with_reducible exact hj _) | (with_reducible exact Ok.pure) | (with_reducible exact Ok.halt trivial) | (with_reducible apply ok_underlying) | (with_reducible apply ok_sizeOf) | (with_reducible apply ok_stuck) | (with_reducible apply ok_Builtin_lenOf) | (with_reducible apply ok_asInt) | (with_reducible apply ok_runtimePanic) | (with_reducible apply ok_typeInfo) | (with_reducible apply ok_choose) | (with_reducible apply ok_Builtin_firstCells) | (with_reducible apply ok_zeroValue) | (with_reducible apply ok_storeCells) | (with_reducible apply ok_Builtin_mayShare) | (with_reducible apply ok_mark_noRoom) | (with_reducible apply ok_unsupported) | (with_reducible apply ok_askRoom) | (with_reducible apply ok_newRow) | (with_reducible apply Ok.bind) | intro _ | split)
      · exact ok_stuck
    · exact ok_stuck
  · exact ok_stuck
theorem ok_Builtin_cap_ {P : Program} : ∀ a1 a2 a3, Ok P (Builtin.cap_ a1 a2 a3) := by
  intro a1 a2 a3; unfold Builtin.cap_
  repeat' (first | (with_reducible exact Ok.pure) | (with_reducible exact Ok.halt trivial) | (with_reducible apply ok_getObj) | (with_reducible apply ok_stuck) | (with_reducible apply ok_underlying) | (with_reducible apply Ok.bind) | (with_reducible apply Ok.map) | (with_reducible apply ok_mapA) | (with_reducible apply ok_mapL) | (with_reducible apply ok_forA) | (with_reducible apply ok_forL) | (with_reducible apply ok_forR) | intro _ | split | dsimp only)
theorem ok_Builtin_clear_ {P : Program} : ∀ a1 a2 a3, Ok P (Builtin.clear_ a1 a2 a3) := by
  intro a1 a2 a3; unfold Builtin.clear_
  repeat' (first | (with_reducible exact Ok.pure) | (with_reducible exact Ok.halt trivial) | (with_reducible apply ok_getObj) | (with_reducible apply ok_zeroValue) | (with_reducible apply ok_stuck) | (with_reducible apply ok_storeCells) | (with_reducible apply ok_setObj) | (with_reducible apply ok_underlying) | (with_reducible apply Ok.bind) | (with_reducible apply Ok.map) | (with_reducible apply ok_mapA) | (with_reducible apply ok_mapL) | (with_reducible apply ok_forA) | (with_reducible apply ok_forL) | (with_reducible apply ok_forR) | intro _ | split | dsimp only)
theorem ok_Builtin_close_ {P : Program} : ∀ a1 a2 a3, Ok P (Builtin.close_ a1 a2 a3) := by
  intro a1 a2 a3
  obtain ⟨l⟩ := a3
  rcases l with _ | ⟨x, _ | ⟨y, t⟩⟩
  · exact ok_stuck
  · cases x <;> first | exact ok_stuck | skip
    rename_i c
    cases c with
    | none => exact (ok_runtimePanic (.plain _) : Ok P (runtimePanic _ : Sem Value))
    | some r =>
      refine Ok.bind ok_getObj fun o => ?_
      repeat' (first | (with_reducible exact Ok.pure) | (with_reducible exact Ok.halt trivial) | (with_reducible apply ok_runtimePanic) | (with_reducible apply ok_setObj) | (with_reducible apply ok_stuck) | (with_reducible apply Ok.bind) | (with_reducible apply Ok.map) | (with_reducible apply ok_forA) | (with_reducible apply ok_forL) | (with_reducible apply ok_forR) | intro _ | split | dsimp only)
  · exact ok_stuck
theorem ok_Builtin_complex_ {P : Program} : ∀ a1 a2 a3, Ok P (Builtin.complex_ a1 a2 a3) := by
  intro a1 a2 a3
  obtain ⟨l⟩ := a3
  rcases l with _ | ⟨x, _ | ⟨y, _ | ⟨z, t⟩⟩⟩
  · exact ok_stuck
  · exact ok_stuck
  · cases x <;> cases y <;> first | exact ok_stuck | skip
    rename_i k a k' b
    show Ok P (if k = k' then Pure.pure (Value.complex k a b) else stuck _)
    split
    · exact Ok.pure
    · exact ok_stuck
  · exact ok_stuck
theorem ok_Builtin_copy_ {P : Program} : ∀ a1 a2 a3, Ok P (Builtin.copy_ a1 a2 a3) := by
  intro a1 a2 a3; unfold Builtin.copy_
  repeat' (first | (with_reducible exact Ok.pure) | (with_reducible exact Ok.halt trivial) | (with_reducible apply ok_sizeOf) | (with_reducible apply ok_Builtin_lenOf) | (with_reducible apply ok_stuck) | (with_reducible apply ok_storeCells) | (with_reducible apply ok_Builtin_firstCells) | (with_reducible apply ok_underlying) | (with_reducible apply Ok.bind) | (with_reducible apply Ok.map) | (with_reducible apply ok_mapA) | (with_reducible apply ok_mapL) | (with_reducible apply ok_forA) | (with_reducible apply ok_forL) | (with_reducible apply ok_forR) | intro _ | split | dsimp only)
theorem ok_Builtin_delete_ {P : Program} : ∀ a1 a2 a3, Ok P (Builtin.delete_ a1 a2 a3) := by
  intro a1 a2 a3; unfold Builtin.delete_
  repeat' (first | (with_reducible exact Ok.pure) | (with_reducible exact Ok.halt trivial) | (with_reducible apply ok_getObj) | (with_reducible apply ok_Instr_checkKey) | (with_reducible apply ok_stuck) | (with_reducible apply ok_setObj) | (with_reducible apply ok_Instr_findKey) | (with_reducible apply ok_underlying) | (with_reducible apply Ok.bind) | (with_reducible apply Ok.map) | (with_reducible apply ok_mapA) | (with_reducible apply ok_mapL) | (with_reducible apply ok_forA) | (with_reducible apply ok_forL) | (with_reducible apply ok_forR) | intro _ | split | dsimp only)
theorem ok_Builtin_imag_ {P : Program} : ∀ a1 a2 a3, Ok P (Builtin.imag_ a1 a2 a3) := by
  intro a1 a2 a3
  obtain ⟨l⟩ := a3
  rcases l with _ | ⟨x, _ | ⟨y, t⟩⟩
  · exact ok_stuck
  · cases x <;> first | exact ok_stuck | exact Ok.pure
  · exact ok_stuck
theorem ok_Builtin_len_ {P : Program} : ∀ a1 a2 a3, Ok P (Builtin.len_ a1 a2 a3) := by
  intro a1 a2 a3; unfold Builtin.len_
  repeat' (first | (with_reducible exact Ok.pure) | (with_reducible exact Ok.halt trivial) | (with_reducible apply ok_getObj) | (with_reducible apply ok_stuck) | (with_reducible apply ok_underlying) | (with_reducible apply Ok.bind) | (with_reducible apply Ok.map) | (with_reducible apply ok_mapA) | (with_reducible apply ok_mapL) | (with_reducible apply ok_forA) | (with_reducible apply ok_forL) | (with_reducible apply ok_forR) | intro _ | split | dsimp only)
theorem ok_Builtin_max2 {P : Program} : ∀ a1 a2, Ok P (Builtin.max2 a1 a2) := by
  intro a1 a2; unfold Builtin.max2
  repeat' (first | (with_reducible exact Ok.pure) | (with_reducible exact Ok.halt trivial) | (with_reducible apply ok_asBool) | (with_reducible apply ok_stuck) | (with_reducible apply ok_choose) | (with_reducible apply ok_unsupported) | (with_reducible apply ok_Op_stringOp) | (with_reducible apply Ok.bind) | (with_reducible apply Ok.map) | (with_reducible apply ok_mapA) | (with_reducible apply ok_mapL) | (with_reducible apply ok_forA) | (with_reducible apply ok_forL) | (with_reducible apply ok_forR) | intro _ | split | dsimp only)
theorem ok_Builtin_max_ {P : Program} : ∀ a1 a2 a3, Ok P (Builtin.max_ a1 a2 a3) := by
  intro a1 a2 a3; unfold Builtin.max_
  split
  · exact ok_stuck
  · exact ok_foldL ok_Builtin_max2 _ _
theorem ok_Builtin_min2 {P : Program} : ∀ a1 a2, Ok P (Builtin.min2 a1 a2) := by
  intro a1 a2; unfold Builtin.min2
  repeat' (first | (with_reducible exact Ok.pure) | (with_reducible exact Ok.halt trivial) | (with_reducible apply ok_asBool) | (with_reducible apply ok_stuck) | (with_reducible apply ok_choose) | (with_reducible apply ok_unsupported) | (with_reducible apply ok_Op_stringOp) | (with_reducible apply Ok.bind) | (with_reducible apply Ok.map) | (with_reducible apply ok_mapA) | (with_reducible apply ok_mapL) | (with_reducible apply ok_forA) | (with_reducible apply ok_forL) | (with_reducible apply ok_forR) | intro _ | split | dsimp only)
theorem ok_Builtin_min_ {P : Program} : ∀ a1 a2 a3, Ok P (Builtin.min_ a1 a2 a3) := by
  intro a1 a2 a3; unfold Builtin.min_
  split
  · exact ok_stuck
  · exact ok_foldL ok_Builtin_min2 _ _
theorem ok_Instr_panicnil {P : Program} : Ok P Instr.panicnil := by
  unfold Instr.panicnil
  refine ⟨⟨.stuck _, trivial, rfl⟩, fun r => ?_⟩
  cases r <;> first | exact ok_stuck | (show Safe P (fun _ => True) 0 (program >>= _); exact Ok.bind ok_program fun _ => Ok.pure)
theorem ok_Instr_panic {P : Program} : ∀ a1, Ok P (Instr.panic a1) := by
  intro a1; unfold Instr.panic
  repeat' (first | (with_reducible exact Ok.pure) | (with_reducible exact Ok.halt trivial) | (with_reducible apply ok_stuck) | (with_reducible apply ok_goPanic) | (with_reducible apply ok_runtimePanic) | (with_reducible apply ok_Instr_panicnil) | (with_reducible apply Ok.bind) | (with_reducible apply Ok.map) | (with_reducible apply ok_mapA) | (with_reducible apply ok_mapL) | (with_reducible apply ok_forA) | (with_reducible apply ok_forL) | (with_reducible apply ok_forR) | intro _ | split | dsimp only)
theorem ok_Builtin_printOne {P : Program} : ∀ a1 a2, Ok P (Builtin.printOne a1 a2) := by
  intro a1 a2; unfold Builtin.printOne
  repeat' (first | (with_reducible exact Ok.pure) | (with_reducible exact Ok.halt trivial) | (with_reducible apply ok_typeInfo) | (with_reducible apply ok_stuck) | (with_reducible apply ok_unsupported) | (with_reducible apply Ok.bind) | (with_reducible apply Ok.map) | (with_reducible apply ok_mapA) | (with_reducible apply ok_mapL) | (with_reducible apply ok_forA) | (with_reducible apply ok_forL) | (with_reducible apply ok_forR) | intro _ | split | dsimp only)
theorem ok_Builtin_pieces {P : Program} : ∀ a1 a2 a3 a4, Ok P (Builtin.pieces a1 a2 a3 a4) := by
  intro a1 a2 a3 a4; unfold Builtin.pieces
  repeat' (first | (with_reducible exact Ok.pure) | (with_reducible apply ok_Builtin_printOne) | (with_reducible apply ok_stuck) | (with_reducible apply Ok.bind) | (with_reducible apply ok_forR') | (with_reducible apply ok_forA) | intro _ | split | dsimp only)
theorem ok_Builtin_real_ {P : Program} : ∀ a1 a2 a3, Ok P (Builtin.real_ a1 a2 a3) := by
  intro a1 a2 a3
  obtain ⟨l⟩ := a3
  rcases l with _ | ⟨x, _ | ⟨y, t⟩⟩
  · exact ok_stuck
  · cases x <;> first | exact ok_stuck | exact Ok.pure
  · exact ok_stuck
set_option maxHeartbeats 1000000 in
theorem ok_Builtin_unsafeSlice_ {P : Program} : ∀ a1 a2 a3, Ok P (Builtin.unsafeSlice_ a1 a2 a3) := by
  intro a1 a2 a3
  obtain ⟨l⟩ := a3
  rcases l with _ | ⟨x, _ | ⟨y, _ | ⟨z, t⟩⟩⟩
  · exact ok_stuck
  · exact ok_stuck
  · cases x <;> first | exact ok_stuck | skip
    refine Ok.bind (ok_asInt _) fun n => ?_
    repeat' (first | (with_reducible exact Ok.pure) | (with_reducible exact Ok.halt trivial) | (with_reducible apply ok_asInt) | (with_reducible apply ok_unsupported) | (with_reducible apply ok_viewAt) | (with_reducible apply ok_shape) | (with_reducible apply ok_program) | (with_reducible apply ok_elemOf) | (with_reducible apply ok_runtimePanic) | (with_reducible apply ok_typeInfo) | (with_reducible apply ok_sizeOf) | (with_reducible apply ok_variablesAt) | (with_reducible apply ok_newObj) | (with_reducible apply ok_stuck) | (with_reducible apply Ok.bind) | (with_reducible apply Ok.map) | (with_reducible apply ok_forA) | (with_reducible apply ok_forL) | (with_reducible apply ok_forR) | intro _ | split | dsimp only)
  · exact ok_stuck
theorem ok_Builtin_unsafeSliceData_ {P : Program} : ∀ a1 a2 a3, Ok P (Builtin.unsafeSliceData_ a1 a2 a3) := by
  intro a1 a2 a3
  obtain ⟨l⟩ := a3
  rcases l with _ | ⟨x, _ | ⟨y, t⟩⟩
  · exact ok_stuck
  · cases x <;> first | exact ok_stuck | skip
    rename_i a n c
    cases a with
    | none => exact Ok.pure
    | some a =>
      show Ok P (if c ≠ 0 then Pure.pure (Value.pointer (some a)) else _)
      repeat' (first | (with_reducible exact Ok.pure) | (with_reducible exact Ok.halt trivial) | (with_reducible apply ok_viewAt) | (with_reducible apply ok_newObj) | (with_reducible apply ok_elemOf) | (with_reducible apply Ok.bind) | (with_reducible apply Ok.map) | (with_reducible apply ok_forA) | (with_reducible apply ok_forL) | (with_reducible apply ok_forR) | intro _ | split | dsimp only)
  · exact ok_stuck
theorem ok_loadBytes {P : Program} : ∀ a1 a2 a3, Ok P (loadBytes a1 a2 a3) := by
  intro a1 a2 a3
  induction a3 generalizing a1 a2 with
  | zero => exact Ok.pure
  | succ n ih =>
    unfold loadBytes
    repeat' (first | (with_reducible exact Ok.pure) | (with_reducible exact Ok.halt trivial) | (with_reducible apply ih) | (with_reducible apply ok_load) | (with_reducible apply ok_stuck) | (with_reducible apply Ok.bind) | (with_reducible apply Ok.map) | (with_reducible apply ok_forA) | (with_reducible apply ok_forL) | (with_reducible apply ok_forR) | intro _ | split | dsimp only)
theorem ok_Builtin_unsafeString_ {P : Program} : ∀ a1 a2 a3, Ok P (Builtin.unsafeString_ a1 a2 a3) := by
  intro a1 a2 a3
  obtain ⟨l⟩ := a3
  rcases l with _ | ⟨x, _ | ⟨y, _ | ⟨z, t⟩⟩⟩
  · exact ok_stuck
  · exact ok_stuck
  · cases x <;> first | exact ok_stuck | skip
    refine Ok.bind (ok_asInt _) fun n => ?_
    repeat' (first | (with_reducible exact Ok.pure) | (with_reducible exact Ok.halt trivial) | (with_reducible apply ok_asInt) | (with_reducible apply ok_unsupported) | (with_reducible apply ok_viewAt) | (with_reducible apply ok_shape) | (with_reducible apply ok_program) | (with_reducible apply ok_elemOf) | (with_reducible apply ok_runtimePanic) | (with_reducible apply ok_typeInfo) | (with_reducible apply ok_sizeOf) | (with_reducible apply ok_variablesAt) | (with_reducible apply ok_newObj) | (with_reducible apply ok_stuck) | (with_reducible apply ok_loadBytes) | (with_reducible apply ok_freeze) | (with_reducible apply Ok.bind) | (with_reducible apply Ok.map) | (with_reducible apply ok_forA) | (with_reducible apply ok_forL) | (with_reducible apply ok_forR) | intro _ | split | dsimp only)
  · exact ok_stuck
theorem ok_Builtin_unsafeStringData_ {P : Program} : ∀ a1 a2 a3, Ok P (Builtin.unsafeStringData_ a1 a2 a3) := by
  intro a1 a2 a3
  obtain ⟨l⟩ := a3
  rcases l with _ | ⟨x, _ | ⟨y, t⟩⟩
  · exact ok_stuck
  · cases x <;> first | exact ok_stuck | skip
    rename_i s
    have b : Ok P (do let a ← newRow (← elemOf a2) (s.data.map fun b => Value.int .u8 b.toNat); freeze a s.size; Pure.pure (Value.pointer (some a)) : Sem Value) :=
      Ok.bind (ok_elemOf _) fun _ => Ok.bind (ok_newRow _ _) fun _ => Ok.bind ok_freeze fun _ => Ok.pure
    have a : Ok P (do
        if (← choose (.extern "unsafe.StringData.empty" 2)) = 0 then return Value.pointer none
        let a ← newRow (← elemOf a2) #[]
        markStringish a
        return Value.pointer (some a) : Sem Value) := by
      repeat' (first | (with_reducible exact Ok.pure) | (with_reducible exact Ok.halt trivial) | (with_reducible apply ok_choose) | (with_reducible apply ok_elemOf) | (with_reducible apply ok_newRow) | (with_reducible apply ok_markStringish) | (with_reducible apply Ok.bind) | (with_reducible apply Ok.map) | (with_reducible apply ok_forA) | (with_reducible apply ok_forL) | (with_reducible apply ok_forR) | intro _ | split | dsimp only)
    show Ok P (if s.size = 0 then _ else _)
    split
    · exact a
    · exact b
  · exact ok_stuck
theorem ok_asString {P : Program} : ∀ a1, Ok P (asString a1) := by
  intro a1; unfold asString
  repeat' (first | (with_reducible exact Ok.pure) | (with_reducible exact Ok.halt trivial) | (with_reducible apply ok_stuck) | (with_reducible apply Ok.bind) | (with_reducible apply Ok.map) | (with_reducible apply ok_mapA) | (with_reducible apply ok_mapL) | (with_reducible apply ok_forA) | (with_reducible apply ok_forL) | (with_reducible apply ok_forR) | intro _ | split | dsimp only)
theorem ok_Place_get {P : Program} : ∀ a1 a2, Ok P (Place.get a1 a2) := by
  intro a1 a2; unfold Place.get
  repeat' (first | (with_reducible exact Ok.pure) | (with_reducible exact Ok.halt trivial) | (with_reducible apply ok_loadVar) | (with_reducible apply Ok.bind) | (with_reducible apply Ok.map) | (with_reducible apply ok_mapA) | (with_reducible apply ok_mapL) | (with_reducible apply ok_forA) | (with_reducible apply ok_forL) | (with_reducible apply ok_forR) | intro _ | split | dsimp only)
theorem ok_follow {P : Program} : ∀ a1 a2 a3, Ok P (follow a1 a2 a3) := by
  intro a1
  induction a1 with
  | nil => exact fun _ _ => Ok.pure
  | cons s l ih =>
    intro a2 a3; unfold follow
    repeat' (first | (with_reducible exact Ok.pure) | (with_reducible exact Ok.halt trivial) | (with_reducible apply ih) | (with_reducible apply ok_underlying) | (with_reducible apply ok_stuck) | (with_reducible apply ok_asAddr) | (with_reducible apply ok_Place_get) | (with_reducible apply ok_fieldPlace) | (with_reducible apply ok_part) | (with_reducible apply Ok.bind) | (with_reducible apply Ok.map) | (with_reducible apply ok_forA) | (with_reducible apply ok_forL) | (with_reducible apply ok_forR) | intro _ | split | dsimp only)
theorem ok_wrapTail {P : Program} {a1 : Array TypeId} {m : ByteArray} : Ok P (do
    if (← choose (.extern "ssa:wrapnilchk.dereferenced" 2)) == 1 then runtimePanic .nilDeref
    let some pt := a1[0]? | stuck "ssa:wrapnilchk: no argument types"
    let .pointer t ← underlying pt | stuck "ssa:wrapnilchk: pointer type expected"
    let .named name _ := (← typeInfo t).desc | stuck "ssa:wrapnilchk: defined type expected"
    let some m := String.fromUTF8? m | stuck "ssa:wrapnilchk: the method's name is not UTF-8"
    let base := (name.splitOn "[").headD ""
    let targs := if base == name then "" else "[...]"
    match ((base.splitOn "/").getLastD "").splitOn "." with
    | [_, typ] => runtimePanic (.plain (toString "value method " ++ toString base ++ toString targs ++ toString "." ++ toString m ++ toString " called using nil *" ++ toString typ ++ toString targs ++ toString " pointer"))
    | _ => unsupported (.noEntry "builtin/ssaWrapNilChk.dot in the package path") : Sem Value) := by
  repeat' (first | (with_reducible exact Ok.pure) | (with_reducible exact Ok.halt trivial) | (with_reducible apply ok_choose) | (with_reducible apply ok_runtimePanic) | (with_reducible apply ok_stuck) | (with_reducible apply ok_underlying) | (with_reducible apply ok_typeInfo) | (with_reducible apply ok_unsupported) | (with_reducible apply Ok.bind) | (with_reducible apply Ok.map) | (with_reducible apply ok_forA) | (with_reducible apply ok_forL) | (with_reducible apply ok_forR) | intro _ | split | dsimp only)
theorem ok_Builtin_ssaWrapNilChk_ {P : Program} : ∀ a1 a2 a3, Ok P (Builtin.ssaWrapNilChk_ a1 a2 a3) := by
  intro a1 a2 a3
  obtain ⟨l⟩ := a3
  rcases l with _ | ⟨x, _ | ⟨y, _ | ⟨z, _ | ⟨u, t⟩⟩⟩⟩
  · exact ok_stuck
  · exact ok_stuck
  · exact ok_stuck
  · cases y <;> cases z <;> first | exact ok_stuck | skip
    rename_i s m
    cases x <;> first | exact ok_stuck | skip
    rename_i p
    cases p with
    | some a => exact Ok.pure
    | none => exact ok_wrapTail (m := m)
  · exact ok_stuck
theorem ok_receiverAt {P : Program} : ∀ a1 a2 a3 a4, Ok P (receiverAt a1 a2 a3 a4) := by
  intro a1 a2 a3 a4; unfold receiverAt
  repeat' (first | (with_reducible exact Ok.pure) | (with_reducible exact Ok.halt trivial) | (with_reducible apply ok_asAddr) | (with_reducible apply ok_loadVar) | (with_reducible apply ok_Place_get) | (with_reducible apply ok_stuck) | (with_reducible apply ok_Builtin_ssaWrapNilChk_) | (with_reducible apply ok_underlying) | (with_reducible apply Ok.bind) | (with_reducible apply Ok.map) | (with_reducible apply ok_mapA) | (with_reducible apply ok_mapL) | (with_reducible apply ok_forA) | (with_reducible apply ok_forL) | (with_reducible apply ok_forR) | intro _ | split | dsimp only)
theorem ok_method {P : Program} : ∀ a1 a2 a3 a4, Ok P (method a1 a2 a3 a4) := by
  intro a1
  induction a1 with
  | zero => exact fun _ _ _ => ok_unsupported
  | succ n ih =>
    intro a2 a3 a4; unfold method
    repeat' (first | (with_reducible exact Ok.pure) | (with_reducible exact Ok.halt trivial) | (with_reducible apply ih) | (with_reducible apply ok_typeInfo) | (with_reducible apply ok_stuck) | (with_reducible apply ok_follow) | (with_reducible apply ok_Place_get) | (with_reducible apply ok_runtimePanic) | (with_reducible apply ok_receiverAt) | (with_reducible apply Ok.bind) | (with_reducible apply Ok.map) | (with_reducible apply ok_forA) | (with_reducible apply ok_forL) | (with_reducible apply ok_forR) | intro _ | split | dsimp only)
theorem ok_receiverVia {P : Program} : ∀ a1 a2 a3 a4, Ok P (receiverVia a1 a2 a3 a4) := by
  intro a1 a2 a3 a4; unfold receiverVia
  repeat' (first | (with_reducible exact Ok.pure) | (with_reducible exact Ok.halt trivial) | (with_reducible apply ok_follow) | (with_reducible apply ok_receiverAt) | (with_reducible apply Ok.bind) | (with_reducible apply Ok.map) | (with_reducible apply ok_mapA) | (with_reducible apply ok_mapL) | (with_reducible apply ok_forA) | (with_reducible apply ok_forL) | (with_reducible apply ok_forR) | intro _ | split | dsimp only)
theorem ok_Instr_getLoop {P : Program} : ∀ a1, Ok P (Instr.getLoop a1) := by
  intro a1; unfold Instr.getLoop
  repeat' (first | (with_reducible exact Ok.pure) | (with_reducible exact Ok.halt trivial) | (with_reducible apply ok_getObj) | (with_reducible apply ok_stuck) | (with_reducible apply Ok.bind) | (with_reducible apply Ok.map) | (with_reducible apply ok_mapA) | (with_reducible apply ok_mapL) | (with_reducible apply ok_forA) | (with_reducible apply ok_forL) | (with_reducible apply ok_forR) | intro _ | split | dsimp only)
theorem ok_Instr_enterLoop {P : Program} : ∀ a1 a2 a3 a4 a5 a6, Ok P (Instr.enterLoop a1 a2 a3 a4 a5 a6) := by
  intro a1 a2 a3 a4 a5 a6; unfold Instr.enterLoop
  repeat' (first | (with_reducible exact Ok.pure) | (with_reducible exact Ok.halt trivial) | (with_reducible apply ok_Instr_getLoop) | (with_reducible apply ok_newObj) | (with_reducible apply Ok.bind) | (with_reducible apply Ok.map) | (with_reducible apply ok_mapA) | (with_reducible apply ok_mapL) | (with_reducible apply ok_forA) | (with_reducible apply ok_forL) | (with_reducible apply ok_forR) | intro _ | split | dsimp only)
theorem ok_Instr_endRound {P : Program} : ∀ a1 a2, Ok P (Instr.endRound a1 a2) := by
  intro a1 a2; unfold Instr.endRound
  repeat' (first | (with_reducible exact Ok.pure) | (with_reducible exact Ok.halt trivial) | (with_reducible apply ok_Instr_getLoop) | (with_reducible apply ok_setObj) | (with_reducible apply Ok.bind) | (with_reducible apply Ok.map) | (with_reducible apply ok_mapA) | (with_reducible apply ok_mapL) | (with_reducible apply ok_forA) | (with_reducible apply ok_forL) | (with_reducible apply ok_forR) | intro _ | split | dsimp only)
theorem ok_Instr_beginRound {P : Program} : ∀ a1, Ok P (Instr.beginRound a1) := by
  intro a1; unfold Instr.beginRound
  repeat' (first | (with_reducible exact Ok.pure) | (with_reducible exact Ok.halt trivial) | (with_reducible apply ok_Instr_getLoop) | (with_reducible apply ok_runtimePanic) | (with_reducible apply ok_setObj) | (with_reducible apply Ok.bind) | (with_reducible apply Ok.map) | (with_reducible apply ok_mapA) | (with_reducible apply ok_mapL) | (with_reducible apply ok_forA) | (with_reducible apply ok_forL) | (with_reducible apply ok_forR) | intro _ | split | dsimp only)
theorem ok_Instr_endLoop {P : Program} : ∀ a1, Ok P (Instr.endLoop a1) := by
  intro a1; unfold Instr.endLoop
  repeat' (first | (with_reducible exact Ok.pure) | (with_reducible exact Ok.halt trivial) | (with_reducible apply ok_Instr_getLoop) | (with_reducible apply ok_runtimePanic) | (with_reducible apply ok_setObj) | (with_reducible apply Ok.bind) | (with_reducible apply Ok.map) | (with_reducible apply ok_mapA) | (with_reducible apply ok_mapL) | (with_reducible apply ok_forA) | (with_reducible apply ok_forL) | (with_reducible apply ok_forR) | intro _ | split | dsimp only)
theorem ok_Instr_deferInRound {P : Program} : ∀ a1 a2, Ok P (Instr.deferInRound a1 a2) := by
  intro a1 a2; unfold Instr.deferInRound
  repeat' (first | (with_reducible exact Ok.pure) | (with_reducible exact Ok.halt trivial) | (with_reducible apply ok_getObj) | (with_reducible apply ok_throw) | (with_reducible apply ok_stuck) | (with_reducible apply ok_Instr_getLoop) | (with_reducible apply ok_setObj) | (with_reducible apply Ok.bind) | (with_reducible apply Ok.map) | (with_reducible apply ok_mapA) | (with_reducible apply ok_mapL) | (with_reducible apply ok_forA) | (with_reducible apply ok_forL) | (with_reducible apply ok_forR) | intro _ | split | dsimp only)
theorem ok_Instr_takeDeferred {P : Program} : ∀ a1, Ok P (Instr.takeDeferred a1) := by
  intro a1; unfold Instr.takeDeferred
  repeat' (first | (with_reducible exact Ok.pure) | (with_reducible exact Ok.halt trivial) | (with_reducible apply ok_getObj) | (with_reducible apply ok_stuck) | (with_reducible apply ok_setObj) | (with_reducible apply Ok.bind) | (with_reducible apply Ok.map) | (with_reducible apply ok_mapA) | (with_reducible apply ok_mapL) | (with_reducible apply ok_forA) | (with_reducible apply ok_forL) | (with_reducible apply ok_forR) | intro _ | split | dsimp only)
theorem ok_results {P : Program} : ∀ a1 a2, Ok P (results a1 a2) := by
  intro a1 a2; unfold results
  repeat' (first | (with_reducible exact Ok.pure) | (with_reducible exact Ok.halt trivial) | (with_reducible apply ok_asAddr) | (with_reducible apply ok_loadVar) | (with_reducible apply Ok.bind) | (with_reducible apply Ok.map) | (with_reducible apply ok_mapA) | (with_reducible apply ok_mapL) | (with_reducible apply ok_forA) | (with_reducible apply ok_forL) | (with_reducible apply ok_forR) | intro _ | split | dsimp only)
theorem ok_reportChain {P : Program} : ∀ a1 a2, Ok P (reportChain a1 a2) := by
  intro a1
  induction a1 with
  | nil => exact fun _ => Ok.pure
  | cons e l ih =>
    intro a2; unfold reportChain
    repeat' (first | (with_reducible exact Ok.pure) | (with_reducible exact Ok.halt trivial) | (with_reducible apply ih) | (with_reducible apply ok_unsupported) | (with_reducible apply ok_program) | (with_reducible apply ok_choose) | (with_reducible apply Ok.bind) | (with_reducible apply Ok.map) | (with_reducible apply ok_forA) | (with_reducible apply ok_forL) | (with_reducible apply ok_forR) | intro _ | split | dsimp only)
theorem ok_withAddress {P : Program} : ∀ a1, Ok P (withAddress a1) := by
  intro a1; unfold withAddress
  repeat' (first | (with_reducible exact Ok.pure) | (with_reducible exact Ok.halt trivial) | (with_reducible apply ok_choose) | (with_reducible apply Ok.bind) | (with_reducible apply Ok.map) | (with_reducible apply ok_mapA) | (with_reducible apply ok_mapL) | (with_reducible apply ok_forA) | (with_reducible apply ok_forL) | (with_reducible apply ok_forR) | intro _ | split | dsimp only)
end Go.Lx
