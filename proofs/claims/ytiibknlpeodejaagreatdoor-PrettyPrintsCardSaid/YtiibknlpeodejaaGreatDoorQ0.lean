/- Part 0 of what the proof rests on. -/
import Derived.Below
import Derived.OwnWalk
import Derived.Maps.AppendAt
import Derived.Deep.Draws
import Derived.Test.YtiibknlpeodejaaGreatDoorChecked
import Derived.KernelRfl
import Derived.WalkKit
import Derived.Tactics
import Derived.LoopTactic
import Derived.Deep.QuietTactic
import Derived.BigQuiet
import Derived.Deep.LoopGhost
import Derived.Lib.Hide
import Derived.Outline
import Derived.RangeFuncNested
import Derived.RangeFuncLeaves
import Derived.OwnWalkIn
import Derived.MapKept
import Derived.Lib.ItoaLen
import Derived.Carry
import Derived.LoopN
import Derived.Shelf.Strings.Builder1
import Derived.Shelf.Strings.Builder2
import Derived.Shelf.Strings.OnBuilder
import Derived.Shelf.Small.Bits
import Derived.Shelf.Strings.BuilderF
import Derived.Shelf.Strings.BuilderK
import Derived.Shelf.Strings.Builder2Cap
import Derived.Shelf.Strconv.Itoa0
import Derived.Shelf.Strconv.Itoa1
import Derived.Shelf.LaysM
import Derived.Shelf.Strconv.Itoa2
import Derived.Shelf.Strconv.Itoa3
import Derived.Shelf.Sort.Plain
import Derived.Ground.Names2Prog
import Derived.Shelf.Slices.Clone
import Derived.Shelf.Slices.In.SortNone
import Derived.Ground.SlgnProg
import Derived.Shelf.SlicesE.Clone
import Derived.Test.YtiibknlpeodejaaGreatDoorProg
import Derived.Deep.RegionHeld3
import Derived.Deep.AppendLies
set_option linter.unusedSimpArgs false
set_option linter.unusedVariables false
/- What lies in memory and is read: rows of cells, rows of rows; a world that has grown. -/
namespace Go.Lx
open Go.RowKit

theorem alloc_heap (w : World) (o : Obj) : (w.alloc o).heap = w.heap.push o := rfl

theorem heap_set (w : World) (a : Addr) (v : Value) (b : Nat) (hb : b ≠ a.block) : (w.setCell a v).heap[b]? = w.heap[b]? := by
  simp only [World.setCell]
  rw [Array.getElem?_modify]
  simp [Ne.symm hb]

theorem heap_set_same (w : World) {b i : Nat} {cs : Array Value} {ty : TypeId} {fz : Nat × Nat} (h : w.heap[b]? = some (.cells cs ty fz)) (v : Value) :
    (w.setCell ⟨b, i, none⟩ v).heap[b]? = some (.cells (cs.setIfInBounds i v) ty fz) := by
  simp only [World.setCell]
  rw [Array.getElem?_modify]
  simp [h]

theorem set_size (w : World) (a : Addr) (v : Value) : (w.setCell a v).heap.size = w.heap.size := by simp [World.setCell]
theorem add_at (b j : Nat) : (⟨b, 0, none⟩ : Addr).add j = ⟨b, j, none⟩ := by unfold Addr.add; split <;> simp_all

section
variable {w w' : World} {base : Nat} {e : TypeId} {size n : Nat} {v : Value} {xs : List Value}

theorem row_block (h : w.ownsRow base e size v n xs) (hn : 0 < n) : ∃ g cap, v = .slice (some ⟨g, 0, none⟩) n cap ∧ v.ownBlock = some g ∧ base ≤ g ∧ g < w.heap.size ∧ n ≤ cap ∧ cap ≤ maxLen := by
  rcases h.2 with ⟨_, h0⟩ | ⟨g, cap, cur, rfl, hb, hg, h1, h2, _⟩
  · omega
  · exact ⟨g, cap, rfl, rfl, hb, (Array.getElem?_eq_some_iff.1 hg).1, h1, h2⟩

theorem row_cell (h : w.ownsRow base e size v n xs) {g : Nat} (hg : v.ownBlock = some g) {j : Nat} {u : Value} (hu : xs[j]? = some u) : w.cell? ⟨g, j, none⟩ = some u := by
  have := h.cells hg j u hu
  rwa [add_at] at this

theorem row_free (h : w.ownsRow base e size v n xs) {g : Nat} (hg : v.ownBlock = some g) (j : Nat) : w.frozen? ⟨g, j, none⟩ = false := by
  rcases h.2 with ⟨rfl, _⟩ | ⟨g', cap, cur, rfl, _, hgg, _⟩
  · cases hg
  · cases hg
    simp [World.frozen?, hgg]

theorem row_set (h : w.ownsRow base e size v n xs) {g : Nat} (hg : v.ownBlock = some g) {j : Nat} (hj : j < xs.length) (u : Value) : (w.setCell ⟨g, j, none⟩ u).ownsRow base e size v n (xs.set j u) := by
  rcases h.2 with ⟨rfl, _⟩ | ⟨g', cap, cur, rfl, hb, hgg, h1, h2, h3, h4⟩
  · cases hg
  · cases hg
    refine ⟨by rw [List.length_set]; exact h.1, .inr ⟨_, cap, cur.setIfInBounds j u, rfl, hb, heap_set_same w hgg u, h1, h2, by rw [Array.size_setIfInBounds]; exact h3, ?_⟩⟩
    rw [Array.toList_setIfInBounds, List.take_set, h4]

theorem row_other (h : w.ownsRow base e size v n xs) {b : Nat} (hg : v.ownBlock ≠ some b) (j : Nat) (u : Value) : (w.setCell ⟨b, j, none⟩ u).ownsRow base e size v n xs := by
  refine ⟨h.1, ?_⟩
  rcases h.2 with hn | ⟨g, cap, cur, rfl, hb, hgg, rest⟩
  · exact .inl hn
  · refine .inr ⟨g, cap, cur, rfl, hb, ?_, rest⟩
    rw [heap_set w _ u g (fun e => hg (by simp [Value.ownBlock, e]))]
    exact hgg

theorem row_cut {g cap : Nat} (h : w.ownsRow base e size (.slice (some ⟨g, 0, none⟩) n cap) n xs) {m : Nat} (hm : m ≤ n) : w.ownsRow base e size (.slice (some ⟨g, 0, none⟩) m cap) m (xs.take (m * size)) := by
  have hle : m * size ≤ n * size := Nat.mul_le_mul_right _ hm
  rcases h.2 with ⟨h0, _⟩ | ⟨g', cap', cur, hv, hb, hgg, h1, h2, h3, h4⟩
  · cases h0
  · cases hv
    refine ⟨by rw [List.length_take, h.1]; omega, .inr ⟨g, cap, cur, rfl, hb, hgg, by omega, h2, h3, ?_⟩⟩
    rw [← h4, List.take_take, Nat.min_eq_left hle]

theorem row_grown {row : Option Nat} (h : w.ownsRow base e size v n xs) (hg : w.grownBy w' row) (hne : v.ownBlock = none ∨ v.ownBlock ≠ row) : w'.ownsRow base e size v n xs := h.kept hg hne

end

def fstOf : Code → Code
  | .seq a _ => a
  | c => c
def sndOf : Code → Code
  | .seq _ b => b
  | c => c
def inOf : Code → Code
  | .block _ c => c
  | .loop c => c
  | .scope c => c
  | c => c
theorem frame_ex {df : List Deferred} {A : Array Value} {F : (Nat → Value) → Array Value} {Pr : Prop} (h : A = F fun n => A.getD n undef) (hp : Pr) : ∃ J' : Nat → Value, (⟨A, df⟩ : Act) = ⟨F J', df⟩ ∧ Pr := ⟨_, by rw [← h], hp⟩

/-- What lies in memory as before, and more. -/
structure Under (W w : World) : Prop where
  os : w.os = W.os
  output : w.output = W.output
  size : W.heap.size ≤ w.heap.size
  low : ∀ b, b < W.heap.size → w.heap[b]? = W.heap[b]?

section
variable {W w w' : World}
theorem Under.refl (a : World) : Under a a := ⟨rfl, rfl, Nat.le_refl _, fun _ _ => rfl⟩
theorem Under.trans {a b c : World} (h : Under a b) (k : Under b c) : Under a c := ⟨k.os.trans h.os, k.output.trans h.output, Nat.le_trans h.size k.size, fun i hi => (k.low i (Nat.lt_of_lt_of_le hi h.size)).trans (h.low i hi)⟩
theorem under_alloc (h : Under W w) (x : Obj) : Under W (w.alloc x) :=
  ⟨h.os, h.output, by have := h.size; rw [alloc_heap, Array.size_push]; omega, fun b hb => by
    rw [alloc_heap, Array.getElem?_push_lt (Nat.lt_of_lt_of_le hb h.size), ← Array.getElem?_eq_getElem]; exact h.low b hb⟩
theorem under_set (h : Under W w) {g : Nat} (hg : W.heap.size ≤ g) (j : Nat) (u : Value) : Under W (w.setCell ⟨g, j, none⟩ u) :=
  ⟨h.os, h.output, by rw [set_size]; exact h.size, fun b hb => by rw [heap_set w _ u b (by show b ≠ g; omega)]; exact h.low b hb⟩
theorem under_grown {row : Option Nat} (h : Under W w) (hg : w.grownBy w' row) (hr : ∀ g, row = some g → W.heap.size ≤ g) : Under W w' :=
  ⟨hg.os.trans h.os, hg.output.trans h.output, Nat.le_trans h.size hg.size, fun b hb => (hg.block b (Nat.lt_of_lt_of_le hb h.size) (fun e => by have := hr b e.symm; omega)).trans (h.low b hb)⟩
theorem under_drewN (h : Under W w) (n : Nat) : Under W (w.drewN n) := ⟨h.os, h.output, h.size, h.low⟩
theorem under_drew (h : Under W w) : Under W w.drew := ⟨h.os, h.output, h.size, h.low⟩
theorem under_below (h : Below w.heap.size w w') : Under w w' := ⟨h.os, h.output, h.size, fun b hb => h.block b hb⟩
theorem under_cell (h : Under W w) {b : Nat} (hb : b < W.heap.size) (j : Nat) : w.cell? ⟨b, j, none⟩ = W.cell? ⟨b, j, none⟩ := by simp only [World.cell?, h.low b hb]
theorem grown_cell {row : Option Nat} (h : w.grownBy w' row) {b : Nat} (hb : b < w.heap.size) (hr : some b ≠ row) (j : Nat) : w'.cell? ⟨b, j, none⟩ = w.cell? ⟨b, j, none⟩ := by simp only [World.cell?, h.block b hb hr]
theorem grown_frozen {row : Option Nat} (h : w.grownBy w' row) {b : Nat} (hb : b < w.heap.size) (hr : some b ≠ row) (j : Nat) : w'.frozen? ⟨b, j, none⟩ = w.frozen? ⟨b, j, none⟩ := by simp only [World.frozen?, h.block b hb hr]
theorem row_lt {base : Nat} {e : TypeId} {size n : Nat} {v : Value} {xs : List Value} (h : w.ownsRow base e size v n xs) {g : Nat} (hg : v.ownBlock = some g) : base ≤ g ∧ g < w.heap.size := by
  rcases h.2 with ⟨rfl, _⟩ | ⟨g', cap, cur, rfl, hb, hgg, _⟩
  · cases hg
  · cases hg; exact ⟨hb, (Array.getElem?_eq_some_iff.1 hgg).1⟩
theorem own_ne {base base' : Nat} {e e' : TypeId} {s s' n n' : Nat} {v v' : Value} {xs xs' : List Value} (h : w.ownsRow base e s v n xs) (h' : w.ownsRow base' e' s' v' n' xs') (hne : e ≠ e') : v.ownBlock = none ∨ v.ownBlock ≠ v'.ownBlock := by
  rcases h.2 with ⟨rfl, _⟩ | ⟨g, c, cur, rfl, _, hg, _⟩
  · exact .inl rfl
  · right
    rcases h'.2 with ⟨rfl, _⟩ | ⟨g', c', cur', rfl, _, hg', _⟩
    · simp [Value.ownBlock]
    · intro e0
      obtain rfl : g = g' := by simpa [Value.ownBlock] using e0
      rw [hg] at hg'
      cases hg'
      exact hne rfl
theorem row_base {base base' : Nat} {e : TypeId} {s n : Nat} {v : Value} {xs : List Value} (h : w.ownsRow base e s v n xs) (hb : base' ≤ base) : w.ownsRow base' e s v n xs := by
  refine ⟨h.1, ?_⟩
  rcases h.2 with hn | ⟨g, cap, cur, rfl, hb', rest⟩
  · exact .inl hn
  · exact .inr ⟨g, cap, cur, rfl, Nat.le_trans hb hb', rest⟩
theorem row_under {base : Nat} {e : TypeId} {s n : Nat} {v : Value} {xs : List Value} (h : w.ownsRow base e s v n xs) (hU : Under w w') : w'.ownsRow base e s v n xs := by
  refine ⟨h.1, ?_⟩
  rcases h.2 with hn | ⟨g, cap, cur, rfl, hb, hgg, rest⟩
  · exact .inl hn
  · exact .inr ⟨g, cap, cur, rfl, hb, by rw [hU.low g (Array.getElem?_eq_some_iff.1 hgg).1]; exact hgg, rest⟩
end
theorem add_off (b off j : Nat) : (⟨b, off, none⟩ : Addr).add j = ⟨b, off + j, none⟩ := by unfold Addr.add; split <;> simp_all

/-! ### Boxes -/
/-- A block of one's own, word for word. -/
def BoxAt (w : World) (b : Nat) (t : TypeId) (cs : Array Value) : Prop := w.heap[b]? = some (.cells cs t (0, 0))
theorem box_new (w : World) (cs : Array Value) (t : TypeId) : BoxAt (w.alloc (.cells cs t)) w.heap.size t cs := by simp [BoxAt, alloc_heap]
section
variable {w w' : World} {b : Nat} {t : TypeId} {cs : Array Value}
theorem BoxAt.lt (h : BoxAt w b t cs) : b < w.heap.size := (Array.getElem?_eq_some_iff.1 h).1
theorem BoxAt.cell (h : BoxAt w b t cs) (j : Nat) : w.cell? ⟨b, j, none⟩ = cs[j]? := by
  unfold BoxAt at h
  simp [World.cell?, h]
theorem BoxAt.free (h : BoxAt w b t cs) (j : Nat) : w.frozen? ⟨b, j, none⟩ = false := by
  unfold BoxAt at h
  simp [World.frozen?, h]
theorem BoxAt.set (h : BoxAt w b t cs) (j : Nat) (u : Value) : BoxAt (w.setCell ⟨b, j, none⟩ u) b t (cs.setIfInBounds j u) := heap_set_same w h u
theorem BoxAt.other (h : BoxAt w b t cs) {g : Nat} (hg : b ≠ g) (j : Nat) (u : Value) : BoxAt (w.setCell ⟨g, j, none⟩ u) b t cs := by
  unfold BoxAt; rw [heap_set w _ u b hg]; exact h
theorem BoxAt.alloc (h : BoxAt w b t cs) (o : Obj) : BoxAt (w.alloc o) b t cs := by
  have hb := h.lt
  unfold BoxAt; rw [alloc_heap, Array.getElem?_push_lt hb, ← Array.getElem?_eq_getElem]; exact h
theorem BoxAt.under (h : BoxAt w b t cs) (hU : Under w w') : BoxAt w' b t cs := (hU.low b h.lt).trans h
theorem BoxAt.drew (h : BoxAt w b t cs) : BoxAt w.drew b t cs := h
theorem BoxAt.grown {row : Option Nat} (h : BoxAt w b t cs) (hg : w.grownBy w' row) (hr : some b ≠ row) : BoxAt w' b t cs := (hg.block b h.lt hr).trans h
end

/-! ### Cells that are read -/
/-- Cells that lie in a block from a place on. -/
def CellsAt (w : World) (b off : Nat) (cs : List Value) : Prop := ∀ (j : Nat) u, cs[j]? = some u → w.cell? ⟨b, off + j, none⟩ = some u
/-- A slice's cells, as they are read. -/
def RowArg (w : World) (p : Option Addr) (cs : List Value) : Prop := cs ≠ [] → ∃ b off, p = some ⟨b, off, none⟩ ∧ b < w.heap.size ∧ CellsAt w b off cs
section
variable {w w' : World} {b off : Nat} {p : Option Addr} {cs ds : List Value}
theorem CellsAt.under (h : CellsAt w b off cs) (hb : b < w.heap.size) (hU : Under w w') : CellsAt w' b off cs := fun j u hj => (under_cell hU hb _).trans (h j u hj)
theorem RowArg.under (h : RowArg w p cs) (hU : Under w w') : RowArg w' p cs := fun hne => by
  obtain ⟨b, off, e, hb, hc⟩ := h hne
  exact ⟨b, off, e, Nat.lt_of_lt_of_le hb hU.size, hc.under hb hU⟩
theorem arg_new (w : World) (cs : List Value) (t : TypeId) (c : Nat × Nat) : RowArg (w.alloc (.cells cs.toArray t c)) (some ⟨w.heap.size, 0, none⟩) cs :=
  fun _ => ⟨_, 0, rfl, by simp, fun j u hj => by rw [Nat.zero_add]; simp only [World.cell?, alloc_heap, Array.getElem?_push_size]; simp [hj]⟩
theorem RowArg.nil : RowArg w p [] := fun h => absurd rfl h
theorem RowArg.of_own {base : Nat} {e : TypeId} {s n : Nat} {v : Value} (h : w.ownsRow base e s v n cs) : ∃ q c, v = .slice q n c ∧ n ≤ c ∧ RowArg w q cs := by
  rcases h.2 with ⟨rfl, h0⟩ | ⟨g, cap, cur, rfl, _, hg, h1, h2, _⟩
  · subst h0; exact ⟨none, 0, rfl, Nat.le_refl _, fun hne => absurd (List.eq_nil_of_length_eq_zero (by rw [h.1]; omega)) hne⟩
  · exact ⟨_, cap, rfl, h1, fun _ => ⟨g, 0, rfl, (Array.getElem?_eq_some_iff.1 hg).1, fun j u hj => by rw [Nat.zero_add]; exact row_cell h rfl hj⟩⟩
theorem CellsAt.app (h : CellsAt w b off (cs ++ ds)) : CellsAt w b off cs ∧ CellsAt w b (off + cs.length) ds :=
  ⟨fun j u hj => h j u (by rw [List.getElem?_append_left (List.getElem?_eq_some_iff.1 hj).1]; exact hj),
   fun j u hj => by rw [Nat.add_assoc]; exact h _ u (by rw [List.getElem?_append_right (by omega), Nat.add_sub_cancel_left]; exact hj)⟩
end
end Go.Lx

/- Terms, plainly: nodes, names, shapes, what is right, what is a term. -/
namespace Go.Lx

/-- A node: its kind, its numbers, its name. -/
structure Nd where
  k : Int
  n : Int
  m : Int
  s : ByteArray
deriving DecidableEq

def ndCell (x : Nd) : List Value := [.int .i64 x.k, .int .i64 x.n, .int .i64 x.m, .string x.s]
def ndCells : List Nd → List Value
  | [] => []
  | x :: l => .int .i64 x.k :: .int .i64 x.n :: .int .i64 x.m :: .string x.s :: ndCells l
def ndV (x : Nd) : Value := .agg #[.int .i64 x.k, .int .i64 x.n, .int .i64 x.m, .string x.s]
theorem ndCells_app (l r : List Nd) : ndCells (l ++ r) = ndCells l ++ ndCells r := by
  induction l with
  | nil => rfl
  | cons x l ih => simp [ndCells, ih]
theorem ndCells_len (l : List Nd) : (ndCells l).length = l.length * 4 := by
  induction l with
  | nil => rfl
  | cons x l ih => simp [ndCells, ih]; omega
theorem ndCells_nil {l : List Nd} (h : ndCells l = []) : l = [] := by cases l with | nil => rfl | cons x l => simp [ndCells] at h
theorem ndCells_at : ∀ {l : List Nd} {k : Nat} {x : Nd}, l[k]? = some x → (ndCells l)[k * 4]? = some (.int .i64 x.k) ∧ (ndCells l)[k * 4 + 1]? = some (.int .i64 x.n) ∧ (ndCells l)[k * 4 + 2]? = some (.int .i64 x.m) ∧ (ndCells l)[k * 4 + 3]? = some (.string x.s)
  | y :: l, 0, x, h => by cases h; exact ⟨rfl, rfl, rfl, rfl⟩
  | y :: l, k + 1, x, h => by
    have := ndCells_at (l := l) (k := k) (x := x) (by simpa using h)
    rw [show (k + 1) * 4 = k * 4 + 4 by omega]
    exact this
theorem ndCells_drop (l : List Nd) (k : Nat) : ndCells (l.drop k) = (ndCells l).drop (k * 4) := by
  induction k generalizing l with
  | zero => simp
  | succ k ih => cases l with
    | nil => simp [ndCells]
    | cons x l => rw [List.drop_succ_cons, ih, show (k + 1) * 4 = k * 4 + 4 by omega]; rfl
theorem ndCells_take (l : List Nd) (k : Nat) : ndCells (l.take k) = (ndCells l).take (k * 4) := by
  induction k generalizing l with
  | zero => simp [ndCells]
  | succ k ih => cases l with
    | nil => simp [ndCells]
    | cons x l => rw [List.take_succ_cons, show (k + 1) * 4 = k * 4 + 4 by omega]; simp [ndCells, ih]
/-- A node of a slice of nodes. -/
theorem RowArg.node {w : World} {p : Option Addr} {l : List Nd} (h : RowArg w p (ndCells l)) {k : Nat} {x : Nd} (hk : l[k]? = some x) : ∃ b off, p = some ⟨b, off, none⟩ ∧ b < w.heap.size ∧
    w.cell? ⟨b, off + k * 4, none⟩ = some (.int .i64 x.k) ∧ w.cell? ⟨b, off + k * 4 + 1, none⟩ = some (.int .i64 x.n) ∧ w.cell? ⟨b, off + k * 4 + 2, none⟩ = some (.int .i64 x.m) ∧ w.cell? ⟨b, off + k * 4 + 3, none⟩ = some (.string x.s) := by
  obtain ⟨b, off, e, hb, hc⟩ := h (fun e => by rw [ndCells_nil e] at hk; simp at hk)
  obtain ⟨h0, h1, h2, h3⟩ := ndCells_at hk
  exact ⟨b, off, e, hb, hc _ _ h0, hc _ _ h1, hc _ _ h2, hc _ _ h3⟩

/-! ### Names -/
def lowC (c : UInt8) : Int := bits BinOp.or IntKind.u8 (c.toNat : Int) 32
/-- A letter, as the program asks. -/
def ltrB (c : UInt8) : Bool := decide (97 ≤ lowC c) && decide (lowC c ≤ 122) || (c.toNat : Int) == 95
def digB (c : UInt8) : Bool := !(decide ((c.toNat : Int) < 48)) && !(decide (57 < (c.toNat : Int)))
def okB (i : Nat) (c : UInt8) : Bool := ltrB c || (decide (i ≠ 0) && digB c)
def nameFrom : Nat → List UInt8 → Bool
  | _, [] => true
  | i, c :: r => okB i c && nameFrom (i + 1) r
/-- A name. -/
def nameB (s : ByteArray) : Bool := nameFrom 0 s.data.toList && (decide (s.size ≠ 0) && decide (s.size ≤ 16))

/-! ### Shapes -/
def bindsOf : Nat → List Nat
  | 3 => [0, 1]
  | 4 => [0, 1]
  | 5 => [0, 0]
  | 6 => [0, 1]
  | 7 => [0, 0, 0]
  | 8 => [0]
  | 9 => [0]
  | 12 => [0]
  | 13 => [1, 0, 2, 0]
  | 15 => [0, 0]
  | 18 => [0, 0, 0]
  | 19 => [0, 0]
  | 20 => [0, 0, 0, 0]
  | 21 => [0, 0, 1, 0, 0, 0]
  | 22 => [0, 2, 0, 0, 0]
  | 23 => [0, 0]
  | 24 => [0, 1, 0, 0]
  | 28 => [0]
  | _ => []
def fN (k : Nat) : Bool := [0, 2, 3, 6, 26].contains k
def fM (k : Nat) : Bool := [26, 27].contains k
def fS (k : Nat) : Bool := [1, 25, 26, 27].contains k
def intsN (l : List Nat) : List Value := l.map fun (n : Nat) => .int .i64 (n : Int)
/-- The table of shapes, as it lies in the variable. -/
structure ShapesAt (g : Nat) (W : World) : Prop where
  lt : g < W.heap.size
  row : ∀ k, k < 30 → ∃ p c, W.cell? ⟨g, k * 4, none⟩ = some (.slice p (bindsOf k).length c) ∧ (bindsOf k).length ≤ c ∧ RowArg W p (intsN (bindsOf k)) ∧
    W.cell? ⟨g, k * 4 + 1, none⟩ = some (.bool (fN k)) ∧ W.cell? ⟨g, k * 4 + 2, none⟩ = some (.bool (fM k)) ∧ W.cell? ⟨g, k * 4 + 3, none⟩ = some (.bool (fS k))
theorem ShapesAt.under {g : Nat} {W w : World} (h : ShapesAt g W) (hU : Under W w) : ShapesAt g w :=
  ⟨Nat.lt_of_lt_of_le h.lt hU.size, fun k hk => by
    obtain ⟨p, c, h0, h1, h2, h3, h4, h5⟩ := h.row k hk
    exact ⟨p, c, (under_cell hU h.lt _).trans h0, h1, h2.under hU, (under_cell hU h.lt _).trans h3, (under_cell hU h.lt _).trans h4, (under_cell hU h.lt _).trans h5⟩⟩
/-- The most that N may be. -/
def mostN (k : Int) : Int := if k = 0 then 99 else if k = 3 ∨ k = 6 then 3 else 5
/-- Are a node's fields right? -/
def rightB (x : Nd) : Bool :=
  if x.k < 0 ∨ 30 ≤ x.k then false
  else if fN x.k.toNat = false ∧ x.n ≠ 0 then false
  else if fM x.k.toNat = false ∧ x.m ≠ 0 then false
  else if fS x.k.toNat = false ∧ x.s.size ≠ 0 then false
  else if fS x.k.toNat = true ∧ nameB x.s = false then false
  else if x.k = 2 then decide (0 ≤ x.n) && decide (x.n ≤ 9)
  else if x.k = 26 then decide (0 ≤ x.n) && decide (x.n ≤ 5) && decide (0 ≤ x.m) && decide (x.m ≤ 6)
  else if x.k = 27 then decide (0 ≤ x.m) && decide (x.m ≤ 6)
  else !fN x.k.toNat || (decide (0 ≤ x.n) && decide (x.n ≤ mostN x.k))
/-- The binders of a node's parts, one for each. -/
def binds (x : Nd) : List Nat :=
  if x.k = 26 then List.replicate x.m.toNat 0 else if x.k = 27 then 1 :: List.replicate (x.m.toNat + 1) 0 else bindsOf x.k.toNat
theorem rightB_k {x : Nd} (h : rightB x = true) : 0 ≤ x.k ∧ x.k < 30 := by
  unfold rightB at h
  split at h
  · cases h
  · omega
theorem rightB_m {x : Nd} (h : rightB x = true) (hk : x.k = 26 ∨ x.k = 27) : 0 ≤ x.m ∧ x.m ≤ 6 := by
  unfold rightB at h
  rcases hk with hk | hk <;> simp [hk] at h <;> omega
theorem bindsOf_len (k : Nat) : (bindsOf k).length ≤ 6 := by
  unfold bindsOf; split <;> simp
theorem binds_len {x : Nd} (h : rightB x = true) : (binds x).length ≤ 8 := by
  unfold binds
  split
  · rw [List.length_replicate]; have := rightB_m h (.inl ‹_›); omega
  · split
    · rw [List.length_cons, List.length_replicate]; have := rightB_m h (.inr ‹_›); omega
    · have := bindsOf_len x.k.toNat; omega

/-! ### Terms -/
/-- What waits for a root: where it begins, how deep it is. -/
def meas (i : Nat) (l : List (Nat × Nat)) : Nat × Nat := ((l.headD (i, 0)).1, l.foldl (fun d x => max d (x.2 + 1)) 1)
/-- The measures of nodes, from the i-th on: all that have been made, those that are open. -/
def measGo : List Nd → Nat → List (Nat × Nat) → List (Nat × Nat) → Option (List (Nat × Nat) × List (Nat × Nat))
  | [], _, all, op => some (all, op)
  | x :: t, i, all, op => if rightB x = false ∨ op.length < (binds x).length then none else
    let m := meas i (op.drop (op.length - (binds x).length))
    measGo t (i + 1) (all ++ [m]) (op.take (op.length - (binds x).length) ++ [m])
/-- A term's error: 0 where it is one. -/
def checkE (t : List Nd) : Int :=
  if 4000 < t.length then 21 else
    match measGo t 0 [] [] with
    | none => 20
    | some (all, op) => if op.length ≠ 1 then 20 else if 60 < (all.getLastD (0, 0)).2 then 22 else 0
end Go.Lx

/- term.Name, walked. -/
namespace Go.Proofs.YtiibknlpeodejaaGreatDoor
open Go.Lx Go.RowKit

theorem nameFrom_drop {l : List UInt8} {k : Nat} {c : UInt8} (h : l[k]? = some c) : nameFrom k (l.drop k) = (okB k c && nameFrom (k + 1) (l.drop (k + 1))) := by
  obtain ⟨hk, hc⟩ := List.getElem?_eq_some_iff.1 h
  rw [List.drop_eq_getElem_cons hk, hc]
  rfl

theorem ret_bool {a b : Bool} (h : a = b) : Ending.returned (.bool a) = .returned (.bool b) := by rw [h]
theorem ret_int {k : IntKind} {a b : Int} (h : a = b) : Ending.returned (.int k a) = .returned (.int k b) := by rw [h]
theorem name_stop {s : ByteArray} {k : Nat} {b : Bool} (h1 : Hid (nameFrom 0 s.data.toList = nameFrom k (s.data.toList.drop k))) (h2 : Hid (nameFrom k (s.data.toList.drop k) = (b && nameFrom (k + 1) (s.data.toList.drop (k + 1))))) (h : b = false) : false = nameB s := by
  unfold nameB; rw [h1.out, h2.out, h]; rfl
theorem name_go {s : ByteArray} {k : Nat} {b : Bool} (h1 : Hid (nameFrom 0 s.data.toList = nameFrom k (s.data.toList.drop k))) (h2 : Hid (nameFrom k (s.data.toList.drop k) = (b && nameFrom (k + 1) (s.data.toList.drop (k + 1))))) (h : b = true) : nameFrom 0 s.data.toList = nameFrom (k + 1) (s.data.toList.drop (k + 1)) := by
  rw [h1.out, h2.out, h]; rfl
theorem name_end {s : ByteArray} {k : Nat} (h1 : Hid (nameFrom 0 s.data.toList = nameFrom k (s.data.toList.drop k))) (hk : ¬ k < s.size) : nameB s = (!s.toList.isEmpty && decide ((s.size : Int) ≤ 16)) := by
  unfold nameB
  rw [h1.out, List.drop_eq_nil_of_le (by simp [← ByteArray.size_data] at hk ⊢; omega), ByteArray.toList_eq]
  have e1 : decide (s.size ≠ 0) = !s.data.toList.isEmpty := by
    rw [← ByteArray.size_data]
    cases h : s.data.toList with
    | nil => simp [← Array.length_toList, h]
    | cons a b => simp [← Array.length_toList, h]
  have e2 : decide (s.size ≤ 16) = decide ((s.size : Int) ≤ 16) := by rw [Bool.eq_iff_iff]; simp; omega
  rw [e1, e2]
  simp [nameFrom]

set_option maxRecDepth 100000 in
set_option maxHeartbeats 1000000 in
theorem name_any (s : ByteArray) (w : World) (hs : s.size ≤ maxLen) : Calls Tryz.prog 76 #[.string s] w fun e w' => e = .returned (.bool (nameB s)) ∧ w = w' := by
  unfold maxLen at hs
  go_enter Tryz.func76, Tryz.ntmps76
  go_wp2
  go_loop [8] (fun i => ∃ k : Nat, k ≤ s.size ∧ i = .int .i64 k ∧ nameFrom 0 s.data.toList = nameFrom k (s.data.toList.drop k)) (fun i => s.size - (intOf i).toNat)
  case atStart => exact ⟨0, Nat.zero_le _, rfl, by simp⟩
  case round =>
    obtain ⟨k, hk, rfl, hN⟩ := hrel
    have HN := Lib.hid hN
    clear hN
    by_cases hlt : k < s.size
    · have hc := nameFrom_drop (l := s.data.toList) (k := k) (c := s[k]) (by rw [List.getElem?_eq_getElem (by simpa using hlt)]; rfl)
      have HC := Lib.hid hc
      clear hc
      by_cases hz : k = 0
      · subst hz
        go_wp2
        all_goals try (go_round
                       case measure => simp [intOf]; omega)
        all_goals first
          | exact ⟨1, by omega, rfl, name_go HN HC (by unfold okB ltrB digB lowC; simp at *; omega)⟩
          | (exact ⟨1, by omega, rfl, name_go HN HC (by unfold okB ltrB digB lowC; simp [*])⟩)
          | (go_ret; exact ⟨ret_bool (name_stop HN HC (by unfold okB ltrB digB lowC; simp at *; omega)), rfl⟩)
      · have hz' : (0 : Int) < k := by omega
        clear hz
        go_wp2
        all_goals try (go_round
                       case measure => simp [intOf]; omega)
        all_goals first
          | exact ⟨k + 1, by omega, by go_num, name_go HN HC (by unfold okB ltrB digB lowC; simp at *; omega)⟩
          | (go_ret; exact ⟨ret_bool (name_stop HN HC (by unfold okB ltrB digB lowC; simp at *; omega)), rfl⟩)
    · have he := name_end HN hlt
      have HE := Lib.hid he
      clear he
      go_wp2
      all_goals
        go_ret
        exact ⟨by rw [HE.out]; simp [*], rfl⟩
end Go.Proofs.YtiibknlpeodejaaGreatDoor

/- A range over a function whose iterator keeps cells of its own: the iterator's word, and the caller's law. -/
namespace Go.Lx
open Go.RowKit

/-- What lies in these blocks is as it was. -/
structure Kept (R : Nat → Prop) (b : Option Nat) (W W' : World) : Prop where
  os : W'.os = W.os
  output : W'.output = W.output
  size : W.heap.size ≤ W'.heap.size
  same : ∀ k, k < W.heap.size → (R k ∨ b = some k) → W'.heap[k]? = W.heap[k]?
/-- The iterator's own step: its block is turned, or it has a new one. -/
structure IStep (b b' : Option Nat) (W W' : World) : Prop where
  os : W'.os = W.os
  output : W'.output = W.output
  size : W.heap.size ≤ W'.heap.size
  block : ∀ k, k < W.heap.size → some k ≠ b → W'.heap[k]? = W.heap[k]?
  at_ : b' = b ∨ ∃ g, b' = some g ∧ W.heap.size ≤ g
theorem IStep.under {W W' : World} (h : Under W W') (b : Option Nat) : IStep b b W W' := ⟨h.os, h.output, h.size, fun k hk _ => h.low k hk, .inl rfl⟩
theorem IStep.alloc (W : World) (o : Obj) (b : Option Nat) : IStep b b W (W.alloc o) := IStep.under (under_alloc (Under.refl _) _) b
theorem IStep.grown {W W' : World} {b b' : Option Nat} (h : W.grownBy W' b) (hb : b' = b ∨ b' = some W.heap.size) : IStep b b' W W' :=
  ⟨h.os, h.output, h.size, h.block, by rcases hb with h | h; · exact .inl h
                                       · exact .inr ⟨_, h, Nat.le_refl _⟩⟩
theorem row_same {w w' : World} {base : Nat} {e : TypeId} {s n : Nat} {v : Value} {xs : List Value} (h : w.ownsRow base e s v n xs) (hb : ∀ g, v.ownBlock = some g → w'.heap[g]? = w.heap[g]?) : w'.ownsRow base e s v n xs := by
  refine ⟨h.1, ?_⟩
  rcases h.2 with hn | ⟨g, cap, cur, rfl, hb', hgg, rest⟩
  · exact .inl hn
  · exact .inr ⟨g, cap, cur, rfl, hb', by rw [hb g rfl]; exact hgg, rest⟩
theorem Kept.refl (R : Nat → Prop) (b : Option Nat) (W : World) : Kept R b W W := ⟨rfl, rfl, Nat.le_refl _, fun _ _ _ => rfl⟩
theorem Kept.trans {R : Nat → Prop} {b : Option Nat} {A B C : World} (h : Kept R b A B) (k : Kept R b B C) : Kept R b A C :=
  ⟨k.os.trans h.os, k.output.trans h.output, Nat.le_trans h.size k.size, fun i hi hr => (k.same i (Nat.lt_of_lt_of_le hi h.size) hr).trans (h.same i hi hr)⟩
theorem Kept.putObj {R : Nat → Prop} {b : Option Nat} {W : World} {l : Nat} (o : Obj) (hR : ¬ R l) (hb : b ≠ some l) : Kept R b W (W.putObj l o) :=
  ⟨rfl, rfl, by simp, fun k hk hr => World.putObj_heap_other fun e => by
    rcases hr with hr | hr
    · exact hR (e ▸ hr)
    · exact hb (e ▸ hr)⟩

/-- What lay below is as it was, where it is kept. -/
theorem Under.kept {W0 W W' : World} {R : Nat → Prop} {b : Option Nat} (h : Under W0 W) (hk : Kept R b W W') (hR : ∀ k, k < W0.heap.size → R k) : Under W0 W' :=
  ⟨hk.os.trans h.os, hk.output.trans h.output, Nat.le_trans h.size hk.size, fun k hlt => (hk.same k (Nat.lt_of_lt_of_le hlt h.size) (.inl (hR k hlt))).trans (h.low k hlt)⟩
theorem Kept.of_under {W W' : World} {R : Nat → Prop} {b : Option Nat} (h : Under W W') : Kept R b W W' := ⟨h.os, h.output, h.size, fun k hk _ => h.low k hk⟩

/-- One block is turned, the others are as they were. -/
structure Turned (r : Option Nat) (W W' : World) : Prop where
  os : W'.os = W.os
  output : W'.output = W.output
  size : W.heap.size ≤ W'.heap.size
  block : ∀ k, k < W.heap.size → some k ≠ r → W'.heap[k]? = W.heap[k]?
theorem Turned.refl (r : Option Nat) (W : World) : Turned r W W := ⟨rfl, rfl, Nat.le_refl _, fun _ _ _ => rfl⟩
theorem Turned.trans {r : Option Nat} {A B C : World} (h : Turned r A B) (k : Turned r B C) : Turned r A C :=
  ⟨k.os.trans h.os, k.output.trans h.output, Nat.le_trans h.size k.size, fun i hi hr => (k.block i (Nat.lt_of_lt_of_le hi h.size) hr).trans (h.block i hi hr)⟩
theorem Turned.of_under {r : Option Nat} {A B : World} (h : Under A B) : Turned r A B := ⟨h.os, h.output, h.size, fun k hk _ => h.low k hk⟩
theorem Turned.set (g j : Nat) (u : Value) (W : World) : Turned (some g) W (W.setCell ⟨g, j, none⟩ u) :=
  ⟨rfl, rfl, by rw [set_size]; exact Nat.le_refl _, fun k hk hr => heap_set W _ u k fun e => hr (congrArg some e)⟩
theorem Turned.under {W0 W W' : World} {g : Nat} (h : Turned (some g) W W') (h0 : Under W0 W) (hg : W0.heap.size ≤ g) : Under W0 W' :=
  ⟨h.os.trans h0.os, h.output.trans h0.output, Nat.le_trans h0.size h.size, fun k hk => (h.block k (Nat.lt_of_lt_of_le hk h0.size) fun e => by cases e; omega).trans (h0.low k hk)⟩
theorem BoxAt.turned {w w' : World} {b : Nat} {t : TypeId} {cs : Array Value} {r : Option Nat} (h : BoxAt w b t cs) (hT : Turned r w w') (hr : some b ≠ r) : BoxAt w' b t cs := (hT.block b h.lt hr).trans h

variable {F : Fence} {n : Nat} {P : Program}
/-- The iterator's word: it hands out these things, one by one. -/
def Iter {α : Type} (F : Fence) (n : Nat) (P : Program) (gf : Nat) (lb : Array Value) (encs : α → Array Value) (R : Nat → Prop) (xs : List α) (w : World) : Prop :=
  ∀ (l : Nat) (J : Option Nat → List α → World → Prop) (Jx : List α → World → Prop) (W : World), Under w W →
    (∀ b b' pre A A', J b pre A → IStep b b' A A' → J b' pre A') →
    (∀ b pre x A, J b pre A → pre ++ [x] <+: xs → YieldAt F (n - 1) P l (encs x) A fun e A' =>
      (e = .returned (.bool true) ∧ J b (pre ++ [x]) A' ∧ Kept R b A A') ∨ (e = .returned (.bool false) ∧ Jx (pre ++ [x]) A')) →
    J none [] W →
    CallsIn F n P gf (#[.func (.yield l) #[] #[]] ++ lb) W fun e W' => (∃ v, e = .returned v) ∧ ((∃ b, J b xs W') ∨ ∃ pre, Jx pre W')

/-- How a round may be left. -/
def iterPost {α : Type} (B : Nat) (R : Nat → Prop) (b : Option Nat) (I : Option Nat → List α → World → Prop) (Ix : Code → List α → World → Prop) (xs : List α) (W : World) : Exit → Act → World → Prop
  | .normal, _, W' => KeepsFrom B W W' ∧ Kept R b W W' ∧ I b xs W'
  | .ret, _, W' => KeepsFrom B W W' ∧ Ix .ret xs W'
  | .exit id, _, W' => KeepsFrom B W W' ∧ Ix (.exit id) xs W'
  | .goto t, _, W' => KeepsFrom B W W' ∧ Ix (.goto t) xs W'
  | .panic _, _, _ => False
  | .outgrown, _, _ => False

/-- The statement 'for .. := range g': what the caller owes is an invariant and one walk of its own body. -/
theorem wpIn_rangeFunc_iter {α : Type} {g : Operand} {ps : Array Tmp} {assign body : Code} {Q : Exit → Act → World → Prop} {a : Act} {w w0 : World}
    (hro : F.round = none) (h1 : 1 ≤ n) {gf : Nat} {lb : Array Value} (hg : a.eval g = .func (.func gf) #[] lb) (hFg : F.fn gf) (eg : ∀ args w, (callFunc gf args).run P w = .ok (.enter gf args) w)
    {encs : α → Array Value} {R : Nat → Prop} {xs : List α} (hit : Iter F (n - 1) P gf lb encs R xs w0) (hU : Under w0 w) (hps : ∀ x, (encs x).size = ps.size) (hR : ∀ k, R k → k < w.heap.size)
    (I : Option Nat → List α → World → Prop) (Ix : Code → List α → World → Prop)
    (hI : ∀ b b' pre A A', I b pre A → IStep b b' A A' → w.heap.size ≤ A.heap.size → (∀ g, b = some g → w.heap.size ≤ g) → I b' pre A')
    (hIo : ∀ b pre A l o o', I b pre A → w.heap.size ≤ l → A.heap[l]? = some o → o.isCells = false → I b pre (A.putObj l o'))
    (hIx : ∀ c pre A l o o', Ix c pre A → w.heap.size ≤ l → A.heap[l]? = some o → o.isCells = false → Ix c pre (A.putObj l o'))
    (h0 : I none [] w) (a₁ : α → Act)
    (hassign : ∀ (l : Nat) (x : α) (W : World) (K : Act → World → Prop), K (a₁ x) W →
      assign.wpIn (F.inRound l) (n - 1 - 1) P (Exit.then K (fun _ _ _ => False)) { tmps := (ps.zip (encs x)).foldl (fun t (p, v) => t.setIfInBounds p v) a.tmps, defers := [] } W)
    (hbody : ∀ (l : Nat) (b : Option Nat) (pre : List α) (x : α) (W : World), w.heap.size ≤ W.heap.size → (∀ g, b = some g → w.heap.size ≤ g) → I b pre W → pre ++ [x] <+: xs → body.wpIn (F.inRound l) (n - 1 - 1) P (iterPost w.heap.size R b I Ix (pre ++ [x]) W) (a₁ x) W)
    (hdone : ∀ (D : Nat) (b : Option Nat) (W : World), w.heap.size ≤ D → I b xs W → W.heap[D]? = some (.deferred (some [])) → Q .normal { a with defers := { target := .collected D, args := #[] } :: a.defers } W)
    (hstop : ∀ (D : Nat) (c : Code) (pre : List α) (W : World), w.heap.size ≤ D → Ix c pre W → W.heap[D]? = some (.deferred (some [])) → c.wpIn F n P Q { a with defers := { target := .collected D, args := #[] } :: a.defers } W) :
    (Code.rangeFunc g ps assign body).wpIn F n P Q a w := by
  refine wpIn_rangeFunc fun fn hfn => ?_
  rw [hro]
  obtain ⟨L, hL⟩ : ∃ L : LoopState → Option Code → Loop, L = fun st pe => { state := st, pending := pe, fn, tmps := a.tmps, params := ps, assign, body, defers := w.heap.size } := ⟨_, rfl⟩
  obtain ⟨W1, hW1⟩ : ∃ W1, W1 = (w.alloc (.deferred (some []))).alloc (.loop (L .ready none)) := ⟨_, rfl⟩
  have hz1 : W1.heap.size = w.heap.size + 2 := by rw [hW1]; simp
  have hU1 : Under w W1 := by rw [hW1]; exact under_alloc (under_alloc (Under.refl _) _) _
  have hl1 : W1.heap[w.heap.size + 1]? = some (.loop (L .ready none)) := by
    rw [hW1, alloc_heap]
    have : (w.alloc (.deferred (some []))).heap.size = w.heap.size + 1 := by simp
    rw [← this, Array.getElem?_push_size]
  have hd1 : W1.heap[w.heap.size]? = some (.deferred (some [])) := by
    rw [hW1, alloc_heap, Array.getElem?_push_lt (by simp), ← Array.getElem?_eq_getElem]
    show (w.heap.push _)[w.heap.size]? = _
    rw [Array.getElem?_push_size]
  have hI1 : I none [] W1 := by
    rw [hW1]
    exact hI none none _ _ _ (hI none none _ _ _ h0 (IStep.alloc w _ none) (Nat.le_refl _) (fun g e => by cases e)) (IStep.alloc _ _ none) (by simp) (fun g e => by cases e)
  refine ⟨w.heap.size + 1, [{ target := .collected w.heap.size, args := #[] }], W1, { target := .fn (.func gf) lb, args := #[.func (.yield (w.heap.size + 1)) #[] #[]] }, W1, gf,
    #[.func (.yield (w.heap.size + 1)) #[] #[]] ++ lb, W1, ?_, ?_, ?_, ?_, fun _ => h1, ?_⟩
  · rw [hW1, hL]; exact run_enterLoop_outer _ _ _ _ _
  · simp only [resolve, hg]
    simp [go_sem]
  · intro f' hf'; simp [Target.leads] at hf'; subst hf'; exact hFg
  · simp [invoke, go_sem, eg]
  · refine (hit (w.heap.size + 1)
      (fun b pre W => I b pre W ∧ W.heap[w.heap.size + 1]? = some (.loop (L .ready none)) ∧ W.heap[w.heap.size]? = some (.deferred (some [])) ∧ ∀ g, b = some g → w.heap.size + 1 < g)
      (fun pre W => ∃ c, Ix c pre W ∧ W.heap[w.heap.size + 1]? = some (.loop (L .done (some c))) ∧ W.heap[w.heap.size]? = some (.deferred (some [])))
      W1 (hU.trans hU1) ?_ ?_ ⟨hI1, hl1, hd1, fun g e => by cases e⟩).mono ?_
    · rintro b b' pre A A' ⟨hi, hl, hd, hb⟩ hs
      have hlt := (Array.getElem?_eq_some_iff.1 hl).1
      refine ⟨hI b b' pre A A' hi hs (by omega) (fun g e => by have := hb g e; omega), (hs.block _ hlt fun e => by have := hb _ e.symm; omega).trans hl,
        (hs.block _ (by omega) fun e => by have := hb _ e.symm; omega).trans hd, fun g e => ?_⟩
      rcases hs.at_ with e' | ⟨g', e', hg'⟩
      · exact hb g (e'.symm.trans e)
      · rw [e] at e'; cases e'; omega
    · rintro b pre x W ⟨hi, hl, hd, hb⟩ hpre
      have hlt := (Array.getElem?_eq_some_iff.1 hl).1
      have hy := run_yield (P := P) (args := encs x) hl (by rw [hL]; exact hps x)
      rw [hL] at hy
      refine ⟨fn, _, assign, body, hy, roundIn_of_wpIn hfn (hassign _ x W _ ⟨_, run_beginRound hl (by rw [hL]), ?_⟩)⟩
      have hl2 : (W.putObj (w.heap.size + 1) (.loop { L .ready none with state := .busy })).heap[w.heap.size + 1]? = some (.loop { L .ready none with state := .busy }) := World.putObj_heap_same hlt
      have hd2 : (W.putObj (w.heap.size + 1) (.loop { L .ready none with state := .busy })).heap[w.heap.size]? = some (.deferred (some [])) := (World.putObj_heap_other (by omega)).trans hd
      have hnR : ¬ R (w.heap.size + 1) := fun h => by have := hR _ h; omega
      have hnb : b ≠ some (w.heap.size + 1) := fun e => by have := hb _ e; omega
      refine wpIn_mono (hbody _ b pre x _ (by simp; omega) (fun g e => by have := hb g e; omega) (hIo _ _ _ _ _ _ hi (by omega) hl rfl) hpre) ?_
      have fin : ∀ (jump : Option Code) (W3 : World), KeepsFrom w.heap.size (W.putObj (w.heap.size + 1) (.loop { L .ready none with state := .busy })) W3 →
          (Instr.endRound (w.heap.size + 1) jump).run P W3 = .ok (.bool jump.isNone) (W3.putObj (w.heap.size + 1) (.loop (L (if jump.isNone then .ready else .done) jump))) ∧
          W3.heap[w.heap.size + 1]? = some (.loop { L .ready none with state := .busy }) ∧
          (W3.putObj (w.heap.size + 1) (.loop (L (if jump.isNone then .ready else .done) jump))).heap[w.heap.size + 1]? = some (.loop (L (if jump.isNone then .ready else .done) jump)) ∧
          (W3.putObj (w.heap.size + 1) (.loop (L (if jump.isNone then .ready else .done) jump))).heap[w.heap.size]? = some (.deferred (some [])) := fun jump W3 hk3 => by
        have hl3 := hk3.same _ _ (by omega) hl2 rfl
        have := run_endRound (P := P) jump hl3
        rw [hL] at this ⊢
        exact ⟨this, by rw [hL] at hl3; exact hl3, World.putObj_heap_same (Array.getElem?_eq_some_iff.1 hl3).1, (World.putObj_heap_other (by omega)).trans (hk3.same _ _ (by omega) hd2 rfl)⟩
      rintro e a3 W3 hp
      cases e with
      | normal =>
        obtain ⟨hk3, hkp3, hi3⟩ := hp
        obtain ⟨hr, hl3, hl4, hk4⟩ := fin none W3 hk3
        exact ⟨_, _, hr, .inl ⟨rfl, ⟨hIo _ _ _ _ _ _ hi3 (by omega) hl3 rfl, hl4, hk4, hb⟩, ((Kept.putObj _ hnR hnb).trans hkp3).trans (Kept.putObj _ hnR hnb)⟩⟩
      | ret =>
        obtain ⟨hk3, hi3⟩ := hp
        obtain ⟨hr, hl3, hl4, hk4⟩ := fin (some .ret) W3 hk3
        exact ⟨_, _, hr, .inr ⟨rfl, .ret, hIx _ _ _ _ _ _ hi3 (by omega) hl3 rfl, hl4, hk4⟩⟩
      | exit id =>
        obtain ⟨hk3, hi3⟩ := hp
        obtain ⟨hr, hl3, hl4, hk4⟩ := fin (some (.exit id)) W3 hk3
        exact ⟨_, _, hr, .inr ⟨rfl, .exit id, hIx _ _ _ _ _ _ hi3 (by omega) hl3 rfl, hl4, hk4⟩⟩
      | goto t =>
        obtain ⟨hk3, hi3⟩ := hp
        obtain ⟨hr, hl3, hl4, hk4⟩ := fin (some (.goto t)) W3 hk3
        exact ⟨_, _, hr, .inr ⟨rfl, .goto t, hIx _ _ _ _ _ _ hi3 (by omega) hl3 rfl, hl4, hk4⟩⟩
      | panic ch => exact hp.elim
      | outgrown => exact hp.elim
    · rintro e W2 ⟨⟨v, rfl⟩, (⟨b, hi, hl, hk, _⟩ | ⟨pre, c, hi, hl, hk⟩)⟩
      · exact ⟨none, _, by have := run_endLoop (P := P) hl (by rw [hL]; simp); rw [hL] at this; exact this, hdone _ b _ (Nat.le_refl _) (hIo _ _ _ _ _ _ hi (by omega) hl rfl) ((World.putObj_heap_other (by omega)).trans hk)⟩
      · exact ⟨some c, _, by have := run_endLoop (P := P) hl (by rw [hL]; simp); rw [hL] at this; exact this, hstop _ c pre _ (Nat.le_refl _) (hIx _ _ _ _ _ _ hi (by omega) hl rfl) ((World.putObj_heap_other (by omega)).trans hk)⟩
end Go.Lx

/- Maps keyed by strings, with whatever elements: what they hold, written and looked up. -/
namespace Go.Lx
open Go.RowKit Go.MapKept

theorem bytes_beq (a b : ByteArray) : (a == b) = decide (a = b) := by
  obtain ⟨x⟩ := a
  obtain ⟨y⟩ := b
  have h : ((⟨x⟩ : ByteArray) == ⟨y⟩) = (x == y) := rfl
  rw [h, Bool.eq_iff_iff]
  simp
abbrev Assoc := List (ByteArray × Value)
/-- What a map holds at a key. -/
def mget : Assoc → ByteArray → Option Value
  | [], _ => none
  | (a, v) :: r, k => if k = a then some v else mget r k
def mput : Assoc → ByteArray → Value → Assoc
  | [], k, v => [(k, v)]
  | (a, u) :: r, k, v => if k = a then (k, v) :: r else (a, u) :: mput r k v
/-- A map, as it lies in its block. -/
def MapAt (w : World) (b : Nat) (ks : Assoc) : Prop := ∃ es clock, w.heap[b]? = some (.map es clock) ∧ es.toList.map (fun e => (e.key, e.val)) = ks.map fun p => (.string p.1, p.2)
theorem MapAt.lt {w : World} {b : Nat} {ks : Assoc} (h : MapAt w b ks) : b < w.heap.size := by
  obtain ⟨es, clock, hb, _⟩ := h
  exact (Array.getElem?_eq_some_iff.1 hb).1
theorem MapAt.under {w w' : World} {b : Nat} {ks : Assoc} (h : MapAt w b ks) (hU : Under w w') : MapAt w' b ks := by
  obtain ⟨es, clock, hb, he⟩ := h
  exact ⟨es, clock, (hU.low b (Array.getElem?_eq_some_iff.1 hb).1).trans hb, he⟩
theorem MapAt.turned {w w' : World} {b : Nat} {ks : Assoc} {r : Option Nat} (h : MapAt w b ks) (hT : Turned r w w') (hr : some b ≠ r) : MapAt w' b ks := by
  obtain ⟨es, clock, hb, he⟩ := h
  exact ⟨es, clock, (hT.block b (Array.getElem?_eq_some_iff.1 hb).1 hr).trans hb, he⟩
theorem MapAt.cast {w : World} {b : Nat} {ks ks' : Assoc} (h : MapAt w b ks) (e : ks = ks') : MapAt w b ks' := e ▸ h
theorem map_new (w : World) : MapAt (w.alloc (.map #[] 0)) w.heap.size [] := ⟨#[], 0, by simp [alloc_heap], rfl⟩

/-- Where a key is. -/
def mfind : Assoc → ByteArray → Nat → Option (Nat × Value)
  | [], _, _ => none
  | (a, v) :: r, k, i => if k = a then some (i, v) else mfind r k (i + 1)
theorem mfind_get : ∀ (ks : Assoc) (k : ByteArray) (i : Nat), (mfind ks k i).map (·.2) = mget ks k
  | [], _, _ => rfl
  | (a, v) :: r, k, i => by
    simp only [mfind, mget]
    split
    · rfl
    · exact mfind_get r k (i + 1)
theorem findNow_at : ∀ (es : List MapEntry) (ks : Assoc) (k : ByteArray) (i : Nat), es.map (fun e => (e.key, e.val)) = ks.map (fun p => (Value.string p.1, p.2)) → Instr.findNow .string (.string k) es i = some (mfind ks k i)
  | [], [], _, _, _ => rfl
  | [], _ :: _, _, _, h => by simp at h
  | _ :: _, [], _, _, h => by simp at h
  | e :: es, (a, v) :: r, k, i, h => by
    simp only [List.map_cons, List.cons.injEq, Prod.mk.injEq] at h
    obtain ⟨⟨h1, h2⟩, h3⟩ := h
    simp only [Instr.findNow, Instr.sameNow, h1, mfind]
    by_cases hk : k = a
    · subst hk
      rw [bytes_beq]
      simp [h2]
    · have : (k == a) = false := by rw [bytes_beq]; simpa using hk
      rw [this, if_neg hk]
      exact findNow_at es r k (i + 1) h3
theorem mfind_some {ks : Assoc} {k : ByteArray} {i j : Nat} {v : Value} (h : mfind ks k i = some (j, v)) : i ≤ j ∧ ks[j - i]? = some (k, v) ∧ ∀ u, mput ks k u = ks.set (j - i) (k, u) := by
  induction ks generalizing i with
  | nil => cases h
  | cons p r ih =>
    obtain ⟨a, y⟩ := p
    simp only [mfind] at h
    split at h
    · rename_i hk
      cases h
      subst hk
      exact ⟨Nat.le_refl _, by simp, fun u => by simp [mput]⟩
    · rename_i hk
      obtain ⟨h1, h2, h3⟩ := ih h
      refine ⟨by omega, ?_, fun u => ?_⟩
      · rw [show j - i = (j - (i + 1)) + 1 by omega]; simpa using h2
      · rw [show j - i = (j - (i + 1)) + 1 by omega]; simp [mput, hk, h3]
theorem mfind_none {ks : Assoc} {k : ByteArray} {i : Nat} (h : mfind ks k i = none) (u : Value) : mput ks k u = ks ++ [(k, u)] := by
  induction ks generalizing i with
  | nil => rfl
  | cons p r ih =>
    obtain ⟨a, y⟩ := p
    simp only [mfind] at h
    split at h
    · cases h
    · rename_i hk
      simp [mput, hk, ih h]

section
variable {P : Program} {w : World} {b : Nat} {ks : Assoc} {t kt et : TypeId} {k : ByteArray} {v : Value}
theorem getObj_map {es : Array MapEntry} {clock : Nat} (hb : w.heap[b]? = some (.map es clock)) : (getObj b).run P w = .ok (.map es clock) w := by simp [getObj, Sem.run, hb]
theorem checkKey_string (e : Bool) (hk : P.underlying kt = some .string) : (Instr.checkKey e 10000 kt (.string k)).run P w = .ok () w := by
  rw [show (10000 : Nat) = 9999 + 1 from rfl, Instr.checkKey]
  simp [run_underlying hk]
theorem MapAt.update (h : MapAt w b ks) (ht : P.underlying t = some (.map kt et)) (hk : P.underlying kt = some .string) :
    ∃ w', (Instr.mapUpdate t (.map (some b)) (.string k) v).run P w = .ok () w' ∧ MapAt w' b (mput ks k v) ∧ Turned (some b) w w' := by
  obtain ⟨es, clock, hb, he⟩ := h
  have hlt := (Array.getElem?_eq_some_iff.1 hb).1
  have hf := run_findKey (P := P) (w := w) hk (findNow_at es.toList ks k 0 he)
  cases hm : mfind ks k 0 with
  | none =>
    rw [hm] at hf
    refine ⟨w.putObj b (.map (es.push { key := .string k, val := v, born := clock }) (clock + 1)), ?_, ⟨_, _, World.putObj_heap_same hlt, ?_⟩, ⟨rfl, rfl, by simp, fun j hj hr => World.putObj_heap_other fun e => hr (congrArg some e)⟩⟩
    · simp [Instr.mapUpdate, run_underlying ht, run_underlying hk, getObj_map (P := P) hb, checkKey_string (P := P) (w := w) _ hk, hf, setObj, Sem.run, hb, Result.andThen, World.putObj]
    · rw [mfind_none hm]
      simp [he]
  | some r =>
    obtain ⟨j, u⟩ := r
    rw [hm] at hf
    obtain ⟨_, h2, h3⟩ := mfind_some hm
    rw [Nat.sub_zero] at h2 h3
    have hj : es.toList[j]?.map (fun e => (e.key, e.val)) = some (.string k, u) := by
      have := congrArg (fun l => l[j]?) he
      simp only [List.getElem?_map, h2] at this
      simpa using this
    have hkey : ((es[j]?).map (·.key)).getD (.string k) = .string k := by
      cases hq : es[j]? with
      | none => rfl
      | some e =>
        have : es.toList[j]? = some e := by simpa using hq
        rw [this] at hj
        simp at hj
        simp [hj.1]
    refine ⟨w.putObj b (.map (es.modify j fun e => { e with key := .string k, val := v }) clock), ?_, ⟨_, _, World.putObj_heap_same hlt, ?_⟩, ⟨rfl, rfl, by simp, fun i hi hr => World.putObj_heap_other fun e => hr (congrArg some e)⟩⟩
    · simp [Instr.mapUpdate, run_underlying ht, run_underlying hk, getObj_map (P := P) hb, checkKey_string (P := P) (w := w) _ hk, hf, setObj, Sem.run, hb, Result.andThen, World.putObj, hkey, Instr.keyThatStays, Instr.sameBits, bytes_beq]
    · rw [h3]
      apply List.ext_getElem?
      intro i
      have hi := congrArg (fun l => l[i]?) he
      simp only [List.getElem?_map] at hi
      simp only [List.getElem?_map, List.getElem?_set]
      by_cases e : j = i
      · subst e
        have hjl : j < ks.length := (List.getElem?_eq_some_iff.1 h2).1
        cases hq : es.toList[j]? with
        | none => rw [hq] at hj; cases hj
        | some x =>
          have hjs : j < es.size := by have := (List.getElem?_eq_some_iff.1 hq).1; simpa using this
          have hx : es[j]? = some x := by simpa using hq
          simp [hjl, Array.getElem?_modify, hx, hjs]
      · rw [if_neg e, ← hi]
        simp [Array.getElem?_modify, e]
theorem MapAt.lookup (h : MapAt w b ks) (ht : P.underlying t = some (.map kt et)) (hk : P.underlying kt = some .string) {z : Value} (hz : (zeroValue et).run P w = .ok z w) :
    (Instr.lookup t (.map (some b)) (.string k) true).run P w = .ok (.tuple #[(mget ks k).getD z, .bool (mget ks k).isSome]) w ∧ (Instr.lookup t (.map (some b)) (.string k) false).run P w = .ok ((mget ks k).getD z) w := by
  obtain ⟨es, clock, hb, he⟩ := h
  have hf := run_findKey (P := P) (w := w) hk (findNow_at es.toList ks k 0 he)
  have hg := mfind_get ks k 0
  cases hm : mfind ks k 0 with
  | none =>
    rw [hm] at hf hg
    rw [← hg]
    constructor <;> simp [Instr.lookup, run_underlying ht, run_underlying hk, getObj_map (P := P) hb, checkKey_string (P := P) (w := w) _ hk, hf, hz, Result.andThen]
  | some r =>
    rw [hm] at hf hg
    rw [← hg]
    constructor <;> simp [Instr.lookup, run_underlying ht, run_underlying hk, getObj_map (P := P) hb, checkKey_string (P := P) (w := w) _ hk, hf, Result.andThen]
theorem wpList_insert_map {ops : Array Oper} {rest : List Oper} {o : Oper} {a : Act} {Q : Exit → Act → World → Prop} (hg : o.guard = none) (m x y : Operand) (hop : o.op = Op.insert t m x y ∨ o.op = Op.mapUpdate t m x y)
    (ht : P.underlying t = some (.map kt et)) (hk : P.underlying kt = some .string) (em : a.eval m = .map (some b)) (hm : MapAt w b ks) (ex : a.eval x = .string k) (ey : a.eval y = v)
    (h : ∀ w', MapAt w' b (mput ks k v) → Turned (some b) w w' → wpList P ops Q rest (a.put o.dst undef) w') : wpList P ops Q (o :: rest) a w := by
  refine wpList_plain hg fun K' hK' => ?_
  obtain ⟨w', hrun, r1, r2⟩ := hm.update (v := v) (k := k) ht hk
  unfold Oper.wp
  rcases hop with hop | hop
  · simp [execOp, hop, em, ex, ey, hrun, Result.andThen]
    exact hK' _ _ (h w' r1 r2)
  · simp [execOp, hop, em, ex, ey, hrun, Result.andThen]
    exact hK' _ _ (h w' r1 r2)
theorem wpList_lookup_map {ops : Array Oper} {rest : List Oper} {o : Oper} {a : Act} {Q : Exit → Act → World → Prop} (hg : o.guard = none) (m x : Operand) (ok : Bool) (hop : o.op = Op.lookup t m x ok)
    (ht : P.underlying t = some (.map kt et)) (hk : P.underlying kt = some .string) {z : Value} (hz : (zeroValue et).run P w = .ok z w) (em : a.eval m = .map (some b)) (hm : MapAt w b ks) (ex : a.eval x = .string k)
    (h : wpList P ops Q rest (a.put o.dst (if ok then .tuple #[(mget ks k).getD z, .bool (mget ks k).isSome] else (mget ks k).getD z)) w) : wpList P ops Q (o :: rest) a w := by
  refine wpList_plain hg fun K' hK' => ?_
  obtain ⟨r1, r2⟩ := hm.lookup (k := k) ht hk hz
  unfold Oper.wp
  cases ok with
  | true => simp [execOp, hop, em, ex, r1, Result.andThen]; exact hK' _ _ (by simpa using h)
  | false => simp [execOp, hop, em, ex, r2, Result.andThen]; exact hK' _ _ (by simpa using h)
end
end Go.Lx

/- Maps keyed by numbers; a key deleted of a map keyed by strings. -/
namespace Go.Lx
open Go.RowKit Go.MapKept

abbrev AssocI := List (Int × Value)
def mgetI : AssocI → Int → Option Value
  | [], _ => none
  | (a, v) :: r, k => if k = a then some v else mgetI r k
def mputI : AssocI → Int → Value → AssocI
  | [], k, v => [(k, v)]
  | (a, u) :: r, k, v => if k = a then (k, v) :: r else (a, u) :: mputI r k v
/-- A map, as it lies in its block. -/
def MapIAt (w : World) (b : Nat) (ks : AssocI) : Prop := ∃ es clock, w.heap[b]? = some (.map es clock) ∧ es.toList.map (fun e => (e.key, e.val)) = ks.map fun p => (.int .i64 p.1, p.2)
theorem MapIAt.lt {w : World} {b : Nat} {ks : AssocI} (h : MapIAt w b ks) : b < w.heap.size := by
  obtain ⟨es, clock, hb, _⟩ := h
  exact (Array.getElem?_eq_some_iff.1 hb).1
theorem mapI_new (w : World) : MapIAt (w.alloc (.map #[] 0)) w.heap.size [] := ⟨#[], 0, by simp [alloc_heap], rfl⟩
theorem MapIAt.same {w w' : World} {b : Nat} {ks : AssocI} (h : MapIAt w b ks) (hs : w'.heap[b]? = w.heap[b]?) : MapIAt w' b ks := by
  obtain ⟨es, clock, hb, he⟩ := h
  exact ⟨es, clock, hs.trans hb, he⟩
theorem MapAt.same {w w' : World} {b : Nat} {ks : Assoc} (h : MapAt w b ks) (hs : w'.heap[b]? = w.heap[b]?) : MapAt w' b ks := by
  obtain ⟨es, clock, hb, he⟩ := h
  exact ⟨es, clock, hs.trans hb, he⟩
def mfindI : AssocI → Int → Nat → Option (Nat × Value)
  | [], _, _ => none
  | (a, v) :: r, k, i => if k = a then some (i, v) else mfindI r k (i + 1)
theorem mfindI_get : ∀ (ks : AssocI) (k : Int) (i : Nat), (mfindI ks k i).map (·.2) = mgetI ks k
  | [], _, _ => rfl
  | (a, v) :: r, k, i => by
    simp only [mfindI, mgetI]
    split
    · rfl
    · exact mfindI_get r k (i + 1)
theorem findNowI_at : ∀ (es : List MapEntry) (ks : AssocI) (k : Int) (i : Nat), es.map (fun e => (e.key, e.val)) = ks.map (fun p => (Value.int .i64 p.1, p.2)) → Instr.findNow (.int .i64) (.int .i64 k) es i = some (mfindI ks k i)
  | [], [], _, _, _ => rfl
  | [], _ :: _, _, _, h => by simp at h
  | _ :: _, [], _, _, h => by simp at h
  | e :: es, (a, v) :: r, k, i, h => by
    simp only [List.map_cons, List.cons.injEq, Prod.mk.injEq] at h
    obtain ⟨⟨h1, h2⟩, h3⟩ := h
    simp only [Instr.findNow, Instr.sameNow, h1, mfindI]
    by_cases hk : k = a
    · subst hk
      simp [h2]
    · have : (k == a) = false := by simpa using hk
      rw [this, if_neg hk]
      exact findNowI_at es r k (i + 1) h3
theorem mfindI_some {ks : AssocI} {k : Int} {i j : Nat} {v : Value} (h : mfindI ks k i = some (j, v)) : i ≤ j ∧ ks[j - i]? = some (k, v) ∧ ∀ u, mputI ks k u = ks.set (j - i) (k, u) := by
  induction ks generalizing i with
  | nil => cases h
  | cons p r ih =>
    obtain ⟨a, y⟩ := p
    simp only [mfindI] at h
    split at h
    · rename_i hk
      cases h
      subst hk
      exact ⟨Nat.le_refl _, by simp, fun u => by simp [mputI]⟩
    · rename_i hk
      obtain ⟨h1, h2, h3⟩ := ih h
      refine ⟨by omega, ?_, fun u => ?_⟩
      · rw [show j - i = (j - (i + 1)) + 1 by omega]; simpa using h2
      · rw [show j - i = (j - (i + 1)) + 1 by omega]; simp [mputI, hk, h3]
theorem mfindI_none {ks : AssocI} {k : Int} {i : Nat} (h : mfindI ks k i = none) (u : Value) : mputI ks k u = ks ++ [(k, u)] := by
  induction ks generalizing i with
  | nil => rfl
  | cons p r ih =>
    obtain ⟨a, y⟩ := p
    simp only [mfindI] at h
    split at h
    · cases h
    · rename_i hk
      simp [mputI, hk, ih h]
section
variable {P : Program} {w : World} {b : Nat} {t kt et : TypeId} {v : Value}
theorem checkKey_int (e : Bool) (hk : P.underlying kt = some (.int .i64)) (k : Int) : (Instr.checkKey e 10000 kt (.int .i64 k)).run P w = .ok () w := by
  rw [show (10000 : Nat) = 9999 + 1 from rfl, Instr.checkKey]
  simp [run_underlying hk]
/-- A map that has no such key yet. -/
theorem MapIAt.insert {ks : AssocI} {k : Int} (h : MapIAt w b ks) (hn : mfindI ks k 0 = none) (ht : P.underlying t = some (.map kt et)) (hk : P.underlying kt = some (.int .i64)) :
    ∃ w', (Instr.mapUpdate t (.map (some b)) (.int .i64 k) v).run P w = .ok () w' ∧ MapIAt w' b (ks ++ [(k, v)]) ∧ Turned (some b) w w' := by
  obtain ⟨es, clock, hb, he⟩ := h
  have hlt := (Array.getElem?_eq_some_iff.1 hb).1
  have hf := run_findKey (P := P) (w := w) hk (findNowI_at es.toList ks k 0 he)
  rw [hn] at hf
  refine ⟨w.putObj b (.map (es.push { key := .int .i64 k, val := v, born := clock }) (clock + 1)), ?_, ⟨_, _, World.putObj_heap_same hlt, ?_⟩, ⟨rfl, rfl, by simp, fun j hj hr => World.putObj_heap_other fun e => hr (congrArg some e)⟩⟩
  · simp [Instr.mapUpdate, run_underlying ht, run_underlying hk, getObj_map (P := P) hb, checkKey_int (P := P) (w := w) _ hk, hf, setObj, Sem.run, hb, Result.andThen, World.putObj]
  · simp [he]
theorem MapIAt.lookup {ks : AssocI} {k : Int} (h : MapIAt w b ks) (ht : P.underlying t = some (.map kt et)) (hk : P.underlying kt = some (.int .i64)) {z : Value} (hz : (zeroValue et).run P w = .ok z w) :
    (Instr.lookup t (.map (some b)) (.int .i64 k) false).run P w = .ok ((mgetI ks k).getD z) w := by
  obtain ⟨es, clock, hb, he⟩ := h
  have hf := run_findKey (P := P) (w := w) hk (findNowI_at es.toList ks k 0 he)
  have hg := mfindI_get ks k 0
  cases hm : mfindI ks k 0 with
  | none =>
    rw [hm] at hf hg
    rw [← hg]
    simp [Instr.lookup, run_underlying ht, run_underlying hk, getObj_map (P := P) hb, checkKey_int (P := P) (w := w) _ hk, hf, hz, Result.andThen]
  | some r =>
    rw [hm] at hf hg
    rw [← hg]
    simp [Instr.lookup, run_underlying ht, run_underlying hk, getObj_map (P := P) hb, checkKey_int (P := P) (w := w) _ hk, hf, Result.andThen]
theorem wpList_insert_mapI {ks : AssocI} {k : Int} {ops : Array Oper} {rest : List Oper} {o : Oper} {a : Act} {Q : Exit → Act → World → Prop} (hg : o.guard = none) (m x y : Operand) (hop : o.op = Op.insert t m x y)
    (ht : P.underlying t = some (.map kt et)) (hk : P.underlying kt = some (.int .i64)) (em : a.eval m = .map (some b)) (hm : MapIAt w b ks) (ex : a.eval x = .int .i64 k) (ey : a.eval y = v) (hn : mfindI ks k 0 = none)
    (h : ∀ w', MapIAt w' b (ks ++ [(k, v)]) → Turned (some b) w w' → wpList P ops Q rest (a.put o.dst undef) w') : wpList P ops Q (o :: rest) a w := by
  refine wpList_plain hg fun K' hK' => ?_
  obtain ⟨w', hrun, r1, r2⟩ := hm.insert (v := v) (k := k) hn ht hk
  unfold Oper.wp
  simp [execOp, hop, em, ex, ey, hrun, Result.andThen]
  exact hK' _ _ (h w' r1 r2)
/-- A key that was the last one is deleted. -/
theorem MapAt.delete {ks : Assoc} {k : ByteArray} {u : Value} (h : MapAt w b (ks ++ [(k, u)])) (hn : mfind ks k 0 = none) (ht : P.underlying t = some (.map kt et)) (hk : P.underlying kt = some .string) (ty : TypeId) (kt' : TypeId) :
    ∃ w', (Builtin.delete_ #[t, kt'] ty #[.map (some b), .string k]).run P w = .ok (.tuple #[]) w' ∧ MapAt w' b ks ∧ Turned (some b) w w' := by
  obtain ⟨es, clock, hb, he⟩ := h
  have hlt := (Array.getElem?_eq_some_iff.1 hb).1
  have hf := run_findKey (P := P) (w := w) hk (findNow_at es.toList _ k 0 he)
  have hfi : ∀ (l : Assoc) (i : Nat), mfind l k i = none → mfind (l ++ [(k, u)]) k i = some (i + l.length, u) := fun l => by
    induction l with
    | nil => intro i _; simp [mfind]
    | cons p r ih =>
      intro i h
      obtain ⟨a, y⟩ := p
      simp only [mfind, List.cons_append] at h ⊢
      split at h
      · cases h
      · rename_i hk
        rw [if_neg hk, ih _ h, List.length_cons]
        congr 2
        omega
  rw [hfi ks 0 hn, Nat.zero_add] at hf
  have hes : es.size = ks.length + 1 := by
    have := congrArg List.length he
    simpa using this
  refine ⟨w.putObj b (.map (es.eraseIdxIfInBounds ks.length) clock), ?_, ⟨_, _, World.putObj_heap_same hlt, ?_⟩, ⟨rfl, rfl, by simp, fun j hj hr => World.putObj_heap_other fun e => hr (congrArg some e)⟩⟩
  · simp [Builtin.delete_, run_underlying ht, getObj_map (P := P) hb, checkKey_string (P := P) (w := w) _ hk, hf, setObj, Sem.run, hb, Result.andThen, World.putObj]
  · have e1 : (es.eraseIdxIfInBounds ks.length).toList = es.toList.take ks.length := by
      rw [Array.toList_eraseIdxIfInBounds]
      apply List.ext_getElem?
      intro i
      rw [List.getElem?_eraseIdx, List.getElem?_take]
      split
      · rfl
      · exact List.getElem?_eq_none (by simp; omega)
    rw [e1, List.map_take, he]
    simp
theorem wpList_delete_map {ks : Assoc} {k : ByteArray} {u : Value} {ops : Array Oper} {rest : List Oper} {o : Oper} {a : Act} {Q : Exit → Act → World → Prop} (hg : o.guard = none) (m x : Operand) (kt' : TypeId) (hop : o.op = Op.call { callee := Callee.builtin Builtin.delete, args := #[m, x], argTypes := #[t, kt'] })
    (ht : P.underlying t = some (.map kt et)) (hk : P.underlying kt = some .string) (em : a.eval m = .map (some b)) (hm : MapAt w b (ks ++ [(k, u)])) (hn : mfind ks k 0 = none) (ex : a.eval x = .string k)
    (h : ∀ w', MapAt w' b ks → Turned (some b) w w' → wpList P ops Q rest (a.put o.dst (.tuple #[])) w') : wpList P ops Q (o :: rest) a w := by
  refine wpList_plain hg fun K' hK' => ?_
  obtain ⟨w', hrun, r1, r2⟩ := hm.delete (k := k) hn ht hk o.type kt'
  unfold Oper.wp
  simp [execOp, hop, em, ex, resolve, invoke, builtin, hrun, Result.andThen]
  exact hK' _ _ (h w' r1 r2)
end
end Go.Lx

/- Slices whose elements are read in their turn; append of so many zeros to nil. -/
namespace Go.Lx
open Go.RowKit

/-- Two lists, element by element. -/
def Zip {α β : Type} (R : α → β → Prop) (vs : List α) (ls : List β) : Prop := vs.length = ls.length ∧ ∀ (i : Nat) v x, vs[i]? = some v → ls[i]? = some x → R v x
theorem Zip.nil {α β : Type} (R : α → β → Prop) : Zip R [] [] := ⟨rfl, fun i v x h => by simp at h⟩
theorem Zip.app {α β : Type} {R : α → β → Prop} {vs us : List α} {ls ks : List β} (h : Zip R vs ls) (k : Zip R us ks) : Zip R (vs ++ us) (ls ++ ks) := by
  refine ⟨by rw [List.length_append, List.length_append, h.1, k.1], fun i v x hv hx => ?_⟩
  by_cases hi : i < vs.length
  · rw [List.getElem?_append_left hi] at hv
    rw [List.getElem?_append_left (by rw [← h.1]; exact hi)] at hx
    exact h.2 i v x hv hx
  · rw [List.getElem?_append_right (by omega)] at hv
    rw [List.getElem?_append_right (by rw [← h.1]; omega), ← h.1] at hx
    exact k.2 _ v x hv hx
theorem Zip.one {α β : Type} {R : α → β → Prop} {v : α} {x : β} (h : R v x) : Zip R [v] [x] := ⟨rfl, fun i u y hu hy => by
  match i, hu, hy with
  | 0, hu, hy => cases hu; cases hy; exact h⟩
theorem Zip.mono {α β : Type} {R S : α → β → Prop} {vs : List α} {ls : List β} (h : Zip R vs ls) (hRS : ∀ v x, R v x → S v x) : Zip S vs ls := ⟨h.1, fun i v x hv hx => hRS v x (h.2 i v x hv hx)⟩
theorem Zip.at {α β : Type} {R : α → β → Prop} {vs : List α} {ls : List β} (h : Zip R vs ls) {i : Nat} {x : β} (hx : ls[i]? = some x) : ∃ v, vs[i]? = some v ∧ R v x := by
  have hi : i < vs.length := by rw [h.1]; exact (List.getElem?_eq_some_iff.1 hx).1
  exact ⟨vs[i], List.getElem?_eq_getElem hi, h.2 i _ x (List.getElem?_eq_getElem hi) hx⟩
/-- A slice whose elements are read. -/
def ListV {α : Type} (R : World → Value → α → Prop) (w : World) (v : Value) (ls : List α) : Prop := ∃ p c vs, v = .slice p ls.length c ∧ ls.length ≤ c ∧ (p = none → c = 0) ∧ RowArg w p vs ∧ Zip (R w) vs ls
/-- A slice of nodes. -/
def TermV (w : World) (v : Value) (t : List Nd) : Prop := ∃ p c, v = .slice p t.length c ∧ t.length ≤ c ∧ (p = none → c = 0) ∧ RowArg w p (ndCells t)
def Mono {α : Type} (R : World → Value → α → Prop) : Prop := ∀ w w' v x, Under w w' → R w v x → R w' v x
theorem TermV.mono : Mono TermV := fun w w' v t hU ⟨p, c, h1, h2, h0, h3⟩ => ⟨p, c, h1, h2, h0, h3.under hU⟩
theorem ListV.mono {α : Type} {R : World → Value → α → Prop} (hR : Mono R) : Mono (ListV R) := fun w w' v ls hU ⟨p, c, vs, h1, h2, h0, h3, h4⟩ => ⟨p, c, vs, h1, h2, h0, h3.under hU, h4.mono fun v x h => hR w w' v x hU h⟩
theorem TermV.one {w : World} {v : Value} {t : List Nd} (h : TermV w v t) : v.oneCell' = true := by obtain ⟨p, c, rfl, _⟩ := h; rfl
theorem ListV.one {α : Type} {R : World → Value → α → Prop} {w : World} {v : Value} {ls : List α} (h : ListV R w v ls) : v.oneCell' = true := by obtain ⟨p, c, vs, rfl, _⟩ := h; rfl
abbrev TermsV := ListV TermV
abbrev ConsV := ListV TermsV
theorem ListV.of_own {α : Type} {R : World → Value → α → Prop} {w : World} {base : Nat} {e : TypeId} {v : Value} {ls : List α} {vs : List Value} (h : w.ownsRow base e 1 v ls.length vs) (hz : Zip (R w) vs ls) : ListV R w v ls := by
  have hc : ∀ q n c, v = .slice q n c → q = none → c = 0 := by
    intro q n c e hq
    subst hq
    rcases h.2 with ⟨rfl, _⟩ | ⟨g, cap, cur, e', _⟩
    · cases e; rfl
    · rw [e'] at e; cases e
  obtain ⟨q, c, rfl, h1, h2⟩ := RowArg.of_own h
  exact ⟨q, c, vs, rfl, h1, hc q _ c rfl, h2, hz⟩

section
variable {P : Program}
theorem run_append_zeros_nil (w : World) (base : Nat) (t u ty e : TypeId) (i : TypeInfo) (z : Value) (ht : P.underlying t = some (.slice e)) (hu : P.underlying u = some (.int .i64)) (hi : P.info? e = some i) (hz : i.zero = some z) (hs : i.size = 1) (hzs : z.cells = #[z])
    (n : Nat) (h1 : 1 ≤ n) (h8 : n * i.bytes ≤ 140737488355328) (hmx : n ≤ 1000000) (hbase : base ≤ w.heap.size) :
    ∃ g c w', (Builtin.append_ #[t, u] ty #[.slice none 0 0, .int .i64 (n : Int)]).run P w = .ok (.slice (some ⟨g, 0, none⟩) n c) w' ∧ w'.ownsRow base e 1 (.slice (some ⟨g, 0, none⟩) n c) n (List.replicate n z) ∧ w.grownBy w' none := by
  have hw : IntKind.i64.wrap (n : Int) = n := by rw [IntKind.wrap_i64]; omega
  have hn : ¬ n = 0 := by omega
  have h63' : ¬ (9223372036854775807 < (n : Int)) := by omega
  have h48' : ¬ (281474976710656 < Builtin.nextslicecap n 0 * i.bytes) := by rw [nextslicecap_zero (by omega)]; omega
  have hneg : ¬ ((n : Int) < 0) := by omega
  have hbig : ¬ ((281474976710656 : Int) < (n : Int) * i.bytes) := by
    have : ((n * i.bytes : Nat) : Int) = (n : Int) * i.bytes := by simp
    omega
  refine ⟨w.heap.size, grownCap w n 0 e, w.drew.alloc (.cells (Builtin.zeroCells z.cells n ++ Builtin.zeroCells z.cells (grownCap w n 0 e - n)) e), ?_, ?_, ?_⟩
  · simp [Builtin.append_, run_underlying ht, run_underlying hu, sizeOf, typeInfo, zeroValue, hi, hz, hs, Builtin.lenOf, Builtin.firstCells, hn, h63', h48', Question.forced, newRow, grownCap, asInt, asIntOf, hw, hneg, hbig]
  · have hge := grownCap_ge w n 0 e
    have hcm : grownCap w n 0 e ≤ maxLen := grownCap_le_maxLen w n 0 e (by simp only [maxLen]; omega)
    refine ⟨by simp, .inr ⟨w.heap.size, _, _, rfl, hbase, box_new w.drew _ _, hge, hcm, ?_, ?_⟩⟩
    · simp only [Array.size_append, size_zeroCells, hzs]
      simp
      omega
    · have hzc : (Builtin.zeroCells z.cells n).toList = List.replicate n z := by
        rw [hzs]
        apply List.ext_getElem
        · simp [Builtin.zeroCells]
        · intro j h1 h2
          simp [Builtin.zeroCells, Nat.mod_one]
      simp only [Array.toList_append, hzc, Nat.mul_one]
      rw [List.take_left' (by simp)]
  · exact ⟨rfl, rfl, rfl, by simp, fun k hk _ => by
      show (w.heap.push _)[k]? = _
      rw [Array.getElem?_push_lt hk, ← Array.getElem?_eq_getElem]⟩
theorem wpList_append_zeros_nil {w : World} {ops : Array Oper} {rest : List Oper} {o : Oper} {a : Act} {Q : Exit → Act → World → Prop} (hgd : o.guard = none) (s x : Operand) (base : Nat) (t u e : TypeId)
    (ho : o.op = .call { callee := .builtin .append, args := #[s, x], argTypes := #[t, u] }) (i : TypeInfo) (z : Value) (ht : P.underlying t = some (.slice e)) (hu : P.underlying u = some (.int .i64)) (hi : P.info? e = some i) (hz : i.zero = some z) (hs : i.size = 1) (hzs : z.cells = #[z])
    (n : Nat) (es : a.eval s = .slice none 0 0) (ex : a.eval x = .int .i64 (n : Int)) (h1 : 1 ≤ n) (h8 : n * i.bytes ≤ 140737488355328) (hmx : n ≤ 1000000) (hbase : base ≤ w.heap.size)
    (h : ∀ g c w', w'.ownsRow base e 1 (.slice (some ⟨g, 0, none⟩) n c) n (List.replicate n z) → w.grownBy w' none → wpList P ops Q rest (a.put o.dst (.slice (some ⟨g, 0, none⟩) n c)) w') :
    wpList P ops Q (o :: rest) a w := by
  refine wpList_plain hgd fun K hK' => ?_
  obtain ⟨g, c, w', hrun, r1, r2⟩ := run_append_zeros_nil (P := P) w base t u o.type e i z ht hu hi hz hs hzs n h1 h8 hmx hbase
  unfold Oper.wp
  simp [execOp, ho, resolve, invoke, builtin, es, ex, hrun, Result.andThen]
  exact hK' _ _ (h g c w' r1 r2)
end
end Go.Lx

/- Slices of texts. -/
namespace Go.Lx
open Go.RowKit

/-- A slice of texts. -/
def TextsV (w : World) (v : Value) (ss : List ByteArray) : Prop := ∃ p c, v = .slice p ss.length c ∧ ss.length ≤ c ∧ (p = none → c = 0) ∧ RowArg w p (ss.map .string)
theorem TextsV.under {w w' : World} {v : Value} {ss : List ByteArray} (h : TextsV w v ss) (hU : Under w w') : TextsV w' v ss := by
  obtain ⟨p, c, rfl, h1, h2, h3⟩ := h
  exact ⟨p, c, rfl, h1, h2, h3.under hU⟩
theorem TextsV.of_own {w : World} {base : Nat} {e : TypeId} {v : Value} {ss : List ByteArray} (h : w.ownsRow base e 1 v ss.length (ss.map .string)) : TextsV w v ss := by
  have hc : ∀ q n c, v = .slice q n c → q = none → c = 0 := by
    intro q n c e hq
    subst hq
    rcases h.2 with ⟨rfl, _⟩ | ⟨g, cap, cur, e', _⟩
    · cases e; rfl
    · rw [e'] at e; cases e
  obtain ⟨q, c, rfl, h1, h2⟩ := RowArg.of_own h
  exact ⟨q, c, rfl, h1, hc q _ c rfl, h2⟩
theorem TextsV.nil (w : World) : TextsV w (.slice none 0 0) [] := ⟨none, 0, rfl, Nat.le_refl _, fun _ => rfl, RowArg.nil⟩
/-- A text of such a slice. -/
theorem text_at {w : World} {p : Option Addr} {ss : List ByteArray} (h : RowArg w p (ss.map .string)) {k : Nat} (hk : k < ss.length) : ∃ b off, p = some ⟨b, off, none⟩ ∧ b < w.heap.size ∧ w.cell? ⟨b, off + k, none⟩ = some (.string ss[k]) := by
  obtain ⟨b, off, e, hb, hc⟩ := h (fun e => by rw [List.map_eq_nil_iff] at e; rw [e] at hk; simp at hk)
  exact ⟨b, off, e, hb, hc k _ (by simp [List.getElem?_eq_getElem hk])⟩
end Go.Lx

/- Names that nobody has: numerals are unlike, so one of the next is free. -/
namespace Go.Lx
open Go.RowKit

/-- The number of digits that are read from the left. -/
def valD (l : List UInt8) : Nat := l.foldl (fun n c => n * 10 + (c.toNat - 48)) 0
theorem valD_app (l : List UInt8) (c : UInt8) : valD (l ++ [c]) = valD l * 10 + (c.toNat - 48) := by unfold valD; rw [List.foldl_append]; rfl
theorem digit_val (d : Nat) (h : d < 10) : (UInt8.ofNat (48 + d)).toNat - 48 = d := by
  rw [UInt8.toNat_ofNat']; omega
theorem valD_dec (n : Nat) : valD (Lib.decDigits n) = n := by
  induction n using Nat.strongRecOn with
  | ind n ih =>
    rw [Lib.decDigits]
    split
    · rename_i h
      have := digit_val n h
      unfold valD
      simp only [List.foldl_cons, List.foldl_nil]
      omega
    · rename_i h
      rw [valD_app, ih (n / 10) (by omega), digit_val _ (by omega)]
      omega
theorem decDigits_inj {a b : Nat} (h : Lib.decDigits a = Lib.decDigits b) : a = b := by
  have := congrArg valD h
  rwa [valD_dec, valD_dec] at this
/-- A name of the printer's own. -/
def nameN (k : Nat) : ByteArray := ⟨#[120] ++ (Lib.decDigits k).toArray⟩
theorem nameN_list (k : Nat) : (nameN k).toList = 120 :: Lib.decDigits k := by rw [ByteArray.toList_eq]; simp [nameN]
theorem nameN_inj {a b : Nat} (h : (nameN a).toList = (nameN b).toList) : a = b := by
  rw [nameN_list, nameN_list, List.cons.injEq] at h
  exact decDigits_inj h.2
/-- Is a text among these? -/
def amongB (ss : List ByteArray) (s : ByteArray) : Bool := ss.any fun x => x.toList == s.toList
theorem amongB_app (a b : List ByteArray) (s : ByteArray) : amongB (a ++ b) s = (amongB a s || amongB b s) := by simp [amongB]
theorem fresh_ex : ∀ (n : Nat) (ss : List ByteArray), ss.length ≤ n → ∀ d : Nat, ∃ k, d ≤ k ∧ k ≤ d + n ∧ amongB ss (nameN k) = false
  | 0, ss, h, d => ⟨d, Nat.le_refl _, Nat.le_refl _, by
      have : ss = [] := List.eq_nil_of_length_eq_zero (by omega)
      subst this; rfl⟩
  | n + 1, ss, h, d => by
    cases hd : amongB ss (nameN d)
    · exact ⟨d, Nat.le_refl _, by omega, hd⟩
    · have hlen : (ss.filter fun x => !(x.toList == (nameN d).toList)).length ≤ n := by
        unfold amongB at hd
        rw [List.any_eq_true] at hd
        obtain ⟨x, hx, he⟩ := hd
        have h1 : (ss.filter fun x => !(x.toList == (nameN d).toList)).length < ss.length := by
          rcases Nat.lt_or_ge (ss.filter fun x => !(x.toList == (nameN d).toList)).length ss.length with h | h
          · exact h
          · have := List.length_filter_le (fun x : ByteArray => !(x.toList == (nameN d).toList)) ss
            have h2 := (List.length_filter_eq_length_iff (p := fun x : ByteArray => !(x.toList == (nameN d).toList)) (l := ss)).1 (by omega) x hx
            simp [he] at h2
        omega
      obtain ⟨k, k1, k2, k3⟩ := fresh_ex n _ hlen (d + 1)
      refine ⟨k, by omega, by omega, ?_⟩
      unfold amongB at *
      rw [List.any_eq_false] at *
      intro x hx he
      by_cases hxd : x.toList = (nameN d).toList
      · have hk : (nameN d).toList = (nameN k).toList := hxd.symm.trans (by simpa using he)
        have := nameN_inj hk
        omega
      · exact k3 x (List.mem_filter.2 ⟨hx, by simpa using hxd⟩) he
def freshFrom (ss : List ByteArray) : Nat → Nat → Nat
  | 0, d => d
  | f + 1, d => if amongB ss (nameN d) = true then freshFrom ss f (d + 1) else d
theorem freshFrom_spec (ss : List ByteArray) : ∀ (f d k : Nat), d ≤ k → k ≤ d + f → amongB ss (nameN k) = false → d ≤ freshFrom ss f d ∧ freshFrom ss f d ≤ k ∧ amongB ss (nameN (freshFrom ss f d)) = false ∧ ∀ j, d ≤ j → j < freshFrom ss f d → amongB ss (nameN j) = true
  | 0, d, k, h1, h2, h3 => by
    obtain rfl : k = d := by omega
    exact ⟨Nat.le_refl _, Nat.le_refl _, h3, fun j h4 h5 => absurd h5 (by simp only [freshFrom]; omega)⟩
  | f + 1, d, k, h1, h2, h3 => by
    unfold freshFrom
    split
    · rename_i hd
      have hne : k ≠ d := by rintro rfl; rw [hd] at h3; cases h3
      obtain ⟨g1, g2, g3, g4⟩ := freshFrom_spec ss f (d + 1) k (by omega) (by omega) h3
      refine ⟨by omega, g2, g3, fun j h4 h5 => ?_⟩
      rcases Nat.lt_or_ge d j with h | h
      · exact g4 j (by omega) h5
      · obtain rfl : j = d := by omega
        exact hd
    · rename_i hd
      exact ⟨Nat.le_refl _, h1, by simpa using hd, fun j h4 h5 => absurd h5 (by omega)⟩
/-- The first name that is free, from a number on. -/
def freshN (ss : List ByteArray) (d : Nat) : Nat := freshFrom ss ss.length d
theorem freshN_spec (ss : List ByteArray) (d : Nat) : d ≤ freshN ss d ∧ freshN ss d ≤ d + ss.length ∧ amongB ss (nameN (freshN ss d)) = false ∧ ∀ j, d ≤ j → j < freshN ss d → amongB ss (nameN j) = true := by
  obtain ⟨k, h1, h2, h3⟩ := fresh_ex ss.length ss (Nat.le_refl _) d
  obtain ⟨g1, g2, g3, g4⟩ := freshFrom_spec ss ss.length d k h1 h2 h3
  exact ⟨g1, by unfold freshN; omega, g3, g4⟩
/-- Whoever is free and has none free ahead of him is the first. -/
theorem freshN_eq {ss : List ByteArray} {d k : Nat} (h1 : d ≤ k) (h2 : amongB ss (nameN k) = false) (h3 : ∀ j, d ≤ j → j < k → amongB ss (nameN j) = true) : freshN ss d = k := by
  obtain ⟨g1, g2, g3, g4⟩ := freshN_spec ss d
  rcases Nat.lt_trichotomy (freshN ss d) k with h | h | h
  · rw [h3 _ g1 h] at g3; cases g3
  · exact h
  · rw [g4 k h1 h] at h2; cases h2
end Go.Lx

/- The words of kinds. -/
namespace Go.Lx

/-- The word of a kind. -/
def headB : Nat → ByteArray
  | 2 => ⟨#[84, 121, 112, 101]⟩
  | 3 => ⟨#[112, 105]⟩
  | 4 => ⟨#[108, 97, 109]⟩
  | 5 => ⟨#[97, 112, 112]⟩
  | 6 => ⟨#[115, 105, 103]⟩
  | 7 => ⟨#[112, 97, 105, 114]⟩
  | 8 => ⟨#[102, 115, 116]⟩
  | 9 => ⟨#[115, 110, 100]⟩
  | 10 => ⟨#[78, 97, 116]⟩
  | 11 => ⟨#[122, 101, 114, 111]⟩
  | 12 => ⟨#[115, 117, 99]⟩
  | 13 => ⟨#[114, 101, 99]⟩
  | 14 => ⟨#[69, 109, 112, 116, 121]⟩
  | 15 => ⟨#[97, 98, 111, 114, 116]⟩
  | 16 => ⟨#[85, 110, 105, 116]⟩
  | 17 => ⟨#[115, 116, 97, 114]⟩
  | 18 => ⟨#[101, 113]⟩
  | 19 => ⟨#[114, 101, 102, 108]⟩
  | 20 => ⟨#[99, 97, 115, 116]⟩
  | 21 => ⟨#[116, 114, 97, 110, 115, 112]⟩
  | 22 => ⟨#[113, 117, 111, 116]⟩
  | 23 => ⟨#[99, 108, 97, 115, 115]⟩
  | 24 => ⟨#[113, 101, 108, 105, 109]⟩
  | 25 => ⟨#[100, 97, 116, 97]⟩
  | 26 => ⟨#[99, 111, 110]⟩
  | 27 => ⟨#[101, 108, 105, 109]⟩
  | 28 => ⟨#[112, 114, 102]⟩
  | 29 => ⟨#[116, 105, 99, 107]⟩
  | _ => ⟨#[]⟩
/-- The word of a node: a binder's has its number. -/
def wordsB (x : Nd) : ByteArray := if (x.k = 3 ∨ x.k = 6) ∧ 0 < x.n then ⟨(headB x.k.toNat).data ++ (Lib.decDigits x.n.toNat).toArray⟩ else headB x.k.toNat
end Go.Lx

/- pretty.heads: the table that it makes. -/
namespace Go.Proofs.YtiibknlpeodejaaGreatDoor
open Go.Lx Go.RowKit

def headV (k : Nat) : Value := .agg #[.string (headB k)]
/-- The table of words. -/
def headsL : AssocI := [(2, headV 2), (3, headV 3), (4, headV 4), (5, headV 5), (6, headV 6), (7, headV 7), (8, headV 8), (9, headV 9), (10, headV 10), (11, headV 11), (12, headV 12), (13, headV 13), (14, headV 14), (15, headV 15), (16, headV 16), (17, headV 17), (18, headV 18), (19, headV 19), (20, headV 20), (21, headV 21), (22, headV 22), (23, headV 23), (24, headV 24), (25, headV 25), (26, headV 26), (27, headV 27), (28, headV 28), (29, headV 29)]
theorem headsL_get (k : Nat) (hk : k < 30) : (mgetI headsL (k : Int)).getD (.agg #[.string ⟨#[]⟩]) = headV k := by
  have h : ∀ k : Nat, k < 30 → (mgetI headsL (k : Int)).getD (.agg #[.string ⟨#[]⟩]) = headV k := by
    intro k hk
    rcases (by omega : k = 0 ∨ k = 1 ∨ k = 2 ∨ k = 3 ∨ k = 4 ∨ k = 5 ∨ k = 6 ∨ k = 7 ∨ k = 8 ∨ k = 9 ∨ k = 10 ∨ k = 11 ∨ k = 12 ∨ k = 13 ∨ k = 14 ∨ k = 15 ∨ k = 16 ∨ k = 17 ∨ k = 18 ∨ k = 19 ∨ k = 20 ∨ k = 21 ∨ k = 22 ∨ k = 23 ∨ k = 24 ∨ k = 25 ∨ k = 26 ∨ k = 27 ∨ k = 28 ∨ k = 29) with rfl | rfl | rfl | rfl | rfl | rfl | rfl | rfl | rfl | rfl | rfl | rfl | rfl | rfl | rfl | rfl | rfl | rfl | rfl | rfl | rfl | rfl | rfl | rfl | rfl | rfl | rfl | rfl | rfl | rfl <;> kernel_rfl
  exact h k hk
theorem MapIAt_cast {w : World} {b : Nat} {ks ks' : AssocI} (h : MapIAt w b ks) (e : ks = ks') : MapIAt w b ks' := e ▸ h
section
variable {w0 : World}
set_option maxRecDepth 100000 in
set_option maxHeartbeats 4000000 in
theorem heads_any : Calls Tryz.prog 19 #[] w0 fun e w => e = .returned (.map (some w0.heap.size)) ∧ MapIAt w w0.heap.size headsL ∧ Under w0 w := by
  have hmm := @run_makeMap Tryz.prog
  have hM := mapI_new w0
  have hU := under_alloc (Under.refl w0) (.map #[] 0)
  go_enter Tryz.func19, Tryz.ntmps19
  go_wp2_with (refine wpList_insert_mapI rfl _ _ _ rfl Tryz.underlying42 Tryz.underlying3 rfl hM rfl rfl (by kernel_rfl) ?_; intro w1 hM1 hT1; replace hU := hT1.under hU (Nat.le_refl _); replace hM := hM1; clear hM1 hT1)
  go_ret
  exact ⟨rfl, MapIAt_cast hM (by kernel_rfl), hU⟩
end
end Go.Proofs.YtiibknlpeodejaaGreatDoor

/-
  DERIVED: THE SHELF's CONTRACTS AT THIS DUMP, IN PLAIN WORDS (tools/lay-plain.mjs out of 'TryzShelf.lean', which tools/lay-shelf.mjs wrote): THE SAME DECLARATIONS UNDER THE SAME NAMES: 'import', 'namespace', 'open', 'def', 'theorem' AND NOTHING ELSE: no command of the shelf's: FOR A HAND-IN. Each laying: the table of numbers ('.._ren') and one theorem, a field a fact of the dump's own or the kernel's comparison; each contract: ONE APPLICATION.
-/
namespace Go.Proofs
open Go.Shelf
def Tryz.lays169_ren : Go.Shelf.Ren := ⟨fun | 169 => 65 | n => n, fun | 70 => 103 | 9 => 9 | 0 => 0 | 72 => 106 | 37 => 104 | 127 => 126 | 3 => 3 | 5 => 5 | n => n, fun | n => n⟩
theorem Tryz.lays169 : Go.Proofs.Lays.n169 Tryz.prog Tryz.lays169_ren := {
  mixed := by kernel_rfl
  f169 := Tryz.func65.trans (congrArg some (by kernel_rfl))
  t0 := Tryz.underlying0
  a0 := Tryz.isAgg0
  z0 := Tryz.sizeOf0
  v0 := Tryz.zeroValue0
  t3 := Tryz.underlying3
  a3 := Tryz.isAgg3
  z3 := Tryz.sizeOf3
  v3 := Tryz.zeroValue3
  t9 := Tryz.underlying9
  a9 := Tryz.isAgg9
  z9 := Tryz.sizeOf9
  v9 := Tryz.zeroValue9
  t37 := Tryz.underlying104
  a37 := Tryz.isAgg104
  z37 := Tryz.sizeOf104
  v37 := Tryz.zeroValue104
  t70 := Tryz.underlying103
  a70 := Tryz.isAgg103
  z70 := Tryz.sizeOf103
  v70 := Tryz.zeroValue103
  t72 := Tryz.underlying106
  a72 := Tryz.isAgg106
  z72 := Tryz.sizeOf106
  v72 := Tryz.zeroValue106
  t127 := Tryz.underlying126
  a127 := Tryz.isAgg126
  z127 := Tryz.sizeOf126
  v127 := Tryz.zeroValue126 }
theorem Tryz.Builder_Extra_169 : Builder.Extra Tryz.prog Tryz.lays169_ren := {
  sizeBuilder := by kernel_rfl
  liesBuilder := by kernel_rfl
  t5 := Tryz.underlying5
  a5 := Tryz.isAgg5
  z5 := Tryz.sizeOf5
  v5 := Tryz.zeroValue5
  infoByte := by kernel_rfl
  cellsByte := by kernel_rfl
  sizeByte := by kernel_rfl
  neB5 := by decide }
open Go.RowKit in
/-- (*strings.Builder).String: "String returns the accumulated string.": OF A BUILDER THAT HOLDS AT LEAST ONE BYTE. ✋ THE MODEL FREEZES THOSE BYTES IN THE BUFFER (unsafe.String): a later write INTO them ends the model's run without an answer; a later append BEHIND them goes on. The statement's order of evaluation is drawn: one draw. (LAID: no walk: one application.) -/
theorem Tryz.Builder_String (B b : Nat) (l : List UInt8) (w : World) (h : Lib.IsBuilder 106 5 B b (Lib.byteCells l) w) (h0 : l ≠ []) :
    Calls Tryz.prog 65 #[.pointer (some ⟨b, 0, none⟩)] w fun e w' => e = .returned (.string ⟨l.toArray⟩) ∧ Below B w w' := Any.Builder_String Tryz.lays169 Tryz.Builder_Extra_169 B b l w h h0
open Go.RowKit in
/-- (*strings.Builder).String OF A BUILDER THAT HOLDS NO BYTE: the empty string. (Its buffer is nil, or a row of which it has taken nothing yet; where that row has NO capacity the model lays one new block for unsafe.SliceData's 'some address'.) One draw. (LAID: no walk: one application.) -/
theorem Tryz.Builder_String_empty (B b : Nat) (w : World) (h : Lib.IsBuilder 106 5 B b [] w) (hBw : B ≤ w.heap.size) :
    Calls Tryz.prog 65 #[.pointer (some ⟨b, 0, none⟩)] w fun e w' => e = .returned (.string ⟨#[]⟩) ∧ Below B w w' := Any.Builder_String_empty Tryz.lays169 Tryz.Builder_Extra_169 B b w h hBw
open Go.RowKit in
/-- (*strings.Builder).String: "String returns the accumulated string.": WHATEVER THE BUILDER HOLDS. (LAID: no walk: one application.) -/
theorem Tryz.Builder_String_any (B b : Nat) (l : List UInt8) (w : World) (h : Lib.IsBuilder 106 5 B b (Lib.byteCells l) w) (hBw : B ≤ w.heap.size) :
    Calls Tryz.prog 65 #[.pointer (some ⟨b, 0, none⟩)] w fun e w' => e = .returned (.string ⟨l.toArray⟩) ∧ Below B w w' := Any.Builder_String_any Tryz.lays169 Tryz.Builder_Extra_169 B b l w h hBw
def Tryz.lays241_ren : Go.Shelf.Ren := ⟨fun | 241 => 81 | 277 => 101 | n => n, fun | 70 => 103 | 3 => 3 | 0 => 0 | 72 => 106 | 37 => 104 | 5 => 5 | n => n, fun | n => n⟩
theorem Tryz.lays241 : Go.Proofs.Lays.n241 Tryz.prog Tryz.lays241_ren := {
  mixed := by kernel_rfl
  f241 := Tryz.func81.trans (congrArg some (by kernel_rfl))
  f277 := Tryz.func101.trans (congrArg some (by kernel_rfl))
  t0 := Tryz.underlying0
  a0 := Tryz.isAgg0
  z0 := Tryz.sizeOf0
  v0 := Tryz.zeroValue0
  t3 := Tryz.underlying3
  a3 := Tryz.isAgg3
  z3 := Tryz.sizeOf3
  v3 := Tryz.zeroValue3
  t37 := Tryz.underlying104
  a37 := Tryz.isAgg104
  z37 := Tryz.sizeOf104
  v37 := Tryz.zeroValue104
  t70 := Tryz.underlying103
  a70 := Tryz.isAgg103
  z70 := Tryz.sizeOf103
  v70 := Tryz.zeroValue103
  t72 := Tryz.underlying106
  a72 := Tryz.isAgg106
  z72 := Tryz.sizeOf106
  v72 := Tryz.zeroValue106 }
theorem Tryz.Builder_Extra_241 : Builder.Extra Tryz.prog Tryz.lays241_ren := {
  sizeBuilder := by kernel_rfl
  liesBuilder := by kernel_rfl
  t5 := Tryz.underlying5
  a5 := Tryz.isAgg5
  z5 := Tryz.sizeOf5
  v5 := Tryz.zeroValue5
  infoByte := by kernel_rfl
  cellsByte := by kernel_rfl
  sizeByte := by kernel_rfl
  neB5 := by decide }
open Go.RowKit in
/-- (*strings.Builder).grow (no doc but "grow copies the buffer to a new, larger buffer so that there are at least n bytes of capacity beyond len(b.buf)."): AT A BUILDER WITHOUT A BUFFER: a new row of whatever bytes for its buffer, none of them its own yet. Three draws. (LAID: no walk: one application.) -/
theorem Tryz.Builder_grow_fresh (B b n : Nat) (w : World) (hB : B ≤ b) (hbk : w.heap[b]? = some (.cells #[.pointer (some ⟨b, 0, none⟩), .slice none 0 0] 106 (0, 0))) (hBw : B ≤ w.heap.size) (hn : n ≤ 281474976710656) :
    Calls Tryz.prog 81 #[.pointer (some ⟨b, 0, none⟩), .int .i64 n] w fun e w' => e = .returned (.tuple #[]) ∧ (Lib.BuilderAt 106 5 B b (.pointer (some ⟨b, 0, none⟩)) [] w' ∧ Below B w w') := Any.Builder_grow_fresh Tryz.lays241 Tryz.Builder_Extra_241 B b n w hB hbk hBw hn
def Tryz.lays165_ren : Go.Shelf.Ren := ⟨fun | 165 => 63 | 240 => 80 | 241 => 81 | 276 => 100 | 277 => 101 | n => n, fun | 70 => 103 | 3 => 3 | 0 => 0 | 4 => 4 | 9 => 9 | 20 => 20 | 72 => 106 | 37 => 104 | 164 => 146 | 5 => 5 | n => n, fun | n => n⟩
theorem Tryz.lays165 : Go.Proofs.Lays.n165 Tryz.prog Tryz.lays165_ren := {
  mixed := by kernel_rfl
  f165 := Tryz.func63.trans (congrArg some (by kernel_rfl))
  f240 := Tryz.func80.trans (congrArg some (by kernel_rfl))
  f241 := Tryz.func81.trans (congrArg some (by kernel_rfl))
  f276 := Tryz.func100.trans (congrArg some (by kernel_rfl))
  f277 := Tryz.func101.trans (congrArg some (by kernel_rfl))
  t0 := Tryz.underlying0
  a0 := Tryz.isAgg0
  z0 := Tryz.sizeOf0
  v0 := Tryz.zeroValue0
  t3 := Tryz.underlying3
  a3 := Tryz.isAgg3
  z3 := Tryz.sizeOf3
  v3 := Tryz.zeroValue3
  t4 := Tryz.underlying4
  a4 := Tryz.isAgg4
  z4 := Tryz.sizeOf4
  v4 := Tryz.zeroValue4
  t9 := Tryz.underlying9
  a9 := Tryz.isAgg9
  z9 := Tryz.sizeOf9
  v9 := Tryz.zeroValue9
  t20 := Tryz.underlying20
  a20 := Tryz.isAgg20
  z20 := Tryz.sizeOf20
  v20 := Tryz.zeroValue20
  t37 := Tryz.underlying104
  a37 := Tryz.isAgg104
  z37 := Tryz.sizeOf104
  v37 := Tryz.zeroValue104
  t70 := Tryz.underlying103
  a70 := Tryz.isAgg103
  z70 := Tryz.sizeOf103
  v70 := Tryz.zeroValue103
  t72 := Tryz.underlying106
  a72 := Tryz.isAgg106
  z72 := Tryz.sizeOf106
  v72 := Tryz.zeroValue106
  t164 := Tryz.underlying146
  a164 := Tryz.isAgg146
  z164 := Tryz.sizeOf146
  v164 := Tryz.zeroValue146 }
theorem Tryz.Builder_Extra_165 : Builder.Extra Tryz.prog Tryz.lays165_ren := {
  sizeBuilder := by kernel_rfl
  liesBuilder := by kernel_rfl
  t5 := Tryz.underlying5
  a5 := Tryz.isAgg5
  z5 := Tryz.sizeOf5
  v5 := Tryz.zeroValue5
  infoByte := by kernel_rfl
  cellsByte := by kernel_rfl
  sizeByte := by kernel_rfl
  neB5 := by decide }
open Go.RowKit in
/-- (*strings.Builder).Grow AT A BUILDER THAT HAS NOT BEEN WRITTEN ('var b strings.Builder; b.Grow(n)'): "Grow grows b's capacity, if necessary, to guarantee space for another n bytes.": it holds no byte behind it as before it. (LAID: no walk: one application.) -/
theorem Tryz.Builder_Grow_fresh (B b n : Nat) (w : World) (hB : B ≤ b) (hbk : w.heap[b]? = some (.cells #[.pointer none, .slice none 0 0] 106 (0, 0))) (hBw : B ≤ w.heap.size) (hn : n ≤ 281474976710656) :
    Calls Tryz.prog 63 #[.pointer (some ⟨b, 0, none⟩), .int .i64 n] w fun e w' => e = .returned (.tuple #[]) ∧ (Lib.BuilderAt 106 5 B b (.pointer (some ⟨b, 0, none⟩)) [] w' ∧ Below B w w') := Any.Builder_Grow_fresh Tryz.lays165 Tryz.Builder_Extra_165 B b n w hB hbk hBw hn
def Tryz.lays156_ren : Go.Shelf.Ren := ⟨fun | 156 => 40 | 165 => 63 | 166 => 64 | 169 => 65 | 240 => 80 | 241 => 81 | 276 => 100 | 277 => 101 | n => n, fun | 31 => 23 | 9 => 9 | 3 => 3 | 4 => 4 | 0 => 0 | 20 => 20 | 72 => 106 | 76 => 109 | 70 => 103 | 37 => 104 | 75 => 108 | 127 => 126 | 164 => 146 | 5 => 5 | 80 => 111 | n => n, fun | n => n⟩
theorem Tryz.lays156 : Go.Proofs.Lays.n156 Tryz.prog Tryz.lays156_ren := {
  mixed := by kernel_rfl
  f156 := Tryz.func40.trans (congrArg some (by kernel_rfl))
  f165 := Tryz.func63.trans (congrArg some (by kernel_rfl))
  f166 := Tryz.func64.trans (congrArg some (by kernel_rfl))
  f169 := Tryz.func65.trans (congrArg some (by kernel_rfl))
  f240 := Tryz.func80.trans (congrArg some (by kernel_rfl))
  f241 := Tryz.func81.trans (congrArg some (by kernel_rfl))
  f276 := Tryz.func100.trans (congrArg some (by kernel_rfl))
  f277 := Tryz.func101.trans (congrArg some (by kernel_rfl))
  t0 := Tryz.underlying0
  a0 := Tryz.isAgg0
  z0 := Tryz.sizeOf0
  v0 := Tryz.zeroValue0
  t3 := Tryz.underlying3
  a3 := Tryz.isAgg3
  z3 := Tryz.sizeOf3
  v3 := Tryz.zeroValue3
  t4 := Tryz.underlying4
  a4 := Tryz.isAgg4
  z4 := Tryz.sizeOf4
  v4 := Tryz.zeroValue4
  t9 := Tryz.underlying9
  a9 := Tryz.isAgg9
  z9 := Tryz.sizeOf9
  v9 := Tryz.zeroValue9
  t20 := Tryz.underlying20
  a20 := Tryz.isAgg20
  z20 := Tryz.sizeOf20
  v20 := Tryz.zeroValue20
  t31 := Tryz.underlying23
  a31 := Tryz.isAgg23
  z31 := Tryz.sizeOf23
  v31 := Tryz.zeroValue23
  t37 := Tryz.underlying104
  a37 := Tryz.isAgg104
  z37 := Tryz.sizeOf104
  v37 := Tryz.zeroValue104
  t70 := Tryz.underlying103
  a70 := Tryz.isAgg103
  z70 := Tryz.sizeOf103
  v70 := Tryz.zeroValue103
  t72 := Tryz.underlying106
  a72 := Tryz.isAgg106
  z72 := Tryz.sizeOf106
  v72 := Tryz.zeroValue106
  t75 := Tryz.underlying108
  a75 := Tryz.isAgg108
  z75 := Tryz.sizeOf108
  v75 := Tryz.zeroValue108
  t76 := Tryz.underlying109
  a76 := Tryz.isAgg109
  z76 := Tryz.sizeOf109
  v76 := Tryz.zeroValue109
  t127 := Tryz.underlying126
  a127 := Tryz.isAgg126
  z127 := Tryz.sizeOf126
  v127 := Tryz.zeroValue126
  t164 := Tryz.underlying146
  a164 := Tryz.isAgg146
  z164 := Tryz.sizeOf146
  v164 := Tryz.zeroValue146 }
theorem Tryz.Builder_Extra_156 : Builder.Extra Tryz.prog Tryz.lays156_ren := {
  sizeBuilder := by kernel_rfl
  liesBuilder := by kernel_rfl
  t5 := Tryz.underlying5
  a5 := Tryz.isAgg5
  z5 := Tryz.sizeOf5
  v5 := Tryz.zeroValue5
  infoByte := by kernel_rfl
  cellsByte := by kernel_rfl
  sizeByte := by kernel_rfl
  neB5 := by decide }
open Go.RowKit in
/-- No element: the empty string; the world is as it was. (Whatever the slice's address and capacity: a nil slice too.) (LAID: no walk: one application.) -/
theorem Tryz.strings_Join_none (a : Option Addr) (c : Nat) (sep : ByteArray) (w : World) :
    Calls Tryz.prog 40 #[.slice a 0 c, .string sep] w fun e w' => e = .returned (.string ⟨#[]⟩) ∧ w' = w := Any.strings_Join_none Tryz.lays156 Tryz.Builder_Extra_156 a c sep w
open Go.RowKit in
/-- strings.Join: "Join concatenates the elements of its first argument to create a single string. The separator string sep is placed between elements in the resulting string.": HOWEVER MANY ELEMENTS. Below the heap's end the world is as it was. (LAID: no walk: one application.) -/
theorem Tryz.strings_Join (bk o c : Nat) (xs : List ByteArray) (sep : ByteArray) (w : World) (hcells : ∀ (j : Nat) x, xs[j]? = some x → w.cell? ⟨bk, o + j, none⟩ = some (.string x)) (hbk : bk < w.heap.size) (hN : xs.length ≤ 140737488355328) (hcap : xs.length ≤ c) (hlen : (Lib.join (xs.map (·.data.toList)) sep.data.toList).length ≤ 140737488355328) :
    Calls Tryz.prog 40 #[.slice (some ⟨bk, o, none⟩) xs.length c, .string sep] w fun e w' => e = .returned (.string ⟨(Lib.join (xs.map (·.data.toList)) sep.data.toList).toArray⟩) ∧ Below w.heap.size w w' := Any.strings_Join Tryz.lays156 Tryz.Builder_Extra_156 bk o c xs sep w hcells hbk hN hcap hlen
def Tryz.lays128_ren : Go.Shelf.Ren := ⟨fun | 128 => 93 | n => n, fun | 51 => 138 | 3 => 3 | 4 => 4 | 46 => 121 | 5 => 5 | 9 => 9 | n => n, fun | n => n⟩
theorem Tryz.lays128 : Go.Proofs.Lays.n128 Tryz.prog Tryz.lays128_ren := {
  mixed := by kernel_rfl
  f128 := Tryz.func93.trans (congrArg some (by kernel_rfl))
  t3 := Tryz.underlying3
  a3 := Tryz.isAgg3
  z3 := Tryz.sizeOf3
  v3 := Tryz.zeroValue3
  t4 := Tryz.underlying4
  a4 := Tryz.isAgg4
  z4 := Tryz.sizeOf4
  v4 := Tryz.zeroValue4
  t5 := Tryz.underlying5
  a5 := Tryz.isAgg5
  z5 := Tryz.sizeOf5
  v5 := Tryz.zeroValue5
  t9 := Tryz.underlying9
  a9 := Tryz.isAgg9
  z9 := Tryz.sizeOf9
  v9 := Tryz.zeroValue9
  t46 := Tryz.underlying121
  a46 := Tryz.isAgg121
  z46 := Tryz.sizeOf121
  v46 := Tryz.zeroValue121
  t51 := Tryz.underlying138
  a51 := Tryz.isAgg138
  z51 := Tryz.sizeOf138
  v51 := Tryz.zeroValue138 }
/-- bits.Len32: "Len32 returns the minimum number of bits required to represent x; the result is 0 for x == 0.": IT RETURNS 'Lib.bitLen x'; the world is as it was. ('h0', 'h1': x is a uint32.) (LAID: no walk: one application.) -/
theorem Tryz.bits_Len32 (x : Int) (w : World) (h0 : 0 ≤ x) (h1 : x ≤ 4294967295) :
    Calls Tryz.prog 93 #[.int .u32 x] w fun e w' => e = .returned (.int .i64 (Lib.bitLen x.toNat)) ∧ w' = w := Any.bits_Len32 Tryz.lays128 x w h0 h1
def Tryz.lays125_ren : Go.Shelf.Ren := ⟨fun | 125 => 73 | 128 => 93 | 129 => 94 | n => n, fun | 46 => 121 | 3 => 3 | 51 => 138 | 53 => 140 | 4 => 4 | 5 => 5 | 9 => 9 | n => n, fun | n => n⟩
theorem Tryz.lays125 : Go.Proofs.Lays.n125 Tryz.prog Tryz.lays125_ren := {
  mixed := by kernel_rfl
  f125 := Tryz.func73.trans (congrArg some (by kernel_rfl))
  f128 := Tryz.func93.trans (congrArg some (by kernel_rfl))
  f129 := Tryz.func94.trans (congrArg some (by kernel_rfl))
  t3 := Tryz.underlying3
  a3 := Tryz.isAgg3
  z3 := Tryz.sizeOf3
  v3 := Tryz.zeroValue3
  t4 := Tryz.underlying4
  a4 := Tryz.isAgg4
  z4 := Tryz.sizeOf4
  v4 := Tryz.zeroValue4
  t5 := Tryz.underlying5
  a5 := Tryz.isAgg5
  z5 := Tryz.sizeOf5
  v5 := Tryz.zeroValue5
  t9 := Tryz.underlying9
  a9 := Tryz.isAgg9
  z9 := Tryz.sizeOf9
  v9 := Tryz.zeroValue9
  t46 := Tryz.underlying121
  a46 := Tryz.isAgg121
  z46 := Tryz.sizeOf121
  v46 := Tryz.zeroValue121
  t51 := Tryz.underlying138
  a51 := Tryz.isAgg138
  z51 := Tryz.sizeOf138
  v51 := Tryz.zeroValue138
  t53 := Tryz.underlying140
  a53 := Tryz.isAgg140
  z53 := Tryz.sizeOf140
  v53 := Tryz.zeroValue140 }
/-- bits.Len: "Len returns the minimum number of bits required to represent x; the result is 0 for x == 0.": IT RETURNS 'Lib.bitLen x'; the world is as it was. (A uint has 64 bits in the model.) ITS CALLEE bits.Len64 IS MET BY ITS OWN CONTRACT OFF THE SHELF (lay that first). (LAID: no walk: one application.) -/
theorem Tryz.bits_Len (x : Int) (w : World) (h0 : 0 ≤ x) (h1 : x ≤ 18446744073709551615) :
    Calls Tryz.prog 73 #[.int .u64 x] w fun e w' => e = .returned (.int .i64 (Lib.bitLen x.toNat)) ∧ w' = w := Any.bits_Len Tryz.lays125 x w h0 h1
open Go.RowKit in
/-- (*strings.Builder).String: "String returns the accumulated string.": OF A BUILDER THAT HOLDS AT LEAST ONE BYTE. ✋ THE MODEL FREEZES THOSE BYTES IN THE BUFFER (unsafe.String): a later write INTO them ends the model's run without an answer; a later append BEHIND them goes on. The statement's order of evaluation is drawn: one draw. THE FORM '_f': IT SAYS BESIDES THAT THE BUILDER IS A BUILDER STILL ('Lib.IsBuilderF', the same bytes): SO IT CAN BE WRITTEN ON: 'b.WriteString(b.String()[:k])'. (LAID: no walk: one application.) -/
theorem Tryz.Builder_String_f (B b : Nat) (l : List UInt8) (w : World) (h : Lib.IsBuilderF 106 5 B b (Lib.byteCells l) w) (h0 : l ≠ []) :
    Calls Tryz.prog 65 #[.pointer (some ⟨b, 0, none⟩)] w fun e w' => e = .returned (.string ⟨l.toArray⟩) ∧ (Lib.IsBuilderF 106 5 B b (Lib.byteCells l) w' ∧ Below B w w') := Any.Builder_String_f Tryz.lays169 Tryz.Builder_Extra_169 B b l w h h0
open Go.RowKit in
/-- (*strings.Builder).String OF A BUILDER THAT HOLDS NO BYTE: the empty string; THE FORM '_f': a builder still. (LAID: no walk: one application.) -/
theorem Tryz.Builder_String_empty_f (B b : Nat) (w : World) (h : Lib.IsBuilderF 106 5 B b [] w) (hBw : B ≤ w.heap.size) :
    Calls Tryz.prog 65 #[.pointer (some ⟨b, 0, none⟩)] w fun e w' => e = .returned (.string ⟨#[]⟩) ∧ (Lib.IsBuilderF 106 5 B b [] w' ∧ Below B w w') := Any.Builder_String_empty_f Tryz.lays169 Tryz.Builder_Extra_169 B b w h hBw
open Go.RowKit in
/-- (*strings.Builder).String: "String returns the accumulated string.": WHATEVER THE BUILDER HOLDS; THE FORM '_f': OF A BUILDER THAT MAY HAVE BEEN READ BEFORE; AND IT IS A BUILDER STILL, holding the same bytes: it can be written on. (LAID: no walk: one application.) -/
theorem Tryz.Builder_String_any_f (B b : Nat) (l : List UInt8) (w : World) (h : Lib.IsBuilderF 106 5 B b (Lib.byteCells l) w) (hBw : B ≤ w.heap.size) :
    Calls Tryz.prog 65 #[.pointer (some ⟨b, 0, none⟩)] w fun e w' => e = .returned (.string ⟨l.toArray⟩) ∧ (Lib.IsBuilderF 106 5 B b (Lib.byteCells l) w' ∧ Below B w w') := Any.Builder_String_any_f Tryz.lays169 Tryz.Builder_Extra_169 B b l w h hBw
open Go.RowKit in
/-- (*strings.Builder).String: "String returns the accumulated string.": OF A BUILDER THAT HOLDS AT LEAST ONE BYTE. ✋ THE MODEL FREEZES THOSE BYTES IN THE BUFFER (unsafe.String): a later write INTO them ends the model's run without an answer; a later append BEHIND them goes on. The statement's order of evaluation is drawn: one draw. THE FORM '_k': OVER 'Lib.IsBuilderF' (a builder that 'String()' may have read), AND WITH THE FRAME THAT REACHES ABOVE THE BUILDER: 'Lib.OthersKept': every block that is not b and is no row of uint8's stands as it stood: the iterator of a range among them. (LAID: no walk: one application.) -/
theorem Tryz.Builder_String_k (B b : Nat) (l : List UInt8) (w : World) (h : Lib.IsBuilderF 106 5 B b (Lib.byteCells l) w) (h0 : l ≠ []) :
    Calls Tryz.prog 65 #[.pointer (some ⟨b, 0, none⟩)] w fun e w' => e = .returned (.string ⟨l.toArray⟩) ∧ (Lib.IsBuilderF 106 5 B b (Lib.byteCells l) w' ∧ Below B w w' ∧ Lib.OthersKept 5 (some b) w w') := Any.Builder_String_k Tryz.lays169 Tryz.Builder_Extra_169 B b l w h h0
open Go.RowKit in
/-- (*strings.Builder).String OF A BUILDER THAT HOLDS NO BYTE: the empty string; THE FORM '_k': OVER 'Lib.IsBuilderF' (a builder that 'String()' may have read), AND WITH THE FRAME THAT REACHES ABOVE THE BUILDER: 'Lib.OthersKept': every block that is not b and is no row of uint8's stands as it stood: the iterator of a range among them. (LAID: no walk: one application.) -/
theorem Tryz.Builder_String_empty_k (B b : Nat) (w : World) (h : Lib.IsBuilderF 106 5 B b [] w) (hBw : B ≤ w.heap.size) :
    Calls Tryz.prog 65 #[.pointer (some ⟨b, 0, none⟩)] w fun e w' => e = .returned (.string ⟨#[]⟩) ∧ (Lib.IsBuilderF 106 5 B b [] w' ∧ Below B w w' ∧ Lib.OthersKept 5 (some b) w w') := Any.Builder_String_empty_k Tryz.lays169 Tryz.Builder_Extra_169 B b w h hBw
open Go.RowKit in
/-- (*strings.Builder).String: "String returns the accumulated string.": WHATEVER THE BUILDER HOLDS; THE FORM '_k': OVER 'Lib.IsBuilderF' (a builder that 'String()' may have read), AND WITH THE FRAME THAT REACHES ABOVE THE BUILDER: 'Lib.OthersKept': every block that is not b and is no row of uint8's stands as it stood: the iterator of a range among them. (LAID: no walk: one application.) -/
theorem Tryz.Builder_String_any_k (B b : Nat) (l : List UInt8) (w : World) (h : Lib.IsBuilderF 106 5 B b (Lib.byteCells l) w) (hBw : B ≤ w.heap.size) :
    Calls Tryz.prog 65 #[.pointer (some ⟨b, 0, none⟩)] w fun e w' => e = .returned (.string ⟨l.toArray⟩) ∧ (Lib.IsBuilderF 106 5 B b (Lib.byteCells l) w' ∧ Below B w w' ∧ Lib.OthersKept 5 (some b) w w') := Any.Builder_String_any_k Tryz.lays169 Tryz.Builder_Extra_169 B b l w h hBw
open Go.RowKit in
/-- (*strings.Builder).grow (no doc but "grow copies the buffer to a new, larger buffer so that there are at least n bytes of capacity beyond len(b.buf)."): AT A BUILDER WITHOUT A BUFFER: a new row of whatever bytes for its buffer, none of them its own yet. Three draws. (LAID: no walk: one application.) -/
theorem Tryz.Builder_grow_fresh_cap (B b n : Nat) (w : World) (hB : B ≤ b) (hbk : w.heap[b]? = some (.cells #[.pointer (some ⟨b, 0, none⟩), .slice none 0 0] 106 (0, 0))) (hBw : B ≤ w.heap.size) (hn : n ≤ 281474976710656) :
    Calls Tryz.prog 81 #[.pointer (some ⟨b, 0, none⟩), .int .i64 n] w fun e w' => e = .returned (.tuple #[]) ∧ (Lib.BuilderAt 106 5 B b (.pointer (some ⟨b, 0, none⟩)) [] w' ∧ Below B w w') ∧ ∃ p cap, w'.cell? ⟨b, 1, none⟩ = some (.slice p 0 cap) ∧ n ≤ cap := Any.Builder_grow_fresh_cap Tryz.lays241 Tryz.Builder_Extra_241 B b n w hB hbk hBw hn
open Go.RowKit in
/-- (*strings.Builder).Grow AT A BUILDER THAT HAS NOT BEEN WRITTEN ('var b strings.Builder; b.Grow(n)'): "Grow grows b's capacity, if necessary, to guarantee space for another n bytes.": it holds no byte behind it as before it. (LAID: no walk: one application.) -/
theorem Tryz.Builder_Grow_fresh_cap (B b n : Nat) (w : World) (hB : B ≤ b) (hbk : w.heap[b]? = some (.cells #[.pointer none, .slice none 0 0] 106 (0, 0))) (hBw : B ≤ w.heap.size) (hn : n ≤ 281474976710656) :
    Calls Tryz.prog 63 #[.pointer (some ⟨b, 0, none⟩), .int .i64 n] w fun e w' => e = .returned (.tuple #[]) ∧ (Lib.BuilderAt 106 5 B b (.pointer (some ⟨b, 0, none⟩)) [] w' ∧ Below B w w') ∧ ∃ p cap, w'.cell? ⟨b, 1, none⟩ = some (.slice p 0 cap) ∧ n ≤ cap := Any.Builder_Grow_fresh_cap Tryz.lays165 Tryz.Builder_Extra_165 B b n w hB hbk hBw hn
def Tryz.lays129_ren : Go.Shelf.Ren := ⟨fun | 129 => 94 | n => n, fun | 53 => 140 | 3 => 3 | 4 => 4 | 46 => 121 | 5 => 5 | 9 => 9 | n => n, fun | n => n⟩
theorem Tryz.lays129 : Go.Proofs.Lays.n129 Tryz.prog Tryz.lays129_ren := {
  mixed := by kernel_rfl
  f129 := Tryz.func94.trans (congrArg some (by kernel_rfl))
  t3 := Tryz.underlying3
  a3 := Tryz.isAgg3
  z3 := Tryz.sizeOf3
  v3 := Tryz.zeroValue3
  t4 := Tryz.underlying4
  a4 := Tryz.isAgg4
  z4 := Tryz.sizeOf4
  v4 := Tryz.zeroValue4
  t5 := Tryz.underlying5
  a5 := Tryz.isAgg5
  z5 := Tryz.sizeOf5
  v5 := Tryz.zeroValue5
  t9 := Tryz.underlying9
  a9 := Tryz.isAgg9
  z9 := Tryz.sizeOf9
  v9 := Tryz.zeroValue9
  t46 := Tryz.underlying121
  a46 := Tryz.isAgg121
  z46 := Tryz.sizeOf121
  v46 := Tryz.zeroValue121
  t53 := Tryz.underlying140
  a53 := Tryz.isAgg140
  z53 := Tryz.sizeOf140
  v53 := Tryz.zeroValue140 }
/-- bits.Len64: "Len64 returns the minimum number of bits required to represent x; the result is 0 for x == 0.": IT RETURNS 'Lib.bitLen x'; the world is as it was. ('h0', 'h1': x is a uint64.) (LAID: no walk: one application.) -/
theorem Tryz.bits_Len64 (x : Int) (w : World) (h0 : 0 ≤ x) (h1 : x ≤ 18446744073709551615) :
    Calls Tryz.prog 94 #[.int .u64 x] w fun e w' => e = .returned (.int .i64 (Lib.bitLen x.toNat)) ∧ w' = w := Any.bits_Len64 Tryz.lays129 x w h0 h1
def Tryz.lays317_ren : Go.Shelf.Ren := ⟨fun | 317 => 108 | n => n, fun | 3 => 3 | 46 => 121 | n => n, fun | n => n⟩
theorem Tryz.lays317 : Go.Proofs.Lays.n317 Tryz.prog Tryz.lays317_ren := {
  mixed := by kernel_rfl
  f317 := Tryz.func108.trans (congrArg some (by kernel_rfl))
  t3 := Tryz.underlying3
  a3 := Tryz.isAgg3
  z3 := Tryz.sizeOf3
  v3 := Tryz.zeroValue3
  t46 := Tryz.underlying121
  a46 := Tryz.isAgg121
  z46 := Tryz.sizeOf121
  v46 := Tryz.zeroValue121 }
open Go.Lib in
/-- internal/strconv.log10Pow2: "log10Pow2(x) returns ⌊log₁₀ 2**x⌋ = ⌊x * log₁₀ 2⌋.": '(x * 78913) >> 18', at an x up to 64 (a length in bits). The world is as it was. (LAID: no walk: one application.) -/
theorem Tryz.internal_strconv_log10Pow2 (x : Nat) (h : x ≤ 64) (w : World) :
    Calls Tryz.prog 108 #[.int .i64 x] w fun e w' => e = .returned (.int .i64 (Lib.l10 x)) ∧ w' = w := Any.internal_strconv_log10Pow2 Tryz.lays317 x h w
def Tryz.lays318_ren : Go.Shelf.Ren := ⟨fun | 318 => 109 | n => n, fun | 3 => 3 | 4 => 4 | n => n, fun | n => n⟩
theorem Tryz.lays318 : Go.Proofs.Lays.n318 Tryz.prog Tryz.lays318_ren := {
  mixed := by kernel_rfl
  f318 := Tryz.func109.trans (congrArg some (by kernel_rfl))
  t3 := Tryz.underlying3
  a3 := Tryz.isAgg3
  z3 := Tryz.sizeOf3
  v3 := Tryz.zeroValue3
  t4 := Tryz.underlying4
  a4 := Tryz.isAgg4
  z4 := Tryz.sizeOf4
  v4 := Tryz.zeroValue4 }
open Go.Lib in
/-- internal/strconv.bool2: "bool2 converts b to an integer: 1 for true, 0 for false." The world is as it was. (LAID: no walk: one application.) -/
theorem Tryz.internal_strconv_bool2_int (b : Bool) (w : World) :
    Calls Tryz.prog 109 #[.bool b] w fun e w' => e = .returned (.int .i64 (if b then 1 else 0)) ∧ w' = w := Any.internal_strconv_bool2_int Tryz.lays318 b w
def Tryz.lays283_ren : Go.Shelf.Ren := ⟨fun | 283 => 95 | n => n, fun | 3 => 3 | 9 => 9 | 4 => 4 | n => n, fun | n => n⟩
theorem Tryz.lays283 : Go.Proofs.Lays.n283 Tryz.prog Tryz.lays283_ren := {
  mixed := by kernel_rfl
  f283 := Tryz.func95.trans (congrArg some (by kernel_rfl))
  t3 := Tryz.underlying3
  a3 := Tryz.isAgg3
  z3 := Tryz.sizeOf3
  v3 := Tryz.zeroValue3
  t4 := Tryz.underlying4
  a4 := Tryz.isAgg4
  z4 := Tryz.sizeOf4
  v4 := Tryz.zeroValue4
  t9 := Tryz.underlying9
  a9 := Tryz.isAgg9
  z9 := Tryz.sizeOf9
  v9 := Tryz.zeroValue9 }
open Go.Lib in
/-- internal/strconv.small: "small returns the string for an i with 0 <= i < nSmalls.": i's decimal numeral. The world is as it was. (LAID: no walk: one application.) -/
theorem Tryz.internal_strconv_small (i : Nat) (h : i < 100) (w : World) :
    Calls Tryz.prog 95 #[.int .i64 i] w fun e w' => e = .returned (.string ⟨(Lib.decDigits i).toArray⟩) ∧ w' = w := Any.internal_strconv_small Tryz.lays283 i h w
def Tryz.laysM284_ren : Go.Shelf.Ren := ⟨fun | 284 => 96 | 129 => 94 | 317 => 108 | 318 => 109 | n => n, fun | 53 => 140 | 3 => 3 | 212 => 156 | 0 => 0 | 4 => 4 | 46 => 121 | 5 => 5 | 9 => 9 | n => n, fun | 17 => 1 | n => n⟩
theorem Tryz.laysM284 : Go.Proofs.LaysM.n284 Tryz.prog Tryz.laysM284_ren := {
  mixed := by kernel_rfl
  f129 := Tryz.func94.trans (congrArg some (by kernel_rfl))
  f284 := Tryz.func96.trans (congrArg some (by kernel_rfl))
  f317 := Tryz.func108.trans (congrArg some (by kernel_rfl))
  f318 := Tryz.func109.trans (congrArg some (by kernel_rfl))
  t0 := Tryz.underlying0
  a0 := Tryz.isAgg0
  z0 := Tryz.sizeOf0
  v0 := Tryz.zeroValue0
  t3 := Tryz.underlying3
  a3 := Tryz.isAgg3
  z3 := Tryz.sizeOf3
  v3 := Tryz.zeroValue3
  t4 := Tryz.underlying4
  a4 := Tryz.isAgg4
  z4 := Tryz.sizeOf4
  v4 := Tryz.zeroValue4
  t5 := Tryz.underlying5
  a5 := Tryz.isAgg5
  z5 := Tryz.sizeOf5
  v5 := Tryz.zeroValue5
  t9 := Tryz.underlying9
  a9 := Tryz.isAgg9
  z9 := Tryz.sizeOf9
  v9 := Tryz.zeroValue9
  t46 := Tryz.underlying121
  a46 := Tryz.isAgg121
  z46 := Tryz.sizeOf121
  v46 := Tryz.zeroValue121
  t53 := Tryz.underlying140
  a53 := Tryz.isAgg140
  z53 := Tryz.sizeOf140
  v53 := Tryz.zeroValue140
  t212 := Tryz.underlying156
  a212 := Tryz.isAgg156
  z212 := Tryz.sizeOf156
  v212 := Tryz.zeroValue156
  g17 := by kernel_rfl
  i0 := by kernel_rfl
  i3 := by kernel_rfl
  i4 := by kernel_rfl
  i5 := by kernel_rfl
  i9 := by kernel_rfl
  i46 := by kernel_rfl
  i53 := by kernel_rfl
  i212 := by kernel_rfl
  m17 := by kernel_rfl }
open Go.Lib in
/-- internal/strconv.numDigits, at a d that is not 0: THE NUMBER OF d's DECIMAL DIGITS. The world is as it was. (LAID: no walk: one application.) -/
theorem Tryz.internal_strconv_numDigits (u : Nat) (h1 : 1 ≤ u) (h2 : u < 18446744073709551616) (w : World) (htab : Lib.TabIs Tryz.prog w "internal/strconv.uint64pow10" .u64 Lib.pow10Tab) :
    Calls Tryz.prog 96 #[.int .u64 u] w fun e w' => e = .returned (.int .i64 (Lib.nDigits u)) ∧ w' = w := Any.internal_strconv_numDigits Tryz.laysM284 u h1 h2 w htab
def Tryz.lays285_ren : Go.Shelf.Ren := ⟨fun | 285 => 97 | n => n, fun | 37 => 104 | 53 => 140 | 3 => 3 | 4 => 4 | 51 => 138 | 9 => 9 | 5 => 5 | 0 => 0 | n => n, fun | n => n⟩
theorem Tryz.lays285 : Go.Proofs.Lays.n285 Tryz.prog Tryz.lays285_ren := {
  mixed := by kernel_rfl
  f285 := Tryz.func97.trans (congrArg some (by kernel_rfl))
  t0 := Tryz.underlying0
  a0 := Tryz.isAgg0
  z0 := Tryz.sizeOf0
  v0 := Tryz.zeroValue0
  t3 := Tryz.underlying3
  a3 := Tryz.isAgg3
  z3 := Tryz.sizeOf3
  v3 := Tryz.zeroValue3
  t4 := Tryz.underlying4
  a4 := Tryz.isAgg4
  z4 := Tryz.sizeOf4
  v4 := Tryz.zeroValue4
  t5 := Tryz.underlying5
  a5 := Tryz.isAgg5
  z5 := Tryz.sizeOf5
  v5 := Tryz.zeroValue5
  t9 := Tryz.underlying9
  a9 := Tryz.isAgg9
  z9 := Tryz.sizeOf9
  v9 := Tryz.zeroValue9
  t37 := Tryz.underlying104
  a37 := Tryz.isAgg104
  z37 := Tryz.sizeOf104
  v37 := Tryz.zeroValue104
  t51 := Tryz.underlying138
  a51 := Tryz.isAgg138
  z51 := Tryz.sizeOf138
  v51 := Tryz.zeroValue138
  t53 := Tryz.underlying140
  a53 := Tryz.isAgg140
  z53 := Tryz.sizeOf140
  v53 := Tryz.zeroValue140 }
open Go.RowKit Go.Sort Go.Lib in
/-- internal/strconv.formatBase10: "formatBase10 formats the decimal representation of u into a. The caller is responsible for ensuring that a is big enough to hold u. If a is too big, leading zeros will be filled in as needed.": THE ROW HOLDS u's DIGITS ('FmtInv .. 0 ..': every place t holds 'dg u (len - 1 - t)'); all else is as it was but for the count of draws. (LAID: no walk: one application.) -/
theorem Tryz.internal_strconv_formatBase10 (blk off cap : Nat) (u : Nat) (d : Array UInt8) (w : World) (hH : Holds (fun (b : UInt8) => Value.int .u8 (b.toNat : Int)) w blk off d) (hu : u < 10 ^ d.size) (hu64 : u < 18446744073709551616) (hsz : d.size < 4611686018427387904) :
    Calls Tryz.prog 97 #[.slice (some ⟨blk, off, none⟩) d.size cap, .int .u64 u] w fun e w' =>
      e = .returned (.tuple #[]) ∧ ∃ (n v' : Nat) (dk : Array UInt8), w' = (putRow (fun (b : UInt8) => Value.int .u8 (b.toNat : Int)) w blk off dk).drewN n ∧ FmtInv d.size u 0 v' dk := Any.internal_strconv_formatBase10 Tryz.lays285 blk off cap u d w hH hu hu64 hsz
def Tryz.laysM246_ren : Go.Shelf.Ren := ⟨fun | 246 => 74 | 283 => 95 | 284 => 96 | 285 => 97 | 286 => 98 | 129 => 94 | 317 => 108 | 318 => 109 | 319 => 110 | 320 => 111 | 337 => 115 | 338 => 116 | n => n, fun | 2 => 2 | 3 => 3 | 9 => 9 | 4 => 4 | 171 => 141 | 0 => 0 | 53 => 140 | 37 => 104 | 5 => 5 | 173 => 143 | 212 => 156 | 51 => 138 | 20 => 20 | 213 => 157 | 46 => 121 | 232 => 162 | 233 => 163 | n => n, fun | 17 => 1 | 18 => 3 | 19 => 4 | n => n⟩
theorem Tryz.laysM246 : Go.Proofs.LaysM.n246 Tryz.prog Tryz.laysM246_ren := {
  mixed := by kernel_rfl
  f129 := Tryz.func94.trans (congrArg some (by kernel_rfl))
  f246 := Tryz.func74.trans (congrArg some (by kernel_rfl))
  f283 := Tryz.func95.trans (congrArg some (by kernel_rfl))
  f284 := Tryz.func96.trans (congrArg some (by kernel_rfl))
  f285 := Tryz.func97.trans (congrArg some (by kernel_rfl))
  f286 := Tryz.func98.trans (congrArg some (by kernel_rfl))
  f317 := Tryz.func108.trans (congrArg some (by kernel_rfl))
  f318 := Tryz.func109.trans (congrArg some (by kernel_rfl))
  f319 := Tryz.func110.trans (congrArg some (by kernel_rfl))
  f320 := Tryz.func111.trans (congrArg some (by kernel_rfl))
  f337 := Tryz.func115.trans (congrArg some (by kernel_rfl))
  f338 := Tryz.func116.trans (congrArg some (by kernel_rfl))
  t0 := Tryz.underlying0
  a0 := Tryz.isAgg0
  z0 := Tryz.sizeOf0
  v0 := Tryz.zeroValue0
  t2 := Tryz.underlying2
  a2 := Tryz.isAgg2
  z2 := Tryz.sizeOf2
  v2 := Tryz.zeroValue2
  t3 := Tryz.underlying3
  a3 := Tryz.isAgg3
  z3 := Tryz.sizeOf3
  v3 := Tryz.zeroValue3
  t4 := Tryz.underlying4
  a4 := Tryz.isAgg4
  z4 := Tryz.sizeOf4
  v4 := Tryz.zeroValue4
  t5 := Tryz.underlying5
  a5 := Tryz.isAgg5
  z5 := Tryz.sizeOf5
  v5 := Tryz.zeroValue5
  t9 := Tryz.underlying9
  a9 := Tryz.isAgg9
  z9 := Tryz.sizeOf9
  v9 := Tryz.zeroValue9
  t20 := Tryz.underlying20
  a20 := Tryz.isAgg20
  z20 := Tryz.sizeOf20
  v20 := Tryz.zeroValue20
  t37 := Tryz.underlying104
  a37 := Tryz.isAgg104
  z37 := Tryz.sizeOf104
  v37 := Tryz.zeroValue104
  t46 := Tryz.underlying121
  a46 := Tryz.isAgg121
  z46 := Tryz.sizeOf121
  v46 := Tryz.zeroValue121
  t51 := Tryz.underlying138
  a51 := Tryz.isAgg138
  z51 := Tryz.sizeOf138
  v51 := Tryz.zeroValue138
  t53 := Tryz.underlying140
  a53 := Tryz.isAgg140
  z53 := Tryz.sizeOf140
  v53 := Tryz.zeroValue140
  t171 := Tryz.underlying141
  a171 := Tryz.isAgg141
  z171 := Tryz.sizeOf141
  v171 := Tryz.zeroValue141
  t173 := Tryz.underlying143
  a173 := Tryz.isAgg143
  z173 := Tryz.sizeOf143
  v173 := Tryz.zeroValue143
  t212 := Tryz.underlying156
  a212 := Tryz.isAgg156
  z212 := Tryz.sizeOf156
  v212 := Tryz.zeroValue156
  t213 := Tryz.underlying157
  a213 := Tryz.isAgg157
  z213 := Tryz.sizeOf157
  t232 := Tryz.underlying162
  a232 := Tryz.isAgg162
  z232 := Tryz.sizeOf162
  v232 := Tryz.zeroValue162
  t233 := Tryz.underlying163
  a233 := Tryz.isAgg163
  z233 := Tryz.sizeOf163
  v233 := Tryz.zeroValue163
  g17 := by kernel_rfl
  g18 := by kernel_rfl
  g19 := by kernel_rfl
  i0 := by kernel_rfl
  i2 := by kernel_rfl
  i3 := by kernel_rfl
  i4 := by kernel_rfl
  i5 := by kernel_rfl
  i9 := by kernel_rfl
  i20 := by kernel_rfl
  i37 := by kernel_rfl
  i46 := by kernel_rfl
  i51 := by kernel_rfl
  i53 := by kernel_rfl
  i171 := by kernel_rfl
  i173 := by kernel_rfl
  i212 := by kernel_rfl
  i232 := by kernel_rfl
  i233 := by kernel_rfl
  m17 := by kernel_rfl
  m18 := by kernel_rfl
  m19 := by kernel_rfl }
open Go.RowKit Go.Sort Go.Lib in
/-- internal/strconv.FormatInt: "FormatInt returns the string representation of i in the given base": AT BASE 10: i's decimal numeral, for every int64. The world behind the call: the world before it, new blocks behind the heap, draws. (LAID: no walk: one application.) -/
theorem Tryz.internal_strconv_FormatInt_10 (n : Int) (h0 : -9223372036854775808 ≤ n) (h1 : n ≤ 9223372036854775807) (w : World) (htab : Lib.TabIs Tryz.prog w "internal/strconv.uint64pow10" .u64 Lib.pow10Tab) :
    Calls Tryz.prog 74 #[.int .i64 n, .int .i64 10] w fun e w' => e = .returned (.string ⟨(Lib.itoa n).toArray⟩) ∧ ∃ k os, w' = grow (w.drewN k) os := Any.internal_strconv_FormatInt_10 Tryz.laysM246 n h0 h1 w htab
def Tryz.lays246_ren : Go.Shelf.Ren := ⟨fun | 246 => 74 | 283 => 95 | 284 => 96 | 285 => 97 | 286 => 98 | 129 => 94 | 317 => 108 | 318 => 109 | 319 => 110 | 320 => 111 | 337 => 115 | 338 => 116 | n => n, fun | 2 => 2 | 3 => 3 | 9 => 9 | 4 => 4 | 171 => 141 | 0 => 0 | 53 => 140 | 37 => 104 | 5 => 5 | 173 => 143 | 212 => 156 | 51 => 138 | 20 => 20 | 213 => 157 | 46 => 121 | 232 => 162 | 233 => 163 | n => n, fun | 17 => 1 | 18 => 3 | 19 => 4 | n => n⟩
theorem Tryz.lays246 : Go.Proofs.Lays.n246 Tryz.prog Tryz.lays246_ren := {
  mixed := by kernel_rfl
  f129 := Tryz.func94.trans (congrArg some (by kernel_rfl))
  f246 := Tryz.func74.trans (congrArg some (by kernel_rfl))
  f283 := Tryz.func95.trans (congrArg some (by kernel_rfl))
  f284 := Tryz.func96.trans (congrArg some (by kernel_rfl))
  f285 := Tryz.func97.trans (congrArg some (by kernel_rfl))
  f286 := Tryz.func98.trans (congrArg some (by kernel_rfl))
  f317 := Tryz.func108.trans (congrArg some (by kernel_rfl))
  f318 := Tryz.func109.trans (congrArg some (by kernel_rfl))
  f319 := Tryz.func110.trans (congrArg some (by kernel_rfl))
  f320 := Tryz.func111.trans (congrArg some (by kernel_rfl))
  f337 := Tryz.func115.trans (congrArg some (by kernel_rfl))
  f338 := Tryz.func116.trans (congrArg some (by kernel_rfl))
  t0 := Tryz.underlying0
  a0 := Tryz.isAgg0
  z0 := Tryz.sizeOf0
  v0 := Tryz.zeroValue0
  t2 := Tryz.underlying2
  a2 := Tryz.isAgg2
  z2 := Tryz.sizeOf2
  v2 := Tryz.zeroValue2
  t3 := Tryz.underlying3
  a3 := Tryz.isAgg3
  z3 := Tryz.sizeOf3
  v3 := Tryz.zeroValue3
  t4 := Tryz.underlying4
  a4 := Tryz.isAgg4
  z4 := Tryz.sizeOf4
  v4 := Tryz.zeroValue4
  t5 := Tryz.underlying5
  a5 := Tryz.isAgg5
  z5 := Tryz.sizeOf5
  v5 := Tryz.zeroValue5
  t9 := Tryz.underlying9
  a9 := Tryz.isAgg9
  z9 := Tryz.sizeOf9
  v9 := Tryz.zeroValue9
  t20 := Tryz.underlying20
  a20 := Tryz.isAgg20
  z20 := Tryz.sizeOf20
  v20 := Tryz.zeroValue20
  t37 := Tryz.underlying104
  a37 := Tryz.isAgg104
  z37 := Tryz.sizeOf104
  v37 := Tryz.zeroValue104
  t46 := Tryz.underlying121
  a46 := Tryz.isAgg121
  z46 := Tryz.sizeOf121
  v46 := Tryz.zeroValue121
  t51 := Tryz.underlying138
  a51 := Tryz.isAgg138
  z51 := Tryz.sizeOf138
  v51 := Tryz.zeroValue138
  t53 := Tryz.underlying140
  a53 := Tryz.isAgg140
  z53 := Tryz.sizeOf140
  v53 := Tryz.zeroValue140
  t171 := Tryz.underlying141
  a171 := Tryz.isAgg141
  z171 := Tryz.sizeOf141
  v171 := Tryz.zeroValue141
  t173 := Tryz.underlying143
  a173 := Tryz.isAgg143
  z173 := Tryz.sizeOf143
  v173 := Tryz.zeroValue143
  t212 := Tryz.underlying156
  a212 := Tryz.isAgg156
  z212 := Tryz.sizeOf156
  v212 := Tryz.zeroValue156
  t213 := Tryz.underlying157
  a213 := Tryz.isAgg157
  z213 := Tryz.sizeOf157
  t232 := Tryz.underlying162
  a232 := Tryz.isAgg162
  z232 := Tryz.sizeOf162
  v232 := Tryz.zeroValue162
  t233 := Tryz.underlying163
  a233 := Tryz.isAgg163
  z233 := Tryz.sizeOf163
  v233 := Tryz.zeroValue163
  g17 := by kernel_rfl
  g18 := by kernel_rfl
  g19 := by kernel_rfl }
open Go.RowKit Go.Sort Go.Lib in
/-- THE ROAD WITHOUT THE TABLE: 0 <= i < 100: two constants are read, nothing is laid: no premise on the world, and the world is as it was. (LAID: no walk: one application.) -/
theorem Tryz.internal_strconv_FormatInt_10_small (i : Nat) (hi : i < 100) (w : World) :
    Calls Tryz.prog 74 #[.int .i64 i, .int .i64 10] w fun e w' => e = .returned (.string ⟨(Lib.decDigits i).toArray⟩) ∧ w' = w := Any.internal_strconv_FormatInt_10_small Tryz.lays246 i hi w
def Tryz.laysM243_ren : Go.Shelf.Ren := ⟨fun | 243 => 54 | 246 => 74 | 283 => 95 | 284 => 96 | 285 => 97 | 286 => 98 | 129 => 94 | 317 => 108 | 318 => 109 | 319 => 110 | 320 => 111 | 337 => 115 | 338 => 116 | n => n, fun | 3 => 3 | 9 => 9 | 2 => 2 | 4 => 4 | 171 => 141 | 0 => 0 | 53 => 140 | 37 => 104 | 5 => 5 | 173 => 143 | 212 => 156 | 51 => 138 | 20 => 20 | 213 => 157 | 46 => 121 | 232 => 162 | 233 => 163 | n => n, fun | 17 => 1 | 18 => 3 | 19 => 4 | n => n⟩
theorem Tryz.laysM243 : Go.Proofs.LaysM.n243 Tryz.prog Tryz.laysM243_ren := {
  mixed := by kernel_rfl
  f129 := Tryz.func94.trans (congrArg some (by kernel_rfl))
  f243 := Tryz.func54.trans (congrArg some (by kernel_rfl))
  f246 := Tryz.func74.trans (congrArg some (by kernel_rfl))
  f283 := Tryz.func95.trans (congrArg some (by kernel_rfl))
  f284 := Tryz.func96.trans (congrArg some (by kernel_rfl))
  f285 := Tryz.func97.trans (congrArg some (by kernel_rfl))
  f286 := Tryz.func98.trans (congrArg some (by kernel_rfl))
  f317 := Tryz.func108.trans (congrArg some (by kernel_rfl))
  f318 := Tryz.func109.trans (congrArg some (by kernel_rfl))
  f319 := Tryz.func110.trans (congrArg some (by kernel_rfl))
  f320 := Tryz.func111.trans (congrArg some (by kernel_rfl))
  f337 := Tryz.func115.trans (congrArg some (by kernel_rfl))
  f338 := Tryz.func116.trans (congrArg some (by kernel_rfl))
  t0 := Tryz.underlying0
  a0 := Tryz.isAgg0
  z0 := Tryz.sizeOf0
  v0 := Tryz.zeroValue0
  t2 := Tryz.underlying2
  a2 := Tryz.isAgg2
  z2 := Tryz.sizeOf2
  v2 := Tryz.zeroValue2
  t3 := Tryz.underlying3
  a3 := Tryz.isAgg3
  z3 := Tryz.sizeOf3
  v3 := Tryz.zeroValue3
  t4 := Tryz.underlying4
  a4 := Tryz.isAgg4
  z4 := Tryz.sizeOf4
  v4 := Tryz.zeroValue4
  t5 := Tryz.underlying5
  a5 := Tryz.isAgg5
  z5 := Tryz.sizeOf5
  v5 := Tryz.zeroValue5
  t9 := Tryz.underlying9
  a9 := Tryz.isAgg9
  z9 := Tryz.sizeOf9
  v9 := Tryz.zeroValue9
  t20 := Tryz.underlying20
  a20 := Tryz.isAgg20
  z20 := Tryz.sizeOf20
  v20 := Tryz.zeroValue20
  t37 := Tryz.underlying104
  a37 := Tryz.isAgg104
  z37 := Tryz.sizeOf104
  v37 := Tryz.zeroValue104
  t46 := Tryz.underlying121
  a46 := Tryz.isAgg121
  z46 := Tryz.sizeOf121
  v46 := Tryz.zeroValue121
  t51 := Tryz.underlying138
  a51 := Tryz.isAgg138
  z51 := Tryz.sizeOf138
  v51 := Tryz.zeroValue138
  t53 := Tryz.underlying140
  a53 := Tryz.isAgg140
  z53 := Tryz.sizeOf140
  v53 := Tryz.zeroValue140
  t171 := Tryz.underlying141
  a171 := Tryz.isAgg141
  z171 := Tryz.sizeOf141
  v171 := Tryz.zeroValue141
  t173 := Tryz.underlying143
  a173 := Tryz.isAgg143
  z173 := Tryz.sizeOf143
  v173 := Tryz.zeroValue143
  t212 := Tryz.underlying156
  a212 := Tryz.isAgg156
  z212 := Tryz.sizeOf156
  v212 := Tryz.zeroValue156
  t213 := Tryz.underlying157
  a213 := Tryz.isAgg157
  z213 := Tryz.sizeOf157
  t232 := Tryz.underlying162
  a232 := Tryz.isAgg162
  z232 := Tryz.sizeOf162
  v232 := Tryz.zeroValue162
  t233 := Tryz.underlying163
  a233 := Tryz.isAgg163
  z233 := Tryz.sizeOf163
  v233 := Tryz.zeroValue163
  g17 := by kernel_rfl
  g18 := by kernel_rfl
  g19 := by kernel_rfl
  i0 := by kernel_rfl
  i2 := by kernel_rfl
  i3 := by kernel_rfl
  i4 := by kernel_rfl
  i5 := by kernel_rfl
  i9 := by kernel_rfl
  i20 := by kernel_rfl
  i37 := by kernel_rfl
  i46 := by kernel_rfl
  i51 := by kernel_rfl
  i53 := by kernel_rfl
  i171 := by kernel_rfl
  i173 := by kernel_rfl
  i212 := by kernel_rfl
  i232 := by kernel_rfl
  i233 := by kernel_rfl
  m17 := by kernel_rfl
  m18 := by kernel_rfl
  m19 := by kernel_rfl }
open Go.RowKit Go.Sort Go.Lib in
/-- internal/strconv.Itoa: "Itoa is equivalent to FormatInt(int64(i), 10).": i's decimal numeral, for every int. (LAID: no walk: one application.) -/
theorem Tryz.internal_strconv_Itoa (n : Int) (h0 : -9223372036854775808 ≤ n) (h1 : n ≤ 9223372036854775807) (w : World) (htab : Lib.TabIs Tryz.prog w "internal/strconv.uint64pow10" .u64 Lib.pow10Tab) :
    Calls Tryz.prog 54 #[.int .i64 n] w fun e w' => e = .returned (.string ⟨(Lib.itoa n).toArray⟩) ∧ ∃ k os, w' = grow (w.drewN k) os := Any.internal_strconv_Itoa Tryz.laysM243 n h0 h1 w htab
def Tryz.lays243_ren : Go.Shelf.Ren := ⟨fun | 243 => 54 | 246 => 74 | 283 => 95 | 284 => 96 | 285 => 97 | 286 => 98 | 129 => 94 | 317 => 108 | 318 => 109 | 319 => 110 | 320 => 111 | 337 => 115 | 338 => 116 | n => n, fun | 3 => 3 | 9 => 9 | 2 => 2 | 4 => 4 | 171 => 141 | 0 => 0 | 53 => 140 | 37 => 104 | 5 => 5 | 173 => 143 | 212 => 156 | 51 => 138 | 20 => 20 | 213 => 157 | 46 => 121 | 232 => 162 | 233 => 163 | n => n, fun | 17 => 1 | 18 => 3 | 19 => 4 | n => n⟩
theorem Tryz.lays243 : Go.Proofs.Lays.n243 Tryz.prog Tryz.lays243_ren := {
  mixed := by kernel_rfl
  f129 := Tryz.func94.trans (congrArg some (by kernel_rfl))
  f243 := Tryz.func54.trans (congrArg some (by kernel_rfl))
  f246 := Tryz.func74.trans (congrArg some (by kernel_rfl))
  f283 := Tryz.func95.trans (congrArg some (by kernel_rfl))
  f284 := Tryz.func96.trans (congrArg some (by kernel_rfl))
  f285 := Tryz.func97.trans (congrArg some (by kernel_rfl))
  f286 := Tryz.func98.trans (congrArg some (by kernel_rfl))
  f317 := Tryz.func108.trans (congrArg some (by kernel_rfl))
  f318 := Tryz.func109.trans (congrArg some (by kernel_rfl))
  f319 := Tryz.func110.trans (congrArg some (by kernel_rfl))
  f320 := Tryz.func111.trans (congrArg some (by kernel_rfl))
  f337 := Tryz.func115.trans (congrArg some (by kernel_rfl))
  f338 := Tryz.func116.trans (congrArg some (by kernel_rfl))
  t0 := Tryz.underlying0
  a0 := Tryz.isAgg0
  z0 := Tryz.sizeOf0
  v0 := Tryz.zeroValue0
  t2 := Tryz.underlying2
  a2 := Tryz.isAgg2
  z2 := Tryz.sizeOf2
  v2 := Tryz.zeroValue2
  t3 := Tryz.underlying3
  a3 := Tryz.isAgg3
  z3 := Tryz.sizeOf3
  v3 := Tryz.zeroValue3
  t4 := Tryz.underlying4
  a4 := Tryz.isAgg4
  z4 := Tryz.sizeOf4
  v4 := Tryz.zeroValue4
  t5 := Tryz.underlying5
  a5 := Tryz.isAgg5
  z5 := Tryz.sizeOf5
  v5 := Tryz.zeroValue5
  t9 := Tryz.underlying9
  a9 := Tryz.isAgg9
  z9 := Tryz.sizeOf9
  v9 := Tryz.zeroValue9
  t20 := Tryz.underlying20
  a20 := Tryz.isAgg20
  z20 := Tryz.sizeOf20
  v20 := Tryz.zeroValue20
  t37 := Tryz.underlying104
  a37 := Tryz.isAgg104
  z37 := Tryz.sizeOf104
  v37 := Tryz.zeroValue104
  t46 := Tryz.underlying121
  a46 := Tryz.isAgg121
  z46 := Tryz.sizeOf121
  v46 := Tryz.zeroValue121
  t51 := Tryz.underlying138
  a51 := Tryz.isAgg138
  z51 := Tryz.sizeOf138
  v51 := Tryz.zeroValue138
  t53 := Tryz.underlying140
  a53 := Tryz.isAgg140
  z53 := Tryz.sizeOf140
  v53 := Tryz.zeroValue140
  t171 := Tryz.underlying141
  a171 := Tryz.isAgg141
  z171 := Tryz.sizeOf141
  v171 := Tryz.zeroValue141
  t173 := Tryz.underlying143
  a173 := Tryz.isAgg143
  z173 := Tryz.sizeOf143
  v173 := Tryz.zeroValue143
  t212 := Tryz.underlying156
  a212 := Tryz.isAgg156
  z212 := Tryz.sizeOf156
  v212 := Tryz.zeroValue156
  t213 := Tryz.underlying157
  a213 := Tryz.isAgg157
  z213 := Tryz.sizeOf157
  t232 := Tryz.underlying162
  a232 := Tryz.isAgg162
  z232 := Tryz.sizeOf162
  v232 := Tryz.zeroValue162
  t233 := Tryz.underlying163
  a233 := Tryz.isAgg163
  z233 := Tryz.sizeOf163
  v233 := Tryz.zeroValue163
  g17 := by kernel_rfl
  g18 := by kernel_rfl
  g19 := by kernel_rfl }
open Go.RowKit Go.Sort Go.Lib in
/-- THE ROAD WITHOUT THE TABLE: 0 <= i < 100. (LAID: no walk: one application.) -/
theorem Tryz.internal_strconv_Itoa_small (i : Nat) (hi : i < 100) (w : World) :
    Calls Tryz.prog 54 #[.int .i64 i] w fun e w' => e = .returned (.string ⟨(Lib.decDigits i).toArray⟩) ∧ w' = w := Any.internal_strconv_Itoa_small Tryz.lays243 i hi w
def Tryz.laysM171_ren : Go.Shelf.Ren := ⟨fun | 171 => 29 | 243 => 54 | 246 => 74 | 283 => 95 | 284 => 96 | 285 => 97 | 286 => 98 | 129 => 94 | 317 => 108 | 318 => 109 | 319 => 110 | 320 => 111 | 337 => 115 | 338 => 116 | n => n, fun | 3 => 3 | 9 => 9 | 2 => 2 | 4 => 4 | 171 => 141 | 0 => 0 | 53 => 140 | 37 => 104 | 5 => 5 | 173 => 143 | 212 => 156 | 51 => 138 | 20 => 20 | 213 => 157 | 46 => 121 | 232 => 162 | 233 => 163 | n => n, fun | 17 => 1 | 18 => 3 | 19 => 4 | n => n⟩
theorem Tryz.laysM171 : Go.Proofs.LaysM.n171 Tryz.prog Tryz.laysM171_ren := {
  mixed := by kernel_rfl
  f129 := Tryz.func94.trans (congrArg some (by kernel_rfl))
  f171 := Tryz.func29.trans (congrArg some (by kernel_rfl))
  f243 := Tryz.func54.trans (congrArg some (by kernel_rfl))
  f246 := Tryz.func74.trans (congrArg some (by kernel_rfl))
  f283 := Tryz.func95.trans (congrArg some (by kernel_rfl))
  f284 := Tryz.func96.trans (congrArg some (by kernel_rfl))
  f285 := Tryz.func97.trans (congrArg some (by kernel_rfl))
  f286 := Tryz.func98.trans (congrArg some (by kernel_rfl))
  f317 := Tryz.func108.trans (congrArg some (by kernel_rfl))
  f318 := Tryz.func109.trans (congrArg some (by kernel_rfl))
  f319 := Tryz.func110.trans (congrArg some (by kernel_rfl))
  f320 := Tryz.func111.trans (congrArg some (by kernel_rfl))
  f337 := Tryz.func115.trans (congrArg some (by kernel_rfl))
  f338 := Tryz.func116.trans (congrArg some (by kernel_rfl))
  t0 := Tryz.underlying0
  a0 := Tryz.isAgg0
  z0 := Tryz.sizeOf0
  v0 := Tryz.zeroValue0
  t2 := Tryz.underlying2
  a2 := Tryz.isAgg2
  z2 := Tryz.sizeOf2
  v2 := Tryz.zeroValue2
  t3 := Tryz.underlying3
  a3 := Tryz.isAgg3
  z3 := Tryz.sizeOf3
  v3 := Tryz.zeroValue3
  t4 := Tryz.underlying4
  a4 := Tryz.isAgg4
  z4 := Tryz.sizeOf4
  v4 := Tryz.zeroValue4
  t5 := Tryz.underlying5
  a5 := Tryz.isAgg5
  z5 := Tryz.sizeOf5
  v5 := Tryz.zeroValue5
  t9 := Tryz.underlying9
  a9 := Tryz.isAgg9
  z9 := Tryz.sizeOf9
  v9 := Tryz.zeroValue9
  t20 := Tryz.underlying20
  a20 := Tryz.isAgg20
  z20 := Tryz.sizeOf20
  v20 := Tryz.zeroValue20
  t37 := Tryz.underlying104
  a37 := Tryz.isAgg104
  z37 := Tryz.sizeOf104
  v37 := Tryz.zeroValue104
  t46 := Tryz.underlying121
  a46 := Tryz.isAgg121
  z46 := Tryz.sizeOf121
  v46 := Tryz.zeroValue121
  t51 := Tryz.underlying138
  a51 := Tryz.isAgg138
  z51 := Tryz.sizeOf138
  v51 := Tryz.zeroValue138
  t53 := Tryz.underlying140
  a53 := Tryz.isAgg140
  z53 := Tryz.sizeOf140
  v53 := Tryz.zeroValue140
  t171 := Tryz.underlying141
  a171 := Tryz.isAgg141
  z171 := Tryz.sizeOf141
  v171 := Tryz.zeroValue141
  t173 := Tryz.underlying143
  a173 := Tryz.isAgg143
  z173 := Tryz.sizeOf143
  v173 := Tryz.zeroValue143
  t212 := Tryz.underlying156
  a212 := Tryz.isAgg156
  z212 := Tryz.sizeOf156
  v212 := Tryz.zeroValue156
  t213 := Tryz.underlying157
  a213 := Tryz.isAgg157
  z213 := Tryz.sizeOf157
  t232 := Tryz.underlying162
  a232 := Tryz.isAgg162
  z232 := Tryz.sizeOf162
  v232 := Tryz.zeroValue162
  t233 := Tryz.underlying163
  a233 := Tryz.isAgg163
  z233 := Tryz.sizeOf163
  v233 := Tryz.zeroValue163
  g17 := by kernel_rfl
  g18 := by kernel_rfl
  g19 := by kernel_rfl
  i0 := by kernel_rfl
  i2 := by kernel_rfl
  i3 := by kernel_rfl
  i4 := by kernel_rfl
  i5 := by kernel_rfl
  i9 := by kernel_rfl
  i20 := by kernel_rfl
  i37 := by kernel_rfl
  i46 := by kernel_rfl
  i51 := by kernel_rfl
  i53 := by kernel_rfl
  i171 := by kernel_rfl
  i173 := by kernel_rfl
  i212 := by kernel_rfl
  i232 := by kernel_rfl
  i233 := by kernel_rfl
  m17 := by kernel_rfl
  m18 := by kernel_rfl
  m19 := by kernel_rfl }
open Go.RowKit Go.Sort Go.Lib in
/-- strconv.Itoa: "Itoa is equivalent to FormatInt(int64(i), 10).": i's DECIMAL NUMERAL ('Lib.itoa': a '-' where i is negative, then the digits), FOR EVERY int. The world behind the call: the world before it, new blocks behind the heap (the library's 'var a [24]byte'), draws. (LAID: no walk: one application.) -/
theorem Tryz.strconv_Itoa (n : Int) (h0 : -9223372036854775808 ≤ n) (h1 : n ≤ 9223372036854775807) (w : World) (htab : Lib.TabIs Tryz.prog w "internal/strconv.uint64pow10" .u64 Lib.pow10Tab) :
    Calls Tryz.prog 29 #[.int .i64 n] w fun e w' => e = .returned (.string ⟨(Lib.itoa n).toArray⟩) ∧ ∃ k os, w' = grow (w.drewN k) os := Any.strconv_Itoa Tryz.laysM171 n h0 h1 w htab
def Tryz.lays171_ren : Go.Shelf.Ren := ⟨fun | 171 => 29 | 243 => 54 | 246 => 74 | 283 => 95 | 284 => 96 | 285 => 97 | 286 => 98 | 129 => 94 | 317 => 108 | 318 => 109 | 319 => 110 | 320 => 111 | 337 => 115 | 338 => 116 | n => n, fun | 3 => 3 | 9 => 9 | 2 => 2 | 4 => 4 | 171 => 141 | 0 => 0 | 53 => 140 | 37 => 104 | 5 => 5 | 173 => 143 | 212 => 156 | 51 => 138 | 20 => 20 | 213 => 157 | 46 => 121 | 232 => 162 | 233 => 163 | n => n, fun | 17 => 1 | 18 => 3 | 19 => 4 | n => n⟩
theorem Tryz.lays171 : Go.Proofs.Lays.n171 Tryz.prog Tryz.lays171_ren := {
  mixed := by kernel_rfl
  f129 := Tryz.func94.trans (congrArg some (by kernel_rfl))
  f171 := Tryz.func29.trans (congrArg some (by kernel_rfl))
  f243 := Tryz.func54.trans (congrArg some (by kernel_rfl))
  f246 := Tryz.func74.trans (congrArg some (by kernel_rfl))
  f283 := Tryz.func95.trans (congrArg some (by kernel_rfl))
  f284 := Tryz.func96.trans (congrArg some (by kernel_rfl))
  f285 := Tryz.func97.trans (congrArg some (by kernel_rfl))
  f286 := Tryz.func98.trans (congrArg some (by kernel_rfl))
  f317 := Tryz.func108.trans (congrArg some (by kernel_rfl))
  f318 := Tryz.func109.trans (congrArg some (by kernel_rfl))
  f319 := Tryz.func110.trans (congrArg some (by kernel_rfl))
  f320 := Tryz.func111.trans (congrArg some (by kernel_rfl))
  f337 := Tryz.func115.trans (congrArg some (by kernel_rfl))
  f338 := Tryz.func116.trans (congrArg some (by kernel_rfl))
  t0 := Tryz.underlying0
  a0 := Tryz.isAgg0
  z0 := Tryz.sizeOf0
  v0 := Tryz.zeroValue0
  t2 := Tryz.underlying2
  a2 := Tryz.isAgg2
  z2 := Tryz.sizeOf2
  v2 := Tryz.zeroValue2
  t3 := Tryz.underlying3
  a3 := Tryz.isAgg3
  z3 := Tryz.sizeOf3
  v3 := Tryz.zeroValue3
  t4 := Tryz.underlying4
  a4 := Tryz.isAgg4
  z4 := Tryz.sizeOf4
  v4 := Tryz.zeroValue4
  t5 := Tryz.underlying5
  a5 := Tryz.isAgg5
  z5 := Tryz.sizeOf5
  v5 := Tryz.zeroValue5
  t9 := Tryz.underlying9
  a9 := Tryz.isAgg9
  z9 := Tryz.sizeOf9
  v9 := Tryz.zeroValue9
  t20 := Tryz.underlying20
  a20 := Tryz.isAgg20
  z20 := Tryz.sizeOf20
  v20 := Tryz.zeroValue20
  t37 := Tryz.underlying104
  a37 := Tryz.isAgg104
  z37 := Tryz.sizeOf104
  v37 := Tryz.zeroValue104
  t46 := Tryz.underlying121
  a46 := Tryz.isAgg121
  z46 := Tryz.sizeOf121
  v46 := Tryz.zeroValue121
  t51 := Tryz.underlying138
  a51 := Tryz.isAgg138
  z51 := Tryz.sizeOf138
  v51 := Tryz.zeroValue138
  t53 := Tryz.underlying140
  a53 := Tryz.isAgg140
  z53 := Tryz.sizeOf140
  v53 := Tryz.zeroValue140
  t171 := Tryz.underlying141
  a171 := Tryz.isAgg141
  z171 := Tryz.sizeOf141
  v171 := Tryz.zeroValue141
  t173 := Tryz.underlying143
  a173 := Tryz.isAgg143
  z173 := Tryz.sizeOf143
  v173 := Tryz.zeroValue143
  t212 := Tryz.underlying156
  a212 := Tryz.isAgg156
  z212 := Tryz.sizeOf156
  v212 := Tryz.zeroValue156
  t213 := Tryz.underlying157
  a213 := Tryz.isAgg157
  z213 := Tryz.sizeOf157
  t232 := Tryz.underlying162
  a232 := Tryz.isAgg162
  z232 := Tryz.sizeOf162
  v232 := Tryz.zeroValue162
  t233 := Tryz.underlying163
  a233 := Tryz.isAgg163
  z233 := Tryz.sizeOf163
  v233 := Tryz.zeroValue163
  g17 := by kernel_rfl
  g18 := by kernel_rfl
  g19 := by kernel_rfl }
open Go.RowKit Go.Sort Go.Lib in
/-- THE ROAD WITHOUT THE TABLE: 0 <= i < 100: NO PREMISE ON THE WORLD, AND THE WORLD IS AS IT WAS: a row that keeps its argument in that range need list no table ('laid = []'). (LAID: no walk: one application.) -/
theorem Tryz.strconv_Itoa_small (i : Nat) (hi : i < 100) (w : World) :
    Calls Tryz.prog 29 #[.int .i64 i] w fun e w' => e = .returned (.string ⟨(Lib.decDigits i).toArray⟩) ∧ w' = w := Any.strconv_Itoa_small Tryz.lays171 i hi w
def Tryz.lays190_ren : Go.Shelf.Ren := ⟨fun | 190 => 49 | 125 => 73 | 258 => 72 | 128 => 93 | 129 => 94 | 302 => 84 | 303 => 85 | 304 => 86 | 305 => 87 | 306 => 88 | 307 => 89 | 308 => 90 | 309 => 91 | 310 => 92 | 333 => 102 | 329 => 103 | 330 => 104 | 334 => 105 | 335 => 106 | 336 => 107 | 344 => 114 | n => n, fun | 31 => 23 | 9 => 9 | 3 => 3 | 46 => 121 | 0 => 0 | 51 => 138 | 53 => 140 | 4 => 4 | 183 => 130 | 182 => 129 | 131 => 135 | 5 => 5 | 218 => 149 | 222 => 153 | 228 => 159 | 229 => 72 | n => n, fun | n => n⟩
theorem Tryz.lays190 : Go.Proofs.Lays.n190 Tryz.prog Tryz.lays190_ren := {
  mixed := by kernel_rfl
  f125 := Tryz.func73.trans (congrArg some (by kernel_rfl))
  f128 := Tryz.func93.trans (congrArg some (by kernel_rfl))
  f129 := Tryz.func94.trans (congrArg some (by kernel_rfl))
  f190 := Tryz.func49.trans (congrArg some (by kernel_rfl))
  f258 := Tryz.func72.trans (congrArg some (by kernel_rfl))
  f302 := Tryz.func84.trans (congrArg some (by kernel_rfl))
  f303 := Tryz.func85.trans (congrArg some (by kernel_rfl))
  f304 := Tryz.func86.trans (congrArg some (by kernel_rfl))
  f305 := Tryz.func87.trans (congrArg some (by kernel_rfl))
  f306 := Tryz.func88.trans (congrArg some (by kernel_rfl))
  f307 := Tryz.func89.trans (congrArg some (by kernel_rfl))
  f308 := Tryz.func90.trans (congrArg some (by kernel_rfl))
  f309 := Tryz.func91.trans (congrArg some (by kernel_rfl))
  f310 := Tryz.func92.trans (congrArg some (by kernel_rfl))
  f329 := Tryz.func103.trans (congrArg some (by kernel_rfl))
  f330 := Tryz.func104.trans (congrArg some (by kernel_rfl))
  f333 := Tryz.func102.trans (congrArg some (by kernel_rfl))
  f334 := Tryz.func105.trans (congrArg some (by kernel_rfl))
  f335 := Tryz.func106.trans (congrArg some (by kernel_rfl))
  f336 := Tryz.func107.trans (congrArg some (by kernel_rfl))
  f344 := Tryz.func114.trans (congrArg some (by kernel_rfl))
  t0 := Tryz.underlying0
  a0 := Tryz.isAgg0
  z0 := Tryz.sizeOf0
  v0 := Tryz.zeroValue0
  t3 := Tryz.underlying3
  a3 := Tryz.isAgg3
  z3 := Tryz.sizeOf3
  v3 := Tryz.zeroValue3
  t4 := Tryz.underlying4
  a4 := Tryz.isAgg4
  z4 := Tryz.sizeOf4
  v4 := Tryz.zeroValue4
  t5 := Tryz.underlying5
  a5 := Tryz.isAgg5
  z5 := Tryz.sizeOf5
  v5 := Tryz.zeroValue5
  t9 := Tryz.underlying9
  a9 := Tryz.isAgg9
  z9 := Tryz.sizeOf9
  v9 := Tryz.zeroValue9
  t31 := Tryz.underlying23
  a31 := Tryz.isAgg23
  z31 := Tryz.sizeOf23
  v31 := Tryz.zeroValue23
  t46 := Tryz.underlying121
  a46 := Tryz.isAgg121
  z46 := Tryz.sizeOf121
  v46 := Tryz.zeroValue121
  t51 := Tryz.underlying138
  a51 := Tryz.isAgg138
  z51 := Tryz.sizeOf138
  v51 := Tryz.zeroValue138
  t53 := Tryz.underlying140
  a53 := Tryz.isAgg140
  z53 := Tryz.sizeOf140
  v53 := Tryz.zeroValue140
  t131 := Tryz.underlying135
  a131 := Tryz.isAgg135
  z131 := Tryz.sizeOf135
  v131 := Tryz.zeroValue135
  t182 := Tryz.underlying129
  a182 := Tryz.isAgg129
  z182 := Tryz.sizeOf129
  v182 := Tryz.zeroValue129
  t183 := Tryz.underlying130
  a183 := Tryz.isAgg130
  z183 := Tryz.sizeOf130
  v183 := Tryz.zeroValue130
  t218 := Tryz.underlying149
  a218 := Tryz.isAgg149
  z218 := Tryz.sizeOf149
  v218 := Tryz.zeroValue149
  t222 := Tryz.underlying153
  a222 := Tryz.isAgg153
  z222 := Tryz.sizeOf153
  v222 := Tryz.zeroValue153
  t228 := Tryz.underlying159
  a228 := Tryz.isAgg159
  z228 := Tryz.sizeOf159
  v228 := Tryz.zeroValue159
  t229 := Tryz.underlying72
  a229 := Tryz.isAgg72
  z229 := Tryz.sizeOf72
  v229 := Tryz.zeroValue72 }
open Go.Sort Go.RowKit in
theorem Tryz.slices_Sort_string (blk off cap : Nat) (ss : List (List UInt8)) (w : World) (hH : Holds encStr w blk off ss.toArray) (hblk : blk < w.heap.size) (hsz : ss.length < 4611686018427387904) :
    Calls Tryz.prog 49 #[.slice (some ⟨blk, off, none⟩) ss.length cap] w fun e w' =>
      e = .returned (.tuple #[]) ∧ ∃ n os, w' = grow (putRow encStr (Sort.ahead w n) blk off (ss.mergeSort fun x y => decide (x ≤ y)).toArray) os := Any.slices_Sort_string Tryz.lays190 blk off cap ss w hH hblk hsz
def Tryz.laysNm215_ren : Go.Shelf.Ren := ⟨fun | 15 => 59 | n => n, fun | 22 => 63 | 3 => 3 | 4 => 4 | n => n, fun | n => n⟩
theorem Tryz.laysNm215 : Go.Proofs.Lays2.n15 Tryz.prog Tryz.laysNm215_ren := {
  mixed := by kernel_rfl
  f15 := Tryz.func59.trans (congrArg some (by kernel_rfl))
  t3 := Tryz.underlying3
  a3 := Tryz.isAgg3
  z3 := Tryz.sizeOf3
  v3 := Tryz.zeroValue3
  t4 := Tryz.underlying4
  a4 := Tryz.isAgg4
  z4 := Tryz.sizeOf4
  v4 := Tryz.zeroValue4
  t22 := Tryz.underlying63
  a22 := Tryz.isAgg63
  z22 := Tryz.sizeOf63
  v22 := Tryz.zeroValue63
  i3 := by kernel_rfl }
open Go.RowKit Go.Lib in
/-- slices.Clone at []int: "Clone returns a copy of the slice. The elements are copied using assignment, so this is a shallow clone. The result may have additional unused capacity. The result preserves the nilness of s.": OF A SLICE THAT IS NOT nil IT RETURNS A SLICE THAT IS NOT nil, OF THE SAME ELEMENTS, IN MEMORY OF THE CALL's OWN: in the how-to's words (6f): 'w'.ownsRow B e 1 v' n cells': v' begins at the head of a row among the blocks from B on (B: the heap's size at the call), not frozen, whose first cells are the elements · 'Below B w w'': below B all is as it was. The capacity is whatever the run-time gives. 'zs': what the cells behind the slice's address hold; 'zs.take n': its elements. (LAID: no walk: one application.) -/
theorem Tryz.slices_Clone_int (b off n c : Nat) (zs : List Int) (w : World) (hz : n ≤ zs.length) (hbig : n * 8 ≤ 140737488355328) (hc : ∀ j, j < zs.length → w.cell? ⟨b, off + j, none⟩ = some (.int .i64 (zs.getD j 0))) :
    Calls Tryz.prog 59 #[.slice (some ⟨b, off, none⟩) n c] w fun e w' => ∃ v', e = .returned v' ∧ w'.ownsRow w.heap.size 3 1 v' n ((zs.take n).map (Value.int .i64)) ∧ v' ≠ .slice none 0 0 ∧ Below w.heap.size w w' := Any.slices_Clone_int Tryz.laysNm215 b off n c zs w hz hbig hc
open Go.RowKit Go.Lib in
/-- The same at nil: nil comes back; the world is as it was. (LAID: no walk: one application.) -/
theorem Tryz.slices_Clone_int_nil (n c : Nat) (w : World) :
    Calls Tryz.prog 59 #[.slice none n c] w fun e w' => e = .returned (.slice none 0 0) ∧ w' = w := Any.slices_Clone_int_nil Tryz.laysNm215 n c w
open Go.RowKit Go.Lib in
/-- The same at a slice of length 0 that is not nil, WHATEVER ITS ADDRESS (no cell is asked for): a slice that is not nil and owns nothing comes back. (LAID: no walk: one application.) -/
theorem Tryz.slices_Clone_int_zero (a : Addr) (c : Nat) (w : World) :
    Calls Tryz.prog 59 #[.slice (some a) 0 c] w fun e w' => ∃ v', e = .returned v' ∧ w'.ownsRow w.heap.size 3 1 v' 0 [] ∧ v' ≠ .slice none 0 0 ∧ Below w.heap.size w w' := Any.slices_Clone_int_zero Tryz.laysNm215 a c w
open Go.RowKit Go.Sort in
/-- .. and plain. (LAID: no walk: one application.) -/
theorem Tryz.slices_Sort_string_none (p : Option Addr) (cap : Nat) (w : World) :
    Calls Tryz.prog 49 #[.slice p 0 cap] w fun e w' => e = .returned (.tuple #[]) ∧ w' = w := Any.slices_Sort_string_none Tryz.lays190 p cap w
def Tryz.laysSlE041_f59_ren : Go.Shelf.Ren := ⟨fun | 41 => 59 | n => n, fun | 22 => 63 | 23 => 3 | 4 => 4 | n => n, fun | n => n⟩
theorem Tryz.laysSlE041_f59 : Go.Proofs.SlLaysE0.n41 Tryz.prog Tryz.laysSlE041_f59_ren := {
  mixed := by kernel_rfl
  f41 := ⟨Tryz.f59.name, by decide, Tryz.func59.trans (congrArg some (by kernel_rfl))⟩
  t4 := Tryz.underlying4
  a4 := Tryz.isAgg4
  z4 := Tryz.sizeOf4
  v4 := Tryz.zeroValue4
  t22 := Tryz.underlying63
  a22 := Tryz.isAgg63
  z22 := Tryz.sizeOf63
  v22 := Tryz.zeroValue63 }
open Go.RowKit Go.Lib in
/-- slices.Clone: "Clone returns a copy of the slice. The elements are copied using assignment, so this is a shallow clone. The result may have additional unused capacity. The result preserves the nilness of s.": OF A SLICE THAT IS NOT nil IT RETURNS A SLICE THAT IS NOT nil, OF THE SAME CELLS, IN MEMORY OF THE CALL's OWN ('ownsRow': the how-to's 6f); below the heap's size at the call all is as it was. (LAID AT THE INSTANCE 'slices.Clone[[]int,int]': no walk: one application.) -/
theorem Tryz.slices_Clone (i0 : TypeInfo) (z : Value) (size bytes : Nat) (hi : Tryz.prog.info? 3 = some i0) (hz0 : i0.zero = some z) (hz1 : i0.size = size) (hz2 : i0.bytes = bytes) (hzs : z.cells.size = size) (hsz : 0 < size) (z23 : ∀ w, (Go.sizeOf 3).run Tryz.prog w = .ok size w) (b off n c : Nat) (news : List Value) (w : World) (hl : news.length = n * size) (hn : n ≤ maxLen) (hbig : n * bytes ≤ 140737488355328) (hc : ∀ j u, news[j]? = some u → w.cell? ⟨b, off + j, none⟩ = some u) (h1 : ∀ u ∈ news, u.oneCell' = true) :
    Calls Tryz.prog 59 #[.slice (some ⟨b, off, none⟩) n c] w fun e w' => ∃ v', e = .returned v' ∧ w'.ownsRow w.heap.size 3 size v' n news ∧ v' ≠ .slice none 0 0 ∧ Below w.heap.size w w' := AnyE.slices_Clone Tryz.laysSlE041_f59 i0 z size bytes hi hz0 hz1 hz2 hzs hsz z23 b off n c news w hl hn hbig hc h1
open Go.RowKit Go.Lib in
/-- The same at nil: nil comes back; the world is as it was; nothing is asked of the element's type. (LAID AT THE INSTANCE 'slices.Clone[[]int,int]': no walk: one application.) -/
theorem Tryz.slices_Clone_nil (n c : Nat) (w : World) :
    Calls Tryz.prog 59 #[.slice none n c] w fun e w' => e = .returned (.slice none 0 0) ∧ w' = w := AnyE.slices_Clone_nil Tryz.laysSlE041_f59 n c w
end Go.Proofs

/- pretty.Name: its contract. -/
namespace Go.Proofs.YtiibknlpeodejaaGreatDoor
open Go.Lx Go.RowKit

/-- The table of powers, as it lies in the variable. -/
abbrev Pow10 (w : World) : Prop := Lib.TabIs Tryz.prog w "internal/strconv.uint64pow10" .u64 Lib.pow10Tab
theorem under_growD {w : World} (k : Nat) (os : Array Obj) : Under w (Go.Sort.grow (w.drewN k) os) :=
  ⟨rfl, rfl, by simp [Go.Sort.grow], fun b hb => by
    show (w.heap ++ os)[b]? = _
    rw [Array.getElem?_append_left hb]⟩
theorem gPow : Tryz.prog.globalNamed "internal/strconv.uint64pow10" = some 1 := by kernel_rfl
theorem Pow10.under {W w : World} (h : Pow10 W) (hU : Under W w) : Pow10 w := by
  unfold Pow10 Lib.TabIs World.var? at *
  rw [gPow] at *
  simp only [Option.bind_some] at *
  have hlt : 1 < W.heap.size := by
    cases hb : W.heap[1]? with
    | none => simp [hb] at h
    | some o => exact (Array.getElem?_eq_some_iff.1 hb).1
  rw [hU.low _ hlt]
  exact h
/-- A name of the printer's own. -/
def nameZ (k : Int) : ByteArray := ⟨#[120]⟩ ++ ⟨(Lib.itoa (max k 0)).toArray⟩
section
variable {w0 : World}
set_option maxRecDepth 100000 in
theorem pname_any (k : Int) (h0 : -9223372036854775808 ≤ k) (h1 : k ≤ 9223372036854775807) (hT : Pow10 w0) : Calls Tryz.prog 13 #[.int .i64 k] w0 fun e w => e = .returned (.string (nameZ k)) ∧ Under w0 w := by
  have HN : RowKit.Hid (nameZ k = ⟨#[120]⟩ ++ ⟨(Lib.itoa (max k 0)).toArray⟩) := Lib.hid rfl
  by_cases hk : 0 ≤ k
  · have hm : max k 0 = k := by omega
    rw [hm] at HN
    have HI := Lib.hid (Tryz.strconv_Itoa k h0 h1 w0 hT)
    generalize nameZ k = nz at *
    have hL : ¬ 9223372036854775807 < 1 + (Lib.itoa k).toArray.size := by have := Lib.itoa_length_le k h0 h1; simp; omega
    generalize (Lib.itoa k).toArray = L at *
    clear hT
    go_enter Tryz.func13, Tryz.ntmps13
    go_wp2_with fail
    refine HI.out.mono ?_
    rintro e w1 ⟨rfl, kk, os, rfl⟩
    have HU := Lib.hid (under_growD (w := w0) kk os)
    go_wp2
    go_ret
    exact ⟨by rw [HN.out]; rfl, HU.out⟩
  · have hm : max k 0 = 0 := by omega
    rw [hm] at HN
    have HI := Lib.hid (Tryz.strconv_Itoa 0 (by omega) (by omega) w0 hT)
    generalize nameZ k = nz at *
    have hL : ¬ 9223372036854775807 < 1 + (Lib.itoa 0).toArray.size := by have := Lib.itoa_length_le 0 (by omega) (by omega); simp; omega
    generalize (Lib.itoa 0).toArray = L at *
    clear hT
    go_enter Tryz.func13, Tryz.ntmps13
    go_wp2_with fail
    refine HI.out.mono ?_
    rintro e w1 ⟨rfl, kk, os, rfl⟩
    have HU := Lib.hid (under_growD (w := w0) kk os)
    go_wp2
    go_ret
    exact ⟨by rw [HN.out]; rfl, HU.out⟩
end
end Go.Proofs.YtiibknlpeodejaaGreatDoor

/- corniceref09.Digits, Name: their contracts. -/
namespace Go.Proofs.YtiibknlpeodejaaGreatDoor
open Go.Lx Go.RowKit

theorem dig_one (n : Nat) (h : n < 10) : (ByteArray.mk #[48, 49, 50, 51, 52, 53, 54, 55, 56, 57]).extract n (n + 1) = ⟨#[UInt8.ofNat (48 + n)]⟩ := by
  revert h; revert n; decide +kernel
theorem app_mk (a : Array UInt8) (b : ByteArray) : (ByteArray.mk a ++ b) = ⟨a ++ b.data⟩ := ByteArray.ext (by simp)
section
set_option maxRecDepth 100000 in
set_option maxHeartbeats 1000000 in
theorem digits_any : ∀ (N n : Nat), n ≤ N → n ≤ 9223372036854775807 → ∀ w0 : World, Calls Tryz.prog 30 #[.int .i64 (n : Int)] w0 fun e w => e = .returned (.string ⟨(Lib.decDigits n).toArray⟩) ∧ ∃ m, w = w0.drewN m := by
  intro N
  induction N with
  | zero =>
    intro n hn hb w0
    obtain rfl : n = 0 := by omega
    go_enter Tryz.func30, Tryz.ntmps30
    go_wp2
    go_ret
    exact ⟨by rw [Lib.decDigits, dif_pos (by decide)]; rfl, 0, rfl⟩
  | succ N ih =>
    intro n hn hb w0
    by_cases h10 : n < 10
    · clear ih
      rcases (by omega : n = 0 ∨ n = 1 ∨ n = 2 ∨ n = 3 ∨ n = 4 ∨ n = 5 ∨ n = 6 ∨ n = 7 ∨ n = 8 ∨ n = 9) with rfl | rfl | rfl | rfl | rfl | rfl | rfl | rfl | rfl | rfl
      all_goals
        go_enter Tryz.func30, Tryz.ntmps30
        go_wp2
        go_ret
        exact ⟨by rw [Lib.decDigits, dif_pos (by decide)]; rfl, 0, rfl⟩
    · have hn0 : (0 : Int) ≤ n := Int.natCast_nonneg _
      have hn10 : ¬ (n : Int) < 10 := by omega
      have hb' : (n : Int) ≤ 9223372036854775807 := by omega
      have HO : RowKit.Hid ((Lib.decDigits n).toArray = (Lib.decDigits (n / 10)).toArray ++ #[UInt8.ofNat (48 + n % 10)]) := Lib.hid (by rw [Lib.decDigits, dif_neg h10]; simp)
      have HI := Lib.hid (fun (w : World) (k : Nat) => (ih (n / 10) (by omega) (by omega) (w.drewN k)).mono (R' := fun e w'' => e = .returned (.string ⟨(Lib.decDigits (n / 10)).toArray⟩) ∧ ∃ m, w'' = w.drewN m) fun _ _ ⟨he, m, hm⟩ => ⟨he, k + m, by rw [hm, World.drewN_drewN]⟩)
      have hq : ((n / 10 : Nat) : Int) = (n : Int) / 10 := by omega
      rw [hq] at HI
      have hL : ¬ 9223372036854775807 < (Lib.decDigits (n / 10)).toArray.size + 1 := by
        have h := Lib.itoa_length_le ((n / 10 : Nat) : Int) (by omega) (by omega)
        have e : Lib.itoa ((n / 10 : Nat) : Int) = Lib.decDigits (n / 10) := by unfold Lib.itoa; rw [if_neg (by omega)]; exact congrArg Lib.decDigits (by omega)
        rw [e] at h
        simp
        omega
      have hm : (n : Int).tmod 10 = ((n % 10 : Nat) : Int) := by rw [Int.tmod_eq_emod_of_nonneg hn0]; omega
      generalize (Lib.decDigits (n / 10)).toArray = L at *
      generalize hz : (n : Int) / 10 = z at *
      have hz0 : 0 ≤ z := by omega
      have hz1 : z ≤ 9223372036854775807 := by omega
      have hw : IntKind.i64.wrap z = z := by rw [IntKind.wrap_i64]; omega
      clear ih hq
      rcases (by omega : n % 10 = 0 ∨ n % 10 = 1 ∨ n % 10 = 2 ∨ n % 10 = 3 ∨ n % 10 = 4 ∨ n % 10 = 5 ∨ n % 10 = 6 ∨ n % 10 = 7 ∨ n % 10 = 8 ∨ n % 10 = 9) with hd | hd | hd | hd | hd | hd | hd | hd | hd | hd
      all_goals
        rw [hd] at HO hm
        clear hd
        go_enter Tryz.func30, Tryz.ntmps30
        go_wp2_with fail
        go_quiet (first | (go_at_call 30; exact HI.out _ _))
        go_wp2
        go_ret
        refine ⟨?_, nq, rfl⟩
        rw [HO.out]
        show Ending.returned (.string (_ ++ _)) = _
        rw [app_mk]
        exact congrArg (fun x => Ending.returned (.string ⟨L ++ x⟩)) (by decide +kernel)
theorem itoa_nat (n : Nat) : Lib.itoa (n : Int) = Lib.decDigits n := by
  unfold Lib.itoa; rw [if_neg (by omega)]; exact congrArg Lib.decDigits (by omega)
theorem decDigits_len (n : Nat) (h : n ≤ 9223372036854775807) : (Lib.decDigits n).length ≤ 21 := by
  have h := Lib.itoa_length_le (n : Int) (by omega) (by omega)
  rwa [itoa_nat] at h
set_option maxRecDepth 100000 in
theorem rfname_any {w0 : World} (k : Int) (h0 : -9223372036854775808 ≤ k) (h1 : k ≤ 9223372036854775807) : Calls Tryz.prog 14 #[.int .i64 k] w0 fun e w => e = .returned (.string (nameZ k)) ∧ ∃ m, w = w0.drewN m := by
  have HN : RowKit.Hid (nameZ k = ⟨#[120]⟩ ++ ⟨(Lib.itoa (max k 0)).toArray⟩) := Lib.hid rfl
  by_cases hk : 0 ≤ k
  · obtain ⟨n, rfl⟩ : ∃ n : Nat, k = n := ⟨k.toNat, by omega⟩
    have hm : max (n : Int) 0 = n := by omega
    rw [hm, itoa_nat] at HN
    have HI := Lib.hid (digits_any n n (Nat.le_refl _) (by omega) w0)
    have hL : ¬ 9223372036854775807 < 1 + (Lib.decDigits n).toArray.size := by have := decDigits_len n (by omega); simp; omega
    generalize nameZ n = nz at *
    generalize (Lib.decDigits n).toArray = L at *
    go_enter Tryz.func14, Tryz.ntmps14
    go_wp2_with fail
    refine HI.out.mono ?_
    rintro e w1 ⟨rfl, kk, rfl⟩
    go_wp2
    go_ret
    exact ⟨by rw [HN.out]; rfl, kk, rfl⟩
  · have hm : max k 0 = ((0 : Nat) : Int) := by omega
    rw [hm, itoa_nat] at HN
    have HI := Lib.hid (digits_any 0 0 (Nat.le_refl _) (by omega) w0)
    have hL : ¬ 9223372036854775807 < 1 + (Lib.decDigits 0).toArray.size := by have := decDigits_len 0 (by omega); simp; omega
    generalize nameZ k = nz at *
    generalize (Lib.decDigits 0).toArray = L at *
    go_enter Tryz.func14, Tryz.ntmps14
    go_wp2_with fail
    refine HI.out.mono ?_
    rintro e w1 ⟨rfl, kk, rfl⟩
    go_wp2
    go_ret
    exact ⟨by rw [HN.out]; rfl, kk, rfl⟩
end
end Go.Proofs.YtiibknlpeodejaaGreatDoor

/- corniceref02.letter, Name: they say what term.Name says. -/
namespace Go.Proofs.YtiibknlpeodejaaGreatDoor
open Go.Lx Go.RowKit

/-- A letter, as the document's text asks. -/
def letR (c : UInt8) : Bool := (decide (97 ≤ (c.toNat : Int)) && decide ((c.toNat : Int) ≤ 122)) || (decide (65 ≤ (c.toNat : Int)) && decide ((c.toNat : Int) ≤ 90)) || ((c.toNat : Int) == 95)
theorem letR_nat : ∀ n : Nat, n < 256 → letR (UInt8.ofNat n) = ltrB (UInt8.ofNat n) := by decide +kernel
theorem letR_eq (c : UInt8) : letR c = ltrB c := by
  have h := letR_nat c.toNat c.toNat_lt
  rwa [UInt8.ofNat_toNat] at h
section
variable {w0 : World}
set_option maxRecDepth 100000 in
set_option maxHeartbeats 1000000 in
theorem letter_any (c : UInt8) : Calls Tryz.prog 82 #[.int .u8 c.toNat] w0 fun e w => e = .returned (.bool (ltrB c)) ∧ w = w0 := by
  rw [← letR_eq]
  have HR : RowKit.Hid (letR c = ((decide (97 ≤ (c.toNat : Int)) && decide ((c.toNat : Int) ≤ 122)) || (decide (65 ≤ (c.toNat : Int)) && decide ((c.toNat : Int) ≤ 90)) || ((c.toNat : Int) == 95))) := Lib.hid rfl
  generalize letR c = r at *
  generalize (c.toNat : Int) = n at *
  by_cases h1 : 97 ≤ n
  all_goals by_cases h2 : n ≤ 122
  all_goals by_cases h3 : 65 ≤ n
  all_goals by_cases h4 : n ≤ 90
  all_goals first | omega | skip
  all_goals
    go_enter Tryz.func82, Tryz.ntmps82
    go_wp2
    go_ret
    exact ⟨by rw [HR.out]; simp [*] <;> omega, rfl⟩
/-- A letter or a digit. -/
def okR (c : UInt8) : Bool := ltrB c || digB c
theorem nameFrom_all : ∀ (l : List UInt8) (i : Nat), i ≠ 0 → nameFrom i l = l.all okR
  | [], i, h => rfl
  | c :: r, i, h => by
    simp only [nameFrom, List.all_cons, okB, okR]
    rw [nameFrom_all r (i + 1) (by omega)]
    simp [h]
theorem nameB_all {s : ByteArray} {c : UInt8} {r : List UInt8} (h : s.data.toList = c :: r) (hs : s.size ≤ 16) (hc : ltrB c = true) : nameB s = s.data.toList.all okR := by
  unfold nameB
  have h0 : s.size ≠ 0 := by
    have : s.data.toList.length = s.size := by rw [Array.length_toList]; rfl
    rw [h] at this; intro e; rw [e] at this; cases this
  rw [h]
  simp only [nameFrom, List.all_cons]
  rw [nameFrom_all r 1 (by decide)]
  simp [okB, okR, hc, h0, hs]
theorem nameB_not {s : ByteArray} {c : UInt8} {r : List UInt8} (h : s.data.toList = c :: r) (hc : ltrB c = false) : nameB s = false := by
  unfold nameB
  rw [h]
  simp [nameFrom, okB, hc]
def RnRel (w0 : World) (s : ByteArray) (i : Value) (wr : World) : Prop := ∃ k : Nat, k ≤ s.size ∧ i = .int .i64 (k : Int) ∧ s.data.toList.all okR = (s.data.toList.drop k).all okR ∧ w0 = wr
set_option maxRecDepth 100000 in
set_option maxHeartbeats 2000000 in
theorem rname_any (s : ByteArray) : Calls Tryz.prog 66 #[.string s] w0 fun e w => e = .returned (.bool (nameB s)) ∧ w = w0 := by
  have HLen := Lib.hid (show s.data.toList.length = s.size by rw [Array.length_toList]; rfl)
  by_cases h1 : (s.size : Int) < 1
  · have HO : RowKit.Hid (nameB s = false) := Lib.hid (by
      have : s.size = 0 := by omega
      unfold nameB; simp [this])
    go_enter Tryz.func66, Tryz.ntmps66
    go_wp2
    go_ret
    exact ⟨by rw [HO.out]; rfl, rfl⟩
  by_cases h16 : 16 < (s.size : Int)
  · have HO : RowKit.Hid (nameB s = false) := Lib.hid (by unfold nameB; simp; intros; omega)
    go_enter Tryz.func66, Tryz.ntmps66
    go_wp2
    go_ret
    exact ⟨by rw [HO.out]; rfl, rfl⟩
  have h0 : 0 < s.size := by omega
  have hs16 : s.size ≤ 16 := by omega
  obtain ⟨c, r, hcr⟩ : ∃ c r, s.data.toList = c :: r := by
    cases h : s.data.toList with
    | nil => have := HLen.out; rw [h] at this; simp at this; omega
    | cons c r => exact ⟨c, r, rfl⟩
  have hs0 : s[0] = c := by
    show s.data[0] = c
    rw [← Array.getElem_toList]
    simp [hcr]
  have HL0 := Lib.hid (letter_any (w0 := w0) c)
  cases hc : ltrB c
  · have HO := Lib.hid (nameB_not hcr hc)
    rw [hc] at HL0
    clear hcr hc
    go_enter Tryz.func66, Tryz.ntmps66
    go_wp2_with fail
    refine HL0.out.mono ?_
    rintro e w1 ⟨rfl, rfl⟩
    go_wp2
    go_ret
    exact ⟨by rw [HO.out]; rfl, rfl⟩
  · have HO := Lib.hid (nameB_all hcr hs16 hc)
    rw [hc] at HL0
    have HL := Lib.hid (fun c => letter_any (w0 := w0) c)
    clear hcr hc
    go_enter Tryz.func66, Tryz.ntmps66
    go_wp2_with fail
    refine HL0.out.mono ?_
    rintro e w1 ⟨rfl, rfl⟩
    clear hs0 HL0
    go_wp2
    go_loopw [3] (fun i wr => RnRel w1 s i wr) (fun i _ => s.size - (intOf i).toNat)
    case atStart => exact ⟨0, Nat.zero_le _, rfl, by simp, rfl⟩
    case round =>
      obtain ⟨k, hk, rfl, hN, rfl⟩ := hrel
      have HN := Lib.hid hN
      clear hN
      by_cases hlt : k < s.size
      · have hk' : k < s.data.toList.length := by rw [HLen.out]; exact hlt
        have hd : (s.data.toList.drop k).all okR = (okR s[k] && (s.data.toList.drop (k + 1)).all okR) := by rw [List.drop_eq_getElem_cons hk']; rfl
        have HD := Lib.hid hd
        have HLk := Lib.hid (HL.out s[k])
        have hdg : digB s[k] = (!(decide ((s[k].toNat : Int) < 48)) && !(decide (57 < (s[k].toNat : Int)))) := rfl
        have HDg := Lib.hid hdg
        clear hd hdg
        generalize hx : s[k] = x at *
        have hok : okR x = (ltrB x || digB x) := rfl
        have HOk := Lib.hid hok
        clear hok
        cases hl : ltrB x
        · rw [hl] at HLk HOk
          by_cases h48 : (x.toNat : Int) < 48
          · go_wp2_with fail
            refine HLk.out.mono ?_
            rintro e w1 ⟨rfl, rfl⟩
            go_wp2
            go_ret
            exact ⟨by rw [HO.out, HN.out, HD.out, HOk.out, HDg.out]; simp [h48], rfl⟩
          · by_cases h57 : 57 < (x.toNat : Int)
            · go_wp2_with fail
              refine HLk.out.mono ?_
              rintro e w1 ⟨rfl, rfl⟩
              go_wp2
              go_ret
              exact ⟨by rw [HO.out, HN.out, HD.out, HOk.out, HDg.out]; simp [h57], rfl⟩
            · have HT : RowKit.Hid (okR x = true) := Lib.hid (by rw [HOk.out, HDg.out]; simp; omega)
              go_wp2_with fail
              refine HLk.out.mono ?_
              rintro e w1 ⟨rfl, rfl⟩
              go_wp2
              go_roundw
              case rel => exact ⟨k + 1, by omega, by go_num, by rw [HN.out, HD.out, HT.out]; rfl, rfl⟩
              case measure => simp [intOf]; omega
        · rw [hl] at HLk HOk
          go_wp2_with fail
          refine HLk.out.mono ?_
          rintro e w1 ⟨rfl, rfl⟩
          go_wp2
          go_roundw
          case rel => exact ⟨k + 1, by omega, by go_num, by rw [HN.out, HD.out, HOk.out]; rfl, rfl⟩
          case measure => simp [intOf]; omega
      · obtain rfl : k = s.size := by omega
        have HE : RowKit.Hid (nameB s = true) := Lib.hid (by rw [HO.out, HN.out, ← HLen.out, List.drop_length]; rfl)
        go_wp2
        go_ret
        exact ⟨by rw [HE.out]; rfl, rfl⟩
end
end Go.Proofs.YtiibknlpeodejaaGreatDoor

/- level.Check, term.right, term.many, walked. -/
namespace Go.Proofs.YtiibknlpeodejaaGreatDoor
open Go.Lx Go.RowKit

def ints (l : List Int) : List Value := l.map fun n => .int .i64 n
/-- Is a number a level? -/
def lvlB (n : Int) : Bool := !(decide (n < 0) || decide (9 < n))
/-- The first number that is none. -/
def badAt : Nat → List Int → Int
  | _, [] => -1
  | i, n :: l => if lvlB n = false then i else badAt (i + 1) l
theorem badAt_drop {l : List Int} {k : Nat} {c : Int} (h : l[k]? = some c) : badAt k (l.drop k) = if lvlB c = false then (k : Int) else badAt (k + 1) (l.drop (k + 1)) := by
  obtain ⟨hk, hc⟩ := List.getElem?_eq_some_iff.1 h
  rw [List.drop_eq_getElem_cons hk, hc]
  rfl
theorem badAt_all : ∀ (l : List Int) (i : Nat), decide (0 ≤ badAt i l) = !(l.all lvlB) := by
  intro l
  induction l with
  | nil => intro i; simp [badAt]
  | cons n l ih =>
    intro i
    have e : badAt i (n :: l) = if lvlB n = false then (i : Int) else badAt (i + 1) l := rfl
    by_cases h : lvlB n = false
    · simp only [e, List.all_cons, h]; simp
    · simp only [e, if_neg h, List.all_cons, ih]; simp at h; rw [h]; simp

set_option maxRecDepth 100000 in
set_option maxHeartbeats 1000000 in
theorem indexBad_any (l : List Int) (p : Option Addr) (c : Nat) (w : World) (hl : l.length ≤ maxLen) (hp : RowArg w p (ints l)) :
    Calls Tryz.prog 117 #[.slice p l.length c, .func (.func 113) #[] #[]] w fun e w' => e = .returned (.int .i64 (badAt 0 l)) ∧ w = w' := by
  unfold maxLen at hl
  have HP := Lib.hid hp
  clear hp
  go_enter Tryz.func117, Tryz.ntmps117
  go_wp2
  go_loop [8] (fun i => ∃ k : Nat, k ≤ l.length ∧ i = .int .i64 k ∧ badAt 0 l = badAt k (l.drop k)) (fun i => l.length - (intOf i).toNat)
  case atStart => exact ⟨0, Nat.zero_le _, rfl, by simp⟩
  case round =>
    obtain ⟨k, hk, rfl, hN⟩ := hrel
    have HN := Lib.hid hN
    clear hN
    by_cases hlt : k < l.length
    · have hc := badAt_drop (l := l) (k := k) (c := l[k]) (List.getElem?_eq_getElem hlt)
      have HC := Lib.hid hc
      clear hc
      obtain ⟨b, off, rfl, hb, hcs⟩ := HP.out (by rw [Ne, ints, List.map_eq_nil_iff]; intro e; rw [e] at hlt; simp at hlt)
      have cc := hcs k (.int .i64 l[k]) (by simp [ints, List.getElem?_eq_getElem hlt])
      clear hcs
      generalize hx : l[k] = x at *
      clear hx
      by_cases h1 : x < 0
      · go_wp2
        go_ret
        exact ⟨ret_int (by rw [HN.out, HC.out, if_pos (by simp [lvlB, h1])]), rfl⟩
      · by_cases h2 : 9 < x
        · go_wp2
          go_ret
          exact ⟨ret_int (by rw [HN.out, HC.out, if_pos (by simp [lvlB, h2])]), rfl⟩
        · go_wp2
          go_round
          case rel => exact ⟨k + 1, by omega, by go_num, by rw [HN.out, HC.out, if_neg (by simp [lvlB]; omega)]⟩
          case measure => simp [intOf]; omega
    · go_wp2
      go_ret
      exact ⟨ret_int (by rw [HN.out, List.drop_eq_nil_of_le (by omega)]; rfl), rfl⟩
set_option maxRecDepth 100000 in
theorem hasBad_any (l : List Int) (p : Option Addr) (c : Nat) (w : World) (hl : l.length ≤ maxLen) (hp : RowArg w p (ints l)) :
    Calls Tryz.prog 112 #[.slice p l.length c, .func (.func 113) #[] #[]] w fun e w' => e = .returned (.bool (!l.all lvlB)) ∧ w = w' := by
  have hb := badAt_all l 0
  have HB := Lib.hid hb
  clear hb
  go_enter Tryz.func112, Tryz.ntmps112
  go_wp2_with (go_at_call 117; refine (indexBad_any l p c _ hl hp).mono ?_; rintro e w' ⟨rfl, rfl⟩)
  go_ret
  exact ⟨ret_bool HB.out, rfl⟩
set_option maxRecDepth 100000 in
theorem all_any (l : List Int) (p : Option Addr) (c : Nat) (w : World) (hl : l.length ≤ maxLen) (hp : RowArg w p (ints l)) :
    Calls Tryz.prog 99 #[.slice p l.length c] w fun e w' => e = .returned (.bool (l.all lvlB)) ∧ w = w' := by
  go_enter Tryz.func99, Tryz.ntmps99
  go_wp2_with (go_at_call 112; refine (hasBad_any l p c _ hl hp).mono ?_; rintro e w' ⟨rfl, rfl⟩)
  go_ret
  exact ⟨ret_bool (by simp), rfl⟩
/-- What level.Check says. -/
def levelE (n : Int) : Int := if lvlB n then 0 else 1
set_option maxRecDepth 100000 in
theorem levelCheck_any (n : Int) (w : World) :
    Calls Tryz.prog 77 #[.int .i64 n] w fun e w' => e = .returned (.int .i64 (levelE n)) ∧ Under w w' := by
  have hc := all_any [n] (some ⟨w.heap.size, 0, none⟩) 1 (w.alloc (.cells #[.int .i64 n] 3)) (by unfold maxLen; simp) (by simpa [ints] using arg_new w (ints [n]) 3 (0, 0))
  have e : [n].all lvlB = lvlB n := by simp
  rw [e] at hc
  have HC := Lib.hid hc
  clear hc e
  unfold levelE
  by_cases h : lvlB n
  all_goals
    go_enter Tryz.func77, Tryz.ntmps77
    go_wp2_with (go_at_call 99; refine HC.out.mono ?_; rintro e w' ⟨rfl, rfl⟩)
    go_ret
    exact ⟨by simp, under_alloc (Under.refl _) _⟩

set_option maxRecDepth 100000 in
theorem most_any (k : Int) (w : World) : Calls Tryz.prog 78 #[.int .i64 k] w fun e w' => e = .returned (.int .i64 (mostN k)) ∧ w = w' := by
  unfold mostN
  by_cases h0 : k = 0 <;> by_cases h3 : k = 3 <;> by_cases h6 : k = 6
  all_goals try omega
  all_goals
    go_enter Tryz.func78, Tryz.ntmps78
    go_wp2
    go_ret
    exact ⟨ret_int (by simp [*]), rfl⟩
set_option maxRecDepth 100000 in
theorem many_any (x : Nd) (w : World) (hS : ShapesAt 0 w) (hr : rightB x = true) : Calls Tryz.prog 60 #[ndV x] w fun e w' => e = .returned (.int .i64 ((binds x).length : Nat)) ∧ Under w w' := by
  obtain ⟨k, n, m, s⟩ := x
  unfold ndV binds
  obtain ⟨h0, h1⟩ := rightB_k hr
  have hm := rightB_m hr
  obtain ⟨p, c, c0, _⟩ := hS.row k.toNat (by simp at h0 h1; omega)
  simp only at *
  by_cases h26 : k = 26
  · have := hm (.inl h26)
    go_enter Tryz.func60, Tryz.ntmps60
    go_wp2
    go_ret
    exact ⟨ret_int (by omega), under_alloc (Under.refl _) _⟩
  by_cases h27 : k = 27
  · have := hm (.inr h27)
    go_enter Tryz.func60, Tryz.ntmps60
    go_wp2
    go_ret
    exact ⟨ret_int (by omega), under_alloc (Under.refl _) _⟩
  have hb := hS.lt
  clear hm hr hS
  go_enter Tryz.func60, Tryz.ntmps60
  go_wp2
  go_ret
  exact ⟨ret_int (by simp), under_alloc (Under.refl _) _⟩
end Go.Proofs.YtiibknlpeodejaaGreatDoor

/- term.right, walked. -/
namespace Go.Proofs.YtiibknlpeodejaaGreatDoor
open Go.Lx Go.RowKit

theorem combos (k : Nat) : (fN k = true ∧ fM k = false ∧ fS k = false ∧ (k = 0 ∨ k = 2 ∨ k = 3 ∨ k = 6)) ∨ (fN k = false ∧ fM k = false ∧ fS k = true ∧ (k = 1 ∨ k = 25)) ∨ (fN k = true ∧ fM k = true ∧ fS k = true ∧ k = 26) ∨ (fN k = false ∧ fM k = true ∧ fS k = true ∧ k = 27) ∨
    (fN k = false ∧ fM k = false ∧ fS k = false ∧ k ≠ 2 ∧ k ≠ 26 ∧ k ≠ 27) := by
  simp only [fN, fM, fS, List.contains_iff_mem, Bool.eq_false_iff, ne_eq, List.mem_cons, List.not_mem_nil, or_false]
  omega
theorem isEmpty_size (s : ByteArray) : s.toList.isEmpty = decide (s.size = 0) := by
  rw [ByteArray.toList_eq, ← ByteArray.size_data]
  cases h : s.data.toList with
  | nil => simp [← Array.length_toList, h]
  | cons a b => simp [← Array.length_toList, h]
/-- What is asked of the fields, where the kind has been found. -/
structure RightAt (k n m : Int) (s : ByteArray) (w : World) (a b c : Bool) : Prop where
  k0 : 0 ≤ k
  k1 : k < 30
  hs : s.size ≤ maxLen
  lt : 0 < w.heap.size
  row : ∃ p q, w.cell? ⟨0, k.toNat * 4, none⟩ = some (.slice p (bindsOf k.toNat).length q)
  c1 : w.cell? ⟨0, k.toNat * 4 + 1, none⟩ = some (.bool a)
  c2 : w.cell? ⟨0, k.toNat * 4 + 2, none⟩ = some (.bool b)
  c3 : w.cell? ⟨0, k.toNat * 4 + 3, none⟩ = some (.bool c)
  e1 : fN k.toNat = a
  e2 : fM k.toNat = b
  e3 : fS k.toNat = c
theorem RightAt.val {k n m : Int} {s : ByteArray} {w : World} {a b c : Bool} (H : RightAt k n m s w a b c) : rightB ⟨k, n, m, s⟩ =
    if (!a && (n != 0)) = true then false else if (!b && (m != 0)) = true then false else if (!c && !s.toList.isEmpty) = true then false else if (c && !nameB s) = true then false
    else if (k == 2) = true then decide (0 ≤ n) && decide (n ≤ 9) else if (k == 26) = true then decide (0 ≤ n) && decide (n ≤ 5) && decide (0 ≤ m) && decide (m ≤ 6) else if (k == 27) = true then decide (0 ≤ m) && decide (m ≤ 6) else !a || (decide (0 ≤ n) && decide (n ≤ mostN k)) := by
  have e1 := H.e1; have e2 := H.e2; have e3 := H.e3
  have h0 := H.k0; have h1 := H.k1
  unfold rightB
  simp only
  rw [if_neg (by omega), e1, e2, e3, isEmpty_size]
  cases a <;> cases b <;> cases c <;> simp
theorem most26 (k : Int) (h : (k == 26) = true) (w : World) : Calls Tryz.prog 78 #[.int .i64 k] w fun e w' => e = .returned (.int .i64 5) ∧ w = w' := by
  have : mostN k = 5 := by simp at h; subst h; rfl
  have hc := most_any k w
  rw [this] at hc
  exact hc
section
variable {k n m : Int} {s : ByteArray} {w : World}
set_option maxRecDepth 100000 in
set_option maxHeartbeats 4000000 in
theorem right_TFF (H : RightAt k n m s w true false false) (h26 : (k == 26) = false) (h27 : (k == 27) = false) : Calls Tryz.prog 58 #[ndV ⟨k, n, m, s⟩] w fun e w' => e = .returned (.bool (rightB ⟨k, n, m, s⟩)) ∧ Under w w' := by
  have HV := Lib.hid H.val
  obtain ⟨hk0, hk1, hs, hb, ⟨p, q, c0⟩, c1, c2, c3, e1, e2, e3⟩ := H
  clear e1 e2 e3
  unfold ndV
  cases hm : (m != 0)
  · cases he : s.toList.isEmpty
    · rw [show rightB ⟨k, n, m, s⟩ = false from HV.out.trans (by simp [*])]
      clear HV
      go_enter Tryz.func58, Tryz.ntmps58
      go_wp2
      go_ret
      exact ⟨rfl, (by first | exact under_alloc (under_alloc (Under.refl _) _) _ | exact under_alloc (under_alloc (under_alloc (Under.refl _) _) _) _ | exact under_drewN (under_alloc (under_alloc (Under.refl _) _) _) _)⟩
    · cases h2 : (k == 2)
      · cases hn : decide (0 ≤ n)
        · rw [show rightB ⟨k, n, m, s⟩ = false from HV.out.trans (by simp [*])]
          clear HV
          go_enter Tryz.func58, Tryz.ntmps58
          go_wp2
          go_quiet ((go_at_call 78; exact Calls.quiet_of_same ((most_any _ _).mono fun _ _ h => ⟨h.1, h.2.symm⟩)))
          go_wp2
          go_ret
          exact ⟨rfl, under_drewN (under_alloc (under_alloc (Under.refl _) _) _) _⟩
        · rw [show rightB ⟨k, n, m, s⟩ = decide (n ≤ mostN k) from HV.out.trans (by simp [*])]
          clear HV
          go_enter Tryz.func58, Tryz.ntmps58
          go_wp2
          go_quiet ((go_at_call 78; exact Calls.quiet_of_same ((most_any _ _).mono fun _ _ h => ⟨h.1, h.2.symm⟩)))
          go_wp2
          go_ret
          exact ⟨rfl, under_drewN (under_alloc (under_alloc (Under.refl _) _) _) _⟩
      · rw [show rightB ⟨k, n, m, s⟩ = (decide (0 ≤ n) && decide (n ≤ 9)) from HV.out.trans (by simp [*])]
        clear HV
        go_enter Tryz.func58, Tryz.ntmps58
        go_wp2_with fail
        refine (levelCheck_any n _).mono ?_
        rintro e w' ⟨rfl, hU⟩
        have HU := Lib.hid hU
        clear hU
        unfold levelE lvlB
        go_wp2
        all_goals
          go_ret
          exact ⟨ret_bool (by simp [*] <;> omega), (under_alloc (under_alloc (Under.refl _) _) _).trans HU.out⟩
  · rw [show rightB ⟨k, n, m, s⟩ = false from HV.out.trans (by simp [*])]
    clear HV
    go_enter Tryz.func58, Tryz.ntmps58
    go_wp2
    go_ret
    exact ⟨rfl, (by first | exact under_alloc (under_alloc (Under.refl _) _) _ | exact under_alloc (under_alloc (under_alloc (Under.refl _) _) _) _ | exact under_drewN (under_alloc (under_alloc (Under.refl _) _) _) _)⟩
set_option maxRecDepth 100000 in
set_option maxHeartbeats 4000000 in
theorem right_FFT (H : RightAt k n m s w false false true) (h2 : (k == 2) = false) (h26 : (k == 26) = false) (h27 : (k == 27) = false) : Calls Tryz.prog 58 #[ndV ⟨k, n, m, s⟩] w fun e w' => e = .returned (.bool (rightB ⟨k, n, m, s⟩)) ∧ Under w w' := by
  have HV := Lib.hid H.val
  obtain ⟨hk0, hk1, hs, hb, ⟨p, q, c0⟩, c1, c2, c3, e1, e2, e3⟩ := H
  clear e1 e2 e3
  unfold ndV
  cases hn : (n != 0)
  · cases hm : (m != 0)
    · cases hnm : nameB s
      · rw [show rightB ⟨k, n, m, s⟩ = false from HV.out.trans (by simp [*])]
        clear HV
        go_enter Tryz.func58, Tryz.ntmps58
        go_wp2_with (go_at_call 76; refine (name_any s _ hs).mono ?_; rintro e w' ⟨rfl, rfl⟩; try rw [hnm])
        go_ret
        exact ⟨rfl, (by first | exact under_alloc (under_alloc (Under.refl _) _) _ | exact under_alloc (under_alloc (under_alloc (Under.refl _) _) _) _ | exact under_drewN (under_alloc (under_alloc (Under.refl _) _) _) _)⟩
      · rw [show rightB ⟨k, n, m, s⟩ = true from HV.out.trans (by simp [*])]
        clear HV
        go_enter Tryz.func58, Tryz.ntmps58
        go_wp2_with (go_at_call 76; refine (name_any s _ hs).mono ?_; rintro e w' ⟨rfl, rfl⟩; try rw [hnm])
        go_quiet (fail)
        go_wp2
        go_ret
        exact ⟨rfl, (by first | exact under_alloc (under_alloc (Under.refl _) _) _ | exact under_alloc (under_alloc (under_alloc (Under.refl _) _) _) _ | exact under_drewN (under_alloc (under_alloc (Under.refl _) _) _) _)⟩
    · rw [show rightB ⟨k, n, m, s⟩ = false from HV.out.trans (by simp [*])]
      clear HV
      go_enter Tryz.func58, Tryz.ntmps58
      go_wp2
      go_ret
      exact ⟨rfl, (by first | exact under_alloc (under_alloc (Under.refl _) _) _ | exact under_alloc (under_alloc (under_alloc (Under.refl _) _) _) _ | exact under_drewN (under_alloc (under_alloc (Under.refl _) _) _) _)⟩
  · rw [show rightB ⟨k, n, m, s⟩ = false from HV.out.trans (by simp [*])]
    clear HV
    go_enter Tryz.func58, Tryz.ntmps58
    go_wp2
    go_ret
    exact ⟨rfl, (by first | exact under_alloc (under_alloc (Under.refl _) _) _ | exact under_alloc (under_alloc (under_alloc (Under.refl _) _) _) _ | exact under_drewN (under_alloc (under_alloc (Under.refl _) _) _) _)⟩
set_option maxRecDepth 100000 in
set_option maxHeartbeats 4000000 in
theorem right_TTT (H : RightAt k n m s w true true true) (h2 : (k == 2) = false) (h26 : (k == 26) = true) : Calls Tryz.prog 58 #[ndV ⟨k, n, m, s⟩] w fun e w' => e = .returned (.bool (rightB ⟨k, n, m, s⟩)) ∧ Under w w' := by
  have HV := Lib.hid H.val
  obtain ⟨hk0, hk1, hs, hb, ⟨p, q, c0⟩, c1, c2, c3, e1, e2, e3⟩ := H
  clear e1 e2 e3
  unfold ndV
  cases hnm : nameB s
  · rw [show rightB ⟨k, n, m, s⟩ = false from HV.out.trans (by simp [*])]
    clear HV
    go_enter Tryz.func58, Tryz.ntmps58
    go_wp2_with (go_at_call 76; refine (name_any s _ hs).mono ?_; rintro e w' ⟨rfl, rfl⟩; try rw [hnm])
    go_ret
    exact ⟨rfl, (by first | exact under_alloc (under_alloc (Under.refl _) _) _ | exact under_alloc (under_alloc (under_alloc (Under.refl _) _) _) _ | exact under_drewN (under_alloc (under_alloc (Under.refl _) _) _) _)⟩
  · cases hn : decide (0 ≤ n)
    · rw [show rightB ⟨k, n, m, s⟩ = false from HV.out.trans (by simp [*])]
      clear HV
      go_enter Tryz.func58, Tryz.ntmps58
      go_wp2_with (go_at_call 76; refine (name_any s _ hs).mono ?_; rintro e w' ⟨rfl, rfl⟩; try rw [hnm])
      go_quiet ((go_at_call 78; exact Calls.quiet_of_same ((most26 _ (by assumption) _).mono fun _ _ h => ⟨h.1, h.2.symm⟩)))
      go_wp2
      go_ret
      exact ⟨rfl, (by first | exact under_alloc (under_alloc (Under.refl _) _) _ | exact under_alloc (under_alloc (under_alloc (Under.refl _) _) _) _ | exact under_drewN (under_alloc (under_alloc (Under.refl _) _) _) _)⟩
    · cases hn5 : decide (n ≤ 5)
      · rw [show rightB ⟨k, n, m, s⟩ = false from HV.out.trans (by simp [*])]
        clear HV
        go_enter Tryz.func58, Tryz.ntmps58
        go_wp2_with (go_at_call 76; refine (name_any s _ hs).mono ?_; rintro e w' ⟨rfl, rfl⟩; try rw [hnm])
        go_quiet ((go_at_call 78; exact Calls.quiet_of_same ((most26 _ (by assumption) _).mono fun _ _ h => ⟨h.1, h.2.symm⟩)))
        go_wp2
        go_ret
        exact ⟨rfl, (by first | exact under_alloc (under_alloc (Under.refl _) _) _ | exact under_alloc (under_alloc (under_alloc (Under.refl _) _) _) _ | exact under_drewN (under_alloc (under_alloc (Under.refl _) _) _) _)⟩
      · cases hm0 : decide (0 ≤ m)
        · rw [show rightB ⟨k, n, m, s⟩ = false from HV.out.trans (by simp [*])]
          clear HV
          go_enter Tryz.func58, Tryz.ntmps58
          go_wp2_with (go_at_call 76; refine (name_any s _ hs).mono ?_; rintro e w' ⟨rfl, rfl⟩; try rw [hnm])
          go_quiet ((go_at_call 78; exact Calls.quiet_of_same ((most26 _ (by assumption) _).mono fun _ _ h => ⟨h.1, h.2.symm⟩)))
          go_wp2
          go_ret
          exact ⟨rfl, (by first | exact under_alloc (under_alloc (Under.refl _) _) _ | exact under_alloc (under_alloc (under_alloc (Under.refl _) _) _) _ | exact under_drewN (under_alloc (under_alloc (Under.refl _) _) _) _)⟩
        · rw [show rightB ⟨k, n, m, s⟩ = decide (m ≤ 6) from HV.out.trans (by simp [*])]
          clear HV
          go_enter Tryz.func58, Tryz.ntmps58
          go_wp2_with (go_at_call 76; refine (name_any s _ hs).mono ?_; rintro e w' ⟨rfl, rfl⟩; try rw [hnm])
          go_quiet ((go_at_call 78; exact Calls.quiet_of_same ((most26 _ (by assumption) _).mono fun _ _ h => ⟨h.1, h.2.symm⟩)))
          go_wp2
          go_ret
          exact ⟨rfl, (by first | exact under_alloc (under_alloc (Under.refl _) _) _ | exact under_alloc (under_alloc (under_alloc (Under.refl _) _) _) _ | exact under_drewN (under_alloc (under_alloc (Under.refl _) _) _) _)⟩
set_option maxRecDepth 100000 in
set_option maxHeartbeats 4000000 in
theorem right_FTT (H : RightAt k n m s w false true true) (h2 : (k == 2) = false) (h26 : (k == 26) = false) (h27 : (k == 27) = true) : Calls Tryz.prog 58 #[ndV ⟨k, n, m, s⟩] w fun e w' => e = .returned (.bool (rightB ⟨k, n, m, s⟩)) ∧ Under w w' := by
  have HV := Lib.hid H.val
  obtain ⟨hk0, hk1, hs, hb, ⟨p, q, c0⟩, c1, c2, c3, e1, e2, e3⟩ := H
  clear e1 e2 e3
  unfold ndV
  cases hn : (n != 0)
  · cases hnm : nameB s
    · rw [show rightB ⟨k, n, m, s⟩ = false from HV.out.trans (by simp [*])]
      clear HV
      go_enter Tryz.func58, Tryz.ntmps58
      go_wp2_with (go_at_call 76; refine (name_any s _ hs).mono ?_; rintro e w' ⟨rfl, rfl⟩; try rw [hnm])
      go_ret
      exact ⟨rfl, (by first | exact under_alloc (under_alloc (Under.refl _) _) _ | exact under_alloc (under_alloc (under_alloc (Under.refl _) _) _) _ | exact under_drewN (under_alloc (under_alloc (Under.refl _) _) _) _)⟩
    · cases hm0 : decide (0 ≤ m)
      · rw [show rightB ⟨k, n, m, s⟩ = false from HV.out.trans (by simp [*])]
        clear HV
        go_enter Tryz.func58, Tryz.ntmps58
        go_wp2_with (go_at_call 76; refine (name_any s _ hs).mono ?_; rintro e w' ⟨rfl, rfl⟩; try rw [hnm])
        go_ret
        exact ⟨rfl, (by first | exact under_alloc (under_alloc (Under.refl _) _) _ | exact under_alloc (under_alloc (under_alloc (Under.refl _) _) _) _ | exact under_drewN (under_alloc (under_alloc (Under.refl _) _) _) _)⟩
      · rw [show rightB ⟨k, n, m, s⟩ = decide (m ≤ 6) from HV.out.trans (by simp [*])]
        clear HV
        go_enter Tryz.func58, Tryz.ntmps58
        go_wp2_with (go_at_call 76; refine (name_any s _ hs).mono ?_; rintro e w' ⟨rfl, rfl⟩; try rw [hnm])
        go_ret
        exact ⟨rfl, (by first | exact under_alloc (under_alloc (Under.refl _) _) _ | exact under_alloc (under_alloc (under_alloc (Under.refl _) _) _) _ | exact under_drewN (under_alloc (under_alloc (Under.refl _) _) _) _)⟩
  · rw [show rightB ⟨k, n, m, s⟩ = false from HV.out.trans (by simp [*])]
    clear HV
    go_enter Tryz.func58, Tryz.ntmps58
    go_wp2
    go_ret
    exact ⟨rfl, (by first | exact under_alloc (under_alloc (Under.refl _) _) _ | exact under_alloc (under_alloc (under_alloc (Under.refl _) _) _) _ | exact under_drewN (under_alloc (under_alloc (Under.refl _) _) _) _)⟩
set_option maxRecDepth 100000 in
set_option maxHeartbeats 4000000 in
theorem right_FFF (H : RightAt k n m s w false false false) (h2 : (k == 2) = false) (h26 : (k == 26) = false) (h27 : (k == 27) = false) : Calls Tryz.prog 58 #[ndV ⟨k, n, m, s⟩] w fun e w' => e = .returned (.bool (rightB ⟨k, n, m, s⟩)) ∧ Under w w' := by
  have HV := Lib.hid H.val
  obtain ⟨hk0, hk1, hs, hb, ⟨p, q, c0⟩, c1, c2, c3, e1, e2, e3⟩ := H
  clear e1 e2 e3
  unfold ndV
  cases hn : (n != 0)
  · cases hm : (m != 0)
    · cases he : s.toList.isEmpty
      · rw [show rightB ⟨k, n, m, s⟩ = false from HV.out.trans (by simp [*])]
        clear HV
        go_enter Tryz.func58, Tryz.ntmps58
        go_wp2
        go_ret
        exact ⟨rfl, (by first | exact under_alloc (under_alloc (Under.refl _) _) _ | exact under_alloc (under_alloc (under_alloc (Under.refl _) _) _) _ | exact under_drewN (under_alloc (under_alloc (Under.refl _) _) _) _)⟩
      · rw [show rightB ⟨k, n, m, s⟩ = true from HV.out.trans (by simp [*])]
        clear HV
        go_enter Tryz.func58, Tryz.ntmps58
        go_wp2
        go_quiet (fail)
        go_wp2
        go_ret
        exact ⟨rfl, under_drewN (under_alloc (under_alloc (Under.refl _) _) _) _⟩
    · rw [show rightB ⟨k, n, m, s⟩ = false from HV.out.trans (by simp [*])]
      clear HV
      go_enter Tryz.func58, Tryz.ntmps58
      go_wp2
      go_ret
      exact ⟨rfl, (by first | exact under_alloc (under_alloc (Under.refl _) _) _ | exact under_alloc (under_alloc (under_alloc (Under.refl _) _) _) _ | exact under_drewN (under_alloc (under_alloc (Under.refl _) _) _) _)⟩
  · rw [show rightB ⟨k, n, m, s⟩ = false from HV.out.trans (by simp [*])]
    clear HV
    go_enter Tryz.func58, Tryz.ntmps58
    go_wp2
    go_ret
    exact ⟨rfl, (by first | exact under_alloc (under_alloc (Under.refl _) _) _ | exact under_alloc (under_alloc (under_alloc (Under.refl _) _) _) _ | exact under_drewN (under_alloc (under_alloc (Under.refl _) _) _) _)⟩
end
set_option maxRecDepth 100000 in
theorem right_any (x : Nd) (w : World) (hs : x.s.size ≤ maxLen) (hS : ShapesAt 0 w) : Calls Tryz.prog 58 #[ndV x] w fun e w' => e = .returned (.bool (rightB x)) ∧ Under w w' := by
  obtain ⟨k, n, m, s⟩ := x
  simp only at *
  by_cases hk : k < 0
  · rw [show rightB ⟨k, n, m, s⟩ = false by simp [rightB, hk]]
    unfold ndV
    go_enter Tryz.func58, Tryz.ntmps58
    go_wp2
    go_ret
    exact ⟨rfl, under_alloc (Under.refl _) _⟩
  by_cases hk2 : 30 ≤ k
  · rw [show rightB ⟨k, n, m, s⟩ = false by simp [rightB, hk2]]
    unfold ndV
    go_enter Tryz.func58, Tryz.ntmps58
    go_wp2
    go_ret
    exact ⟨rfl, under_alloc (Under.refl _) _⟩
  obtain ⟨p, c, c0, _, _, c1, c2, c3⟩ := hS.row k.toNat (by omega)
  have hR : RightAt k n m s w (fN k.toNat) (fM k.toNat) (fS k.toNat) := ⟨by omega, by omega, hs, hS.lt, ⟨p, c, c0⟩, c1, c2, c3, rfl, rfl, rfl⟩
  rcases combos k.toNat with ⟨e1, e2, e3, hc⟩ | ⟨e1, e2, e3, hc⟩ | ⟨e1, e2, e3, hc⟩ | ⟨e1, e2, e3, hc⟩ | ⟨e1, e2, e3, hc⟩ <;> rw [e1, e2, e3] at hR
  · exact right_TFF hR (by simp; omega) (by simp; omega)
  · exact right_FFT hR (by simp; omega) (by simp; omega) (by simp; omega)
  · exact right_TTT hR (by simp; omega) (by simp; omega)
  · exact right_FTT hR (by simp; omega) (by simp; omega) (by simp; omega)
  · exact right_FFF hR (by simp; omega) (by simp; omega) (by simp; omega)
end Go.Proofs.YtiibknlpeodejaaGreatDoor

/- term.measured, walked. -/
namespace Go.Proofs.YtiibknlpeodejaaGreatDoor
open Go.Lx Go.RowKit

def measCells : List (Nat × Nat) → List Value
  | [] => []
  | x :: l => .int .i64 (x.1 : Int) :: .int .i64 (x.2 : Int) :: measCells l
theorem measCells_app (l r : List (Nat × Nat)) : measCells (l ++ r) = measCells l ++ measCells r := by
  induction l with
  | nil => rfl
  | cons x l ih => simp [measCells, ih]
theorem measCells_len (l : List (Nat × Nat)) : (measCells l).length = l.length * 2 := by
  induction l with
  | nil => rfl
  | cons x l ih => simp [measCells, ih]; omega
theorem measCells_at : ∀ {l : List (Nat × Nat)} {k : Nat} {x : Nat × Nat}, l[k]? = some x → (measCells l)[k * 2]? = some (.int .i64 (x.1 : Int)) ∧ (measCells l)[k * 2 + 1]? = some (.int .i64 (x.2 : Int))
  | y :: l, 0, x, h => by cases h; exact ⟨rfl, rfl⟩
  | y :: l, k + 1, x, h => by
    have := measCells_at (l := l) (k := k) (x := x) (by simpa using h)
    rw [show (k + 1) * 2 = k * 2 + 2 by omega]
    exact this
theorem Tryz.info117 : (Tryz.prog.info? 117).map (fun i => (i.zero, i.size, i.bytes)) = some (some (.agg #[.int .i64 0, .int .i64 0]), 2, 16) := by kernel_rfl

theorem meas_le {l : List (Nat × Nat)} {i k : Nat} (h : ∀ y ∈ l, y.2 ≤ k) : (meas i l).2 ≤ k + 1 := by
  have : ∀ (l : List (Nat × Nat)) (d : Nat), d ≤ k + 1 → (∀ y ∈ l, y.2 ≤ k) → l.foldl (fun d x => max d (x.2 + 1)) d ≤ k + 1 := by
    intro l
    induction l with
    | nil => intro d hd _; exact hd
    | cons x l ih =>
      intro d hd hl
      have := hl x (List.mem_cons_self ..)
      exact ih _ (show max d (x.2 + 1) ≤ k + 1 by omega) fun y hy => hl y (List.mem_cons_of_mem _ hy)
  exact this l 1 (by omega) h
/-- What is held between two nodes. -/
structure MI (w0 : World) (t : List Nd) (va vo : Value) (k : Nat) (all op : List (Nat × Nat)) (w : World) : Prop where
  all_ : w.ownsRow w0.heap.size 117 2 va all.length (measCells all)
  op_ : w.ownsRow w0.heap.size 117 2 vo op.length (measCells op)
  ne : va.ownBlock = none ∨ va.ownBlock ≠ vo.ownBlock
  low : Under w0 w
  res : measGo (t.drop k) k all op = measGo t 0 [] []
  al : all.length = k
  ol : op.length ≤ k
  dp : ∀ y ∈ op, y.2 ≤ k
def MRel (w0 : World) (t : List Nd) (va vo i : Value) (w : World) : Prop := ∃ k all op, k ≤ t.length ∧ i = .int .i64 (k : Int) ∧ MI w0 t va vo k all op w
/-- What measured answers. -/
def MOut (w0 : World) (t : List Nd) (e : Ending) (w : World) : Prop :=
  match measGo t 0 [] [] with
  | none => e = .returned (.tuple #[.slice none 0 0, .bool false]) ∧ Under w0 w
  | some (all, op) => ∃ v, e = .returned (.tuple #[v, .bool (decide ((op.length : Int) = 1))]) ∧ w.ownsRow w0.heap.size 117 2 v all.length (measCells all) ∧ Under w0 w

noncomputable def msText : Code := Tryz.f70.body.getD .skip
noncomputable def msLoop : Code := fstOf (sndOf (sndOf msText))
noncomputable def msRound : Code := inOf (inOf (sndOf msLoop))
noncomputable def msIn : Code := fstOf (sndOf (sndOf (sndOf (sndOf (inOf (fstOf (sndOf (sndOf msRound))))))))
noncomputable def miRound : Code := inOf (inOf (sndOf msIn))
def msFrame (l va vo : Value) (n k : Nat) (J : Nat → Value) : Array Value := #[l, J 1, J 2, J 3, va, vo, J 6, J 7, J 8, J 9, J 10, J 11, l, .int .i64 (n : Int), .int .i64 (k : Int), J 15, J 16, J 17, J 18, J 19, J 20, J 21, J 22, J 23, J 24, J 25, J 26, J 27, J 28, J 29, J 30, J 31, J 32, J 33, J 34, J 35, J 36, J 37, J 38, J 39, J 40, J 41, J 42, J 43, J 44, J 45, J 46, J 47, J 48, J 49, J 50, J 51, J 52, J 53, J 54, J 55, J 56, J 57, J 58, J 59, J 60, J 61, J 62, J 63, J 64, J 65, J 66, J 67, J 68, J 69, J 70, J 71, J 72]
def miFrame (l va vo : Value) (n k kk b9 : Nat) (vs : Value) (bl j : Nat) (J : Nat → Value) : Array Value :=
  #[l, J 1, J 2, J 3, va, vo, J 6, J 7, .int .i64 (kk : Int), .pointer (some ⟨b9, 0, none⟩), J 10, J 11, l, .int .i64 (n : Int), .int .i64 (k : Int), J 15, J 16, J 17, J 18, J 19, J 20, J 21, J 22, J 23, J 24, J 25, J 26, J 27, J 28, J 29, J 30, J 31, J 32, J 33, J 34, J 35, J 36, J 37, vs, .int .i64 (bl : Int), .int .i64 (j : Int), J 41, J 42, J 43, J 44, J 45, J 46, J 47, J 48, J 49, J 50, J 51, J 52, J 53, J 54, J 55, J 56, J 57, J 58, J 59, J 60, J 61, J 62, J 63, J 64, J 65, J 66, J 67, J 68, J 69, J 70, J 71, J 72]
/-- Between two parts: the new measure's box. -/
def MIn (W1 : World) (l va vo : Value) (n k kk b9 : Nat) (vs : Value) (bl j : Nat) (f d : Nat) (a : Act) (w : World) : Prop :=
  ∃ J, a = ⟨miFrame l va vo n k kk b9 vs bl j J, []⟩ ∧ Under W1 w ∧ BoxAt w b9 117 #[.int .i64 (f : Int), .int .i64 (d : Int)]
def MInD (W1 : World) (l va vo : Value) (n k kk b9 : Nat) (vs : Value) (bl j : Nat) (f d : Nat) (e : Exit) (a : Act) (w : World) : Prop := e = .exit 2 ∧ MIn W1 l va vo n k kk b9 vs bl j f d a w
theorem box2 {w : World} {b : Nat} {t : TypeId} {a : Value} {y y' : Int} (h : BoxAt w b t #[a, .int .i64 y]) (e : y = y') : BoxAt w b t #[a, .int .i64 y'] := e ▸ h
section
variable {W1 : World} {l va vo : Value} {n k kk b9 bl j f d : Nat}
set_option maxRecDepth 100000 in
theorem mi_done {vs : Value} (J : Nat → Value) (w : World) (hU : Under W1 w) (hB : BoxAt w b9 117 #[.int .i64 (f : Int), .int .i64 (d : Int)]) :
    miRound.wp Tryz.prog (Exit.then (fun _ _ => False) (MInD W1 l va vo n k kk b9 vs bl bl f d)) ⟨miFrame l va vo n k kk b9 vs bl bl J, []⟩ w := by
  have HU := Lib.hid hU
  have HB := Lib.hid hB
  clear hU hB
  unfold miRound msIn msRound msLoop msText
  simp only [Tryz.f70, Option.getD_some, fstOf, sndOf, inOf]
  unfold miFrame
  go_wp2
  exact ⟨rfl, frame_ex (F := miFrame _ va vo n k kk b9 vs bl bl) (by rfl) ⟨HU.out, HB.out⟩⟩
set_option maxRecDepth 100000 in
set_option maxHeartbeats 1000000 in
theorem mi_one {b off c : Nat} {x : Nat × Nat} (hj : j < bl) (hbl : bl ≤ 8) (h9 : W1.heap.size ≤ b9) (J : Nat → Value) (w : World) (hU : Under W1 w) (hB : BoxAt w b9 117 #[.int .i64 (f : Int), .int .i64 (d : Int)])
    (hx2 : x.2 ≤ 4000) (hb : b < W1.heap.size) (c0 : W1.cell? ⟨b, off + j * 2, none⟩ = some (.int .i64 (x.1 : Int))) (c1 : W1.cell? ⟨b, off + j * 2 + 1, none⟩ = some (.int .i64 (x.2 : Int))) :
    miRound.wp Tryz.prog (Exit.then (MIn W1 l va vo n k kk b9 (.slice (some ⟨b, off, none⟩) bl c) bl (j + 1) (if j = 0 then x.1 else f) (max d (x.2 + 1))) (fun _ _ _ => False)) ⟨miFrame l va vo n k kk b9 (.slice (some ⟨b, off, none⟩) bl c) bl j J, []⟩ w := by
  rw [← under_cell hU hb] at c0 c1
  have hb' := Nat.lt_of_lt_of_le hb hU.size
  have e0 := hB.cell 0
  have e1 := hB.cell 1
  have f0 := hB.free 0
  have f1 := hB.free 1
  have h9' := hB.lt
  have hj' : (j : Int) < bl := by omega
  have hj1 : (0 : Int) ≤ j := Int.natCast_nonneg _
  have hj2 : (j : Int) ≤ 8 := by omega
  have hx3 : (x.2 : Int) ≤ 4000 := by omega
  have hx4 : (0 : Int) ≤ x.2 := Int.natCast_nonneg _
  have HU := Lib.hid hU
  have HB := Lib.hid hB
  clear hU hB
  by_cases hz : j = 0
  · rw [if_pos hz]
    subst hz
    rw [Nat.zero_mul, Nat.add_zero] at c0 c1
    unfold miRound msIn msRound msLoop msText
    simp only [Tryz.f70, Option.getD_some, fstOf, sndOf, inOf]
    unfold miFrame
    go_wp2
    all_goals exact frame_ex (F := miFrame _ va vo n k kk b9 _ bl (0 + 1)) (by rfl) ⟨under_alloc (under_set (under_set HU.out h9 _ _) h9 _ _) _, (box2 ((HB.out.set _ _).set _ _) (by omega)).alloc _⟩
  · rw [if_neg hz]
    have hz' : (0 : Int) < j := by omega
    clear hz
    unfold miRound msIn msRound msLoop msText
    simp only [Tryz.f70, Option.getD_some, fstOf, sndOf, inOf]
    unfold miFrame
    go_wp2
    all_goals exact frame_ex (F := miFrame _ va vo n k kk b9 _ bl (j + 1)) (by rfl) ⟨under_alloc (under_set HU.out h9 _ _) _, (box2 (HB.out.set _ _) (by omega)).alloc _⟩
/-- How deep, when so many parts have been seen. -/
def deepTo (l : List (Nat × Nat)) (j : Nat) : Nat := (l.take j).foldl (fun d x => max d (x.2 + 1)) 1
theorem deepTo_succ {l : List (Nat × Nat)} {j : Nat} {x : Nat × Nat} (h : l[j]? = some x) : deepTo l (j + 1) = max (deepTo l j) (x.2 + 1) := by
  obtain ⟨hj, rfl⟩ := List.getElem?_eq_some_iff.1 h
  unfold deepTo
  rw [List.take_succ_eq_append_getElem hj, List.foldl_append]
  rfl
theorem mi_rounds (ls : List (Nat × Nat)) {p : Option Addr} {c i : Nat} (hbl : ls.length ≤ 8) (h9 : W1.heap.size ≤ b9) (hx : ∀ x ∈ ls, x.2 ≤ 4000) (hp : RowArg W1 p (measCells ls)) (m : Nat) (a : Act) (w : World)
    (h0 : ∃ j, m + j = ls.length ∧ MIn W1 l va vo n k kk b9 (.slice p ls.length c) ls.length j (if j = 0 then i else (ls.headD (i, 0)).1) (deepTo ls j) a w) :
    (Code.loop miRound).wp Tryz.prog (MInD W1 l va vo n k kk b9 (.slice p ls.length c) ls.length ls.length (meas i ls).1 (meas i ls).2) a w := by
  refine wp_loop_ghost (fun m a w => ∃ j, m + j = ls.length ∧ MIn W1 l va vo n k kk b9 (.slice p ls.length c) ls.length j (if j = 0 then i else (ls.headD (i, 0)).1) (deepTo ls j) a w) m h0 ?_
  clear h0
  rintro m a w ⟨j, hmj, J, rfl, hU, hB⟩
  by_cases hjn : j = ls.length
  · subst hjn
    have e1 : (if ls.length = 0 then i else (ls.headD (i, 0)).1) = (meas i ls).1 := by cases ls <;> simp [meas]
    have e2 : deepTo ls ls.length = (meas i ls).2 := by unfold deepTo meas; rw [List.take_length]
    rw [e1, e2] at hB
    refine wp_mono (mi_done J w hU hB) ?_
    rintro e a' w' h
    cases e with
    | normal => exact h.elim
    | _ => exact h
  have hlt : j < ls.length := by omega
  obtain ⟨b, off, rfl, hb, hc⟩ := hp (fun e => by have := congrArg List.length e; rw [measCells_len, List.length_nil] at this; omega)
  obtain ⟨c0, c1⟩ := measCells_at (List.getElem?_eq_getElem hlt)
  refine wp_mono (mi_one hlt hbl h9 J w hU hB (hx _ (List.getElem_mem hlt)) hb (hc _ _ c0) (hc _ _ c1)) ?_
  rintro e a' w' h
  cases e with
  | normal =>
    refine ⟨m - 1, by omega, j + 1, by omega, ?_⟩
    rw [deepTo_succ (List.getElem?_eq_getElem hlt), if_neg (by omega)]
    have e1 : (ls.headD (i, 0)).1 = if j = 0 then ls[j].1 else (if j = 0 then i else (ls.headD (i, 0)).1) := by
      by_cases hz : j = 0
      · subst hz
        rw [if_pos rfl]
        cases ls with
        | nil => simp at hlt
        | cons x ls => rfl
      · rw [if_neg hz, if_neg hz]
    rw [e1]
    exact h
  | _ => exact h.elim
end
end Go.Proofs.YtiibknlpeodejaaGreatDoor

/- term.measured: the outer rounds. -/
namespace Go.Proofs.YtiibknlpeodejaaGreatDoor
open Go.Lx Go.RowKit

section
variable {w0 : World} {t : List Nd} {b off c n k : Nat} {va vo : Value} {all op : List (Nat × Nat)}
def MNext (w0 : World) (t : List Nd) (l : Value) (n k : Nat) (a : Act) (w : World) : Prop := ∃ va vo all op J, a = ⟨msFrame l va vo n k J, []⟩ ∧ MI w0 t va vo k all op w
def msEnd (v : Value) (b : Bool) (J : Nat → Value) : Array Value := #[J 0, J 1, v, .bool b, J 4, J 5, J 6, J 7, J 8, J 9, J 10, J 11, J 12, J 13, J 14, J 15, J 16, J 17, J 18, J 19, J 20, J 21, J 22, J 23, J 24, J 25, J 26, J 27, J 28, J 29, J 30, J 31, J 32, J 33, J 34, J 35, J 36, J 37, J 38, J 39, J 40, J 41, J 42, J 43, J 44, J 45, J 46, J 47, J 48, J 49, J 50, J 51, J 52, J 53, J 54, J 55, J 56, J 57, J 58, J 59, J 60, J 61, J 62, J 63, J 64, J 65, J 66, J 67, J 68, J 69, J 70, J 71, J 72]
def MBad (w0 : World) (e : Exit) (a : Act) (w : World) : Prop := e = .ret ∧ ∃ J, a = ⟨msEnd (.slice none 0 0) false J, []⟩ ∧ Under w0 w
set_option maxRecDepth 100000 in
set_option maxHeartbeats 1000000 in
theorem ms_bad {x : Nd} (hk : k < n) (hn : n ≤ 4000) (hx : t[k]? = some x) (hbad : rightB x = false ∨ op.length < (binds x).length) (J : Nat → Value) (w : World) (hM : MI w0 t va vo k all op w)
    (hR : ∀ w1, Under w0 w1 → Calls Tryz.prog 58 #[ndV x] w1 fun e w' => e = .returned (.bool (rightB x)) ∧ Under w1 w')
    (hN : rightB x = true → ∀ w1, Under w0 w1 → Calls Tryz.prog 60 #[ndV x] w1 fun e w' => e = .returned (.int .i64 ((binds x).length : Nat)) ∧ Under w1 w')
    (hb : b < w0.heap.size) (c0 : w0.cell? ⟨b, off + k * 4, none⟩ = some (.int .i64 x.k)) (c1 : w0.cell? ⟨b, off + k * 4 + 1, none⟩ = some (.int .i64 x.n)) (c2 : w0.cell? ⟨b, off + k * 4 + 2, none⟩ = some (.int .i64 x.m)) (c3 : w0.cell? ⟨b, off + k * 4 + 3, none⟩ = some (.string x.s)) :
    msRound.wp Tryz.prog (Exit.then (fun _ _ => False) (MBad w0)) ⟨msFrame (.slice (some ⟨b, off, none⟩) n c) va vo n k J, []⟩ w := by
  rw [← under_cell hM.low hb] at c0 c1 c2 c3
  have hb' := Nat.lt_of_lt_of_le hb hM.low.size
  obtain ⟨q, co, rfl, _, _⟩ := RowArg.of_own hM.op_
  have HB := Lib.hid (box_new w #[.int .i64 x.k, .int .i64 x.n, .int .i64 x.m, .string x.s] 38)
  have HU := Lib.hid (under_alloc hM.low (.cells #[.int .i64 x.k, .int .i64 x.n, .int .i64 x.m, .string x.s] 38))
  have HC := Lib.hid (hR _ HU.out)
  have hk' : (k : Int) < n := by omega
  have hk0 : (0 : Int) ≤ k := Int.natCast_nonneg _
  have hol : op.length ≤ 4000 := by have := hM.ol; omega
  clear hM hR hk hx
  by_cases hr : rightB x = true
  · have hl : op.length < (binds x).length := by rcases hbad with h | h; · rw [hr] at h; cases h
                                                 · exact h
    have hl' : (op.length : Int) < ((binds x).length : Nat) := by omega
    have HN := Lib.hid (hN hr)
    rw [hr] at HC
    clear hbad hl hr hN
    unfold msRound msLoop msText
    simp only [Tryz.f70, Option.getD_some, fstOf, sndOf, inOf]
    unfold msFrame
    go_wp2_with fail
    refine HC.out.mono ?_
    rintro e w1 ⟨rfl, hU1⟩
    have hB1 := HB.out.under hU1
    have e0 := hB1.cell 0
    have e1 := hB1.cell 1
    have e2 := hB1.cell 2
    have e3 := hB1.cell 3
    have hlt1 := hB1.lt
    have HU1 := Lib.hid hU1
    have HM1 := Lib.hid (HN.out w1 (HU.out.trans hU1))
    clear hU1 hB1
    go_wp2_with fail
    refine HM1.out.mono ?_
    rintro e w2 ⟨rfl, hU2⟩
    have HU2 := Lib.hid hU2
    clear hU2 e0 e1 e2 e3
    go_wp2
    exact ⟨rfl, frame_ex (F := msEnd _ false) (by rfl) ((HU.out.trans HU1.out).trans HU2.out)⟩
  · have hr' : rightB x = false := by simpa using hr
    rw [hr'] at HC
    clear hbad hr hr' hN
    unfold msRound msLoop msText
    simp only [Tryz.f70, Option.getD_some, fstOf, sndOf, inOf]
    unfold msFrame
    go_wp2_with fail
    refine HC.out.mono ?_
    rintro e w1 ⟨rfl, hU1⟩
    have HU1 := Lib.hid hU1
    clear hU1
    go_wp2
    exact ⟨rfl, frame_ex (F := msEnd _ false) (by rfl) (HU.out.trans HU1.out)⟩
def MDone (w0 : World) (t : List Nd) (l : Value) (n : Nat) (e : Exit) (a : Act) (w : World) : Prop := e = .exit 0 ∧ MNext w0 t l n n a w
set_option maxRecDepth 100000 in
theorem ms_done {l : Value} (J : Nat → Value) (w : World) (hM : MI w0 t va vo n all op w) :
    msRound.wp Tryz.prog (Exit.then (fun _ _ => False) (MDone w0 t l n)) ⟨msFrame l va vo n n J, []⟩ w := by
  have HM := Lib.hid hM
  clear hM
  unfold msRound msLoop msText
  simp only [Tryz.f70, Option.getD_some, fstOf, sndOf, inOf]
  unfold msFrame
  go_wp2
  exact ⟨rfl, va, vo, all, op, frame_ex (F := msFrame _ va vo n n) (by rfl) HM.out⟩
end
end Go.Proofs.YtiibknlpeodejaaGreatDoor
