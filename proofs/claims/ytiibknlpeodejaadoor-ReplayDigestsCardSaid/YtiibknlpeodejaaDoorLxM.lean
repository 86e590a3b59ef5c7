/- General texts, part M: for any program. -/
import Derived.Below
import Derived.OwnWalk
import Derived.Maps.AppendAt
import Derived.Deep.Draws
import Derived.RangeFuncNested
import Derived.RangeFuncLeaves
import Derived.OwnWalkIn
import Derived.MapKept
import Derived.Laws.AppendOwnNone
import Derived.Deep.Slices
import Derived.Deep.Fields
import Derived.WideKeyArgs
import Derived.OpenShut
set_option linter.unusedSimpArgs false
set_option linter.unusedVariables false
/- What lies in memory and is read: rows of cells, rows of rows; a world that has grown. -/
set_option linter.unusedVariables false
set_option linter.unusedSimpArgs false
namespace Go.Lx
open Go.RowKit

theorem alloc_heap (w : World) (o : Obj) : (w.alloc o).heap = w.heap.push o := rfl

theorem heap_set (w : World) (a : Addr) (v : Value) (b : Nat) (hb : b ≠ a.block) : (w.setCell a v).heap[b]? = w.heap[b]? := by
  simp only [World.setCell]
  rw [Array.getElem?_modify]
  simp [Ne.symm hb]

theorem heap_set_same (w : World) {b i : Nat} {cs : Array Value} {ty : TypeId} {fz : Nat × Nat} (h : w.heap[b]? = some (.cells cs ty fz)) (v : Value) :
    (w.setCell ⟨b, i, none⟩ v).heap[b]? = some (.cells (cs.setIfInBounds i v) ty fz) := by
  simp only [World.setCell]
  rw [Array.getElem?_modify]
  simp [h]

theorem set_size (w : World) (a : Addr) (v : Value) : (w.setCell a v).heap.size = w.heap.size := by simp [World.setCell]
theorem add_at (b j : Nat) : (⟨b, 0, none⟩ : Addr).add j = ⟨b, j, none⟩ := by unfold Addr.add; split <;> simp_all

section
variable {w w' : World} {base : Nat} {e : TypeId} {size n : Nat} {v : Value} {xs : List Value}

theorem row_block (h : w.ownsRow base e size v n xs) (hn : 0 < n) : ∃ g cap, v = .slice (some ⟨g, 0, none⟩) n cap ∧ v.ownBlock = some g ∧ base ≤ g ∧ g < w.heap.size ∧ n ≤ cap ∧ cap ≤ maxLen := by
  rcases h.2 with ⟨_, h0⟩ | ⟨g, cap, cur, rfl, hb, hg, h1, h2, _⟩
  · omega
  · exact ⟨g, cap, rfl, rfl, hb, (Array.getElem?_eq_some_iff.1 hg).1, h1, h2⟩

theorem row_cell (h : w.ownsRow base e size v n xs) {g : Nat} (hg : v.ownBlock = some g) {j : Nat} {u : Value} (hu : xs[j]? = some u) : w.cell? ⟨g, j, none⟩ = some u := by
  have := h.cells hg j u hu
  rwa [add_at] at this

theorem row_free (h : w.ownsRow base e size v n xs) {g : Nat} (hg : v.ownBlock = some g) (j : Nat) : w.frozen? ⟨g, j, none⟩ = false := by
  rcases h.2 with ⟨rfl, _⟩ | ⟨g', cap, cur, rfl, _, hgg, _⟩
  · cases hg
  · cases hg
    simp [World.frozen?, hgg]

theorem row_set (h : w.ownsRow base e size v n xs) {g : Nat} (hg : v.ownBlock = some g) {j : Nat} (hj : j < xs.length) (u : Value) : (w.setCell ⟨g, j, none⟩ u).ownsRow base e size v n (xs.set j u) := by
  rcases h.2 with ⟨rfl, _⟩ | ⟨g', cap, cur, rfl, hb, hgg, h1, h2, h3, h4⟩
  · cases hg
  · cases hg
    refine ⟨by rw [List.length_set]; exact h.1, .inr ⟨_, cap, cur.setIfInBounds j u, rfl, hb, heap_set_same w hgg u, h1, h2, by rw [Array.size_setIfInBounds]; exact h3, ?_⟩⟩
    rw [Array.toList_setIfInBounds, List.take_set, h4]

theorem row_other (h : w.ownsRow base e size v n xs) {b : Nat} (hg : v.ownBlock ≠ some b) (j : Nat) (u : Value) : (w.setCell ⟨b, j, none⟩ u).ownsRow base e size v n xs := by
  refine ⟨h.1, ?_⟩
  rcases h.2 with hn | ⟨g, cap, cur, rfl, hb, hgg, rest⟩
  · exact .inl hn
  · refine .inr ⟨g, cap, cur, rfl, hb, ?_, rest⟩
    rw [heap_set w _ u g (fun e => hg (by simp [Value.ownBlock, e]))]
    exact hgg

theorem row_cut {g cap : Nat} (h : w.ownsRow base e size (.slice (some ⟨g, 0, none⟩) n cap) n xs) {m : Nat} (hm : m ≤ n) : w.ownsRow base e size (.slice (some ⟨g, 0, none⟩) m cap) m (xs.take (m * size)) := by
  have hle : m * size ≤ n * size := Nat.mul_le_mul_right _ hm
  rcases h.2 with ⟨h0, _⟩ | ⟨g', cap', cur, hv, hb, hgg, h1, h2, h3, h4⟩
  · cases h0
  · cases hv
    refine ⟨by rw [List.length_take, h.1]; omega, .inr ⟨g, cap, cur, rfl, hb, hgg, by omega, h2, h3, ?_⟩⟩
    rw [← h4, List.take_take, Nat.min_eq_left hle]

theorem row_grown {row : Option Nat} (h : w.ownsRow base e size v n xs) (hg : w.grownBy w' row) (hne : v.ownBlock = none ∨ v.ownBlock ≠ row) : w'.ownsRow base e size v n xs := h.kept hg hne

end

def fstOf : Code → Code
  | .seq a _ => a
  | c => c
def sndOf : Code → Code
  | .seq _ b => b
  | c => c
def inOf : Code → Code
  | .block _ c => c
  | .loop c => c
  | .scope c => c
  | c => c
theorem frame_ex {df : List Deferred} {A : Array Value} {F : (Nat → Value) → Array Value} {Pr : Prop} (h : A = F fun n => A.getD n undef) (hp : Pr) : ∃ J' : Nat → Value, (⟨A, df⟩ : Act) = ⟨F J', df⟩ ∧ Pr := ⟨_, by rw [← h], hp⟩

/-- What lies in memory as before, and more. -/
structure Under (W w : World) : Prop where
  os : w.os = W.os
  output : w.output = W.output
  size : W.heap.size ≤ w.heap.size
  low : ∀ b, b < W.heap.size → w.heap[b]? = W.heap[b]?

section
variable {W w w' : World}
theorem Under.refl (a : World) : Under a a := ⟨rfl, rfl, Nat.le_refl _, fun _ _ => rfl⟩
theorem Under.trans {a b c : World} (h : Under a b) (k : Under b c) : Under a c := ⟨k.os.trans h.os, k.output.trans h.output, Nat.le_trans h.size k.size, fun i hi => (k.low i (Nat.lt_of_lt_of_le hi h.size)).trans (h.low i hi)⟩
theorem under_alloc (h : Under W w) (x : Obj) : Under W (w.alloc x) :=
  ⟨h.os, h.output, by have := h.size; rw [alloc_heap, Array.size_push]; omega, fun b hb => by
    rw [alloc_heap, Array.getElem?_push_lt (Nat.lt_of_lt_of_le hb h.size), ← Array.getElem?_eq_getElem]; exact h.low b hb⟩
theorem under_set (h : Under W w) {g : Nat} (hg : W.heap.size ≤ g) (j : Nat) (u : Value) : Under W (w.setCell ⟨g, j, none⟩ u) :=
  ⟨h.os, h.output, by rw [set_size]; exact h.size, fun b hb => by rw [heap_set w _ u b (by show b ≠ g; omega)]; exact h.low b hb⟩
theorem under_grown {row : Option Nat} (h : Under W w) (hg : w.grownBy w' row) (hr : ∀ g, row = some g → W.heap.size ≤ g) : Under W w' :=
  ⟨hg.os.trans h.os, hg.output.trans h.output, Nat.le_trans h.size hg.size, fun b hb => (hg.block b (Nat.lt_of_lt_of_le hb h.size) (fun e => by have := hr b e.symm; omega)).trans (h.low b hb)⟩
theorem under_drewN (h : Under W w) (n : Nat) : Under W (w.drewN n) := ⟨h.os, h.output, h.size, h.low⟩
theorem under_drew (h : Under W w) : Under W w.drew := ⟨h.os, h.output, h.size, h.low⟩
theorem under_below (h : Below w.heap.size w w') : Under w w' := ⟨h.os, h.output, h.size, fun b hb => h.block b hb⟩
theorem under_cell (h : Under W w) {b : Nat} (hb : b < W.heap.size) (j : Nat) : w.cell? ⟨b, j, none⟩ = W.cell? ⟨b, j, none⟩ := by simp only [World.cell?, h.low b hb]
theorem grown_cell {row : Option Nat} (h : w.grownBy w' row) {b : Nat} (hb : b < w.heap.size) (hr : some b ≠ row) (j : Nat) : w'.cell? ⟨b, j, none⟩ = w.cell? ⟨b, j, none⟩ := by simp only [World.cell?, h.block b hb hr]
theorem grown_frozen {row : Option Nat} (h : w.grownBy w' row) {b : Nat} (hb : b < w.heap.size) (hr : some b ≠ row) (j : Nat) : w'.frozen? ⟨b, j, none⟩ = w.frozen? ⟨b, j, none⟩ := by simp only [World.frozen?, h.block b hb hr]
theorem row_lt {base : Nat} {e : TypeId} {size n : Nat} {v : Value} {xs : List Value} (h : w.ownsRow base e size v n xs) {g : Nat} (hg : v.ownBlock = some g) : base ≤ g ∧ g < w.heap.size := by
  rcases h.2 with ⟨rfl, _⟩ | ⟨g', cap, cur, rfl, hb, hgg, _⟩
  · cases hg
  · cases hg; exact ⟨hb, (Array.getElem?_eq_some_iff.1 hgg).1⟩
theorem own_ne {base base' : Nat} {e e' : TypeId} {s s' n n' : Nat} {v v' : Value} {xs xs' : List Value} (h : w.ownsRow base e s v n xs) (h' : w.ownsRow base' e' s' v' n' xs') (hne : e ≠ e') : v.ownBlock = none ∨ v.ownBlock ≠ v'.ownBlock := by
  rcases h.2 with ⟨rfl, _⟩ | ⟨g, c, cur, rfl, _, hg, _⟩
  · exact .inl rfl
  · right
    rcases h'.2 with ⟨rfl, _⟩ | ⟨g', c', cur', rfl, _, hg', _⟩
    · simp [Value.ownBlock]
    · intro e0
      obtain rfl : g = g' := by simpa [Value.ownBlock] using e0
      rw [hg] at hg'
      cases hg'
      exact hne rfl
theorem row_base {base base' : Nat} {e : TypeId} {s n : Nat} {v : Value} {xs : List Value} (h : w.ownsRow base e s v n xs) (hb : base' ≤ base) : w.ownsRow base' e s v n xs := by
  refine ⟨h.1, ?_⟩
  rcases h.2 with hn | ⟨g, cap, cur, rfl, hb', rest⟩
  · exact .inl hn
  · exact .inr ⟨g, cap, cur, rfl, Nat.le_trans hb hb', rest⟩
theorem row_under {base : Nat} {e : TypeId} {s n : Nat} {v : Value} {xs : List Value} (h : w.ownsRow base e s v n xs) (hU : Under w w') : w'.ownsRow base e s v n xs := by
  refine ⟨h.1, ?_⟩
  rcases h.2 with hn | ⟨g, cap, cur, rfl, hb, hgg, rest⟩
  · exact .inl hn
  · exact .inr ⟨g, cap, cur, rfl, hb, by rw [hU.low g (Array.getElem?_eq_some_iff.1 hgg).1]; exact hgg, rest⟩
end
theorem add_off (b off j : Nat) : (⟨b, off, none⟩ : Addr).add j = ⟨b, off + j, none⟩ := by unfold Addr.add; split <;> simp_all

/-! ### Boxes -/
/-- A block of one's own, word for word. -/
def BoxAt (w : World) (b : Nat) (t : TypeId) (cs : Array Value) : Prop := w.heap[b]? = some (.cells cs t (0, 0))
theorem box_new (w : World) (cs : Array Value) (t : TypeId) : BoxAt (w.alloc (.cells cs t)) w.heap.size t cs := by simp [BoxAt, alloc_heap]
section
variable {w w' : World} {b : Nat} {t : TypeId} {cs : Array Value}
theorem BoxAt.lt (h : BoxAt w b t cs) : b < w.heap.size := (Array.getElem?_eq_some_iff.1 h).1
theorem BoxAt.cell (h : BoxAt w b t cs) (j : Nat) : w.cell? ⟨b, j, none⟩ = cs[j]? := by
  unfold BoxAt at h
  simp [World.cell?, h]
theorem BoxAt.free (h : BoxAt w b t cs) (j : Nat) : w.frozen? ⟨b, j, none⟩ = false := by
  unfold BoxAt at h
  simp [World.frozen?, h]
theorem BoxAt.set (h : BoxAt w b t cs) (j : Nat) (u : Value) : BoxAt (w.setCell ⟨b, j, none⟩ u) b t (cs.setIfInBounds j u) := heap_set_same w h u
theorem BoxAt.other (h : BoxAt w b t cs) {g : Nat} (hg : b ≠ g) (j : Nat) (u : Value) : BoxAt (w.setCell ⟨g, j, none⟩ u) b t cs := by
  unfold BoxAt; rw [heap_set w _ u b hg]; exact h
theorem BoxAt.alloc (h : BoxAt w b t cs) (o : Obj) : BoxAt (w.alloc o) b t cs := by
  have hb := h.lt
  unfold BoxAt; rw [alloc_heap, Array.getElem?_push_lt hb, ← Array.getElem?_eq_getElem]; exact h
theorem BoxAt.under (h : BoxAt w b t cs) (hU : Under w w') : BoxAt w' b t cs := (hU.low b h.lt).trans h
theorem BoxAt.drew (h : BoxAt w b t cs) : BoxAt w.drew b t cs := h
theorem BoxAt.grown {row : Option Nat} (h : BoxAt w b t cs) (hg : w.grownBy w' row) (hr : some b ≠ row) : BoxAt w' b t cs := (hg.block b h.lt hr).trans h
end

/-! ### Cells that are read -/
/-- Cells that lie in a block from a place on. -/
def CellsAt (w : World) (b off : Nat) (cs : List Value) : Prop := ∀ (j : Nat) u, cs[j]? = some u → w.cell? ⟨b, off + j, none⟩ = some u
/-- A slice's cells, as they are read. -/
def RowArg (w : World) (p : Option Addr) (cs : List Value) : Prop := cs ≠ [] → ∃ b off, p = some ⟨b, off, none⟩ ∧ b < w.heap.size ∧ CellsAt w b off cs
section
variable {w w' : World} {b off : Nat} {p : Option Addr} {cs ds : List Value}
theorem CellsAt.under (h : CellsAt w b off cs) (hb : b < w.heap.size) (hU : Under w w') : CellsAt w' b off cs := fun j u hj => (under_cell hU hb _).trans (h j u hj)
theorem RowArg.under (h : RowArg w p cs) (hU : Under w w') : RowArg w' p cs := fun hne => by
  obtain ⟨b, off, e, hb, hc⟩ := h hne
  exact ⟨b, off, e, Nat.lt_of_lt_of_le hb hU.size, hc.under hb hU⟩
theorem arg_new (w : World) (cs : List Value) (t : TypeId) (c : Nat × Nat) : RowArg (w.alloc (.cells cs.toArray t c)) (some ⟨w.heap.size, 0, none⟩) cs :=
  fun _ => ⟨_, 0, rfl, by simp, fun j u hj => by rw [Nat.zero_add]; simp only [World.cell?, alloc_heap, Array.getElem?_push_size]; simp [hj]⟩
theorem RowArg.nil : RowArg w p [] := fun h => absurd rfl h
theorem RowArg.of_own {base : Nat} {e : TypeId} {s n : Nat} {v : Value} (h : w.ownsRow base e s v n cs) : ∃ q c, v = .slice q n c ∧ n ≤ c ∧ RowArg w q cs := by
  rcases h.2 with ⟨rfl, h0⟩ | ⟨g, cap, cur, rfl, _, hg, h1, h2, _⟩
  · subst h0; exact ⟨none, 0, rfl, Nat.le_refl _, fun hne => absurd (List.eq_nil_of_length_eq_zero (by rw [h.1]; omega)) hne⟩
  · exact ⟨_, cap, rfl, h1, fun _ => ⟨g, 0, rfl, (Array.getElem?_eq_some_iff.1 hg).1, fun j u hj => by rw [Nat.zero_add]; exact row_cell h rfl hj⟩⟩
theorem CellsAt.app (h : CellsAt w b off (cs ++ ds)) : CellsAt w b off cs ∧ CellsAt w b (off + cs.length) ds :=
  ⟨fun j u hj => h j u (by rw [List.getElem?_append_left (List.getElem?_eq_some_iff.1 hj).1]; exact hj),
   fun j u hj => by rw [Nat.add_assoc]; exact h _ u (by rw [List.getElem?_append_right (by omega), Nat.add_sub_cancel_left]; exact hj)⟩
end
end Go.Lx

/- Terms, plainly: nodes, names, shapes, what is right, what is a term. -/
namespace Go.Lx

/-- A node: its kind, its numbers, its name. -/
structure Nd where
  k : Int
  n : Int
  m : Int
  s : ByteArray
deriving DecidableEq

def ndCell (x : Nd) : List Value := [.int .i64 x.k, .int .i64 x.n, .int .i64 x.m, .string x.s]
def ndCells : List Nd → List Value
  | [] => []
  | x :: l => .int .i64 x.k :: .int .i64 x.n :: .int .i64 x.m :: .string x.s :: ndCells l
def ndV (x : Nd) : Value := .agg #[.int .i64 x.k, .int .i64 x.n, .int .i64 x.m, .string x.s]
theorem ndCells_app (l r : List Nd) : ndCells (l ++ r) = ndCells l ++ ndCells r := by
  induction l with
  | nil => rfl
  | cons x l ih => simp [ndCells, ih]
theorem ndCells_len (l : List Nd) : (ndCells l).length = l.length * 4 := by
  induction l with
  | nil => rfl
  | cons x l ih => simp [ndCells, ih]; omega
theorem ndCells_nil {l : List Nd} (h : ndCells l = []) : l = [] := by cases l with | nil => rfl | cons x l => simp [ndCells] at h
theorem ndCells_at : ∀ {l : List Nd} {k : Nat} {x : Nd}, l[k]? = some x → (ndCells l)[k * 4]? = some (.int .i64 x.k) ∧ (ndCells l)[k * 4 + 1]? = some (.int .i64 x.n) ∧ (ndCells l)[k * 4 + 2]? = some (.int .i64 x.m) ∧ (ndCells l)[k * 4 + 3]? = some (.string x.s)
  | y :: l, 0, x, h => by cases h; exact ⟨rfl, rfl, rfl, rfl⟩
  | y :: l, k + 1, x, h => by
    have := ndCells_at (l := l) (k := k) (x := x) (by simpa using h)
    rw [show (k + 1) * 4 = k * 4 + 4 by omega]
    exact this
theorem ndCells_drop (l : List Nd) (k : Nat) : ndCells (l.drop k) = (ndCells l).drop (k * 4) := by
  induction k generalizing l with
  | zero => simp
  | succ k ih => cases l with
    | nil => simp [ndCells]
    | cons x l => rw [List.drop_succ_cons, ih, show (k + 1) * 4 = k * 4 + 4 by omega]; rfl
theorem ndCells_take (l : List Nd) (k : Nat) : ndCells (l.take k) = (ndCells l).take (k * 4) := by
  induction k generalizing l with
  | zero => simp [ndCells]
  | succ k ih => cases l with
    | nil => simp [ndCells]
    | cons x l => rw [List.take_succ_cons, show (k + 1) * 4 = k * 4 + 4 by omega]; simp [ndCells, ih]
/-- A node of a slice of nodes. -/
theorem RowArg.node {w : World} {p : Option Addr} {l : List Nd} (h : RowArg w p (ndCells l)) {k : Nat} {x : Nd} (hk : l[k]? = some x) : ∃ b off, p = some ⟨b, off, none⟩ ∧ b < w.heap.size ∧
    w.cell? ⟨b, off + k * 4, none⟩ = some (.int .i64 x.k) ∧ w.cell? ⟨b, off + k * 4 + 1, none⟩ = some (.int .i64 x.n) ∧ w.cell? ⟨b, off + k * 4 + 2, none⟩ = some (.int .i64 x.m) ∧ w.cell? ⟨b, off + k * 4 + 3, none⟩ = some (.string x.s) := by
  obtain ⟨b, off, e, hb, hc⟩ := h (fun e => by rw [ndCells_nil e] at hk; simp at hk)
  obtain ⟨h0, h1, h2, h3⟩ := ndCells_at hk
  exact ⟨b, off, e, hb, hc _ _ h0, hc _ _ h1, hc _ _ h2, hc _ _ h3⟩

/-! ### Names -/
def lowC (c : UInt8) : Int := bits BinOp.or IntKind.u8 (c.toNat : Int) 32
/-- A letter, as the program asks. -/
def ltrB (c : UInt8) : Bool := decide (97 ≤ lowC c) && decide (lowC c ≤ 122) || (c.toNat : Int) == 95
def digB (c : UInt8) : Bool := !(decide ((c.toNat : Int) < 48)) && !(decide (57 < (c.toNat : Int)))
def okB (i : Nat) (c : UInt8) : Bool := ltrB c || (decide (i ≠ 0) && digB c)
def nameFrom : Nat → List UInt8 → Bool
  | _, [] => true
  | i, c :: r => okB i c && nameFrom (i + 1) r
/-- A name. -/
def nameB (s : ByteArray) : Bool := nameFrom 0 s.data.toList && (decide (s.size ≠ 0) && decide (s.size ≤ 16))

/-! ### Shapes -/
def bindsOf : Nat → List Nat
  | 3 => [0, 1]
  | 4 => [0, 1]
  | 5 => [0, 0]
  | 6 => [0, 1]
  | 7 => [0, 0, 0]
  | 8 => [0]
  | 9 => [0]
  | 12 => [0]
  | 13 => [1, 0, 2, 0]
  | 15 => [0, 0]
  | 18 => [0, 0, 0]
  | 19 => [0, 0]
  | 20 => [0, 0, 0, 0]
  | 21 => [0, 0, 1, 0, 0, 0]
  | 22 => [0, 2, 0, 0, 0]
  | 23 => [0, 0]
  | 24 => [0, 1, 0, 0]
  | 28 => [0]
  | _ => []
def fN (k : Nat) : Bool := [0, 2, 3, 6, 26].contains k
def fM (k : Nat) : Bool := [26, 27].contains k
def fS (k : Nat) : Bool := [1, 25, 26, 27].contains k
def intsN (l : List Nat) : List Value := l.map fun (n : Nat) => .int .i64 (n : Int)
/-- The table of shapes, as it lies in the variable. -/
structure ShapesAt (g : Nat) (W : World) : Prop where
  lt : g < W.heap.size
  row : ∀ k, k < 30 → ∃ p c, W.cell? ⟨g, k * 4, none⟩ = some (.slice p (bindsOf k).length c) ∧ (bindsOf k).length ≤ c ∧ RowArg W p (intsN (bindsOf k)) ∧
    W.cell? ⟨g, k * 4 + 1, none⟩ = some (.bool (fN k)) ∧ W.cell? ⟨g, k * 4 + 2, none⟩ = some (.bool (fM k)) ∧ W.cell? ⟨g, k * 4 + 3, none⟩ = some (.bool (fS k))
theorem ShapesAt.under {g : Nat} {W w : World} (h : ShapesAt g W) (hU : Under W w) : ShapesAt g w :=
  ⟨Nat.lt_of_lt_of_le h.lt hU.size, fun k hk => by
    obtain ⟨p, c, h0, h1, h2, h3, h4, h5⟩ := h.row k hk
    exact ⟨p, c, (under_cell hU h.lt _).trans h0, h1, h2.under hU, (under_cell hU h.lt _).trans h3, (under_cell hU h.lt _).trans h4, (under_cell hU h.lt _).trans h5⟩⟩
/-- The most that N may be. -/
def mostN (k : Int) : Int := if k = 0 then 99 else if k = 3 ∨ k = 6 then 3 else 5
/-- Are a node's fields right? -/
def rightB (x : Nd) : Bool :=
  if x.k < 0 ∨ 30 ≤ x.k then false
  else if fN x.k.toNat = false ∧ x.n ≠ 0 then false
  else if fM x.k.toNat = false ∧ x.m ≠ 0 then false
  else if fS x.k.toNat = false ∧ x.s.size ≠ 0 then false
  else if fS x.k.toNat = true ∧ nameB x.s = false then false
  else if x.k = 2 then decide (0 ≤ x.n) && decide (x.n ≤ 9)
  else if x.k = 26 then decide (0 ≤ x.n) && decide (x.n ≤ 5) && decide (0 ≤ x.m) && decide (x.m ≤ 6)
  else if x.k = 27 then decide (0 ≤ x.m) && decide (x.m ≤ 6)
  else !fN x.k.toNat || (decide (0 ≤ x.n) && decide (x.n ≤ mostN x.k))
/-- The binders of a node's parts, one for each. -/
def binds (x : Nd) : List Nat :=
  if x.k = 26 then List.replicate x.m.toNat 0 else if x.k = 27 then 1 :: List.replicate (x.m.toNat + 1) 0 else bindsOf x.k.toNat
theorem rightB_k {x : Nd} (h : rightB x = true) : 0 ≤ x.k ∧ x.k < 30 := by
  unfold rightB at h
  split at h
  · cases h
  · omega
theorem rightB_m {x : Nd} (h : rightB x = true) (hk : x.k = 26 ∨ x.k = 27) : 0 ≤ x.m ∧ x.m ≤ 6 := by
  unfold rightB at h
  rcases hk with hk | hk <;> simp [hk] at h <;> omega
theorem bindsOf_len (k : Nat) : (bindsOf k).length ≤ 6 := by
  unfold bindsOf; split <;> simp
theorem binds_len {x : Nd} (h : rightB x = true) : (binds x).length ≤ 8 := by
  unfold binds
  split
  · rw [List.length_replicate]; have := rightB_m h (.inl ‹_›); omega
  · split
    · rw [List.length_cons, List.length_replicate]; have := rightB_m h (.inr ‹_›); omega
    · have := bindsOf_len x.k.toNat; omega

/-! ### Terms -/
/-- What waits for a root: where it begins, how deep it is. -/
def meas (i : Nat) (l : List (Nat × Nat)) : Nat × Nat := ((l.headD (i, 0)).1, l.foldl (fun d x => max d (x.2 + 1)) 1)
/-- The measures of nodes, from the i-th on: all that have been made, those that are open. -/
def measGo : List Nd → Nat → List (Nat × Nat) → List (Nat × Nat) → Option (List (Nat × Nat) × List (Nat × Nat))
  | [], _, all, op => some (all, op)
  | x :: t, i, all, op => if rightB x = false ∨ op.length < (binds x).length then none else
    let m := meas i (op.drop (op.length - (binds x).length))
    measGo t (i + 1) (all ++ [m]) (op.take (op.length - (binds x).length) ++ [m])
/-- A term's error: 0 where it is one. -/
def checkE (t : List Nd) : Int :=
  if 4000 < t.length then 21 else
    match measGo t 0 [] [] with
    | none => 20
    | some (all, op) => if op.length ≠ 1 then 20 else if 60 < (all.getLastD (0, 0)).2 then 22 else 0
end Go.Lx

/- The nodes of a term from its root on, each under so many binders. -/
namespace Go.Lx

/-- The binders of a node, none where it is no node. -/
def bindsR (x : Nd) : List Nat := if rightB x then binds x else []
/-- The nodes below k, backwards, with what waits (the nearest first). -/
def nodesGo (t : List Nd) : Nat → List Nat → List (Nat × Nat)
  | k + 1, u :: st => match t[k]? with
    | some x => (k, u) :: nodesGo t k (((bindsR x).map (u + ·)).reverse ++ st)
    | none => []
  | _, _ => []
theorem nodesGo_succ {t : List Nd} {k u : Nat} {st : List Nat} {x : Nd} (hx : t[k]? = some x) : nodesGo t (k + 1) (u :: st) = (k, u) :: nodesGo t k (((bindsR x).map (u + ·)).reverse ++ st) := by
  simp [nodesGo, hx]
theorem bindsOf_le (k : Nat) : ∀ n ∈ bindsOf k, n ≤ 2 := by
  unfold bindsOf; split <;> simp
theorem bindsR_le {x : Nd} : ∀ n ∈ bindsR x, n ≤ 2 := by
  intro n hn
  unfold bindsR at hn
  split at hn
  · unfold binds at hn
    split at hn
    · rw [List.mem_replicate] at hn; omega
    · split at hn
      · rcases List.mem_cons.1 hn with h | h
        · omega
        · rw [List.mem_replicate] at h; omega
      · exact bindsOf_le _ n hn
  · simp at hn
theorem bindsR_len (x : Nd) : (bindsR x).length ≤ 8 := by
  unfold bindsR
  split
  · exact binds_len ‹_›
  · simp
/-- The nodes of a term. -/
def nodesOf (t : List Nd) : List (Nat × Nat) := nodesGo t t.length [0]

theorem measGo_app (a b : List Nd) : ∀ (k : Nat) (all op : List (Nat × Nat)), measGo (a ++ b) k all op = (measGo a k all op).bind fun r => measGo b (k + a.length) r.1 r.2 := by
  induction a with
  | nil => intro k all op; simp [measGo]
  | cons x a ih =>
    intro k all op
    simp only [List.cons_append, measGo]
    split
    · rfl
    · rw [ih, List.length_cons, show k + 1 + a.length = k + (a.length + 1) by omega]
theorem nodesGo_lt (t : List Nd) : ∀ (k : Nat) (st : List Nat), ∀ x ∈ nodesGo t k st, x.1 < k := by
  intro k
  induction k with
  | zero => intro st x hx; cases st <;> simp [nodesGo] at hx
  | succ k ih =>
    intro st x hx
    cases st with
    | nil => simp [nodesGo] at hx
    | cons u st =>
      simp only [nodesGo] at hx
      split at hx
      · rcases List.mem_cons.1 hx with h | h
        · rw [h]; exact Nat.lt_succ_self k
        · exact Nat.lt_succ_of_lt (ih _ x h)
      · simp at hx
theorem measGo_right : ∀ (t : List Nd) (k : Nat) (all op : List (Nat × Nat)) {r : List (Nat × Nat) × List (Nat × Nat)}, measGo t k all op = some r → ∀ x ∈ t, rightB x = true := by
  intro t
  induction t with
  | nil => intro k all op r h x hx; simp at hx
  | cons y t ih =>
    intro k all op r h x hx
    simp only [measGo] at h
    split at h
    · cases h
    · rename_i hn
      rcases List.mem_cons.1 hx with e | e
      · rw [e]
        cases hr : rightB y with
        | true => rfl
        | false => exact absurd (.inl hr) hn
      · exact ih _ _ _ h x e
theorem check_right {t : List Nd} (h : checkE t = 0) : ∀ x ∈ t, rightB x = true := by
  unfold checkE at h
  split at h
  · cases h
  · cases hm : measGo t 0 [] [] with
    | none => rw [hm] at h; cases h
    | some r => exact measGo_right t 0 [] [] hm
theorem rightB_var {x : Nd} (h : rightB x = true) (hk : x.k = 0) : 0 ≤ x.n ∧ x.n ≤ 99 := by
  unfold rightB at h
  simp [hk, fN, fM, fS, mostN] at h
  omega
/-- How many terms the first k nodes are. -/
def CntIs (t : List Nd) (k c : Nat) : Prop := ∃ all op, measGo (t.take k) 0 [] [] = some (all, op) ∧ op.length = c
theorem CntIs.zero (t : List Nd) : CntIs t 0 0 := ⟨[], [], by simp [measGo], rfl⟩
theorem CntIs.pred {t : List Nd} {k c : Nat} {x : Nd} (hx : t[k]? = some x) (h : CntIs t (k + 1) c) : ∃ c', CntIs t k c' ∧ rightB x = true ∧ (binds x).length ≤ c' ∧ c = c' - (binds x).length + 1 := by
  obtain ⟨all, op, hm, hc⟩ := h
  obtain ⟨hk, hxe⟩ := List.getElem?_eq_some_iff.1 hx
  rw [List.take_succ_eq_append_getElem hk, measGo_app, hxe] at hm
  cases hr : measGo (t.take k) 0 [] [] with
  | none => rw [hr] at hm; cases hm
  | some r =>
    rw [hr] at hm
    obtain ⟨a0, o0⟩ := r
    simp only [Option.bind_some, measGo] at hm
    split at hm
    · cases hm
    · rename_i hn
      have hr1 : rightB x = true := by cases h : rightB x with
        | true => rfl
        | false => exact absurd (.inl h) hn
      have hr2 : ¬ o0.length < (binds x).length := fun h => hn (.inr h)
      cases hm
      refine ⟨o0.length, ⟨a0, o0, hr, rfl⟩, hr1, by omega, ?_⟩
      rw [← hc, List.length_append, List.length_take, List.length_singleton]
      omega
theorem CntIs.pos {t : List Nd} {k c : Nat} (hk : k < t.length) (h : CntIs t (k + 1) c) : 1 ≤ c := by
  obtain ⟨c', _, _, _, rfl⟩ := h.pred (List.getElem?_eq_getElem hk)
  omega
theorem nodesGo_len (t : List Nd) : ∀ (k : Nat) (st : List Nat), k ≤ t.length → CntIs t k st.length → (nodesGo t k st).length = k := by
  intro k
  induction k with
  | zero => intro st _ _; cases st <;> rfl
  | succ k ih =>
    intro st hk h
    have hlt : k < t.length := by omega
    have hx := List.getElem?_eq_getElem hlt
    have h1 := h.pos hlt
    cases st with
    | nil => simp at h1
    | cons u st =>
      obtain ⟨c', hc', hr, hb, he⟩ := h.pred hx
      rw [nodesGo_succ hx, List.length_cons, ih _ (by omega)]
      rw [List.length_append, List.length_reverse, List.length_map]
      have : bindsR t[k] = binds t[k] := by unfold bindsR; rw [if_pos hr]
      rw [this]
      have hl : (u :: st).length = st.length + 1 := List.length_cons ..
      rw [show (binds t[k]).length + st.length = c' by omega]
      exact hc'
theorem nodes_len {t : List Nd} (h : checkE t = 0) : (nodesOf t).length = t.length ∧ t.length ≤ 4000 := by
  unfold checkE at h
  split at h
  · cases h
  · cases hm : measGo t 0 [] [] with
    | none => rw [hm] at h; cases h
    | some r =>
      rw [hm] at h
      obtain ⟨all, op⟩ := r
      simp only at h
      split at h
      · cases h
      · rename_i ho
        refine ⟨nodesGo_len t t.length [0] (Nat.le_refl _) ⟨all, op, by rw [List.take_length]; exact hm, ?_⟩, by omega⟩
        have : op.length = 1 := Decidable.not_not.1 ho
        simpa using this
end Go.Lx

/- A range over a function whose iterator keeps cells of its own: the iterator's word, and the caller's law. -/
set_option linter.unusedVariables false
set_option linter.unusedSimpArgs false
namespace Go.Lx
open Go.RowKit

/-- What lies in these blocks is as it was. -/
structure Kept (R : Nat → Prop) (b : Option Nat) (W W' : World) : Prop where
  os : W'.os = W.os
  output : W'.output = W.output
  size : W.heap.size ≤ W'.heap.size
  same : ∀ k, k < W.heap.size → (R k ∨ b = some k) → W'.heap[k]? = W.heap[k]?
/-- The iterator's own step: its block is turned, or it has a new one. -/
structure IStep (b b' : Option Nat) (W W' : World) : Prop where
  os : W'.os = W.os
  output : W'.output = W.output
  size : W.heap.size ≤ W'.heap.size
  block : ∀ k, k < W.heap.size → some k ≠ b → W'.heap[k]? = W.heap[k]?
  at_ : b' = b ∨ ∃ g, b' = some g ∧ W.heap.size ≤ g
theorem IStep.under {W W' : World} (h : Under W W') (b : Option Nat) : IStep b b W W' := ⟨h.os, h.output, h.size, fun k hk _ => h.low k hk, .inl rfl⟩
theorem IStep.alloc (W : World) (o : Obj) (b : Option Nat) : IStep b b W (W.alloc o) := IStep.under (under_alloc (Under.refl _) _) b
theorem IStep.grown {W W' : World} {b b' : Option Nat} (h : W.grownBy W' b) (hb : b' = b ∨ b' = some W.heap.size) : IStep b b' W W' :=
  ⟨h.os, h.output, h.size, h.block, by rcases hb with h | h; · exact .inl h
                                       · exact .inr ⟨_, h, Nat.le_refl _⟩⟩
theorem row_same {w w' : World} {base : Nat} {e : TypeId} {s n : Nat} {v : Value} {xs : List Value} (h : w.ownsRow base e s v n xs) (hb : ∀ g, v.ownBlock = some g → w'.heap[g]? = w.heap[g]?) : w'.ownsRow base e s v n xs := by
  refine ⟨h.1, ?_⟩
  rcases h.2 with hn | ⟨g, cap, cur, rfl, hb', hgg, rest⟩
  · exact .inl hn
  · exact .inr ⟨g, cap, cur, rfl, hb', by rw [hb g rfl]; exact hgg, rest⟩
theorem Kept.refl (R : Nat → Prop) (b : Option Nat) (W : World) : Kept R b W W := ⟨rfl, rfl, Nat.le_refl _, fun _ _ _ => rfl⟩
theorem Kept.trans {R : Nat → Prop} {b : Option Nat} {A B C : World} (h : Kept R b A B) (k : Kept R b B C) : Kept R b A C :=
  ⟨k.os.trans h.os, k.output.trans h.output, Nat.le_trans h.size k.size, fun i hi hr => (k.same i (Nat.lt_of_lt_of_le hi h.size) hr).trans (h.same i hi hr)⟩
theorem Kept.putObj {R : Nat → Prop} {b : Option Nat} {W : World} {l : Nat} (o : Obj) (hR : ¬ R l) (hb : b ≠ some l) : Kept R b W (W.putObj l o) :=
  ⟨rfl, rfl, by simp, fun k hk hr => World.putObj_heap_other fun e => by
    rcases hr with hr | hr
    · exact hR (e ▸ hr)
    · exact hb (e ▸ hr)⟩

/-- What lay below is as it was, where it is kept. -/
theorem Under.kept {W0 W W' : World} {R : Nat → Prop} {b : Option Nat} (h : Under W0 W) (hk : Kept R b W W') (hR : ∀ k, k < W0.heap.size → R k) : Under W0 W' :=
  ⟨hk.os.trans h.os, hk.output.trans h.output, Nat.le_trans h.size hk.size, fun k hlt => (hk.same k (Nat.lt_of_lt_of_le hlt h.size) (.inl (hR k hlt))).trans (h.low k hlt)⟩
theorem Kept.of_under {W W' : World} {R : Nat → Prop} {b : Option Nat} (h : Under W W') : Kept R b W W' := ⟨h.os, h.output, h.size, fun k hk _ => h.low k hk⟩

/-- One block is turned, the others are as they were. -/
structure Turned (r : Option Nat) (W W' : World) : Prop where
  os : W'.os = W.os
  output : W'.output = W.output
  size : W.heap.size ≤ W'.heap.size
  block : ∀ k, k < W.heap.size → some k ≠ r → W'.heap[k]? = W.heap[k]?
theorem Turned.refl (r : Option Nat) (W : World) : Turned r W W := ⟨rfl, rfl, Nat.le_refl _, fun _ _ _ => rfl⟩
theorem Turned.trans {r : Option Nat} {A B C : World} (h : Turned r A B) (k : Turned r B C) : Turned r A C :=
  ⟨k.os.trans h.os, k.output.trans h.output, Nat.le_trans h.size k.size, fun i hi hr => (k.block i (Nat.lt_of_lt_of_le hi h.size) hr).trans (h.block i hi hr)⟩
theorem Turned.of_under {r : Option Nat} {A B : World} (h : Under A B) : Turned r A B := ⟨h.os, h.output, h.size, fun k hk _ => h.low k hk⟩
theorem Turned.set (g j : Nat) (u : Value) (W : World) : Turned (some g) W (W.setCell ⟨g, j, none⟩ u) :=
  ⟨rfl, rfl, by rw [set_size]; exact Nat.le_refl _, fun k hk hr => heap_set W _ u k fun e => hr (congrArg some e)⟩
theorem Turned.under {W0 W W' : World} {g : Nat} (h : Turned (some g) W W') (h0 : Under W0 W) (hg : W0.heap.size ≤ g) : Under W0 W' :=
  ⟨h.os.trans h0.os, h.output.trans h0.output, Nat.le_trans h0.size h.size, fun k hk => (h.block k (Nat.lt_of_lt_of_le hk h0.size) fun e => by cases e; omega).trans (h0.low k hk)⟩
theorem BoxAt.turned {w w' : World} {b : Nat} {t : TypeId} {cs : Array Value} {r : Option Nat} (h : BoxAt w b t cs) (hT : Turned r w w') (hr : some b ≠ r) : BoxAt w' b t cs := (hT.block b h.lt hr).trans h

variable {F : Fence} {n : Nat} {P : Program}
/-- The iterator's word: it hands out these things, one by one. -/
def Iter {α : Type} (F : Fence) (n : Nat) (P : Program) (gf : Nat) (lb : Array Value) (encs : α → Array Value) (R : Nat → Prop) (xs : List α) (w : World) : Prop :=
  ∀ (l : Nat) (J : Option Nat → List α → World → Prop) (Jx : List α → World → Prop) (W : World), Under w W →
    (∀ b b' pre A A', J b pre A → IStep b b' A A' → J b' pre A') →
    (∀ b pre x A, J b pre A → pre ++ [x] <+: xs → YieldAt F (n - 1) P l (encs x) A fun e A' =>
      (e = .returned (.bool true) ∧ J b (pre ++ [x]) A' ∧ Kept R b A A') ∨ (e = .returned (.bool false) ∧ Jx (pre ++ [x]) A')) →
    J none [] W →
    CallsIn F n P gf (#[.func (.yield l) #[] #[]] ++ lb) W fun e W' => (∃ v, e = .returned v) ∧ ((∃ b, J b xs W') ∨ ∃ pre, Jx pre W')

/-- How a round may be left. -/
def iterPost {α : Type} (B : Nat) (R : Nat → Prop) (b : Option Nat) (I : Option Nat → List α → World → Prop) (Ix : Code → List α → World → Prop) (xs : List α) (W : World) : Exit → Act → World → Prop
  | .normal, _, W' => KeepsFrom B W W' ∧ Kept R b W W' ∧ I b xs W'
  | .ret, _, W' => KeepsFrom B W W' ∧ Ix .ret xs W'
  | .exit id, _, W' => KeepsFrom B W W' ∧ Ix (.exit id) xs W'
  | .goto t, _, W' => KeepsFrom B W W' ∧ Ix (.goto t) xs W'
  | .panic _, _, _ => False
  | .outgrown, _, _ => False

/-- The statement 'for .. := range g': what the caller owes is an invariant and one walk of its own body. -/
theorem wpIn_rangeFunc_iter {α : Type} {g : Operand} {ps : Array Tmp} {assign body : Code} {Q : Exit → Act → World → Prop} {a : Act} {w w0 : World}
    (hro : F.round = none) (h1 : 1 ≤ n) {gf : Nat} {lb : Array Value} (hg : a.eval g = .func (.func gf) #[] lb) (hFg : F.fn gf) (eg : ∀ args w, (callFunc gf args).run P w = .ok (.enter gf args) w)
    {encs : α → Array Value} {R : Nat → Prop} {xs : List α} (hit : Iter F (n - 1) P gf lb encs R xs w0) (hU : Under w0 w) (hps : ∀ x, (encs x).size = ps.size) (hR : ∀ k, R k → k < w.heap.size)
    (I : Option Nat → List α → World → Prop) (Ix : Code → List α → World → Prop)
    (hI : ∀ b b' pre A A', I b pre A → IStep b b' A A' → w.heap.size ≤ A.heap.size → (∀ g, b = some g → w.heap.size ≤ g) → I b' pre A')
    (hIo : ∀ b pre A l o o', I b pre A → w.heap.size ≤ l → A.heap[l]? = some o → o.isCells = false → I b pre (A.putObj l o'))
    (hIx : ∀ c pre A l o o', Ix c pre A → w.heap.size ≤ l → A.heap[l]? = some o → o.isCells = false → Ix c pre (A.putObj l o'))
    (h0 : I none [] w) (a₁ : α → Act)
    (hassign : ∀ (l : Nat) (x : α) (W : World) (K : Act → World → Prop), K (a₁ x) W →
      assign.wpIn (F.inRound l) (n - 1 - 1) P (Exit.then K (fun _ _ _ => False)) { tmps := (ps.zip (encs x)).foldl (fun t (p, v) => t.setIfInBounds p v) a.tmps, defers := [] } W)
    (hbody : ∀ (l : Nat) (b : Option Nat) (pre : List α) (x : α) (W : World), w.heap.size ≤ W.heap.size → (∀ g, b = some g → w.heap.size ≤ g) → I b pre W → pre ++ [x] <+: xs → body.wpIn (F.inRound l) (n - 1 - 1) P (iterPost w.heap.size R b I Ix (pre ++ [x]) W) (a₁ x) W)
    (hdone : ∀ (D : Nat) (b : Option Nat) (W : World), w.heap.size ≤ D → I b xs W → W.heap[D]? = some (.deferred (some [])) → Q .normal { a with defers := { target := .collected D, args := #[] } :: a.defers } W)
    (hstop : ∀ (D : Nat) (c : Code) (pre : List α) (W : World), w.heap.size ≤ D → Ix c pre W → W.heap[D]? = some (.deferred (some [])) → c.wpIn F n P Q { a with defers := { target := .collected D, args := #[] } :: a.defers } W) :
    (Code.rangeFunc g ps assign body).wpIn F n P Q a w := by
  refine wpIn_rangeFunc fun fn hfn => ?_
  rw [hro]
  obtain ⟨L, hL⟩ : ∃ L : LoopState → Option Code → Loop, L = fun st pe => { state := st, pending := pe, fn, tmps := a.tmps, params := ps, assign, body, defers := w.heap.size } := ⟨_, rfl⟩
  obtain ⟨W1, hW1⟩ : ∃ W1, W1 = (w.alloc (.deferred (some []))).alloc (.loop (L .ready none)) := ⟨_, rfl⟩
  have hz1 : W1.heap.size = w.heap.size + 2 := by rw [hW1]; simp
  have hU1 : Under w W1 := by rw [hW1]; exact under_alloc (under_alloc (Under.refl _) _) _
  have hl1 : W1.heap[w.heap.size + 1]? = some (.loop (L .ready none)) := by
    rw [hW1, alloc_heap]
    have : (w.alloc (.deferred (some []))).heap.size = w.heap.size + 1 := by simp
    rw [← this, Array.getElem?_push_size]
  have hd1 : W1.heap[w.heap.size]? = some (.deferred (some [])) := by
    rw [hW1, alloc_heap, Array.getElem?_push_lt (by simp), ← Array.getElem?_eq_getElem]
    show (w.heap.push _)[w.heap.size]? = _
    rw [Array.getElem?_push_size]
  have hI1 : I none [] W1 := by
    rw [hW1]
    exact hI none none _ _ _ (hI none none _ _ _ h0 (IStep.alloc w _ none) (Nat.le_refl _) (fun g e => by cases e)) (IStep.alloc _ _ none) (by simp) (fun g e => by cases e)
  refine ⟨w.heap.size + 1, [{ target := .collected w.heap.size, args := #[] }], W1, { target := .fn (.func gf) lb, args := #[.func (.yield (w.heap.size + 1)) #[] #[]] }, W1, gf,
    #[.func (.yield (w.heap.size + 1)) #[] #[]] ++ lb, W1, ?_, ?_, ?_, ?_, fun _ => h1, ?_⟩
  · rw [hW1, hL]; exact run_enterLoop_outer _ _ _ _ _
  · simp only [resolve, hg]
    simp [go_sem]
  · intro f' hf'; simp [Target.leads] at hf'; subst hf'; exact hFg
  · simp [invoke, go_sem, eg]
  · refine (hit (w.heap.size + 1)
      (fun b pre W => I b pre W ∧ W.heap[w.heap.size + 1]? = some (.loop (L .ready none)) ∧ W.heap[w.heap.size]? = some (.deferred (some [])) ∧ ∀ g, b = some g → w.heap.size + 1 < g)
      (fun pre W => ∃ c, Ix c pre W ∧ W.heap[w.heap.size + 1]? = some (.loop (L .done (some c))) ∧ W.heap[w.heap.size]? = some (.deferred (some [])))
      W1 (hU.trans hU1) ?_ ?_ ⟨hI1, hl1, hd1, fun g e => by cases e⟩).mono ?_
    · rintro b b' pre A A' ⟨hi, hl, hd, hb⟩ hs
      have hlt := (Array.getElem?_eq_some_iff.1 hl).1
      refine ⟨hI b b' pre A A' hi hs (by omega) (fun g e => by have := hb g e; omega), (hs.block _ hlt fun e => by have := hb _ e.symm; omega).trans hl,
        (hs.block _ (by omega) fun e => by have := hb _ e.symm; omega).trans hd, fun g e => ?_⟩
      rcases hs.at_ with e' | ⟨g', e', hg'⟩
      · exact hb g (e'.symm.trans e)
      · rw [e] at e'; cases e'; omega
    · rintro b pre x W ⟨hi, hl, hd, hb⟩ hpre
      have hlt := (Array.getElem?_eq_some_iff.1 hl).1
      have hy := run_yield (P := P) (args := encs x) hl (by rw [hL]; exact hps x)
      rw [hL] at hy
      refine ⟨fn, _, assign, body, hy, roundIn_of_wpIn hfn (hassign _ x W _ ⟨_, run_beginRound hl (by rw [hL]), ?_⟩)⟩
      have hl2 : (W.putObj (w.heap.size + 1) (.loop { L .ready none with state := .busy })).heap[w.heap.size + 1]? = some (.loop { L .ready none with state := .busy }) := World.putObj_heap_same hlt
      have hd2 : (W.putObj (w.heap.size + 1) (.loop { L .ready none with state := .busy })).heap[w.heap.size]? = some (.deferred (some [])) := (World.putObj_heap_other (by omega)).trans hd
      have hnR : ¬ R (w.heap.size + 1) := fun h => by have := hR _ h; omega
      have hnb : b ≠ some (w.heap.size + 1) := fun e => by have := hb _ e; omega
      refine wpIn_mono (hbody _ b pre x _ (by simp; omega) (fun g e => by have := hb g e; omega) (hIo _ _ _ _ _ _ hi (by omega) hl rfl) hpre) ?_
      have fin : ∀ (jump : Option Code) (W3 : World), KeepsFrom w.heap.size (W.putObj (w.heap.size + 1) (.loop { L .ready none with state := .busy })) W3 →
          (Instr.endRound (w.heap.size + 1) jump).run P W3 = .ok (.bool jump.isNone) (W3.putObj (w.heap.size + 1) (.loop (L (if jump.isNone then .ready else .done) jump))) ∧
          W3.heap[w.heap.size + 1]? = some (.loop { L .ready none with state := .busy }) ∧
          (W3.putObj (w.heap.size + 1) (.loop (L (if jump.isNone then .ready else .done) jump))).heap[w.heap.size + 1]? = some (.loop (L (if jump.isNone then .ready else .done) jump)) ∧
          (W3.putObj (w.heap.size + 1) (.loop (L (if jump.isNone then .ready else .done) jump))).heap[w.heap.size]? = some (.deferred (some [])) := fun jump W3 hk3 => by
        have hl3 := hk3.same _ _ (by omega) hl2 rfl
        have := run_endRound (P := P) jump hl3
        rw [hL] at this ⊢
        exact ⟨this, by rw [hL] at hl3; exact hl3, World.putObj_heap_same (Array.getElem?_eq_some_iff.1 hl3).1, (World.putObj_heap_other (by omega)).trans (hk3.same _ _ (by omega) hd2 rfl)⟩
      rintro e a3 W3 hp
      cases e with
      | normal =>
        obtain ⟨hk3, hkp3, hi3⟩ := hp
        obtain ⟨hr, hl3, hl4, hk4⟩ := fin none W3 hk3
        exact ⟨_, _, hr, .inl ⟨rfl, ⟨hIo _ _ _ _ _ _ hi3 (by omega) hl3 rfl, hl4, hk4, hb⟩, ((Kept.putObj _ hnR hnb).trans hkp3).trans (Kept.putObj _ hnR hnb)⟩⟩
      | ret =>
        obtain ⟨hk3, hi3⟩ := hp
        obtain ⟨hr, hl3, hl4, hk4⟩ := fin (some .ret) W3 hk3
        exact ⟨_, _, hr, .inr ⟨rfl, .ret, hIx _ _ _ _ _ _ hi3 (by omega) hl3 rfl, hl4, hk4⟩⟩
      | exit id =>
        obtain ⟨hk3, hi3⟩ := hp
        obtain ⟨hr, hl3, hl4, hk4⟩ := fin (some (.exit id)) W3 hk3
        exact ⟨_, _, hr, .inr ⟨rfl, .exit id, hIx _ _ _ _ _ _ hi3 (by omega) hl3 rfl, hl4, hk4⟩⟩
      | goto t =>
        obtain ⟨hk3, hi3⟩ := hp
        obtain ⟨hr, hl3, hl4, hk4⟩ := fin (some (.goto t)) W3 hk3
        exact ⟨_, _, hr, .inr ⟨rfl, .goto t, hIx _ _ _ _ _ _ hi3 (by omega) hl3 rfl, hl4, hk4⟩⟩
      | panic ch => exact hp.elim
      | outgrown => exact hp.elim
    · rintro e W2 ⟨⟨v, rfl⟩, (⟨b, hi, hl, hk, _⟩ | ⟨pre, c, hi, hl, hk⟩)⟩
      · exact ⟨none, _, by have := run_endLoop (P := P) hl (by rw [hL]; simp); rw [hL] at this; exact this, hdone _ b _ (Nat.le_refl _) (hIo _ _ _ _ _ _ hi (by omega) hl rfl) ((World.putObj_heap_other (by omega)).trans hk)⟩
      · exact ⟨some c, _, by have := run_endLoop (P := P) hl (by rw [hL]; simp); rw [hL] at this; exact this, hstop _ c pre _ (Nat.le_refl _) (hIx _ _ _ _ _ _ hi (by omega) hl rfl) ((World.putObj_heap_other (by omega)).trans hk)⟩
end Go.Lx

/- A range over a function whose iterator turns no cell: the iterator's word, and the caller's law. -/
set_option linter.unusedVariables false
set_option linter.unusedSimpArgs false
namespace Go.Lx
open Go.RowKit

variable {F : Fence} {n : Nat} {P : Program}
/-- The blocks of R are as they were. -/
abbrev KeptR (R : Nat → Prop) (W W' : World) : Prop := Kept R none W W'
/-- The iterator's word, where it turns no cell: it hands out these things, one by one. -/
def IterU {α : Type} (F : Fence) (n : Nat) (P : Program) (gf : Nat) (lb : Array Value) (encs : α → Array Value) (R : Nat → Prop) (xs : List α) (w : World) : Prop :=
  ∀ (l : Nat) (J : List α → World → Prop) (Jx : List α → World → Prop) (W : World), Under w W →
    (∀ pre A A', J pre A → Under A A' → J pre A') →
    (∀ pre x A, J pre A → pre ++ [x] <+: xs → YieldAt F (n - 1) P l (encs x) A fun e A' =>
      (e = .returned (.bool true) ∧ J (pre ++ [x]) A' ∧ KeptR R A A') ∨ (e = .returned (.bool false) ∧ Jx (pre ++ [x]) A')) →
    J [] W →
    CallsIn F n P gf (#[.func (.yield l) #[] #[]] ++ lb) W fun e W' => (∃ v, e = .returned v) ∧ (J xs W' ∨ ∃ pre, Jx pre W')

/-- How a round may be left. -/
def iterPostU {α : Type} (B : Nat) (R : Nat → Prop) (I : List α → World → Prop) (Ix : Code → List α → World → Prop) (xs : List α) (W : World) : Exit → Act → World → Prop
  | .normal, _, W' => KeepsFrom B W W' ∧ KeptR R W W' ∧ I xs W'
  | .ret, _, W' => KeepsFrom B W W' ∧ Ix .ret xs W'
  | .exit id, _, W' => KeepsFrom B W W' ∧ Ix (.exit id) xs W'
  | .goto t, _, W' => KeepsFrom B W W' ∧ Ix (.goto t) xs W'
  | .panic _, _, _ => False
  | .outgrown, _, _ => False

/-- The statement 'for .. := range g': what the caller owes is an invariant and one walk of its own body. -/
theorem wpIn_rangeFunc_iterU {α : Type} {g : Operand} {ps : Array Tmp} {assign body : Code} {Q : Exit → Act → World → Prop} {a : Act} {w w0 : World}
    (hro : F.round = none) (h1 : 1 ≤ n) {gf : Nat} {lb : Array Value} (hg : a.eval g = .func (.func gf) #[] lb) (hFg : F.fn gf) (eg : ∀ args w, (callFunc gf args).run P w = .ok (.enter gf args) w)
    {encs : α → Array Value} {R : Nat → Prop} {xs : List α} (hit : IterU F (n - 1) P gf lb encs R xs w0) (hU : Under w0 w) (hps : ∀ x, (encs x).size = ps.size) (hR : ∀ k, R k → k < w.heap.size)
    (I : List α → World → Prop) (Ix : Code → List α → World → Prop)
    (hI : ∀ pre A A', I pre A → Under A A' → w.heap.size ≤ A.heap.size → I pre A')
    (hIo : ∀ pre A l o o', I pre A → w.heap.size ≤ l → A.heap[l]? = some o → o.isCells = false → I pre (A.putObj l o'))
    (hIx : ∀ c pre A l o o', Ix c pre A → w.heap.size ≤ l → A.heap[l]? = some o → o.isCells = false → Ix c pre (A.putObj l o'))
    (h0 : I [] w) (a₁ : α → Act)
    (hassign : ∀ (l : Nat) (x : α) (W : World) (K : Act → World → Prop), K (a₁ x) W →
      assign.wpIn (F.inRound l) (n - 1 - 1) P (Exit.then K (fun _ _ _ => False)) { tmps := (ps.zip (encs x)).foldl (fun t (p, v) => t.setIfInBounds p v) a.tmps, defers := [] } W)
    (hbody : ∀ (l : Nat) (pre : List α) (x : α) (W : World), w.heap.size ≤ W.heap.size → I pre W → pre ++ [x] <+: xs → body.wpIn (F.inRound l) (n - 1 - 1) P (iterPostU w.heap.size R I Ix (pre ++ [x]) W) (a₁ x) W)
    (hdone : ∀ (D : Nat) (W : World), w.heap.size ≤ D → I xs W → W.heap[D]? = some (.deferred (some [])) → Q .normal { a with defers := { target := .collected D, args := #[] } :: a.defers } W)
    (hstop : ∀ (D : Nat) (c : Code) (pre : List α) (W : World), w.heap.size ≤ D → Ix c pre W → W.heap[D]? = some (.deferred (some [])) → c.wpIn F n P Q { a with defers := { target := .collected D, args := #[] } :: a.defers } W) :
    (Code.rangeFunc g ps assign body).wpIn F n P Q a w := by
  refine wpIn_rangeFunc fun fn hfn => ?_
  rw [hro]
  obtain ⟨L, hL⟩ : ∃ L : LoopState → Option Code → Loop, L = fun st pe => { state := st, pending := pe, fn, tmps := a.tmps, params := ps, assign, body, defers := w.heap.size } := ⟨_, rfl⟩
  obtain ⟨W1, hW1⟩ : ∃ W1, W1 = (w.alloc (.deferred (some []))).alloc (.loop (L .ready none)) := ⟨_, rfl⟩
  have hz1 : W1.heap.size = w.heap.size + 2 := by rw [hW1]; simp
  have hU1 : Under w W1 := by rw [hW1]; exact under_alloc (under_alloc (Under.refl _) _) _
  have hl1 : W1.heap[w.heap.size + 1]? = some (.loop (L .ready none)) := by
    rw [hW1, alloc_heap]
    have : (w.alloc (.deferred (some []))).heap.size = w.heap.size + 1 := by simp
    rw [← this, Array.getElem?_push_size]
  have hd1 : W1.heap[w.heap.size]? = some (.deferred (some [])) := by
    rw [hW1, alloc_heap, Array.getElem?_push_lt (by simp), ← Array.getElem?_eq_getElem]
    show (w.heap.push _)[w.heap.size]? = _
    rw [Array.getElem?_push_size]
  have hI1 : I [] W1 := hI _ _ _ h0 hU1 (Nat.le_refl _)
  refine ⟨w.heap.size + 1, [{ target := .collected w.heap.size, args := #[] }], W1, { target := .fn (.func gf) lb, args := #[.func (.yield (w.heap.size + 1)) #[] #[]] }, W1, gf,
    #[.func (.yield (w.heap.size + 1)) #[] #[]] ++ lb, W1, ?_, ?_, ?_, ?_, fun _ => h1, ?_⟩
  · rw [hW1, hL]; exact run_enterLoop_outer _ _ _ _ _
  · simp only [resolve, hg]
    simp [go_sem]
  · intro f' hf'; simp [Target.leads] at hf'; subst hf'; exact hFg
  · simp [invoke, go_sem, eg]
  · refine (hit (w.heap.size + 1)
      (fun pre W => I pre W ∧ W.heap[w.heap.size + 1]? = some (.loop (L .ready none)) ∧ W.heap[w.heap.size]? = some (.deferred (some [])))
      (fun pre W => ∃ c, Ix c pre W ∧ W.heap[w.heap.size + 1]? = some (.loop (L .done (some c))) ∧ W.heap[w.heap.size]? = some (.deferred (some [])))
      W1 (hU.trans hU1) ?_ ?_ ⟨hI1, hl1, hd1⟩).mono ?_
    · rintro pre A A' ⟨hi, hl, hd⟩ hs
      have hlt := (Array.getElem?_eq_some_iff.1 hl).1
      exact ⟨hI pre A A' hi hs (by omega), (hs.low _ hlt).trans hl, (hs.low _ (by omega)).trans hd⟩
    · rintro pre x W ⟨hi, hl, hd⟩ hpre
      have hlt := (Array.getElem?_eq_some_iff.1 hl).1
      have hy := run_yield (P := P) (args := encs x) hl (by rw [hL]; exact hps x)
      rw [hL] at hy
      refine ⟨fn, _, assign, body, hy, roundIn_of_wpIn hfn (hassign _ x W _ ⟨_, run_beginRound hl (by rw [hL]), ?_⟩)⟩
      have hl2 : (W.putObj (w.heap.size + 1) (.loop { L .ready none with state := .busy })).heap[w.heap.size + 1]? = some (.loop { L .ready none with state := .busy }) := World.putObj_heap_same hlt
      have hd2 : (W.putObj (w.heap.size + 1) (.loop { L .ready none with state := .busy })).heap[w.heap.size]? = some (.deferred (some [])) := (World.putObj_heap_other (by omega)).trans hd
      have hnR : ¬ R (w.heap.size + 1) := fun h => by have := hR _ h; omega
      have hnb : (none : Option Nat) ≠ some (w.heap.size + 1) := fun e => by cases e
      refine wpIn_mono (hbody _ pre x _ (by simp; omega) (hIo _ _ _ _ _ hi (by omega) hl rfl) hpre) ?_
      have fin : ∀ (jump : Option Code) (W3 : World), KeepsFrom w.heap.size (W.putObj (w.heap.size + 1) (.loop { L .ready none with state := .busy })) W3 →
          (Instr.endRound (w.heap.size + 1) jump).run P W3 = .ok (.bool jump.isNone) (W3.putObj (w.heap.size + 1) (.loop (L (if jump.isNone then .ready else .done) jump))) ∧
          W3.heap[w.heap.size + 1]? = some (.loop { L .ready none with state := .busy }) ∧
          (W3.putObj (w.heap.size + 1) (.loop (L (if jump.isNone then .ready else .done) jump))).heap[w.heap.size + 1]? = some (.loop (L (if jump.isNone then .ready else .done) jump)) ∧
          (W3.putObj (w.heap.size + 1) (.loop (L (if jump.isNone then .ready else .done) jump))).heap[w.heap.size]? = some (.deferred (some [])) := fun jump W3 hk3 => by
        have hl3 := hk3.same _ _ (by omega) hl2 rfl
        have := run_endRound (P := P) jump hl3
        rw [hL] at this ⊢
        exact ⟨this, by rw [hL] at hl3; exact hl3, World.putObj_heap_same (Array.getElem?_eq_some_iff.1 hl3).1, (World.putObj_heap_other (by omega)).trans (hk3.same _ _ (by omega) hd2 rfl)⟩
      rintro e a3 W3 hp
      cases e with
      | normal =>
        obtain ⟨hk3, hkp3, hi3⟩ := hp
        obtain ⟨hr, hl3, hl4, hk4⟩ := fin none W3 hk3
        exact ⟨_, _, hr, .inl ⟨rfl, ⟨hIo _ _ _ _ _ hi3 (by omega) hl3 rfl, hl4, hk4⟩, ((Kept.putObj _ hnR hnb).trans hkp3).trans (Kept.putObj _ hnR hnb)⟩⟩
      | ret =>
        obtain ⟨hk3, hi3⟩ := hp
        obtain ⟨hr, hl3, hl4, hk4⟩ := fin (some .ret) W3 hk3
        exact ⟨_, _, hr, .inr ⟨rfl, .ret, hIx _ _ _ _ _ _ hi3 (by omega) hl3 rfl, hl4, hk4⟩⟩
      | exit id =>
        obtain ⟨hk3, hi3⟩ := hp
        obtain ⟨hr, hl3, hl4, hk4⟩ := fin (some (.exit id)) W3 hk3
        exact ⟨_, _, hr, .inr ⟨rfl, .exit id, hIx _ _ _ _ _ _ hi3 (by omega) hl3 rfl, hl4, hk4⟩⟩
      | goto t =>
        obtain ⟨hk3, hi3⟩ := hp
        obtain ⟨hr, hl3, hl4, hk4⟩ := fin (some (.goto t)) W3 hk3
        exact ⟨_, _, hr, .inr ⟨rfl, .goto t, hIx _ _ _ _ _ _ hi3 (by omega) hl3 rfl, hl4, hk4⟩⟩
      | panic ch => exact hp.elim
      | outgrown => exact hp.elim
    · rintro e W2 ⟨⟨v, rfl⟩, (⟨hi, hl, hk⟩ | ⟨pre, c, hi, hl, hk⟩)⟩
      · exact ⟨none, _, by have := run_endLoop (P := P) hl (by rw [hL]; simp); rw [hL] at this; exact this, hdone _ _ (Nat.le_refl _) (hIo _ _ _ _ _ hi (by omega) hl rfl) ((World.putObj_heap_other (by omega)).trans hk)⟩
      · exact ⟨some c, _, by have := run_endLoop (P := P) hl (by rw [hL]; simp); rw [hL] at this; exact this, hstop _ c pre _ (Nat.le_refl _) (hIx _ _ _ _ _ _ hi (by omega) hl rfl) ((World.putObj_heap_other (by omega)).trans hk)⟩
end Go.Lx

/- append of so many zeros ('append(s, make([]int, n)...)') to a slice of one number. -/
set_option linter.unusedVariables false
set_option linter.unusedSimpArgs false
namespace Go.Lx
open Go.RowKit

section
variable {P : Program}
theorem run_append_zeros (w : World) (base : Nat) (t u ty e : TypeId) (i : TypeInfo) (ht : P.underlying t = some (.slice e)) (hu : P.underlying u = some (.int .i64)) (hi : P.info? e = some i) (hz : i.zero = some (.int .i64 0)) (hs : i.size = 1) (hby : i.bytes = 8)
    (b : Addr) (y : Value) (hb : w.cell? b = some y) (n : Nat) (h1 : 1 ≤ n) (h8 : n ≤ 8) (hbase : base ≤ w.heap.size) :
    ∃ v w', (Builtin.append_ #[t, u] ty #[.slice (some b) 1 1, .int .i64 (n : Int)]).run P w = .ok v w' ∧ w'.ownsRow base e 1 v (1 + n) (y :: List.replicate n (.int .i64 0)) ∧ w.grownBy w' none := by
  have hw : IntKind.i64.wrap (n : Int) = n := by rw [IntKind.wrap_i64]; omega
  have hn : ¬ (1 + n ≤ 1) := by omega
  have h63' : ¬ (9223372036854775807 < ((1 : Int) + (n : Int))) := by omega
  have h48' : ¬ (281474976710656 < Builtin.nextslicecap (1 + n) 1 * 8) := by
    unfold Builtin.nextslicecap
    split
    · omega
    · simp
  have hneg : ¬ ((n : Int) < 0) := by omega
  have hbig : ¬ ((281474976710656 : Int) < (n : Int) * 8) := by omega
  have hn0 : ¬ n = 0 := by omega
  have hfo := run_firstCells_some (P := P) w.drew 1 1 b 1 1 [y] rfl (by
    intro j v hj
    match j, hj with
    | 0, hj => cases hj; simpa [Addr.add] using hb)
  refine ⟨.slice (some ⟨w.heap.size, 0, none⟩) (1 + n) (grownCap w (1 + n) 1 e), w.drew.alloc (.cells (#[y] ++ Builtin.zeroCells #[.int .i64 0] n ++ Builtin.zeroCells #[.int .i64 0] (grownCap w (1 + n) 1 e - (1 + n))) e), ?_, ?_, ?_⟩
  · simp [Builtin.append_, run_underlying ht, run_underlying hu, sizeOf, typeInfo, zeroValue, hi, hz, hs, hby, Builtin.lenOf, hn, hn0, h63', h48', Question.forced, hfo, newRow, grownCap, asInt, asIntOf, hw, hneg, hbig]
    rfl
  · have hge := grownCap_ge w (1 + n) 1 e
    have hcm : grownCap w (1 + n) 1 e ≤ maxLen := grownCap_le_maxLen w (1 + n) 1 e (by simp only [maxLen]; omega)
    refine ⟨by simp; omega, .inr ⟨w.heap.size, _, _, rfl, hbase, box_new w.drew _ _, hge, hcm, ?_, ?_⟩⟩
    · simp only [Array.size_append, List.size_toArray, size_zeroCells]
      simp
      omega
    · have hzc : (Builtin.zeroCells #[Value.int .i64 0] n).toList = List.replicate n (Value.int .i64 0) := by
        apply List.ext_getElem
        · simp [Builtin.zeroCells]
        · intro j h1 h2
          simp [Builtin.zeroCells, Nat.mod_one]
      simp only [Array.toList_append, hzc, Nat.mul_one]
      rw [List.take_left' (by simp; omega)]
      rfl
  · exact ⟨rfl, rfl, rfl, by simp, fun k hk _ => by
      show (w.heap.push _)[k]? = _
      rw [Array.getElem?_push_lt hk, ← Array.getElem?_eq_getElem]⟩
theorem wpList_append_zeros {w : World} {ops : Array Oper} {rest : List Oper} {o : Oper} {a : Act} {Q : Exit → Act → World → Prop} (hgd : o.guard = none) (s x : Operand) (base : Nat) (t u e : TypeId)
    (ho : o.op = .call { callee := .builtin .append, args := #[s, x], argTypes := #[t, u] }) (i : TypeInfo) (ht : P.underlying t = some (.slice e)) (hu : P.underlying u = some (.int .i64)) (hi : P.info? e = some i) (hz : i.zero = some (.int .i64 0)) (hs : i.size = 1) (hby : i.bytes = 8)
    (b : Addr) (y : Value) (n : Nat) (es : a.eval s = .slice (some b) 1 1) (ex : a.eval x = .int .i64 (n : Int)) (hb : w.cell? b = some y) (h1 : 1 ≤ n) (h8 : n ≤ 8) (hbase : base ≤ w.heap.size)
    (h : ∀ v w', w'.ownsRow base e 1 v (1 + n) (y :: List.replicate n (.int .i64 0)) → w.grownBy w' none → wpList P ops Q rest (a.put o.dst v) w') :
    wpList P ops Q (o :: rest) a w := by
  refine wpList_plain hgd fun K hK' => ?_
  obtain ⟨v, w', hrun, r1, r2⟩ := run_append_zeros (P := P) w base t u o.type e i ht hu hi hz hs hby b y hb n h1 h8 hbase
  unfold Oper.wp
  simp [execOp, ho, resolve, invoke, builtin, es, ex, hrun, Result.andThen]
  exact hK' _ _ (h v w' r1 r2)
end
end Go.Lx

/- Maps keyed by strings, with whatever elements: what they hold, written and looked up. -/
set_option linter.unusedVariables false
set_option linter.unusedSimpArgs false
namespace Go.Lx
open Go.RowKit Go.MapKept

theorem bytes_beq (a b : ByteArray) : (a == b) = decide (a = b) := by
  obtain ⟨x⟩ := a
  obtain ⟨y⟩ := b
  have h : ((⟨x⟩ : ByteArray) == ⟨y⟩) = (x == y) := rfl
  rw [h, Bool.eq_iff_iff]
  simp
abbrev Assoc := List (ByteArray × Value)
/-- What a map holds at a key. -/
def mget : Assoc → ByteArray → Option Value
  | [], _ => none
  | (a, v) :: r, k => if k = a then some v else mget r k
def mput : Assoc → ByteArray → Value → Assoc
  | [], k, v => [(k, v)]
  | (a, u) :: r, k, v => if k = a then (k, v) :: r else (a, u) :: mput r k v
/-- A map, as it lies in its block. -/
def MapAt (w : World) (b : Nat) (ks : Assoc) : Prop := ∃ es clock, w.heap[b]? = some (.map es clock) ∧ es.toList.map (fun e => (e.key, e.val)) = ks.map fun p => (.string p.1, p.2)
theorem MapAt.lt {w : World} {b : Nat} {ks : Assoc} (h : MapAt w b ks) : b < w.heap.size := by
  obtain ⟨es, clock, hb, _⟩ := h
  exact (Array.getElem?_eq_some_iff.1 hb).1
theorem MapAt.under {w w' : World} {b : Nat} {ks : Assoc} (h : MapAt w b ks) (hU : Under w w') : MapAt w' b ks := by
  obtain ⟨es, clock, hb, he⟩ := h
  exact ⟨es, clock, (hU.low b (Array.getElem?_eq_some_iff.1 hb).1).trans hb, he⟩
theorem MapAt.turned {w w' : World} {b : Nat} {ks : Assoc} {r : Option Nat} (h : MapAt w b ks) (hT : Turned r w w') (hr : some b ≠ r) : MapAt w' b ks := by
  obtain ⟨es, clock, hb, he⟩ := h
  exact ⟨es, clock, (hT.block b (Array.getElem?_eq_some_iff.1 hb).1 hr).trans hb, he⟩
theorem MapAt.cast {w : World} {b : Nat} {ks ks' : Assoc} (h : MapAt w b ks) (e : ks = ks') : MapAt w b ks' := e ▸ h
theorem map_new (w : World) : MapAt (w.alloc (.map #[] 0)) w.heap.size [] := ⟨#[], 0, by simp [alloc_heap], rfl⟩

/-- Where a key is. -/
def mfind : Assoc → ByteArray → Nat → Option (Nat × Value)
  | [], _, _ => none
  | (a, v) :: r, k, i => if k = a then some (i, v) else mfind r k (i + 1)
theorem mfind_get : ∀ (ks : Assoc) (k : ByteArray) (i : Nat), (mfind ks k i).map (·.2) = mget ks k
  | [], _, _ => rfl
  | (a, v) :: r, k, i => by
    simp only [mfind, mget]
    split
    · rfl
    · exact mfind_get r k (i + 1)
theorem findNow_at : ∀ (es : List MapEntry) (ks : Assoc) (k : ByteArray) (i : Nat), es.map (fun e => (e.key, e.val)) = ks.map (fun p => (Value.string p.1, p.2)) → Instr.findNow .string (.string k) es i = some (mfind ks k i)
  | [], [], _, _, _ => rfl
  | [], _ :: _, _, _, h => by simp at h
  | _ :: _, [], _, _, h => by simp at h
  | e :: es, (a, v) :: r, k, i, h => by
    simp only [List.map_cons, List.cons.injEq, Prod.mk.injEq] at h
    obtain ⟨⟨h1, h2⟩, h3⟩ := h
    simp only [Instr.findNow, Instr.sameNow, h1, mfind]
    by_cases hk : k = a
    · subst hk
      rw [bytes_beq]
      simp [h2]
    · have : (k == a) = false := by rw [bytes_beq]; simpa using hk
      rw [this, if_neg hk]
      exact findNow_at es r k (i + 1) h3
theorem mfind_some {ks : Assoc} {k : ByteArray} {i j : Nat} {v : Value} (h : mfind ks k i = some (j, v)) : i ≤ j ∧ ks[j - i]? = some (k, v) ∧ ∀ u, mput ks k u = ks.set (j - i) (k, u) := by
  induction ks generalizing i with
  | nil => cases h
  | cons p r ih =>
    obtain ⟨a, y⟩ := p
    simp only [mfind] at h
    split at h
    · rename_i hk
      cases h
      subst hk
      exact ⟨Nat.le_refl _, by simp, fun u => by simp [mput]⟩
    · rename_i hk
      obtain ⟨h1, h2, h3⟩ := ih h
      refine ⟨by omega, ?_, fun u => ?_⟩
      · rw [show j - i = (j - (i + 1)) + 1 by omega]; simpa using h2
      · rw [show j - i = (j - (i + 1)) + 1 by omega]; simp [mput, hk, h3]
theorem mfind_none {ks : Assoc} {k : ByteArray} {i : Nat} (h : mfind ks k i = none) (u : Value) : mput ks k u = ks ++ [(k, u)] := by
  induction ks generalizing i with
  | nil => rfl
  | cons p r ih =>
    obtain ⟨a, y⟩ := p
    simp only [mfind] at h
    split at h
    · cases h
    · rename_i hk
      simp [mput, hk, ih h]

section
variable {P : Program} {w : World} {b : Nat} {ks : Assoc} {t kt et : TypeId} {k : ByteArray} {v : Value}
theorem getObj_map {es : Array MapEntry} {clock : Nat} (hb : w.heap[b]? = some (.map es clock)) : (getObj b).run P w = .ok (.map es clock) w := by simp [getObj, Sem.run, hb]
theorem checkKey_string (e : Bool) (hk : P.underlying kt = some .string) : (Instr.checkKey e 10000 kt (.string k)).run P w = .ok () w := by
  rw [show (10000 : Nat) = 9999 + 1 from rfl, Instr.checkKey]
  simp [run_underlying hk]
theorem MapAt.update (h : MapAt w b ks) (ht : P.underlying t = some (.map kt et)) (hk : P.underlying kt = some .string) :
    ∃ w', (Instr.mapUpdate t (.map (some b)) (.string k) v).run P w = .ok () w' ∧ MapAt w' b (mput ks k v) ∧ Turned (some b) w w' := by
  obtain ⟨es, clock, hb, he⟩ := h
  have hlt := (Array.getElem?_eq_some_iff.1 hb).1
  have hf := run_findKey (P := P) (w := w) hk (findNow_at es.toList ks k 0 he)
  cases hm : mfind ks k 0 with
  | none =>
    rw [hm] at hf
    refine ⟨w.putObj b (.map (es.push { key := .string k, val := v, born := clock }) (clock + 1)), ?_, ⟨_, _, World.putObj_heap_same hlt, ?_⟩, ⟨rfl, rfl, by simp, fun j hj hr => World.putObj_heap_other fun e => hr (congrArg some e)⟩⟩
    · simp [Instr.mapUpdate, run_underlying ht, run_underlying hk, getObj_map (P := P) hb, checkKey_string (P := P) (w := w) _ hk, hf, setObj, Sem.run, hb, Result.andThen, World.putObj]
    · rw [mfind_none hm]
      simp [he]
  | some r =>
    obtain ⟨j, u⟩ := r
    rw [hm] at hf
    obtain ⟨_, h2, h3⟩ := mfind_some hm
    rw [Nat.sub_zero] at h2 h3
    have hj : es.toList[j]?.map (fun e => (e.key, e.val)) = some (.string k, u) := by
      have := congrArg (fun l => l[j]?) he
      simp only [List.getElem?_map, h2] at this
      simpa using this
    have hkey : ((es[j]?).map (·.key)).getD (.string k) = .string k := by
      cases hq : es[j]? with
      | none => rfl
      | some e =>
        have : es.toList[j]? = some e := by simpa using hq
        rw [this] at hj
        simp at hj
        simp [hj.1]
    refine ⟨w.putObj b (.map (es.modify j fun e => { e with key := .string k, val := v }) clock), ?_, ⟨_, _, World.putObj_heap_same hlt, ?_⟩, ⟨rfl, rfl, by simp, fun i hi hr => World.putObj_heap_other fun e => hr (congrArg some e)⟩⟩
    · simp [Instr.mapUpdate, run_underlying ht, run_underlying hk, getObj_map (P := P) hb, checkKey_string (P := P) (w := w) _ hk, hf, setObj, Sem.run, hb, Result.andThen, World.putObj, hkey, Instr.keyThatStays, Instr.sameBits, bytes_beq]
    · rw [h3]
      apply List.ext_getElem?
      intro i
      have hi := congrArg (fun l => l[i]?) he
      simp only [List.getElem?_map] at hi
      simp only [List.getElem?_map, List.getElem?_set]
      by_cases e : j = i
      · subst e
        have hjl : j < ks.length := (List.getElem?_eq_some_iff.1 h2).1
        cases hq : es.toList[j]? with
        | none => rw [hq] at hj; cases hj
        | some x =>
          have hjs : j < es.size := by have := (List.getElem?_eq_some_iff.1 hq).1; simpa using this
          have hx : es[j]? = some x := by simpa using hq
          simp [hjl, Array.getElem?_modify, hx, hjs]
      · rw [if_neg e, ← hi]
        simp [Array.getElem?_modify, e]
theorem MapAt.lookup (h : MapAt w b ks) (ht : P.underlying t = some (.map kt et)) (hk : P.underlying kt = some .string) {z : Value} (hz : (zeroValue et).run P w = .ok z w) :
    (Instr.lookup t (.map (some b)) (.string k) true).run P w = .ok (.tuple #[(mget ks k).getD z, .bool (mget ks k).isSome]) w ∧ (Instr.lookup t (.map (some b)) (.string k) false).run P w = .ok ((mget ks k).getD z) w := by
  obtain ⟨es, clock, hb, he⟩ := h
  have hf := run_findKey (P := P) (w := w) hk (findNow_at es.toList ks k 0 he)
  have hg := mfind_get ks k 0
  cases hm : mfind ks k 0 with
  | none =>
    rw [hm] at hf hg
    rw [← hg]
    constructor <;> simp [Instr.lookup, run_underlying ht, run_underlying hk, getObj_map (P := P) hb, checkKey_string (P := P) (w := w) _ hk, hf, hz, Result.andThen]
  | some r =>
    rw [hm] at hf hg
    rw [← hg]
    constructor <;> simp [Instr.lookup, run_underlying ht, run_underlying hk, getObj_map (P := P) hb, checkKey_string (P := P) (w := w) _ hk, hf, Result.andThen]
theorem wpList_insert_map {ops : Array Oper} {rest : List Oper} {o : Oper} {a : Act} {Q : Exit → Act → World → Prop} (hg : o.guard = none) (m x y : Operand) (hop : o.op = Op.insert t m x y ∨ o.op = Op.mapUpdate t m x y)
    (ht : P.underlying t = some (.map kt et)) (hk : P.underlying kt = some .string) (em : a.eval m = .map (some b)) (hm : MapAt w b ks) (ex : a.eval x = .string k) (ey : a.eval y = v)
    (h : ∀ w', MapAt w' b (mput ks k v) → Turned (some b) w w' → wpList P ops Q rest (a.put o.dst undef) w') : wpList P ops Q (o :: rest) a w := by
  refine wpList_plain hg fun K' hK' => ?_
  obtain ⟨w', hrun, r1, r2⟩ := hm.update (v := v) (k := k) ht hk
  unfold Oper.wp
  rcases hop with hop | hop
  · simp [execOp, hop, em, ex, ey, hrun, Result.andThen]
    exact hK' _ _ (h w' r1 r2)
  · simp [execOp, hop, em, ex, ey, hrun, Result.andThen]
    exact hK' _ _ (h w' r1 r2)
theorem wpList_lookup_map {ops : Array Oper} {rest : List Oper} {o : Oper} {a : Act} {Q : Exit → Act → World → Prop} (hg : o.guard = none) (m x : Operand) (ok : Bool) (hop : o.op = Op.lookup t m x ok)
    (ht : P.underlying t = some (.map kt et)) (hk : P.underlying kt = some .string) {z : Value} (hz : (zeroValue et).run P w = .ok z w) (em : a.eval m = .map (some b)) (hm : MapAt w b ks) (ex : a.eval x = .string k)
    (h : wpList P ops Q rest (a.put o.dst (if ok then .tuple #[(mget ks k).getD z, .bool (mget ks k).isSome] else (mget ks k).getD z)) w) : wpList P ops Q (o :: rest) a w := by
  refine wpList_plain hg fun K' hK' => ?_
  obtain ⟨r1, r2⟩ := hm.lookup (k := k) ht hk hz
  unfold Oper.wp
  cases ok with
  | true => simp [execOp, hop, em, ex, r1, Result.andThen]; exact hK' _ _ (by simpa using h)
  | false => simp [execOp, hop, em, ex, r2, Result.andThen]; exact hK' _ _ (by simpa using h)
end
end Go.Lx

/- Slices whose elements are read in their turn; append of so many zeros to nil. -/
set_option linter.unusedVariables false
set_option linter.unusedSimpArgs false
namespace Go.Lx
open Go.RowKit

/-- Two lists, element by element. -/
def Zip {α β : Type} (R : α → β → Prop) (vs : List α) (ls : List β) : Prop := vs.length = ls.length ∧ ∀ (i : Nat) v x, vs[i]? = some v → ls[i]? = some x → R v x
theorem Zip.nil {α β : Type} (R : α → β → Prop) : Zip R [] [] := ⟨rfl, fun i v x h => by simp at h⟩
theorem Zip.app {α β : Type} {R : α → β → Prop} {vs us : List α} {ls ks : List β} (h : Zip R vs ls) (k : Zip R us ks) : Zip R (vs ++ us) (ls ++ ks) := by
  refine ⟨by rw [List.length_append, List.length_append, h.1, k.1], fun i v x hv hx => ?_⟩
  by_cases hi : i < vs.length
  · rw [List.getElem?_append_left hi] at hv
    rw [List.getElem?_append_left (by rw [← h.1]; exact hi)] at hx
    exact h.2 i v x hv hx
  · rw [List.getElem?_append_right (by omega)] at hv
    rw [List.getElem?_append_right (by rw [← h.1]; omega), ← h.1] at hx
    exact k.2 _ v x hv hx
theorem Zip.one {α β : Type} {R : α → β → Prop} {v : α} {x : β} (h : R v x) : Zip R [v] [x] := ⟨rfl, fun i u y hu hy => by
  match i, hu, hy with
  | 0, hu, hy => cases hu; cases hy; exact h⟩
theorem Zip.mono {α β : Type} {R S : α → β → Prop} {vs : List α} {ls : List β} (h : Zip R vs ls) (hRS : ∀ v x, R v x → S v x) : Zip S vs ls := ⟨h.1, fun i v x hv hx => hRS v x (h.2 i v x hv hx)⟩
theorem Zip.at {α β : Type} {R : α → β → Prop} {vs : List α} {ls : List β} (h : Zip R vs ls) {i : Nat} {x : β} (hx : ls[i]? = some x) : ∃ v, vs[i]? = some v ∧ R v x := by
  have hi : i < vs.length := by rw [h.1]; exact (List.getElem?_eq_some_iff.1 hx).1
  exact ⟨vs[i], List.getElem?_eq_getElem hi, h.2 i _ x (List.getElem?_eq_getElem hi) hx⟩
/-- A slice whose elements are read. -/
def ListV {α : Type} (R : World → Value → α → Prop) (w : World) (v : Value) (ls : List α) : Prop := ∃ p c vs, v = .slice p ls.length c ∧ ls.length ≤ c ∧ (p = none → c = 0) ∧ RowArg w p vs ∧ Zip (R w) vs ls
/-- A slice of nodes. -/
def TermV (w : World) (v : Value) (t : List Nd) : Prop := ∃ p c, v = .slice p t.length c ∧ t.length ≤ c ∧ (p = none → c = 0) ∧ RowArg w p (ndCells t)
def Mono {α : Type} (R : World → Value → α → Prop) : Prop := ∀ w w' v x, Under w w' → R w v x → R w' v x
theorem TermV.mono : Mono TermV := fun w w' v t hU ⟨p, c, h1, h2, h0, h3⟩ => ⟨p, c, h1, h2, h0, h3.under hU⟩
theorem ListV.mono {α : Type} {R : World → Value → α → Prop} (hR : Mono R) : Mono (ListV R) := fun w w' v ls hU ⟨p, c, vs, h1, h2, h0, h3, h4⟩ => ⟨p, c, vs, h1, h2, h0, h3.under hU, h4.mono fun v x h => hR w w' v x hU h⟩
theorem TermV.one {w : World} {v : Value} {t : List Nd} (h : TermV w v t) : v.oneCell' = true := by obtain ⟨p, c, rfl, _⟩ := h; rfl
theorem ListV.one {α : Type} {R : World → Value → α → Prop} {w : World} {v : Value} {ls : List α} (h : ListV R w v ls) : v.oneCell' = true := by obtain ⟨p, c, vs, rfl, _⟩ := h; rfl
abbrev TermsV := ListV TermV
abbrev ConsV := ListV TermsV
theorem ListV.of_own {α : Type} {R : World → Value → α → Prop} {w : World} {base : Nat} {e : TypeId} {v : Value} {ls : List α} {vs : List Value} (h : w.ownsRow base e 1 v ls.length vs) (hz : Zip (R w) vs ls) : ListV R w v ls := by
  have hc : ∀ q n c, v = .slice q n c → q = none → c = 0 := by
    intro q n c e hq
    subst hq
    rcases h.2 with ⟨rfl, _⟩ | ⟨g, cap, cur, e', _⟩
    · cases e; rfl
    · rw [e'] at e; cases e
  obtain ⟨q, c, rfl, h1, h2⟩ := RowArg.of_own h
  exact ⟨q, c, vs, rfl, h1, hc q _ c rfl, h2, hz⟩

section
variable {P : Program}
theorem run_append_zeros_nil (w : World) (base : Nat) (t u ty e : TypeId) (i : TypeInfo) (z : Value) (ht : P.underlying t = some (.slice e)) (hu : P.underlying u = some (.int .i64)) (hi : P.info? e = some i) (hz : i.zero = some z) (hs : i.size = 1) (hzs : z.cells = #[z])
    (n : Nat) (h1 : 1 ≤ n) (h8 : n * i.bytes ≤ 140737488355328) (hmx : n ≤ 1000000) (hbase : base ≤ w.heap.size) :
    ∃ g c w', (Builtin.append_ #[t, u] ty #[.slice none 0 0, .int .i64 (n : Int)]).run P w = .ok (.slice (some ⟨g, 0, none⟩) n c) w' ∧ w'.ownsRow base e 1 (.slice (some ⟨g, 0, none⟩) n c) n (List.replicate n z) ∧ w.grownBy w' none := by
  have hw : IntKind.i64.wrap (n : Int) = n := by rw [IntKind.wrap_i64]; omega
  have hn : ¬ n = 0 := by omega
  have h63' : ¬ (9223372036854775807 < (n : Int)) := by omega
  have h48' : ¬ (281474976710656 < Builtin.nextslicecap n 0 * i.bytes) := by rw [nextslicecap_zero (by omega)]; omega
  have hneg : ¬ ((n : Int) < 0) := by omega
  have hbig : ¬ ((281474976710656 : Int) < (n : Int) * i.bytes) := by
    have : ((n * i.bytes : Nat) : Int) = (n : Int) * i.bytes := by simp
    omega
  refine ⟨w.heap.size, grownCap w n 0 e, w.drew.alloc (.cells (Builtin.zeroCells z.cells n ++ Builtin.zeroCells z.cells (grownCap w n 0 e - n)) e), ?_, ?_, ?_⟩
  · simp [Builtin.append_, run_underlying ht, run_underlying hu, sizeOf, typeInfo, zeroValue, hi, hz, hs, Builtin.lenOf, Builtin.firstCells, hn, h63', h48', Question.forced, newRow, grownCap, asInt, asIntOf, hw, hneg, hbig]
  · have hge := grownCap_ge w n 0 e
    have hcm : grownCap w n 0 e ≤ maxLen := grownCap_le_maxLen w n 0 e (by simp only [maxLen]; omega)
    refine ⟨by simp, .inr ⟨w.heap.size, _, _, rfl, hbase, box_new w.drew _ _, hge, hcm, ?_, ?_⟩⟩
    · simp only [Array.size_append, size_zeroCells, hzs]
      simp
      omega
    · have hzc : (Builtin.zeroCells z.cells n).toList = List.replicate n z := by
        rw [hzs]
        apply List.ext_getElem
        · simp [Builtin.zeroCells]
        · intro j h1 h2
          simp [Builtin.zeroCells, Nat.mod_one]
      simp only [Array.toList_append, hzc, Nat.mul_one]
      rw [List.take_left' (by simp)]
  · exact ⟨rfl, rfl, rfl, by simp, fun k hk _ => by
      show (w.heap.push _)[k]? = _
      rw [Array.getElem?_push_lt hk, ← Array.getElem?_eq_getElem]⟩
theorem wpList_append_zeros_nil {w : World} {ops : Array Oper} {rest : List Oper} {o : Oper} {a : Act} {Q : Exit → Act → World → Prop} (hgd : o.guard = none) (s x : Operand) (base : Nat) (t u e : TypeId)
    (ho : o.op = .call { callee := .builtin .append, args := #[s, x], argTypes := #[t, u] }) (i : TypeInfo) (z : Value) (ht : P.underlying t = some (.slice e)) (hu : P.underlying u = some (.int .i64)) (hi : P.info? e = some i) (hz : i.zero = some z) (hs : i.size = 1) (hzs : z.cells = #[z])
    (n : Nat) (es : a.eval s = .slice none 0 0) (ex : a.eval x = .int .i64 (n : Int)) (h1 : 1 ≤ n) (h8 : n * i.bytes ≤ 140737488355328) (hmx : n ≤ 1000000) (hbase : base ≤ w.heap.size)
    (h : ∀ g c w', w'.ownsRow base e 1 (.slice (some ⟨g, 0, none⟩) n c) n (List.replicate n z) → w.grownBy w' none → wpList P ops Q rest (a.put o.dst (.slice (some ⟨g, 0, none⟩) n c)) w') :
    wpList P ops Q (o :: rest) a w := by
  refine wpList_plain hgd fun K hK' => ?_
  obtain ⟨g, c, w', hrun, r1, r2⟩ := run_append_zeros_nil (P := P) w base t u o.type e i z ht hu hi hz hs hzs n h1 h8 hmx hbase
  unfold Oper.wp
  simp [execOp, ho, resolve, invoke, builtin, es, ex, hrun, Result.andThen]
  exact hK' _ _ (h g c w' r1 r2)
end
end Go.Lx

/- Declarations, as they are read. -/
set_option linter.unusedVariables false
namespace Go.Lx

structure Dc where
  kind : Int
  level : Int
  name : ByteArray
  type : List Nd
  body : List Nd
  cons : List (List (List Nd))
/-- A declaration, as a value. -/
def DcV (w : World) (v : Value) (d : Dc) : Prop := ∃ vt vb vc, v = .agg #[.int .i64 d.kind, .int .i64 d.level, .string d.name, vt, vb, vc] ∧ TermV w vt d.type ∧ TermV w vb d.body ∧ ConsV w vc d.cons
theorem ConsV.mono : Mono ConsV := ListV.mono (ListV.mono TermV.mono)
theorem TermsV.mono : Mono TermsV := ListV.mono TermV.mono
theorem DcV.mono : Mono DcV := fun w w' v d hU ⟨vt, vb, vc, h1, h2, h3, h4⟩ => ⟨vt, vb, vc, h1, TermV.mono _ _ _ _ hU h2, TermV.mono _ _ _ _ hU h3, ConsV.mono _ _ _ _ hU h4⟩
/-- The terms of a declaration. -/
def termsOf (d : Dc) : List (List Nd) := if d.kind = 1 then [d.type, d.body] else if d.kind = 2 then [d.type] else if d.kind = 3 then d.cons.flatten else []
/-- What is not great: so that lengths are numbers. -/
structure Small (d : Dc) : Prop where
  name : d.name.size ≤ 1000000
  cons : d.cons.length ≤ 100000
  flat : d.cons.flatten.length ≤ 100000
  terms : ∀ t ∈ termsOf d, t.length ≤ 1000000 ∧ ∀ x ∈ t, x.s.size ≤ 1000000
end Go.Lx

/- append(s, x...) onto a row of one's own, from a slice that is read; append(s, x) of one element. -/
set_option linter.unusedVariables false
namespace Go.Lx
open Go.RowKit

/-- A new row of one element, at whatever spelling of its block. -/
theorem arg_at (w : World) {n : Nat} (u : Value) (t : TypeId) (h : w.heap.size = n) : RowArg (w.alloc (.cells #[u] t)) (some ⟨n, 0, none⟩) [u] := h ▸ arg_new w [u] t (0, 0)
section
variable {P : Program} {w : World} {ops : Array Oper} {rest : List Oper} {o : Oper} {a : Act} {Q : Exit → Act → World → Prop}
/-- append(s, x...): elements of so many cells each. -/
theorem wpList_append_read (hgd : o.guard = none) (s x : Operand) (t : TypeId)
    (ho : o.op = .call { callee := .builtin .append, args := #[s, x], argTypes := #[t, t] })
    (base : Nat) (e : TypeId) (i : TypeInfo) (z : Value) (size bytes : Nat) (ht : P.underlying t = some (.slice e)) (hi : P.info? e = some i) (hz : i.zero = some z)
    (hsize : i.size = size) (hby : i.bytes = bytes) (hzs : z.cells.size = size) (hsz : 0 < size)
    (v : Value) (n : Nat) (xs : List Value) (hs : a.eval s = v) (hown : w.ownsRow base e size v n xs)
    (p : Option Addr) (m c : Nat) (news : List Value) (hx : a.eval x = .slice p m c) (hl : news.length = m * size) (hc : m ≤ c) (h0 : p = none → c = 0) (hp : RowArg w p news) (h1 : ∀ u ∈ news, u.oneCell' = true)
    (h63 : n + m ≤ maxLen) (hbytes : (n + m) * bytes ≤ 140737488355328) (hbase : base ≤ w.heap.size)
    (h : ∀ v' w', w'.ownsRow base e size v' (n + m) (xs ++ news) → w.grownBy w' v.ownBlock → wpList P ops Q rest (a.put o.dst v') w') :
    wpList P ops Q (o :: rest) a w := by
  cases p with
  | none =>
    have hc0 := h0 rfl
    have hm0 : m = 0 := by omega
    subst hc0 hm0
    have hn : news = [] := List.eq_nil_of_length_eq_zero (by omega)
    subst hn
    exact wpList_append_own_none hgd s x t ho base e i size ht hi v n xs hs hown hx (h v w (by simpa using hown) ⟨rfl, rfl, rfl, Nat.le_refl _, fun _ _ _ => rfl⟩)
  | some ad =>
    refine wpList_append_own_at _ hgd s x t ho base e i z size bytes ht hi hz hsize hby hzs hsz v n xs hs hown ad m c news hx hl ?_ h1 h63 hbytes hbase (fun v' w' h1 h2 _ _ => h v' w' h1 h2)
    intro j u hj
    obtain ⟨b, off, e, hb, ht⟩ := hp (fun e => by rw [e] at hj; cases hj)
    cases e
    rw [add_off]
    exact ht j u hj
end
end Go.Lx

/- Rows whose elements take several cells: declarations, entries. -/
set_option linter.unusedVariables false
namespace Go.Lx
open Go.RowKit

/-- A slice's cells, so many for each element, that are read. -/
def RowsV {α : Type} (size : Nat) (R : World → List Value → α → Prop) (w : World) (p : Option Addr) (xs : List α) : Prop :=
  ∃ rows : List (List Value), RowArg w p rows.flatten ∧ (∀ r ∈ rows, r.length = size) ∧ Zip (R w) rows xs
/-- A reading that stays where memory grows. -/
def MonoC {α : Type} (R : World → List Value → α → Prop) : Prop := ∀ w w' cs x, Under w w' → R w cs x → R w' cs x
theorem RowsV.under {α : Type} {size : Nat} {R : World → List Value → α → Prop} (hR : MonoC R) {w w' : World} {p : Option Addr} {xs : List α} (h : RowsV size R w p xs) (hU : Under w w') : RowsV size R w' p xs := by
  obtain ⟨rows, h1, h2, h3⟩ := h
  exact ⟨rows, h1.under hU, h2, h3.mono fun v x => hR _ _ _ _ hU⟩
theorem flatten_rows {rows : List (List Value)} {size : Nat} (h : ∀ r ∈ rows, r.length = size) : rows.flatten.length = rows.length * size := by
  induction rows with
  | nil => simp
  | cons r l ih =>
    rw [List.flatten_cons, List.length_append, h r (List.mem_cons_self ..), ih fun x hx => h x (List.mem_cons_of_mem _ hx), List.length_cons, Nat.add_mul, Nat.one_mul, Nat.add_comm]
theorem flatten_at : ∀ {rows : List (List Value)} {size k j : Nat} {r : List Value} {u : Value}, (∀ r ∈ rows, r.length = size) → rows[k]? = some r → r[j]? = some u → rows.flatten[k * size + j]? = some u
  | x :: l, size, 0, j, r, u, h, hk, hj => by
    cases hk
    rw [List.flatten_cons, Nat.zero_mul, Nat.zero_add, List.getElem?_append_left (List.getElem?_eq_some_iff.1 hj).1]
    exact hj
  | x :: l, size, k + 1, j, r, u, h, hk, hj => by
    have h0 := h x (List.mem_cons_self ..)
    rw [List.flatten_cons, List.getElem?_append_right (by rw [h0, Nat.add_mul]; omega), h0, show (k + 1) * size + j - size = k * size + j by rw [Nat.add_mul]; omega]
    exact flatten_at (fun x hx => h x (List.mem_cons_of_mem _ hx)) (by simpa using hk) hj
/-- An element of such a slice. -/
theorem RowsV.at {α : Type} {size : Nat} {R : World → List Value → α → Prop} {w : World} {p : Option Addr} {xs : List α} (h : RowsV size R w p xs) {k : Nat} {x : α} (hk : xs[k]? = some x) (hs : 0 < size) :
    ∃ b off r, p = some ⟨b, off, none⟩ ∧ b < w.heap.size ∧ r.length = size ∧ R w r x ∧ ∀ j u, r[j]? = some u → w.cell? ⟨b, off + (k * size + j), none⟩ = some u := by
  obtain ⟨rows, h1, h2, h3⟩ := h
  obtain ⟨r, hr, hR⟩ := h3.at hk
  have hrl := h2 r (List.mem_of_getElem? hr)
  have hne : rows.flatten ≠ [] := by
    intro e
    have := flatten_at (j := 0) (u := r[0]'(by omega)) h2 hr (List.getElem?_eq_getElem (by omega))
    rw [e] at this; cases this
  obtain ⟨b, off, e, hb, hc⟩ := h1 hne
  exact ⟨b, off, r, e, hb, hrl, hR, fun j u hj => hc _ _ (flatten_at h2 hr hj)⟩
theorem RowsV.nil {α : Type} {size : Nat} {R : World → List Value → α → Prop} {w : World} {p : Option Addr} : RowsV size R w p ([] : List α) := ⟨[], RowArg.nil, fun r h => (List.not_mem_nil h).elim, Zip.nil _⟩
/-- Rows of one's own. -/
theorem RowsV.of_own {α : Type} {size : Nat} {R : World → List Value → α → Prop} {w : World} {base : Nat} {e : TypeId} {v : Value} {n : Nat} {xs : List α} {rows : List (List Value)} (h : w.ownsRow base e size v n rows.flatten) (h2 : ∀ r ∈ rows, r.length = size) (h3 : Zip (R w) rows xs) :
    ∃ q c, v = .slice q n c ∧ n ≤ c ∧ RowsV size R w q xs := by
  obtain ⟨q, c, e, hc, hr⟩ := RowArg.of_own h
  exact ⟨q, c, e, hc, rows, hr, h2, h3⟩

/-- A declaration's cells. -/
def DcRow (w : World) (cs : List Value) (d : Dc) : Prop := ∃ vt vb vc, cs = [.int .i64 d.kind, .int .i64 d.level, .string d.name, vt, vb, vc] ∧ TermV w vt d.type ∧ TermV w vb d.body ∧ ConsV w vc d.cons
theorem DcRow.mono : MonoC DcRow := fun w w' cs d hU ⟨vt, vb, vc, h1, h2, h3, h4⟩ => ⟨vt, vb, vc, h1, TermV.mono _ _ _ _ hU h2, TermV.mono _ _ _ _ hU h3, ConsV.mono _ _ _ _ hU h4⟩
theorem DcRow.val {w : World} {cs : List Value} {d : Dc} (h : DcRow w cs d) : DcV w (.agg cs.toArray) d := by
  obtain ⟨vt, vb, vc, rfl, h1, h2, h3⟩ := h
  exact ⟨vt, vb, vc, rfl, h1, h2, h3⟩
theorem DcV.row {w : World} {v : Value} {d : Dc} (h : DcV w v d) : ∃ cs, v = .agg cs.toArray ∧ DcRow w cs d := by
  obtain ⟨vt, vb, vc, rfl, h1, h2, h3⟩ := h
  exact ⟨_, rfl, vt, vb, vc, rfl, h1, h2, h3⟩
/-- An entry's cells: its declaration, and two more. -/
def EntRow (w : World) (cs : List Value) (d : Dc) : Prop := ∃ vt vb vc st q n c, cs = [.int .i64 d.kind, .int .i64 d.level, .string d.name, vt, vb, vc, .bool st, .slice q n c] ∧ TermV w vt d.type ∧ TermV w vb d.body ∧ ConsV w vc d.cons
theorem EntRow.mono : MonoC EntRow := fun w w' cs d hU ⟨vt, vb, vc, st, q, n, c, h1, h2, h3, h4⟩ => ⟨vt, vb, vc, st, q, n, c, h1, TermV.mono _ _ _ _ hU h2, TermV.mono _ _ _ _ hU h3, ConsV.mono _ _ _ _ hU h4⟩
end Go.Lx

/- Arguments with depth, opened: rows of structs, slices of slices, terms, declarations. -/
set_option linter.unusedVariables false
namespace Go.Lx
open Go.ChangeShapes Go.WideShapes Go.RowKit Go.Deep

theorem list_upto {α : Type} {Q : Nat → α → Prop} (n : Nat) (h : ∀ i, i < n → ∃ t, Q i t) : ∃ l : List α, l.length = n ∧ ∀ i t, l[i]? = some t → Q i t := by
  induction n with
  | zero => exact ⟨[], rfl, fun i t h => by simp at h⟩
  | succ n ih =>
    obtain ⟨l, h1, h2⟩ := ih fun i hi => h i (by omega)
    obtain ⟨t, ht⟩ := h n (by omega)
    refine ⟨l ++ [t], by simp [h1], fun i u hu => ?_⟩
    rw [List.getElem?_append] at hu
    split at hu
    · exact h2 i u hu
    · rename_i hi
      have h0 : i - l.length = 0 := by
        have := (List.getElem?_eq_some_iff.1 hu).1
        simp at this; omega
      rw [h0] at hu
      cases hu
      have : i = n := by omega
      exact this ▸ ht
theorem flatten_get {rows : List (List Value)} {size : Nat} (hs : 0 < size) (h : ∀ r ∈ rows, r.length = size) {j : Nat} {u : Value} (hj : rows.flatten[j]? = some u) : ∃ r, rows[j / size]? = some r ∧ r[j % size]? = some u := by
  have hlen := flatten_rows h
  have hjl := (List.getElem?_eq_some_iff.1 hj).1
  rw [hlen] at hjl
  have hk : j / size < rows.length := (Nat.div_lt_iff_lt_mul hs).2 hjl
  have hm : j % size < size := Nat.mod_lt _ hs
  have hr := List.getElem?_eq_getElem hk
  have hrl := h _ (List.getElem_mem hk)
  refine ⟨rows[j / size], hr, ?_⟩
  have := flatten_at (j := j % size) (u := rows[j / size][j % size]'(by omega)) h hr (List.getElem?_eq_getElem (by omega))
  rw [Nat.div_add_mod' j size] at this
  rw [this] at hj
  cases hj
  exact List.getElem?_eq_getElem _
section
variable {H : Type} {enc : TypeId × Value → H} {P : Program} {w : World} {spare : Nat → Bool} {held : Bool} {t e : TypeId} {fuel : Nat} {cs : List Value} {x : DataW H × List MemPlace}
/-- A slice of elements of so many cells. -/
theorem open_rows {α : Type} {R : World → List Value → α → Prop} {size : Nat} (ht : P.underlying t = some (.slice e)) (hC : P.cellsOf e = size) (hs : 0 < size)
    (hopen : ∀ fuel cs x, cs.length = size → DataW.trod enc P w 0 spare held fuel e cs = some x → ∃ a, R w cs a) (h : DataW.trod enc P w 0 spare held fuel t cs = some x) :
    ∃ (p : Option Addr) (c : Nat) (xs : List α), cs = [.slice p xs.length c] ∧ xs.length ≤ c ∧ (p = none → c = 0) ∧ RowsV size R w p xs := by
  rcases open_slice ht h with ⟨rfl, _⟩ | ⟨a, len, cap, m, n, D, Pl, rfl, _, hl, hm, hmm, _, hi⟩
  · exact ⟨none, 0, [], rfl, Nat.le_refl _, fun _ => rfl, RowsV.nil⟩
  · have hlm : len ≤ m := by rw [hmm]; split <;> omega
    rw [hC] at hi
    have each : ∀ i, i < len → ∃ q : List Value × α, q.1.length = size ∧ R w q.1 q.2 ∧ ∀ j u, q.1[j]? = some u → w.cell? ((a.add (i * size)).add j) = some u := by
      intro i hlt
      obtain ⟨cs', hc, ht'⟩ := hi i (by omega)
      obtain ⟨_, hcl, hat⟩ := World.cells?_some hc
      obtain ⟨b, hb⟩ := hopen _ _ _ hcl ht'
      exact ⟨(cs', b), hcl, hb, fun j u hj => by
        have hjl := (List.getElem?_eq_some_iff.1 hj).1
        have hj' : cs'[j]? = some u := hj
        rw [hat j (by have : (cs', b).1.length = cs'.length := rfl; omega)]; exact hj'⟩
    obtain ⟨l, hll, hl2⟩ := list_upto len each
    refine ⟨some a, cap, l.map (·.2), by simp [hll], by simpa [hll] using hl, (fun h => by cases h), l.map (·.1), ?_, ?_, ?_⟩
    · intro hne
      obtain ⟨b, off, sp⟩ := a
      have hrows : ∀ r ∈ l.map (·.1), r.length = size := by
        intro r hr
        obtain ⟨q, hq, rfl⟩ := List.mem_map.1 hr
        obtain ⟨i, hi'⟩ := List.getElem?_of_mem hq
        exact (hl2 i q hi').1
      obtain ⟨u0, hu0⟩ : ∃ u, (l.map (·.1)).flatten[0]? = some u := by
        cases hf : (l.map (·.1)).flatten with
        | nil => exact absurd hf hne
        | cons y ys => exact ⟨y, rfl⟩
      have cellof : ∀ j u, (l.map (·.1)).flatten[j]? = some u → w.cell? ((Addr.add ⟨b, off, sp⟩ (j / size * size)).add (j % size)) = some u := by
        intro j u hj
        obtain ⟨r, hr, hru⟩ := flatten_get hs hrows hj
        rw [List.getElem?_map] at hr
        cases hq : l[j / size]? with
        | none => rw [hq] at hr; cases hr
        | some q =>
          rw [hq] at hr
          cases hr
          exact (hl2 _ q hq).2.2 _ u hru
      have c0 := cellof 0 u0 hu0
      have hsp : sp = none := by
        have := World.cell?_spot c0
        simpa [Addr.add] using this
      subst hsp
      refine ⟨b, off, rfl, ?_, fun j u hj => ?_⟩
      · simp only [World.cell?, Addr.add] at c0
        simp at c0
        cases hb : w.heap[b]? with
        | none => simp [hb] at c0
        | some o => exact (Array.getElem?_eq_some_iff.1 hb).1
      · have := cellof j u hj
        rw [add_off, add_off, Nat.add_assoc, Nat.div_add_mod' j size] at this
        exact this
    · intro r hr
      obtain ⟨q, hq, rfl⟩ := List.mem_map.1 hr
      obtain ⟨i, hi'⟩ := List.getElem?_of_mem hq
      exact (hl2 i q hi').1
    · refine ⟨by simp, fun i v y hv hy => ?_⟩
      rw [List.getElem?_map] at hv hy
      cases hq : l[i]? with
      | none => rw [hq] at hv; cases hv
      | some q =>
        rw [hq] at hv hy
        cases hv; cases hy
        exact (hl2 i q hq).2.1
/-- Rows of one cell: a list that is read. -/
theorem ListV.of_rows {α : Type} {R : World → Value → α → Prop} {p : Option Addr} {c : Nat} {xs : List α} (h : RowsV 1 (fun w cs a => ∃ v, cs = [v] ∧ R w v a) w p xs) (hc : xs.length ≤ c) (h0 : p = none → c = 0) : ListV R w (.slice p xs.length c) xs := by
  obtain ⟨rows, h1, h2, h3⟩ := h
  have hz : ∀ (rows : List (List Value)) (xs : List α), Zip (fun cs a => ∃ v, cs = [v] ∧ R w v a) rows xs → Zip (R w) rows.flatten xs := by
    intro rows
    induction rows with
    | nil => intro xs hz; obtain ⟨e, _⟩ := hz; cases xs with | nil => exact Zip.nil _ | cons => cases e
    | cons r l ih =>
      intro xs hz
      cases xs with
      | nil => cases hz.1
      | cons y ys =>
        obtain ⟨v, rfl, hv⟩ := hz.2 0 r y rfl rfl
        have ht : Zip (fun cs a => ∃ v, cs = [v] ∧ R w v a) l ys := ⟨by have := hz.1; simpa using this, fun i v x hv hx => hz.2 (i + 1) v x (by simpa using hv) (by simpa using hx)⟩
        have := (Zip.one hv).app (ih ys ht)
        simpa using this
  exact ⟨p, c, rows.flatten, rfl, hc, h0, h1, hz rows xs h3⟩
theorem open_listV {α : Type} {R : World → Value → α → Prop} (ht : P.underlying t = some (.slice e)) (hC : P.cellsOf e = 1)
    (hopen : ∀ fuel cs x, DataW.trod enc P w 0 spare held fuel e cs = some x → ∃ v a, cs = [v] ∧ R w v a) (h : DataW.trod enc P w 0 spare held fuel t cs = some x) :
    ∃ v xs, cs = [v] ∧ ListV R w v xs := by
  obtain ⟨p, c, xs, rfl, hc, h0, hr⟩ := open_rows (R := fun w cs a => ∃ v, cs = [v] ∧ R w v a) ht hC (by decide) (fun fuel cs x _ hx => by
    obtain ⟨v, a, rfl, hv⟩ := hopen fuel cs x hx
    exact ⟨a, v, rfl, hv⟩) h
  exact ⟨_, xs, rfl, ListV.of_rows hr hc h0⟩
/-- A slice of nodes. -/
theorem open_termV {f0 f1 f2 f3 : Field} (ht : P.underlying t = some (.slice e)) (he : P.underlying e = some (.struct #[f0, f1, f2, f3])) (hone : oneCellFields P #[f0, f1, f2, f3] = true) (hC : P.cellsOf e = 4)
    (u0 : P.underlying f0.type = some (.int .i64)) (u1 : P.underlying f1.type = some (.int .i64)) (u2 : P.underlying f2.type = some (.int .i64)) (u3 : P.underlying f3.type = some .string) (h : DataW.trod enc P w 0 spare held fuel t cs = some x) :
    ∃ v l, cs = [v] ∧ TermV w v l := by
  obtain ⟨p, c, xs, rfl, hc, h0, rows, hr1, hr2, hr3⟩ := open_rows (R := fun _ cs (a : Nd) => cs = ndCell a) ht hC (by decide) (fun fuel cs x hcl hx => by
    obtain ⟨ys, n', _, _, _, hyl, hf⟩ := DataW.trod_struct he hx
    obtain ⟨o0, k0⟩ := hone_of hone 0 f0 rfl
    obtain ⟨o1, k1⟩ := hone_of hone 1 f1 rfl
    obtain ⟨o2, k2⟩ := hone_of hone 2 f2 rfl
    obtain ⟨o3, k3⟩ := hone_of hone 3 f3 rfl
    have g0 := hf 0 f0 rfl
    have g1 := hf 1 f1 rfl
    have g2 := hf 2 f2 rfl
    have g3 := hf 3 f3 rfl
    rw [o0, k0] at g0
    rw [o1, k1] at g1
    rw [o2, k2] at g2
    rw [o3, k3] at g3
    match cs, hcl with
    | [v0, v1, v2, v3], _ =>
      match ys, hyl with
      | [y0, y1, y2, y3], _ =>
        obtain ⟨z0, e0, _, _⟩ := DataW.trod_int u0 (x := y0) g0
        obtain ⟨z1, e1, _, _⟩ := DataW.trod_int u1 (x := y1) g1
        obtain ⟨z2, e2, _, _⟩ := DataW.trod_int u2 (x := y2) g2
        obtain ⟨z3, e3, _, _⟩ := DataW.trod_string u3 (x := y3) g3
        cases e0; cases e1; cases e2; cases e3
        exact ⟨⟨z0, z1, z2, z3⟩, rfl⟩) h
  refine ⟨_, xs, rfl, p, c, rfl, hc, h0, ?_⟩
  have : ∀ (rows : List (List Value)) (xs : List Nd), Zip (fun cs a => cs = ndCell a) rows xs → rows.flatten = ndCells xs := by
    intro rows
    induction rows with
    | nil => intro xs hz; obtain ⟨e, _⟩ := hz; cases xs with | nil => rfl | cons => cases e
    | cons r l ih =>
      intro xs hz
      cases xs with
      | nil => cases hz.1
      | cons y ys =>
        obtain rfl := hz.2 0 r y rfl rfl
        have ht : Zip (fun cs a => cs = ndCell a) l ys := ⟨by have := hz.1; simpa using this, fun i v x hv hx => hz.2 (i + 1) v x (by simpa using hv) (by simpa using hx)⟩
        rw [List.flatten_cons, ih ys ht]
        rfl
  rw [← this rows xs hr3]
  exact hr1
/-- A declaration's cells. -/
theorem open_dcRow {s tT tTs tC : TypeId} {f0 f1 f2 f3 f4 f5 : Field} (he : P.underlying s = some (.struct #[f0, f1, f2, f3, f4, f5])) (hone : oneCellFields P #[f0, f1, f2, f3, f4, f5] = true) (hC : P.cellsOf s = 6)
    (u0 : P.underlying f0.type = some (.int .i64)) (u1 : P.underlying f1.type = some (.int .i64)) (u2 : P.underlying f2.type = some .string)
    (h3 : ∀ fuel cs x, DataW.trod enc P w 0 spare held fuel f3.type cs = some x → ∃ v l, cs = [v] ∧ TermV w v l) (h4 : ∀ fuel cs x, DataW.trod enc P w 0 spare held fuel f4.type cs = some x → ∃ v l, cs = [v] ∧ TermV w v l)
    (h5 : ∀ fuel cs x, DataW.trod enc P w 0 spare held fuel f5.type cs = some x → ∃ v l, cs = [v] ∧ ConsV w v l)
    (hcl : cs.length = 6) (hx : DataW.trod enc P w 0 spare held fuel s cs = some x) : ∃ d, DcRow w cs d := by
  obtain ⟨ys, n', _, _, _, hyl, hf⟩ := DataW.trod_struct he hx
  obtain ⟨o0, k0⟩ := hone_of hone 0 f0 rfl
  obtain ⟨o1, k1⟩ := hone_of hone 1 f1 rfl
  obtain ⟨o2, k2⟩ := hone_of hone 2 f2 rfl
  obtain ⟨o3, k3⟩ := hone_of hone 3 f3 rfl
  obtain ⟨o4, k4⟩ := hone_of hone 4 f4 rfl
  obtain ⟨o5, k5⟩ := hone_of hone 5 f5 rfl
  have g0 := hf 0 f0 rfl
  have g1 := hf 1 f1 rfl
  have g2 := hf 2 f2 rfl
  have g3 := hf 3 f3 rfl
  have g4 := hf 4 f4 rfl
  have g5 := hf 5 f5 rfl
  rw [o0, k0] at g0
  rw [o1, k1] at g1
  rw [o2, k2] at g2
  rw [o3, k3] at g3
  rw [o4, k4] at g4
  rw [o5, k5] at g5
  match cs, hcl with
  | [v0, v1, v2, v3, v4, v5], _ =>
    match ys, hyl with
    | [y0, y1, y2, y3, y4, y5], _ =>
      obtain ⟨z0, e0, _, _⟩ := DataW.trod_int u0 (x := y0) g0
      obtain ⟨z1, e1, _, _⟩ := DataW.trod_int u1 (x := y1) g1
      obtain ⟨z2, e2, _, _⟩ := DataW.trod_string u2 (x := y2) g2
      obtain ⟨q3, l3, e3, r3⟩ := h3 _ _ y3 g3
      obtain ⟨q4, l4, e4, r4⟩ := h4 _ _ y4 g4
      obtain ⟨q5, l5, e5, r5⟩ := h5 _ _ y5 g5
      cases e0; cases e1; cases e2; cases e3; cases e4; cases e5
      exact ⟨⟨z0, z1, z2, l3, l4, l5⟩, _, _, _, rfl, r3, r4, r5⟩
end
end Go.Lx

/- The table of shapes and the table of fields, out of what the row lists of them. -/
set_option linter.unusedVariables false
namespace Go.Lx
open Go.ChangeShapes Go.WideShapes Go.RowKit Go.Deep

/-- A slice of numbers, as the row lists it. -/
def bindsD {H : Type} (l : List Nat) : DataW H := if l = [] then .nil else .slice (l.map fun (n : Nat) => .lit (.int .i64 (n : Int))) []
/-- A shape, as the row lists it. -/
def shapeD {H : Type} (k : Nat) : DataW H := .agg [bindsD (bindsOf k), .lit (.bool (fN k)), .lit (.bool (fM k)), .lit (.bool (fS k))]
theorem cell_lt {w : World} {b j : Nat} {v : Value} (h : w.cell? ⟨b, j, none⟩ = some v) : b < w.heap.size := by
  simp only [World.cell?] at h
  cases hb : w.heap[b]? with
  | none => simp [hb] at h
  | some o => exact (Array.getElem?_eq_some_iff.1 hb).1
section
variable {H : Type} {enc : TypeId × Value → H} {P : Program} {w : World} {base : Nat} {spare : Nat → Bool} {held : Bool} {t e : TypeId} {fuel : Nat} {cs : List Value} {q : List MemPlace}
theorem laid_ints {l : List Nat} (ht : P.underlying t = some (.slice e)) (he : P.underlying e = some (.int .i64)) (hC : P.cellsOf e = 1) (h : DataW.trod enc P w base spare held fuel t cs = some (bindsD l, q)) :
    ∃ p c, cs = [.slice p l.length c] ∧ l.length ≤ c ∧ RowArg w p (intsN l) := by
  rcases open_slice ht h with ⟨rfl, hx⟩ | ⟨a, len, cap, m, n, D, Pl, rfl, _, hl, hm, hmm, hx, hi⟩
  · have : l = [] := by
      unfold bindsD at hx
      split at hx
      · assumption
      · simp at hx
    subst this
    exact ⟨none, 0, rfl, Nat.le_refl _, RowArg.nil⟩
  · have hlm : len ≤ m := by rw [hmm]; split <;> omega
    rw [hC] at hi
    have hne : l ≠ [] := by
      intro e; subst e
      simp [bindsD] at hx
    unfold bindsD at hx
    rw [if_neg hne] at hx
    simp only [Prod.mk.injEq, DataW.slice.injEq] at hx
    obtain ⟨⟨hmap, _⟩, _⟩ := hx
    have hlen : l.length = len := by have := congrArg List.length hmap; simpa using this
    have each : ∀ (i n' : Nat), l[i]? = some n' → w.cell? (a.add (i * 1)) = some (.int .i64 (n' : Int)) := by
      intro i n' hn'
      have hil := (List.getElem?_eq_some_iff.1 hn').1
      obtain ⟨cs', hc, ht'⟩ := hi i (by omega)
      obtain ⟨_, hcl, hat⟩ := World.cells?_some hc
      obtain ⟨z, e1, e2, _⟩ := DataW.trod_int he ht'
      subst e1
      have h0 := hat 0 (by decide)
      have hD : D i = .lit (.int .i64 (n' : Int)) := by
        have := congrArg (fun r => r[i]?) hmap
        simp only [List.getElem?_map, hn', Option.map_some, List.getElem?_range (show i < len by omega)] at this
        exact (Option.some.inj this).symm
      have e3 : D i = .lit (.int .i64 z) := congrArg Prod.fst e2
      rw [hD] at e3
      cases e3
      simpa [Addr.add] using h0
    refine ⟨some a, cap, by rw [hlen], by omega, fun _ => ?_⟩
    obtain ⟨b, off, sp⟩ := a
    have hp : 0 < l.length := List.length_pos_iff.2 hne
    have c0 := each 0 l[0] (List.getElem?_eq_getElem hp)
    have hsp : sp = none := by simpa [Addr.add] using World.cell?_spot c0
    subst hsp
    refine ⟨b, off, rfl, ?_, fun j u hj => ?_⟩
    · rw [add_off] at c0; exact cell_lt c0
    · unfold intsN at hj
      rw [List.getElem?_map] at hj
      cases hq : l[j]? with
      | none => rw [hq] at hj; cases hj
      | some n' =>
        rw [hq] at hj
        cases hj
        have := each j n' hq
        rw [add_off, Nat.mul_one] at this
        exact this
theorem arr_at {n size m' : Nat} {ds : List (DataW H)} (ht : P.underlying t = some (.array n e)) (hC : P.cellsOf e = size) (h : DataW.trod enc P w base spare held fuel t cs = some (.agg ds, q)) {i : Nat} (hi : i < n) :
    ∃ d q' m, ds[i]? = some d ∧ DataW.trod enc P w base spare held m e ((cs.drop (i * size)).take size) = some (d, q') := by
  obtain ⟨xs, m, _, hx, _, hn, hel⟩ := DataW.trod_array ht h
  simp only [Prod.mk.injEq, DataW.agg.injEq] at hx
  have h1 := hel i hi
  rw [hC] at h1
  have hxi : xs[i]? = some xs[i] := List.getElem?_eq_getElem (by omega)
  rw [hxi] at h1
  exact ⟨xs[i].1, xs[i].2, m, by rw [hx.1, List.getElem?_map, hxi]; rfl, h1⟩
theorem drop_take_at {cs : List Value} {i size j : Nat} {v : Value} (h : ((cs.drop (i * size)).take size)[j]? = some v) : cs[i * size + j]? = some v := by
  rw [List.getElem?_take] at h
  split at h
  · rw [List.getElem?_drop] at h; exact h
  · cases h
/-- The table of shapes. -/
theorem shapesAt_of {g : Nat} {s ti : TypeId} {f0 f1 f2 f3 : Field} (hcell : ∀ j, w.cell? ⟨g, j, none⟩ = cs[j]?) (ht : P.underlying t = some (.array 30 s)) (hC : P.cellsOf s = 4) (hs : P.underlying s = some (.struct #[f0, f1, f2, f3])) (hone : oneCellFields P #[f0, f1, f2, f3] = true)
    (u0 : P.underlying f0.type = some (.slice ti)) (ui : P.underlying ti = some (.int .i64)) (ci : P.cellsOf ti = 1) (u1 : P.underlying f1.type = some .bool) (u2 : P.underlying f2.type = some .bool) (u3 : P.underlying f3.type = some .bool)
    (h : DataW.trod enc P w base spare held fuel t cs = some (.agg ((List.range 30).map shapeD), q)) : ShapesAt g w := by
  have each : ∀ k, k < 30 → ∃ p c, w.cell? ⟨g, k * 4, none⟩ = some (.slice p (bindsOf k).length c) ∧ (bindsOf k).length ≤ c ∧ RowArg w p (intsN (bindsOf k)) ∧
      w.cell? ⟨g, k * 4 + 1, none⟩ = some (.bool (fN k)) ∧ w.cell? ⟨g, k * 4 + 2, none⟩ = some (.bool (fM k)) ∧ w.cell? ⟨g, k * 4 + 3, none⟩ = some (.bool (fS k)) := by
    intro k hk
    obtain ⟨d, q', m, hd, htr⟩ := arr_at (m' := 0) ht hC h hk
    rw [List.getElem?_map, List.getElem?_range hk] at hd
    cases hd
    obtain ⟨ys, n', _, hx, hcl, hyl, hf⟩ := DataW.trod_struct hs htr
    obtain ⟨o0, k0⟩ := hone_of hone 0 f0 rfl
    obtain ⟨o1, k1⟩ := hone_of hone 1 f1 rfl
    obtain ⟨o2, k2⟩ := hone_of hone 2 f2 rfl
    obtain ⟨o3, k3⟩ := hone_of hone 3 f3 rfl
    have g0 := hf 0 f0 rfl
    have g1 := hf 1 f1 rfl
    have g2 := hf 2 f2 rfl
    have g3 := hf 3 f3 rfl
    rw [o0, k0] at g0
    rw [o1, k1] at g1
    rw [o2, k2] at g2
    rw [o3, k3] at g3
    have hat : ∀ j v, ((cs.drop (k * 4)).take 4)[j]? = some v → w.cell? ⟨g, k * 4 + j, none⟩ = some v := fun j v hj => by rw [hcell]; exact drop_take_at hj
    rw [hC] at hcl
    generalize (cs.drop (k * 4)).take 4 = r at *
    match r, hcl with
    | [v0, v1, v2, v3], _ =>
      match ys, hyl with
      | [y0, y1, y2, y3], _ =>
        simp only [shapeD, Prod.mk.injEq, DataW.agg.injEq, List.map_cons, List.map_nil, List.cons.injEq] at hx
        obtain ⟨⟨e0, e1, e2, e3, _⟩, _⟩ := hx
        have g0' : DataW.trod enc P w base spare held n' f0.type [v0] = some (bindsD (bindsOf k), y0.2) := by rw [e0]; exact g0
        obtain ⟨p, c, hv0, hc, hr⟩ := laid_ints u0 ui ci g0'
        obtain ⟨b1, hv1, hb1⟩ := DataW.trod_bool u1 (x := y1) g1
        obtain ⟨b2, hv2, hb2⟩ := DataW.trod_bool u2 (x := y2) g2
        obtain ⟨b3, hv3, hb3⟩ := DataW.trod_bool u3 (x := y3) g3
        rw [hb1] at e1
        rw [hb2] at e2
        rw [hb3] at e3
        cases e1; cases e2; cases e3
        cases hv0; cases hv1; cases hv2; cases hv3
        exact ⟨p, c, hat 0 _ rfl, hc, hr, hat 1 _ rfl, hat 2 _ rfl, hat 3 _ rfl⟩
  refine ⟨?_, each⟩
  obtain ⟨_, _, c0, _⟩ := each 0 (by decide)
  exact cell_lt c0
end
end Go.Lx
