/- General texts on goroutines beside one another, part G: for any program. -/
import Derived.Test.YtjnoffgclibfaaaLxE
set_option linter.unusedSimpArgs false
set_option linter.unusedVariables false
/- Rows of one's own, written, cut and left alone. -/
namespace Go.Lx
open Go.Conc

variable {w w' : World} {base : Nat} {e : TypeId} {size n : Nat} {v : Value} {xs : List Value}

theorem row_block (h : w.ownsRow base e size v n xs) (hn : 0 < n) : ∃ g cap, v = .slice (some ⟨g, 0, none⟩) n cap ∧ v.ownBlock = some g ∧ base ≤ g ∧ g < w.heap.size ∧ n ≤ cap ∧ cap ≤ maxLen := by
  rcases h.2 with ⟨_, h0⟩ | ⟨g, cap, cur, rfl, hb, hg, h1, h2, _⟩
  · omega
  · exact ⟨g, cap, rfl, rfl, hb, (Array.getElem?_eq_some_iff.1 hg).1, h1, h2⟩

theorem row_cell (h : w.ownsRow base e size v n xs) {g : Nat} (hg : v.ownBlock = some g) {j : Nat} {u : Value} (hu : xs[j]? = some u) : w.cell? ⟨g, j, none⟩ = some u := by
  have := h.cells hg j u hu
  rwa [add_at] at this

theorem row_free (h : w.ownsRow base e size v n xs) {g : Nat} (hg : v.ownBlock = some g) (j : Nat) : w.frozen? ⟨g, j, none⟩ = false := by
  rcases h.2 with ⟨rfl, _⟩ | ⟨g', cap, cur, rfl, _, hgg, _⟩
  · cases hg
  · cases hg
    simp [World.frozen?, hgg]

theorem row_set (h : w.ownsRow base e size v n xs) {g : Nat} (hg : v.ownBlock = some g) {j : Nat} (hj : j < xs.length) (u : Value) : (w.setCell ⟨g, j, none⟩ u).ownsRow base e size v n (xs.set j u) := by
  rcases h.2 with ⟨rfl, _⟩ | ⟨g', cap, cur, rfl, hb, hgg, h1, h2, h3, h4⟩
  · cases hg
  · cases hg
    refine ⟨by rw [List.length_set]; exact h.1, .inr ⟨_, cap, cur.setIfInBounds j u, rfl, hb, heap_set_same w hgg u, h1, h2, by rw [Array.size_setIfInBounds]; exact h3, ?_⟩⟩
    rw [Array.toList_setIfInBounds, List.take_set, h4]

theorem row_other (h : w.ownsRow base e size v n xs) {b : Nat} (hg : v.ownBlock ≠ some b) (j : Nat) (u : Value) : (w.setCell ⟨b, j, none⟩ u).ownsRow base e size v n xs := by
  refine ⟨h.1, ?_⟩
  rcases h.2 with hn | ⟨g, cap, cur, rfl, hb, hgg, rest⟩
  · exact .inl hn
  · refine .inr ⟨g, cap, cur, rfl, hb, ?_, rest⟩
    rw [heap_set w _ u g (fun e => hg (by simp [Value.ownBlock, e]))]
    exact hgg

theorem row_cut {g cap : Nat} (h : w.ownsRow base e size (.slice (some ⟨g, 0, none⟩) n cap) n xs) {m : Nat} (hm : m ≤ n) : w.ownsRow base e size (.slice (some ⟨g, 0, none⟩) m cap) m (xs.take (m * size)) := by
  have hle : m * size ≤ n * size := Nat.mul_le_mul_right _ hm
  rcases h.2 with ⟨h0, _⟩ | ⟨g', cap', cur, hv, hb, hgg, h1, h2, h3, h4⟩
  · cases h0
  · cases hv
    refine ⟨by rw [List.length_take, h.1]; omega, .inr ⟨g, cap, cur, rfl, hb, hgg, by omega, h2, h3, ?_⟩⟩
    rw [← h4, List.take_take, Nat.min_eq_left hle]

theorem row_grown {row : Option Nat} (h : w.ownsRow base e size v n xs) (hg : w.grownBy w' row) (hne : v.ownBlock = none ∨ v.ownBlock ≠ row) : w'.ownsRow base e size v n xs := h.kept hg hne

end Go.Lx
