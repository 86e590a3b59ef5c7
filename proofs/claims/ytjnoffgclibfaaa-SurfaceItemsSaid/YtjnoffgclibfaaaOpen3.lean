/- An argument that is a slice of structs of two numbers and a text, opened. -/
import Derived.Test.YtjnoffgclibfaaaEnd
import Derived.Test.YtjnoffgclibfaaaParse2
import Derived.Deep.Slices
import Derived.Deep.Fields
import Derived.WideKeyArgs
set_option linter.unusedSimpArgs false
set_option linter.unusedVariables false
namespace Go.Proofs.Ytjnoffgclibfaaa
open Go.ChangeShapes Go.WideShapes Go.ChangeAt Go.RowKit Go.Conc Go.Lx Go.Deep

theorem list_of {α : Type} {Q : Nat → α → Prop} (n : Nat) (h : ∀ i, i < n → ∃ t, Q i t) : ∃ l : List α, l.length = n ∧ ∀ i t, l[i]? = some t → Q i t := by
  induction n with
  | zero => exact ⟨[], rfl, fun i t h => by simp at h⟩
  | succ n ih =>
    obtain ⟨l, h1, h2⟩ := ih fun i hi => h i (by omega)
    obtain ⟨t, ht⟩ := h n (by omega)
    refine ⟨l ++ [t], by simp [h1], fun i u hu => ?_⟩
    rw [List.getElem?_append] at hu
    split at hu
    · exact h2 i u hu
    · rename_i hi
      have : i - l.length = 0 := by
        have := (List.getElem?_eq_some_iff.1 hu).1
        simp at this; omega
      rw [this] at hu
      cases hu
      obtain rfl : i = n := by omega
      exact ht

theorem open3 {H : Type} {enc : TypeId × Value → H} {P : Program} {w : World} {spare : Nat → Bool} {held : Bool} {t e : TypeId} {f0 f1 f2 : Field} {fuel : Nat} {cs : List Value} {x : DataW H × List MemPlace}
    (ht : P.underlying t = some (.slice e)) (he : P.underlying e = some (.struct #[f0, f1, f2])) (hone : oneCellFields P #[f0, f1, f2] = true) (hC : P.cellsOf e = 3)
    (u0 : P.underlying f0.type = some (.int .i64)) (u1 : P.underlying f1.type = some (.int .i64)) (u2 : P.underlying f2.type = some .string) (h : DataW.trod enc P w 0 spare held fuel t cs = some x) :
    ∃ (p : Option Addr) (cap : Nat) (l : List PTok), cs = [.slice p l.length cap] ∧ l.length ≤ maxLen ∧ TokArg w p l := by
  rcases open_slice ht h with ⟨rfl, _⟩ | ⟨a, len, cap, m, n, D, Pl, rfl, _, hl, hm, hmm, _, hi⟩
  · exact ⟨none, 0, [], rfl, Nat.zero_le _, fun h => absurd rfl h⟩
  · have hlm : len ≤ m := by rw [hmm]; split <;> omega
    rw [hC] at hi
    have each : ∀ i, i < len → ∃ t : PTok, w.cell? (a.add (i * 3)) = some (.int .i64 t.kind) ∧ w.cell? (a.add (i * 3 + 1)) = some (.int .i64 t.pos) ∧ w.cell? (a.add (i * 3 + 2)) = some (.string t.text) := by
      intro i hlt
      obtain ⟨cs', hc, ht'⟩ := hi i (by omega)
      obtain ⟨ys, n', _, _, _, hyl, hf⟩ := DataW.trod_struct he ht'
      obtain ⟨_, hcl, hat⟩ := World.cells?_some hc
      obtain ⟨o0, k0⟩ := hone_of hone 0 f0 rfl
      obtain ⟨o1, k1⟩ := hone_of hone 1 f1 rfl
      obtain ⟨o2, k2⟩ := hone_of hone 2 f2 rfl
      have g0 := hf 0 f0 rfl
      have g1 := hf 1 f1 rfl
      have g2 := hf 2 f2 rfl
      rw [o0, k0] at g0
      rw [o1, k1] at g1
      rw [o2, k2] at g2
      match cs', hcl with
      | [v0, v1, v2], _ =>
        match ys, hyl with
        | [y0, y1, y2], _ =>
          obtain ⟨z0, e0, _, _⟩ := DataW.trod_int u0 (x := y0) g0
          obtain ⟨z1, e1, _, _⟩ := DataW.trod_int u1 (x := y1) g1
          obtain ⟨z2, e2, _, _⟩ := DataW.trod_string u2 (x := y2) g2
          cases e0; cases e1; cases e2
          have c0 := hat 0 (by decide)
          have c1 := hat 1 (by decide)
          have c2 := hat 2 (by decide)
          rw [Go.Deep.add_add] at c0 c1 c2
          exact ⟨⟨z0, z1, z2⟩, c0, c1, c2⟩
    obtain ⟨l, rfl, hl2⟩ := list_of len each
    refine ⟨some a, cap, l, rfl, by omega, fun hne => ?_⟩
    obtain ⟨b, off, sp⟩ := a
    have hp : 0 < l.length := List.length_pos_iff.2 hne
    obtain ⟨c0, _, _⟩ := hl2 0 l[0] (List.getElem?_eq_getElem hp)
    have hsp : sp = none := by simpa [Addr.add] using World.cell?_spot c0
    subst hsp
    refine ⟨b, off, rfl, ?_, fun k t hk => ?_⟩
    · simp only [World.cell?, Addr.add] at c0
      cases hb : w.heap[b]? with
      | none => simp [hb] at c0
      | some o => exact (Array.getElem?_eq_some_iff.1 hb).1
    · obtain ⟨d0, d1, d2⟩ := hl2 k t hk
      have ha : ∀ j, (⟨b, off, none⟩ : Addr).add j = ⟨b, off + j, none⟩ := by intro j; unfold Addr.add; split <;> simp_all
      rw [ha] at d0 d1 d2
      exact ⟨d0, d1, d2⟩

/-- An argument is read again as it was. -/
theorem stays {H : Type} {enc : TypeId × Value → H} {W w : World} {t : TypeId} {v : Value} {d : DataW H} {ps : List MemPlace} (hr : Try.prog.readableRec t = true) (hrow : t < Try.prog.types.size) (hU : Under W w) (dd : Nat)
    (hlt : ∀ p ∈ ps, p.block < W.heap.size) (h : DataW.Trod enc Try.prog W 0 (fun _ => true) true t v d ps) : DataW.Trod enc Try.prog (re w W.tape dd) 0 (fun b => decide (b < W.heap.size)) true t v d ps := by
  refine Go.WideElems.Trod_stays Try.laidOut hr hrow h (fun p hp => ?_) (fun p hp => by simpa using hlt p hp)
  have hb := hlt p hp
  cases p with
  | cell b off => exact under_cell (hU.re W.tape dd) hb off
  | map b => exact (hU.re W.tape dd).low b hb
end Go.Proofs.Ytjnoffgclibfaaa
