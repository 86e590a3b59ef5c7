/- An argument that is a slice of structs of two numbers and a text, opened. -/
import Derived.Test.YtjnoffgclibfaaaOpen3
import Derived.Test.YtjnoffgclibfaaaTheirs
import Derived.Deep.Slices
import Derived.Deep.Fields
import Derived.WideKeyArgs
set_option linter.unusedSimpArgs false
set_option linter.unusedVariables false
namespace Go.Proofs.Ytjnoffgclibfaaa
open Go.ChangeShapes Go.WideShapes Go.ChangeAt Go.RowKit Go.Conc Go.Lx Go.Deep

theorem openSx {H : Type} {enc : TypeId × Value → H} {P : Program} {w : World} {spare : Nat → Bool} {held : Bool} {t e : TypeId} {f0 f1 f2 : Field} {fuel : Nat} {cs : List Value} {x : DataW H × List MemPlace}
    (ht : P.underlying t = some (.slice e)) (he : P.underlying e = some (.struct #[f0, f1, f2])) (hone : oneCellFields P #[f0, f1, f2] = true) (hC : P.cellsOf e = 3)
    (u0 : P.underlying f0.type = some (.int .i64)) (u1 : P.underlying f1.type = some (.int .i64)) (u2 : P.underlying f2.type = some .string) (h : DataW.trod enc P w 0 spare held fuel t cs = some x) :
    ∃ (p : Option Addr) (cap : Nat) (l : List Sx), cs = [.slice p l.length cap] ∧ l.length ≤ cap ∧ (p = none → cap = 0) ∧ SxArg w p l := by
  rcases open_slice ht h with ⟨rfl, _⟩ | ⟨a, len, cap, m, n, D, Pl, rfl, _, hl, hm, hmm, _, hi⟩
  · exact ⟨none, 0, [], rfl, Nat.le_refl _, fun _ => rfl, fun h => absurd rfl h⟩
  · have hlm : len ≤ m := by rw [hmm]; split <;> omega
    rw [hC] at hi
    have each : ∀ i, i < len → ∃ t : Sx, w.cell? (a.add (i * 3)) = some (.int .i64 t.many) ∧ w.cell? (a.add (i * 3 + 1)) = some (.int .i64 t.pos) ∧ w.cell? (a.add (i * 3 + 2)) = some (.string t.word) := by
      intro i hlt
      obtain ⟨cs', hc, ht'⟩ := hi i (by omega)
      obtain ⟨ys, n', _, _, _, hyl, hf⟩ := DataW.trod_struct he ht'
      obtain ⟨_, hcl, hat⟩ := World.cells?_some hc
      obtain ⟨o0, k0⟩ := hone_of hone 0 f0 rfl
      obtain ⟨o1, k1⟩ := hone_of hone 1 f1 rfl
      obtain ⟨o2, k2⟩ := hone_of hone 2 f2 rfl
      have g0 := hf 0 f0 rfl
      have g1 := hf 1 f1 rfl
      have g2 := hf 2 f2 rfl
      rw [o0, k0] at g0
      rw [o1, k1] at g1
      rw [o2, k2] at g2
      match cs', hcl with
      | [v0, v1, v2], _ =>
        match ys, hyl with
        | [y0, y1, y2], _ =>
          obtain ⟨z0, e0, _, _⟩ := DataW.trod_int u0 (x := y0) g0
          obtain ⟨z1, e1, _, _⟩ := DataW.trod_int u1 (x := y1) g1
          obtain ⟨z2, e2, _, _⟩ := DataW.trod_string u2 (x := y2) g2
          cases e0; cases e1; cases e2
          have c0 := hat 0 (by decide)
          have c1 := hat 1 (by decide)
          have c2 := hat 2 (by decide)
          rw [Go.Deep.add_add] at c0 c1 c2
          exact ⟨⟨z0, z1, z2⟩, c0, c1, c2⟩
    obtain ⟨l, rfl, hl2⟩ := list_of len each
    refine ⟨some a, cap, l, rfl, by omega, (fun h => by cases h), fun hne => ?_⟩
    obtain ⟨b, off, sp⟩ := a
    have hp : 0 < l.length := List.length_pos_iff.2 hne
    obtain ⟨c0, _, _⟩ := hl2 0 l[0] (List.getElem?_eq_getElem hp)
    have hsp : sp = none := by simpa [Addr.add] using World.cell?_spot c0
    subst hsp
    refine ⟨b, off, rfl, ?_, fun k t hk => ?_⟩
    · simp only [World.cell?, Addr.add] at c0
      cases hb : w.heap[b]? with
      | none => simp [hb] at c0
      | some o => exact (Array.getElem?_eq_some_iff.1 hb).1
    · obtain ⟨d0, d1, d2⟩ := hl2 k t hk
      have ha : ∀ j, (⟨b, off, none⟩ : Addr).add j = ⟨b, off + j, none⟩ := by intro j; unfold Addr.add; split <;> simp_all
      rw [ha] at d0 d1 d2
      exact ⟨d0, d1, d2⟩

end Go.Proofs.Ytjnoffgclibfaaa
