/- term.Binds: its contract. -/
import Derived.Test.YtiibknlpeodejaaDoorTBinds1
set_option linter.unusedSimpArgs false
set_option linter.unusedVariables false
namespace Go.Proofs.YtiibknlpeodejaaDoor
open Go.Lx Go.RowKit
section
variable {w0 : World}
set_option maxRecDepth 100000 in
set_option maxHeartbeats 1000000 in
theorem binds_rest (x : Nd) (hs : x.s.size ≤ maxLen) (hS : ShapesAt 1 w0) (hr : rightB x = true) (h26 : ¬ x.k = 26) (h27 : ¬ x.k = 27) : Calls Tryd.prog 51 #[ndV x] w0 (BindsOut w0 x) := by
  have HB := Lib.hid (box_new w0 #[.int .i64 x.k, .int .i64 x.n, .int .i64 x.m, .string x.s] 51)
  have HC := Lib.hid (right_any x _ hs (hS.under (under_alloc (Under.refl w0) (.cells #[.int .i64 x.k, .int .i64 x.n, .int .i64 x.m, .string x.s] 51))))
  obtain ⟨h0, h1⟩ := rightB_k hr
  have HR := Lib.hid hr
  rw [hr] at HC
  obtain ⟨i0, hi, hz0, hz1, hz2⟩ := info_parts Tryd.info3
  have hl6 := bindsOf_len x.k.toNat
  have HS := Lib.hid hS
  have hb := hS.lt
  clear hS hr
  unfold ndV
  go_enter Tryd.func51, Tryd.ntmps51
  go_wp2_with fail
  refine HC.out.mono ?_
  rintro e w1 ⟨rfl, hU1⟩
  have hB1 := HB.out.under hU1
  have e0 := hB1.cell 0
  have e1 := hB1.cell 1
  have e2 := hB1.cell 2
  have e3 := hB1.cell 3
  have hS1 := HS.out.under ((under_alloc (Under.refl w0) _).trans hU1)
  obtain ⟨p, c, c0, hcc, hrow, _⟩ := hS1.row x.k.toNat (by omega)
  have hlt := hS1.lt
  have HCl := Lib.hid (cloneInts_any (w0 := w1) (c := c) (bindsOf x.k.toNat) (by omega) hrow)
  have HU1 := Lib.hid hU1
  clear hU1 hB1 hS1 hrow
  go_wp2_with fail
  refine HCl.out.mono ?_
  rintro e w2 ⟨v, rfl, hown, hU2⟩
  have HO := Lib.hid hown
  have HU2 := Lib.hid hU2
  clear hown hU2
  go_wp2
  go_ret2
  unfold BindsOut
  rw [HR.out]
  refine ⟨v, rfl, ?_, ((under_alloc (Under.refl w0) _).trans HU1.out).trans HU2.out⟩
  have : (if true = true then binds x else []) = bindsOf x.k.toNat := by rw [if_pos rfl]; unfold binds; rw [if_neg h26, if_neg h27]
  rw [this]
  exact row_base HO.out ((under_alloc (Under.refl w0) _).trans HU1.out).size

set_option maxRecDepth 100000 in
theorem binds_any (x : Nd) (hs : x.s.size ≤ maxLen) (hS : ShapesAt 1 w0) : Calls Tryd.prog 51 #[ndV x] w0 (BindsOut w0 x) := by
  by_cases hr : rightB x = true
  · by_cases h26 : x.k = 26
    · obtain ⟨k, n, m, s⟩ := x
      obtain rfl : k = 26 := h26
      have hm := rightB_m hr (.inl rfl)
      obtain ⟨m', rfl⟩ : ∃ m' : Nat, m = m' := ⟨m.toNat, by simp only at hm; omega⟩
      exact binds_con n m' s hs hS hr (by simp only at hm; omega)
    · by_cases h27 : x.k = 27
      · obtain ⟨k, n, m, s⟩ := x
        obtain rfl : k = 27 := h27
        have hm := rightB_m hr (.inr rfl)
        obtain ⟨m', rfl⟩ : ∃ m' : Nat, m = m' := ⟨m.toNat, by simp only at hm; omega⟩
        exact binds_elim n m' s hs hS hr (by simp only at hm; omega)
      · exact binds_rest x hs hS hr h26 h27
  · have HC := Lib.hid (right_any x _ hs (hS.under (under_alloc (Under.refl w0) (.cells #[.int .i64 x.k, .int .i64 x.n, .int .i64 x.m, .string x.s] 51))))
    have hr' : rightB x = false := by simpa using hr
    rw [hr'] at HC
    have HR := Lib.hid hr'
    clear hr hr' hS
    unfold ndV
    go_enter Tryd.func51, Tryd.ntmps51
    go_wp2_with fail
    refine HC.out.mono ?_
    rintro e w1 ⟨rfl, hU1⟩
    have HU1 := Lib.hid hU1
    clear hU1
    go_wp2
    go_ret2
    unfold BindsOut
    rw [HR.out]
    exact ⟨.slice none 0 0, rfl, World.ownsRow_nil _ _ _ _, (under_alloc (Under.refl w0) _).trans HU1.out⟩
end
end Go.Proofs.YtiibknlpeodejaaDoor
