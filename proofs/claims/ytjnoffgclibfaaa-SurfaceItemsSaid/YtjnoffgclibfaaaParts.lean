/- surface.Parts: its contract. -/
import Derived.Test.YtjnoffgclibfaaaItems2
set_option linter.unusedSimpArgs false
set_option linter.unusedVariables false
namespace Go.Proofs.Ytjnoffgclibfaaa
open Go.Conc Go.Lx Go.RowKit

/-- What Parts computes. -/
def partsGo (row : List Sx) : Option (List (List Sx)) :=
  match beginsGo row 0 [], row.getLast? with
  | some [_], some x => if x.word.size = 0 then itemsGo row.dropLast else none
  | _, _ => none
theorem partsGo_snoc (init : List Sx) (x : Sx) : partsGo (init ++ [x]) = match beginsGo (init ++ [x]) 0 [] with
    | some [_] => if x.word.size = 0 then itemsGo init else none
    | _ => none := by
  unfold partsGo
  rw [List.getLast?_concat, List.dropLast_concat]
  split
  · rename_i h1 h2
    cases h2
    rw [h1]
  · rename_i h
    split
    · rename_i h1
      exact absurd rfl (h _ _ h1)
    · rfl

section
variable {w0 : World} {b off n cap k : Nat}
set_option maxRecDepth 100000 in
set_option maxHeartbeats 4000000 in
theorem parts_snoc (init : List Sx) (x : Sx) (hn : init.length + 1 ≤ 1000000) (hcap : init.length + 1 ≤ cap) (hb0 : b < w0.heap.size) (ht : SxAt w0 b off (init ++ [x])) :
    Calls Try.prog 27 #[.slice (some ⟨b, off, none⟩) (init.length + 1) cap] w0 (ItOut w0 (partsGo (init ++ [x]))) := by
  have hl : (init ++ [x]).length = init.length + 1 := by simp
  have C1 := begins_any (w0 := w0) (cap := cap) (p := some ⟨b, off, none⟩) (init ++ [x]) (by omega) (fun _ => ⟨b, off, rfl, hb0, ht⟩)
  rw [hl] at C1
  have C1 := Lib.hid C1
  have C2 := Lib.hid (fun w1 (hU1 : Under w0 w1) => items_any (w0 := w1) (cap := cap) (p := some ⟨b, off, none⟩) init (by omega) (by omega) (SxArg.under (a := w0) (fun _ => ⟨b, off, rfl, hb0, fun k y hk => ht k y (by rw [List.getElem?_append_left (List.getElem?_eq_some_iff.1 hk).1]; exact hk)⟩) hU1))
  have c2 := (ht init.length x (by simp)).2.2
  have N0 : beginsGo (init ++ [x]) 0 [] = none → partsGo (init ++ [x]) = none := by
    intro h; rw [partsGo_snoc, h]
  have N1 : ∀ st, beginsGo (init ++ [x]) 0 [] = some st → st.length ≠ 1 → partsGo (init ++ [x]) = none := by
    intro st h hs
    rw [partsGo_snoc, h]
    match st, hs with
    | [], _ => rfl
    | [_], h => exact absurd rfl h
    | _ :: _ :: _, _ => rfl
  have N2 : ∀ st, beginsGo (init ++ [x]) 0 [] = some st → st.length = 1 → partsGo (init ++ [x]) = if x.word.size = 0 then itemsGo init else none := by
    intro st h hs
    rw [partsGo_snoc, h]
    match st, hs with
    | [_], _ => rfl
  have N0 := Lib.hid N0
  have N1 := Lib.hid N1
  have N2 := Lib.hid N2
  clear ht hl
  generalize partsGo (init ++ [x]) = PR at *
  generalize beginsGo (init ++ [x]) 0 [] = R at *
  have a1 : (init.length : Int) ≤ cap := by omega
  have a2 : (init.length : Int) < (init.length : Int) + 1 := by omega
  have a3 : (0 : Int) ≤ init.length := by omega
  have a4 : (init.length : Int) + 1 ≤ 1000000 := by omega
  obtain ⟨xm, xp, xw⟩ := x
  simp only at c2 N2
  go_enter Try.func27, Try.ntmps27
  go_wp2_with fail
  refine C1.out.mono ?_
  rintro e w1 ⟨hU1, hR1⟩
  rw [← under_cell hU1 hb0] at c2
  cases R with
  | none =>
    subst hR1
    have HU1 := Lib.hid hU1
    have N0' := Lib.hid (N0.out rfl)
    clear hU1 N0 N1 N2
    go_wp2
    go_ret2
    rw [N0'.out]
    exact ⟨HU1.out, rfl⟩
  | some st =>
    obtain ⟨va, rfl, hown⟩ := hR1
    obtain ⟨g, gc, rfl, hg, hgb, hgl, _, _⟩ := row_block hown (by omega)
    have HU1 := Lib.hid hU1
    clear hU1 hown hg hgb hgl
    by_cases hs : st.length = 1
    · have N2' := Lib.hid (N2.out st rfl hs)
      clear N0 N1 N2 C1
      rw [hs]
      clear hs
      by_cases hB : xw.size = 0
      · have e0 : xw = ⟨#[]⟩ := ByteArray.ext (Array.eq_empty_of_size_eq_zero hB)
        subst e0
        clear hB
        go_wp2_with fail
        refine (C2.out w1 HU1.out).mono ?_
        rintro e w2 ⟨hU2, hR2⟩
        have hPR := N2'.out
        simp only [show (⟨#[]⟩ : ByteArray).size = 0 from rfl, if_true] at hPR
        subst hPR
        generalize itemsGo init = R2 at *
        cases R2 with
        | none =>
          subst hR2
          have HU2 := Lib.hid hU2
          clear hU2
          go_wp2
          go_ret2
          exact ⟨HU1.out.trans HU2.out, rfl⟩
        | some ls =>
          obtain ⟨vo, vs, rfl, h1, h2⟩ := hR2
          have HU2 := Lib.hid hU2
          have H1 := Lib.hid h1
          have H2 := Lib.hid h2
          clear hU2 h1 h2
          go_wp2
          go_ret2
          exact ⟨HU1.out.trans HU2.out, vo, vs, rfl, row_base H1.out HU1.out.size, H2.out.map fun v n xs h => row_base h HU1.out.size⟩
      · obtain ⟨e1, e2⟩ := toList_ne hB
        have hPR := N2'.out
        rw [if_neg hB] at hPR
        subst hPR
        clear hB N2'
        go_wp2
        go_ret2
        exact ⟨HU1.out, rfl⟩
    · have e1 : ((st.length : Int) + 1 != 2) = true := by simp; omega
      have N1' := Lib.hid (N1.out st rfl hs)
      clear N0 N1 N2 C1 C2 hs
      go_wp2
      go_ret2
      rw [N1'.out]
      exact ⟨HU1.out, rfl⟩

set_option maxRecDepth 100000 in
set_option maxHeartbeats 4000000 in
theorem parts_nil {p : Option Addr} : Calls Try.prog 27 #[.slice p 0 cap] w0 (ItOut w0 none) := by
  have C1 := Lib.hid (begins_any (w0 := w0) (cap := cap) (p := p) [] (by simp) (fun h => absurd rfl h))
  have z : (([] : List Sx).length : Nat) = 0 := rfl
  go_enter Try.func27, Try.ntmps27
  go_wp2_with fail
  refine C1.out.mono ?_
  rintro e w1 ⟨hU1, va, rfl, hown⟩
  obtain ⟨g, gc, rfl, hg, hgb, hgl, _, _⟩ := row_block hown (by simp)
  have HU1 := Lib.hid hU1
  clear hU1 hown hg hgb hgl
  go_wp2
  go_ret2
  exact ⟨HU1.out, rfl⟩
theorem parts_any (row : List Sx) {p : Option Addr} (hn : row.length ≤ 1000000) (hcap : row.length ≤ cap) (hp : SxArg w0 p row) :
    Calls Try.prog 27 #[.slice p row.length cap] w0 (ItOut w0 (partsGo row)) := by
  by_cases hne : row = []
  · subst hne
    exact parts_nil
  obtain ⟨init, x, rfl⟩ : ∃ init x, row = init ++ [x] := ⟨row.dropLast, row.getLast hne, (List.dropLast_concat_getLast hne).symm⟩
  obtain ⟨b, off, rfl, hb0, ht⟩ := hp hne
  rw [List.length_append] at hn hcap ⊢
  exact parts_snoc init x hn hcap hb0 ht
end
end Go.Proofs.Ytjnoffgclibfaaa
