/- The document's Parts, and lists: their contracts. -/
import Derived.Test.YtjnoffgclibfaaaRefThing2
set_option linter.unusedSimpArgs false
set_option linter.unusedVariables false
namespace Go.Proofs.Ytjnoffgclibfaaa
open Go.Conc Go.Lx Go.RowKit

/-- Rows, as Items and Parts hand them back. -/
def RowsOut (w0 : World) (R : Option (List (List Sx))) (e : Ending) (w1 : World) : Prop := ∃ q c, e = .returned (.tuple #[.slice q (R.getD []).length c, .bool R.isSome]) ∧ RowsArg w1 q (R.getD []) ∧ Under w0 w1
theorem rowsOut_of {w0 : World} {R : Option (List (List Sx))} {e : Ending} {w1 : World} (h : ItOut w0 R e w1) : RowsOut w0 R e w1 := by
  obtain ⟨hU, h⟩ := h
  cases R with
  | none => exact ⟨none, 0, h, fun h => absurd rfl h, hU⟩
  | some ls =>
    obtain ⟨vo, vs, rfl, h1, h2⟩ := h
    obtain ⟨q, c, rfl, h3⟩ := rows_arg h1 h2
    exact ⟨q, c, rfl, h3, hU⟩
section
variable {w0 : World} {b off cap : Nat}
set_option maxRecDepth 100000 in
set_option maxHeartbeats 1000000 in
theorem refParts_snoc (init : List Sx) (x : Sx) (hn : init.length + 1 ≤ 1000000) (hcap : init.length + 1 ≤ cap) (hb0 : b < w0.heap.size) (ht : SxAt w0 b off (init ++ [x])) :
    Calls Try.prog 33 #[.slice (some ⟨b, off, none⟩) (init.length + 1) cap] w0 (RowsOut w0 (partsGo (init ++ [x]))) := by
  have hl : (init ++ [x]).length = init.length + 1 := by simp
  have C1 := refItems_rows (w0 := w0) (cap := cap) (p := some ⟨b, off, none⟩) (init ++ [x]) (by omega) (by omega) (fun _ => ⟨b, off, rfl, hb0, ht⟩)
  rw [hl] at C1
  have C1 := Lib.hid C1
  have C2 := Lib.hid (fun w1 (hU1 : Under w0 w1) => refItems_rows (w0 := w1) (cap := cap) (p := some ⟨b, off, none⟩) init (by omega) (by omega) (SxArg.under (a := w0) (fun _ => ⟨b, off, rfl, hb0, fun k y hk => ht k y (by rw [List.getElem?_append_left (List.getElem?_eq_some_iff.1 hk).1]; exact hk)⟩) hU1))
  have c2 := (ht init.length x (by simp)).2.2
  have N0 : itemsGo (init ++ [x]) = none → partsGo (init ++ [x]) = none := by
    intro h
    unfold itemsGo at h
    rw [partsGo_snoc]
    cases hb : beginsGo (init ++ [x]) 0 [] with
    | none => rfl
    | some st => rw [hb] at h; cases h
  have N1 : ∀ ls, itemsGo (init ++ [x]) = some ls → ls.length ≠ 1 → partsGo (init ++ [x]) = none := by
    intro ls h hs
    unfold itemsGo at h
    rw [partsGo_snoc]
    cases hb : beginsGo (init ++ [x]) 0 [] with
    | none => rfl
    | some st =>
      rw [hb] at h; cases h
      rw [pieces_len] at hs
      match st, hs with
      | [], _ => rfl
      | [_], h => exact absurd rfl h
      | _ :: _ :: _, _ => rfl
  have N2 : ∀ ls, itemsGo (init ++ [x]) = some ls → ls.length = 1 → partsGo (init ++ [x]) = if x.word.size = 0 then itemsGo init else none := by
    intro ls h hs
    unfold itemsGo at h
    rw [partsGo_snoc]
    cases hb : beginsGo (init ++ [x]) 0 [] with
    | none => rw [hb] at h; cases h
    | some st =>
      rw [hb] at h; cases h
      rw [pieces_len] at hs
      match st, hs with
      | [_], _ => rfl
  have N0 := Lib.hid N0
  have N1 := Lib.hid N1
  have N2 := Lib.hid N2
  clear ht hl
  generalize partsGo (init ++ [x]) = PR at *
  generalize itemsGo (init ++ [x]) = R at *
  have a1 : (init.length : Int) ≤ cap := by omega
  have a2 : (init.length : Int) < (init.length : Int) + 1 := by omega
  have a3 : (0 : Int) ≤ init.length := by omega
  have a4 : (init.length : Int) + 1 ≤ 1000000 := by omega
  obtain ⟨xm, xp, xw⟩ := x
  simp only at c2 N2
  go_enter Try.func33, Try.ntmps33
  go_wp2_with fail
  refine C1.out.mono ?_
  rintro e w1 ⟨q, c, rfl, hr, hU1⟩
  rw [← under_cell hU1 hb0] at c2
  clear hr
  cases R with
  | none =>
    simp only [Option.getD_none, Option.isSome_none]
    have HU1 := Lib.hid hU1
    have N0' := Lib.hid (N0.out rfl)
    clear hU1 N0 N1 N2
    go_wp2
    go_ret2
    try rw [N0'.out]
    exact ⟨none, 0, rfl, fun h => absurd rfl h, HU1.out⟩
  | some ls =>
    simp only [Option.getD_some, Option.isSome_some]
    have HU1 := Lib.hid hU1
    clear hU1
    by_cases hs : ls.length = 1
    · have N2' := Lib.hid (N2.out ls rfl hs)
      clear N0 N1 N2 C1
      rw [hs]
      clear hs
      by_cases hB : xw.size = 0
      · have e0 : xw = ⟨#[]⟩ := ByteArray.ext (Array.eq_empty_of_size_eq_zero hB)
        subst e0
        clear hB
        go_wp2_with fail
        refine (C2.out w1 HU1.out).mono ?_
        rintro e w2 ⟨q2, c2', rfl, hr2, hU2⟩
        have hPR := N2'.out
        simp only [show (⟨#[]⟩ : ByteArray).size = 0 from rfl, if_true] at hPR
        subst hPR
        generalize itemsGo init = R2 at *
        have HU2 := Lib.hid hU2
        have HR2 := Lib.hid hr2
        clear hU2 hr2 N2' C2
        go_wp2
        go_ret2
        exact ⟨q2, c2', rfl, HR2.out, HU1.out.trans HU2.out⟩
      · obtain ⟨e1, e2⟩ := toList_ne hB
        have hPR := N2'.out
        rw [if_neg hB] at hPR
        subst hPR
        clear hB N2'
        go_wp2
        go_ret2
        exact ⟨none, 0, rfl, fun h => absurd rfl h, HU1.out⟩
    · have e1 : ((ls.length : Int) != 1) = true := by simp; omega
      have N1' := Lib.hid (N1.out ls rfl hs)
      clear N0 N1 N2 C1 C2 hs
      go_wp2
      go_ret2
      try rw [N1'.out]
      exact ⟨none, 0, rfl, fun h => absurd rfl h, HU1.out⟩
set_option maxRecDepth 100000 in
set_option maxHeartbeats 1000000 in
theorem refParts_nil {p : Option Addr} : Calls Try.prog 33 #[.slice p 0 cap] w0 (RowsOut w0 none) := by
  have C1 := Lib.hid (refItems_rows (w0 := w0) (cap := cap) (p := p) [] (by simp) (by simp) (fun h => absurd rfl h))
  go_enter Try.func33, Try.ntmps33
  go_wp2_with fail
  refine C1.out.mono ?_
  rintro e w1 ⟨q, c, rfl, _, hU1⟩
  have HU1 := Lib.hid hU1
  clear hU1
  have e0 : itemsGo [] = some [] := rfl
  rw [e0]
  simp only [Option.getD_some, Option.isSome_some, List.length_nil]
  clear e0
  go_wp2
  go_ret2
  exact ⟨none, 0, rfl, fun h => absurd rfl h, HU1.out⟩
theorem refParts_any (row : List Sx) {p : Option Addr} (hn : row.length ≤ 1000000) (hcap : row.length ≤ cap) (hp : SxArg w0 p row) :
    Calls Try.prog 33 #[.slice p row.length cap] w0 (RowsOut w0 (partsGo row)) := by
  by_cases hne : row = []
  · subst hne
    exact refParts_nil
  obtain ⟨init, x, rfl⟩ := snoc_of hne
  obtain ⟨b, off, rfl, hb0, ht⟩ := hp hne
  rw [List.length_append] at hn hcap ⊢
  exact refParts_snoc init x hn hcap hb0 ht
end

noncomputable def liText : Code := Try.f36.body.getD .skip
noncomputable def liLoop : Code := fstOf (sndOf (sndOf liText))
noncomputable def liRound : Code := inOf (inOf (sndOf liLoop))
def liFrame (vz vp : Value) (k : Nat) (J : Nat → Value) : Array Value := #[vz, vp, J 2, J 3, J 4, .int .i64 (k : Int), J 6, J 7, J 8, J 9, J 10, J 11, J 12, J 13, J 14, J 15, J 16, J 17, J 18, J 19, J 20, J 21, J 22, J 23, J 24, J 25, J 26, J 27]
def LNext (w0 : World) (vz vp : Value) (k : Nat) (a' : Act) (w' : World) : Prop := ∃ J, a' = ⟨liFrame vz vp k J, []⟩ ∧ Under w0 w'
def LDone (w0 : World) (vz vp : Value) (k : Nat) (ex : Exit) (a' : Act) (w' : World) : Prop := ex = .exit 0 ∧ LNext w0 vz vp k a' w'
section
variable {w0 : World} {n k cz cp : Nat}
set_option maxRecDepth 100000 in
theorem li_done {pz : Option Addr} {vp : Value} (J : Nat → Value) (w : World) (hU : Under w0 w) :
    liRound.wp Try.prog (Exit.then (fun _ _ => False) (LDone w0 (.slice pz n cz) vp n)) ⟨liFrame (.slice pz n cz) vp n J, []⟩ w := by
  have HU := Lib.hid hU
  clear hU
  unfold liRound liLoop liText
  simp only [Try.f36, Option.getD_some, fstOf, sndOf, inOf]
  unfold liFrame
  go_wp2
  exact ⟨rfl, frame_ex (F := liFrame _ _ n) (by rfl) HU.out⟩
set_option maxRecDepth 100000 in
set_option maxHeartbeats 4000000 in
theorem li_one {bz oz bp op : Nat} {l : List Sx} {qz qp : Option Addr} {az ap : Nat} (hk : k < n) (hn : n ≤ 1000000) (hl : l.length ≤ 1000000) (J : Nat → Value) (w : World) (hU : Under w0 w)
    (hz0 : bz < w0.heap.size) (hp0 : bp < w0.heap.size) (c1 : w0.cell? ⟨bz, oz + k, none⟩ = some (.slice qz l.length az)) (c2 : w0.cell? ⟨bp, op + k, none⟩ = some (.slice qp l.length ap)) (s1 : SxArg w0 qz l) (s2 : SxArg w0 qp l) :
    liRound.wp Try.prog (Exit.then (LNext w0 (.slice (some ⟨bz, oz, none⟩) n cz) (.slice (some ⟨bp, op, none⟩) n cp) (k + 1)) (fun _ _ _ => False)) ⟨liFrame (.slice (some ⟨bz, oz, none⟩) n cz) (.slice (some ⟨bp, op, none⟩) n cp) k J, []⟩ w := by
  rw [← under_cell hU hz0] at c1
  rw [← under_cell hU hp0] at c2
  have gz := Nat.lt_of_lt_of_le hz0 hU.size
  have gp := Nat.lt_of_lt_of_le hp0 hU.size
  have h1 : (k : Int) < n := by omega
  have h2 : (0 : Int) ≤ k := by omega
  have h3 : (k : Int) ≤ 1000000 := by omega
  have HC1 : Calls Try.prog 21 #[.slice qz l.length az] w.drew fun e w1 => ∃ p1 c1, e = .returned (.slice p1 l.length c1) ∧ SxArg w1 p1 l ∧ Under w w1 := by
    refine (theirs_any (w0 := w.drew) (cap := az) l hl (s1.under ⟨hU.os, hU.output, hU.size, hU.low⟩)).mono ?_
    rintro e w1 ⟨v, rfl, h3, h4⟩
    obtain ⟨p1, c1, rfl, h5⟩ := sx_arg h3
    exact ⟨p1, c1, rfl, h5, ⟨h4.os, h4.output, h4.size, h4.low⟩⟩
  have HC1 := Lib.hid HC1
  have HS2 := Lib.hid (fun w1 (h : Under w w1) => s2.under (hU.trans h))
  have HU := Lib.hid hU
  clear hU s1 s2
  unfold liRound liLoop liText
  simp only [Try.f36, Option.getD_some, fstOf, sndOf, inOf]
  unfold liFrame
  go_wp2_with fail
  go_region_held3 (fun w' => w'.cell? ⟨bz, oz + k, none⟩ = some (.slice qz l.length az) ∧ w'.cell? ⟨bp, op + k, none⟩ = some (.slice qp l.length ap))
    (first
      | go_keep
      | (refine ⟨?_, ?_⟩
         · (rw [under_cell (HU1.out.trans HU3.out) gz]; assumption)
         · (rw [under_cell (HU1.out.trans HU3.out) gp]; assumption))
      | (refine ⟨?_, ?_⟩
         · (rw [under_cell HU1.out gz]; assumption)
         · (rw [under_cell HU1.out gp]; assumption)))
    (first
      | (go_simp; go_at_call 20; refine (same_any (w0 := w1) (cap := c1') (cap' := ap) l hl HS1.out (HS2.out w1 HU1.out)).mono ?_; rintro e w3 ⟨rfl, hU3⟩; have HU3 := Lib.hid hU3; clear hU3)
      | (go_simp; go_at_call 21; refine HC1.out.mono ?_; rintro e w1 ⟨p1, c1', rfl, hs1, hU1⟩; have HU1 := Lib.hid hU1; have HS1 := Lib.hid hs1; clear hU1 hs1))
  go_wp2
  exact frame_ex (F := liFrame _ _ (k + 1)) (by rfl) (HU.out.trans (HU1.out.trans HU3.out))

def LI (w0 : World) (vz vp : Value) (n m : Nat) (a : Act) (w : World) : Prop := ∃ k, m + k = n ∧ LNext w0 vz vp k a w
theorem li_rounds (ls : List (List Sx)) {pz pp : Option Addr} (hn : ls.length ≤ 1000000) (hl : ∀ l ∈ ls, l.length ≤ 1000000) (hz : RowsArg w0 pz ls) (hp : RowsArg w0 pp ls) (m : Nat) (a : Act) (w : World) (h0 : LI w0 (.slice pz ls.length cz) (.slice pp ls.length cp) ls.length m a w) :
    (Code.loop liRound).wp Try.prog (LDone w0 (.slice pz ls.length cz) (.slice pp ls.length cp) ls.length) a w := by
  refine wp_loop_ghost _ m h0 ?_
  clear h0
  rintro m a w ⟨k, hmk, J, rfl, hU⟩
  by_cases hkn : k = ls.length
  · subst hkn
    refine wp_mono (li_done J w hU) ?_
    rintro e a' w' h
    cases e with
    | normal => exact h.elim
    | _ => exact h
  have hlt : k < ls.length := by omega
  have hne : ls ≠ [] := fun e => by rw [e] at hlt; exact absurd hlt (Nat.not_lt_zero _)
  obtain ⟨bz, oz, rfl, hb1, h1⟩ := hz hne
  obtain ⟨bp, op, rfl, hb2, h2⟩ := hp hne
  obtain ⟨qz, az, c1, _, s1⟩ := h1 k ls[k] (List.getElem?_eq_getElem hlt)
  obtain ⟨qp, ap, c2, _, s2⟩ := h2 k ls[k] (List.getElem?_eq_getElem hlt)
  refine wp_mono (li_one hlt hn (hl _ (List.getElem_mem hlt)) J w hU hb1 hb2 c1 c2 s1 s2) ?_
  rintro e a' w' h
  cases e with
  | normal => exact ⟨m - 1, by omega, k + 1, by omega, h⟩
  | _ => exact h.elim
set_option maxRecDepth 100000 in
set_option maxHeartbeats 1000000 in
theorem lists_any (ls : List (List Sx)) {pz pp : Option Addr} (hn : ls.length ≤ 1000000) (hl : ∀ l ∈ ls, l.length ≤ 1000000) (hz : RowsArg w0 pz ls) (hp : RowsArg w0 pp ls) :
    Calls Try.prog 36 #[.slice pz ls.length cz, .slice pp ls.length cp] w0 fun e w' => e = .returned (.bool true) ∧ Under w0 w' := by
  have HL := Lib.hid (fun m a w h => li_rounds (w0 := w0) (cz := cz) (cp := cp) ls hn hl hz hp m a w h)
  have e0 : ((ls.length : Int) != (ls.length : Int)) = false := by simp
  clear hz hp hl
  go_enter Try.func36, Try.ntmps36
  go_wp2
  rename_i K hK
  refine wp_mono (HL.out ls.length _ _ ⟨0, Nat.add_zero _, _, pframe_ex (F := liFrame _ _ 0) (by rfl), under_refl' _⟩) ?_
  rintro e a' w' ⟨rfl, J, rfl, hU⟩
  simp only [Exit.inBlock, if_pos, Exit.then]
  refine hK _ _ ?_
  have HU := Lib.hid hU
  clear hU
  unfold liFrame
  go_wp2
  go_ret
  exact ⟨rfl, HU.out⟩
end
end Go.Proofs.Ytjnoffgclibfaaa
