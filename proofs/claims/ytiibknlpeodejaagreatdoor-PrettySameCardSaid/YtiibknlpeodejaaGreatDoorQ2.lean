/- Part 2 of what the proof rests on. -/
import Derived.Deep.QuietTactic
import Derived.Test.YtiibknlpeodejaaGreatDoorQ1
set_option linter.unusedSimpArgs false
set_option linter.unusedVariables false
/- corniceref02.Binds: its contract, at further kinds. Printed by rbinds.py. -/
namespace Go.Proofs.YtiibknlpeodejaaGreatDoor
open Go.Lx Go.RowKit
section
variable {w0 : World}
set_option maxRecDepth 100000 in
set_option maxHeartbeats 4000000 in
theorem rb_12 (n m : Int) (s : ByteArray) : Calls Tryz.prog 44 #[ndV ⟨12, n, m, s⟩] w0 fun e w => ∃ q c, e = .returned (.tuple #[.slice q 1 c, .bool (plainB ⟨12, n, m, s⟩)]) ∧ 1 ≤ c ∧ RowArg w q (intsN [0]) ∧ Under w0 w := by
  obtain ⟨i0, hi, hz0, hz1, hz2⟩ := info_parts Tryz.infoInt
  have HPl := Lib.hid (fun w => plain_any (w0 := w) ⟨12, n, m, s⟩)
  generalize plainB ⟨12, n, m, s⟩ = pb at *
  unfold ndV at *
  simp only at HPl ⊢
  have HE := Lib.hid (row_emptyZ (w0.alloc (.cells #[.int .i64 12, .int .i64 n, .int .i64 m, .string s] 38)) (w0.heap.size + 1) 3 1 (by simp))
  rw [show (w0.alloc (.cells #[.int .i64 12, .int .i64 n, .int .i64 m, .string s] 38)).heap.size = w0.heap.size + 1 by simp] at HE
  go_enter Tryz.func44, Tryz.ntmps44
  go_wp2_with fail
  obtain ⟨W1, hW1⟩ : ∃ W, W = (w0.alloc (.cells #[.int .i64 12, .int .i64 n, .int .i64 m, .string s] 38)).alloc (.cells #[] 3) := ⟨_, rfl⟩
  have c0 : W1.cell? ⟨w0.heap.size, 0, none⟩ = some (.int .i64 12) := by rw [hW1]; exact ((box_new w0 _ _).alloc _).cell 0
  have c1 : W1.cell? ⟨w0.heap.size, 1, none⟩ = some (.int .i64 n) := by rw [hW1]; exact ((box_new w0 _ _).alloc _).cell 1
  have c2 : W1.cell? ⟨w0.heap.size, 2, none⟩ = some (.int .i64 m) := by rw [hW1]; exact ((box_new w0 _ _).alloc _).cell 2
  have c3 : W1.cell? ⟨w0.heap.size, 3, none⟩ = some (.string s) := by rw [hW1]; exact ((box_new w0 _ _).alloc _).cell 3
  have hsz : w0.heap.size < W1.heap.size := by rw [hW1]; simp; omega
  have HR : RowKit.Hid (W1.ownsRow (w0.heap.size + 1) 3 1 (.slice (some ⟨w0.heap.size + 1, 0, none⟩) 0 0) 0 []) := Lib.hid (by rw [hW1]; exact HE.out)
  rw [← hW1]
  have HBx : RowKit.Hid (BoxAt W1 w0.heap.size 38 #[.int .i64 12, .int .i64 n, .int .i64 m, .string s]) := Lib.hid (by rw [hW1]; exact (box_new w0 _ _).alloc _)
  have HU := Lib.hid (show Under w0 W1 by rw [hW1]; exact under_alloc (under_alloc (Under.refl _) _) _)
  clear hW1 HE
  refine wp_region_noPanic ?_
  refine wp_region_held_drew (S := fun w' => w'.cell? ⟨w0.heap.size, 0, none⟩ = some (.int .i64 12) ∧ w'.cell? ⟨w0.heap.size, 1, none⟩ = some (.int .i64 n) ∧ w'.cell? ⟨w0.heap.size, 2, none⟩ = some (.int .i64 m) ∧ w'.cell? ⟨w0.heap.size, 3, none⟩ = some (.string s)
     ∧ w0.heap.size < w'.heap.size) (by kernel_rfl) ⟨c0, c1, c2, c3, hsz⟩ (fun hHeld => ?_)
  refine wpAnyH_take (i := 0) (v := ?v0) rfl (by kernel_rfl) (by kernel_rfl) (by kernel_rfl) (fun _ _ _ h => h) (Or.inl ⟨by (first | kernel_rfl | rfl), ?hy0⟩) (by assumption) ?rest0
  case hy0 => (intro w hSw; (try dsimp only at hSw); go_simp; try with_reducible rfl)
  try simp only [Act.put, List.setIfInBounds_toArray, List.set_cons_zero, List.set_cons_succ]
  refine wpAnyH_take (i := 3) (v := ?v3) rfl (by kernel_rfl) (by kernel_rfl) (by kernel_rfl) (fun _ _ _ h => h) (Or.inl ⟨by (first | kernel_rfl | rfl), ?hy3⟩) (by assumption) ?rest3
  case hy3 => (intro w hSw; (try dsimp only at hSw); go_simp; try with_reducible rfl)
  try simp only [Act.put, List.setIfInBounds_toArray, List.set_cons_zero, List.set_cons_succ]
  refine wpAnyH_ready (rs := [1]) (by kernel_rfl) (by simp) ?_
  refine AllReadyH.cons rfl (fun K hK => ?_) AllReadyH.nil
  go_simp
  refine hK.out _ _ ?_ (fun hHeld' => ?_)
  · obtain ⟨d0, d1, d2, d3, d4⟩ := hHeld
    have hU := under_alloc (Under.refl W1.drew) (.cells #[.int .i64 0] 3)
    exact ⟨(under_cell hU d4 _).trans d0, (under_cell hU d4 _).trans d1, (under_cell hU d4 _).trans d2, (under_cell hU d4 _).trans d3, Nat.lt_of_lt_of_le d4 hU.size⟩
  clear hK K hHeld
  have hHeld := hHeld'
  clear hHeld'
  try simp only [Act.put, List.setIfInBounds_toArray, List.set_cons_zero, List.set_cons_succ]
  refine wpAnyH_ready (rs := [2]) (by kernel_rfl) (by simp) ?_
  refine AllReadyH.cons rfl (fun K hK => ?_) AllReadyH.nil
  refine step_append_lies _ (by rfl) _ _ _ (by rfl) (w0.heap.size + 1) 3 i0 _ 1 8 Tryz.underlying63 hi hz0 hz1 hz2 rfl (by omega) (.slice (some ⟨w0.heap.size + 1, 0, none⟩) 0 0) 0 [] (by rfl) (HR.out.drew.alloc _)
        ⟨W1.heap.size, 0, none⟩ 1 1 [.int .i64 0] (by rfl) (by rfl) (World.news_of_block (cs := #[.int .i64 0]) (t := 3) (fr := (0, 0)) (heap_alloc_new _ _)) (by simp [Value.oneCell'])
        (by omega) (by simp [maxLen]) (by simp) (by simp; omega) (W1.heap.size + 1) (by simp) ?_
  intro gg cc w2 hown2 hgrow hat hlt
  have HB2 := Lib.hid (BoxAt.grown ((HBx.out.alloc (.cells #[.int .i64 0] 3)).drew) hgrow (fun e => by simp [Value.ownBlock] at e))
  have HU2 := Lib.hid (under_grown (under_drew (under_alloc HU.out (.cells #[.int .i64 0] 3))) hgrow (fun g e => by simp [Value.ownBlock] at e; omega))
  have HO2 := Lib.hid hown2
  refine hK.out _ _ ?_ (fun hHeld' => ?_)
  · exact ⟨HB2.out.cell 0, HB2.out.cell 1, HB2.out.cell 2, HB2.out.cell 3, HB2.out.lt⟩
  clear hK K hHeld hown2 hgrow hat hlt
  have hHeld := hHeld'
  clear hHeld'
  try simp only [Act.put, List.setIfInBounds_toArray, List.set_cons_zero, List.set_cons_succ]
  refine wpAnyH_ready (rs := [4]) (by kernel_rfl) (by simp) ?_
  refine AllReadyH.cons rfl (fun K hK => ?_) AllReadyH.nil
  go_simp
  go_at_call 68
  refine (HPl.out _).mono ?_
  rintro e w3 ⟨rfl, rfl⟩
  refine hK.out _ _ ?_ (fun hHeld' => ?_)
  · have HB3 := HB2.out.alloc (.cells #[.int .i64 12, .int .i64 n, .int .i64 m, .string s] 38)
    exact ⟨HB3.cell 0, HB3.cell 1, HB3.cell 2, HB3.cell 3, HB3.lt⟩
  clear hK K hHeld
  have hHeld := hHeld'
  clear hHeld'
  try simp only [Act.put, List.setIfInBounds_toArray, List.set_cons_zero, List.set_cons_succ]
  refine wpAnyH_take (i := 5) (v := ?v5) rfl (by kernel_rfl) (by kernel_rfl) (by kernel_rfl) (fun _ _ _ h => h) (Or.inl ⟨by (first | kernel_rfl | rfl), ?hy5⟩) (by assumption) ?rest5
  case hy5 => (intro w hSw; (try dsimp only at hSw); go_simp; try with_reducible rfl)
  try simp only [Act.put, List.getElem_toArray, List.getElem_cons_succ, List.getElem_cons_zero, List.setIfInBounds_toArray, List.set_cons_zero, List.set_cons_succ]
  refine wpAnyH_take (i := 6) (v := ?v6) rfl (by kernel_rfl) (by kernel_rfl) (by kernel_rfl) (fun _ _ _ h => h) (Or.inl ⟨by (first | kernel_rfl | rfl), ?hy6⟩) (by assumption) ?rest6
  case hy6 => (intro w hSw; (try dsimp only at hSw); go_simp; try with_reducible rfl)
  try simp only [Act.put, List.getElem_toArray, List.getElem_cons_succ, List.getElem_cons_zero, List.setIfInBounds_toArray, List.set_cons_zero, List.set_cons_succ]
  refine wpAnyH_done (by kernel_rfl) ?_ _
  refine NoPanic.normal ?_
  obtain ⟨q, c, hv, hc, hr⟩ := RowArg.of_own HO2.out
  cases hv
  go_wp2
  go_ret2
  exact ⟨_, _, rfl, hc, hr.under (under_alloc (Under.refl _) _), under_alloc HU2.out _⟩
set_option maxRecDepth 100000 in
set_option maxHeartbeats 4000000 in
theorem rb_28 (n m : Int) (s : ByteArray) : Calls Tryz.prog 44 #[ndV ⟨28, n, m, s⟩] w0 fun e w => ∃ q c, e = .returned (.tuple #[.slice q 1 c, .bool (plainB ⟨28, n, m, s⟩)]) ∧ 1 ≤ c ∧ RowArg w q (intsN [0]) ∧ Under w0 w := by
  obtain ⟨i0, hi, hz0, hz1, hz2⟩ := info_parts Tryz.infoInt
  have HPl := Lib.hid (fun w => plain_any (w0 := w) ⟨28, n, m, s⟩)
  generalize plainB ⟨28, n, m, s⟩ = pb at *
  unfold ndV at *
  simp only at HPl ⊢
  have HE := Lib.hid (row_emptyZ (w0.alloc (.cells #[.int .i64 28, .int .i64 n, .int .i64 m, .string s] 38)) (w0.heap.size + 1) 3 1 (by simp))
  rw [show (w0.alloc (.cells #[.int .i64 28, .int .i64 n, .int .i64 m, .string s] 38)).heap.size = w0.heap.size + 1 by simp] at HE
  go_enter Tryz.func44, Tryz.ntmps44
  go_wp2_with fail
  obtain ⟨W1, hW1⟩ : ∃ W, W = (w0.alloc (.cells #[.int .i64 28, .int .i64 n, .int .i64 m, .string s] 38)).alloc (.cells #[] 3) := ⟨_, rfl⟩
  have c0 : W1.cell? ⟨w0.heap.size, 0, none⟩ = some (.int .i64 28) := by rw [hW1]; exact ((box_new w0 _ _).alloc _).cell 0
  have c1 : W1.cell? ⟨w0.heap.size, 1, none⟩ = some (.int .i64 n) := by rw [hW1]; exact ((box_new w0 _ _).alloc _).cell 1
  have c2 : W1.cell? ⟨w0.heap.size, 2, none⟩ = some (.int .i64 m) := by rw [hW1]; exact ((box_new w0 _ _).alloc _).cell 2
  have c3 : W1.cell? ⟨w0.heap.size, 3, none⟩ = some (.string s) := by rw [hW1]; exact ((box_new w0 _ _).alloc _).cell 3
  have hsz : w0.heap.size < W1.heap.size := by rw [hW1]; simp; omega
  have HR : RowKit.Hid (W1.ownsRow (w0.heap.size + 1) 3 1 (.slice (some ⟨w0.heap.size + 1, 0, none⟩) 0 0) 0 []) := Lib.hid (by rw [hW1]; exact HE.out)
  rw [← hW1]
  have HBx : RowKit.Hid (BoxAt W1 w0.heap.size 38 #[.int .i64 28, .int .i64 n, .int .i64 m, .string s]) := Lib.hid (by rw [hW1]; exact (box_new w0 _ _).alloc _)
  have HU := Lib.hid (show Under w0 W1 by rw [hW1]; exact under_alloc (under_alloc (Under.refl _) _) _)
  clear hW1 HE
  refine wp_region_noPanic ?_
  refine wp_region_held_drew (S := fun w' => w'.cell? ⟨w0.heap.size, 0, none⟩ = some (.int .i64 28) ∧ w'.cell? ⟨w0.heap.size, 1, none⟩ = some (.int .i64 n) ∧ w'.cell? ⟨w0.heap.size, 2, none⟩ = some (.int .i64 m) ∧ w'.cell? ⟨w0.heap.size, 3, none⟩ = some (.string s)
     ∧ w0.heap.size < w'.heap.size) (by kernel_rfl) ⟨c0, c1, c2, c3, hsz⟩ (fun hHeld => ?_)
  refine wpAnyH_take (i := 0) (v := ?v0) rfl (by kernel_rfl) (by kernel_rfl) (by kernel_rfl) (fun _ _ _ h => h) (Or.inl ⟨by (first | kernel_rfl | rfl), ?hy0⟩) (by assumption) ?rest0
  case hy0 => (intro w hSw; (try dsimp only at hSw); go_simp; try with_reducible rfl)
  try simp only [Act.put, List.setIfInBounds_toArray, List.set_cons_zero, List.set_cons_succ]
  refine wpAnyH_take (i := 3) (v := ?v3) rfl (by kernel_rfl) (by kernel_rfl) (by kernel_rfl) (fun _ _ _ h => h) (Or.inl ⟨by (first | kernel_rfl | rfl), ?hy3⟩) (by assumption) ?rest3
  case hy3 => (intro w hSw; (try dsimp only at hSw); go_simp; try with_reducible rfl)
  try simp only [Act.put, List.setIfInBounds_toArray, List.set_cons_zero, List.set_cons_succ]
  refine wpAnyH_ready (rs := [1]) (by kernel_rfl) (by simp) ?_
  refine AllReadyH.cons rfl (fun K hK => ?_) AllReadyH.nil
  go_simp
  refine hK.out _ _ ?_ (fun hHeld' => ?_)
  · obtain ⟨d0, d1, d2, d3, d4⟩ := hHeld
    have hU := under_alloc (Under.refl W1.drew) (.cells #[.int .i64 0] 3)
    exact ⟨(under_cell hU d4 _).trans d0, (under_cell hU d4 _).trans d1, (under_cell hU d4 _).trans d2, (under_cell hU d4 _).trans d3, Nat.lt_of_lt_of_le d4 hU.size⟩
  clear hK K hHeld
  have hHeld := hHeld'
  clear hHeld'
  try simp only [Act.put, List.setIfInBounds_toArray, List.set_cons_zero, List.set_cons_succ]
  refine wpAnyH_ready (rs := [2]) (by kernel_rfl) (by simp) ?_
  refine AllReadyH.cons rfl (fun K hK => ?_) AllReadyH.nil
  refine step_append_lies _ (by rfl) _ _ _ (by rfl) (w0.heap.size + 1) 3 i0 _ 1 8 Tryz.underlying63 hi hz0 hz1 hz2 rfl (by omega) (.slice (some ⟨w0.heap.size + 1, 0, none⟩) 0 0) 0 [] (by rfl) (HR.out.drew.alloc _)
        ⟨W1.heap.size, 0, none⟩ 1 1 [.int .i64 0] (by rfl) (by rfl) (World.news_of_block (cs := #[.int .i64 0]) (t := 3) (fr := (0, 0)) (heap_alloc_new _ _)) (by simp [Value.oneCell'])
        (by omega) (by simp [maxLen]) (by simp) (by simp; omega) (W1.heap.size + 1) (by simp) ?_
  intro gg cc w2 hown2 hgrow hat hlt
  have HB2 := Lib.hid (BoxAt.grown ((HBx.out.alloc (.cells #[.int .i64 0] 3)).drew) hgrow (fun e => by simp [Value.ownBlock] at e))
  have HU2 := Lib.hid (under_grown (under_drew (under_alloc HU.out (.cells #[.int .i64 0] 3))) hgrow (fun g e => by simp [Value.ownBlock] at e; omega))
  have HO2 := Lib.hid hown2
  refine hK.out _ _ ?_ (fun hHeld' => ?_)
  · exact ⟨HB2.out.cell 0, HB2.out.cell 1, HB2.out.cell 2, HB2.out.cell 3, HB2.out.lt⟩
  clear hK K hHeld hown2 hgrow hat hlt
  have hHeld := hHeld'
  clear hHeld'
  try simp only [Act.put, List.setIfInBounds_toArray, List.set_cons_zero, List.set_cons_succ]
  refine wpAnyH_ready (rs := [4]) (by kernel_rfl) (by simp) ?_
  refine AllReadyH.cons rfl (fun K hK => ?_) AllReadyH.nil
  go_simp
  go_at_call 68
  refine (HPl.out _).mono ?_
  rintro e w3 ⟨rfl, rfl⟩
  refine hK.out _ _ ?_ (fun hHeld' => ?_)
  · have HB3 := HB2.out.alloc (.cells #[.int .i64 28, .int .i64 n, .int .i64 m, .string s] 38)
    exact ⟨HB3.cell 0, HB3.cell 1, HB3.cell 2, HB3.cell 3, HB3.lt⟩
  clear hK K hHeld
  have hHeld := hHeld'
  clear hHeld'
  try simp only [Act.put, List.setIfInBounds_toArray, List.set_cons_zero, List.set_cons_succ]
  refine wpAnyH_take (i := 5) (v := ?v5) rfl (by kernel_rfl) (by kernel_rfl) (by kernel_rfl) (fun _ _ _ h => h) (Or.inl ⟨by (first | kernel_rfl | rfl), ?hy5⟩) (by assumption) ?rest5
  case hy5 => (intro w hSw; (try dsimp only at hSw); go_simp; try with_reducible rfl)
  try simp only [Act.put, List.getElem_toArray, List.getElem_cons_succ, List.getElem_cons_zero, List.setIfInBounds_toArray, List.set_cons_zero, List.set_cons_succ]
  refine wpAnyH_take (i := 6) (v := ?v6) rfl (by kernel_rfl) (by kernel_rfl) (by kernel_rfl) (fun _ _ _ h => h) (Or.inl ⟨by (first | kernel_rfl | rfl), ?hy6⟩) (by assumption) ?rest6
  case hy6 => (intro w hSw; (try dsimp only at hSw); go_simp; try with_reducible rfl)
  try simp only [Act.put, List.getElem_toArray, List.getElem_cons_succ, List.getElem_cons_zero, List.setIfInBounds_toArray, List.set_cons_zero, List.set_cons_succ]
  refine wpAnyH_done (by kernel_rfl) ?_ _
  refine NoPanic.normal ?_
  obtain ⟨q, c, hv, hc, hr⟩ := RowArg.of_own HO2.out
  cases hv
  go_wp2
  go_ret2
  exact ⟨_, _, rfl, hc, hr.under (under_alloc (Under.refl _) _), under_alloc HU2.out _⟩
set_option maxRecDepth 100000 in
set_option maxHeartbeats 4000000 in
theorem rb_13 (n m : Int) (s : ByteArray) : Calls Tryz.prog 44 #[ndV ⟨13, n, m, s⟩] w0 fun e w => ∃ q c, e = .returned (.tuple #[.slice q 4 c, .bool (plainB ⟨13, n, m, s⟩)]) ∧ 4 ≤ c ∧ RowArg w q (intsN [1, 0, 2, 0]) ∧ Under w0 w := by
  obtain ⟨i0, hi, hz0, hz1, hz2⟩ := info_parts Tryz.infoInt
  have HPl := Lib.hid (fun w => plain_any (w0 := w) ⟨13, n, m, s⟩)
  generalize plainB ⟨13, n, m, s⟩ = pb at *
  unfold ndV at *
  simp only at HPl ⊢
  have HE := Lib.hid (row_emptyZ (w0.alloc (.cells #[.int .i64 13, .int .i64 n, .int .i64 m, .string s] 38)) (w0.heap.size + 1) 3 1 (by simp))
  rw [show (w0.alloc (.cells #[.int .i64 13, .int .i64 n, .int .i64 m, .string s] 38)).heap.size = w0.heap.size + 1 by simp] at HE
  go_enter Tryz.func44, Tryz.ntmps44
  go_wp2_with fail
  obtain ⟨W1, hW1⟩ : ∃ W, W = (w0.alloc (.cells #[.int .i64 13, .int .i64 n, .int .i64 m, .string s] 38)).alloc (.cells #[] 3) := ⟨_, rfl⟩
  have c0 : W1.cell? ⟨w0.heap.size, 0, none⟩ = some (.int .i64 13) := by rw [hW1]; exact ((box_new w0 _ _).alloc _).cell 0
  have c1 : W1.cell? ⟨w0.heap.size, 1, none⟩ = some (.int .i64 n) := by rw [hW1]; exact ((box_new w0 _ _).alloc _).cell 1
  have c2 : W1.cell? ⟨w0.heap.size, 2, none⟩ = some (.int .i64 m) := by rw [hW1]; exact ((box_new w0 _ _).alloc _).cell 2
  have c3 : W1.cell? ⟨w0.heap.size, 3, none⟩ = some (.string s) := by rw [hW1]; exact ((box_new w0 _ _).alloc _).cell 3
  have hsz : w0.heap.size < W1.heap.size := by rw [hW1]; simp; omega
  have HR : RowKit.Hid (W1.ownsRow (w0.heap.size + 1) 3 1 (.slice (some ⟨w0.heap.size + 1, 0, none⟩) 0 0) 0 []) := Lib.hid (by rw [hW1]; exact HE.out)
  rw [← hW1]
  have HBx : RowKit.Hid (BoxAt W1 w0.heap.size 38 #[.int .i64 13, .int .i64 n, .int .i64 m, .string s]) := Lib.hid (by rw [hW1]; exact (box_new w0 _ _).alloc _)
  have HU := Lib.hid (show Under w0 W1 by rw [hW1]; exact under_alloc (under_alloc (Under.refl _) _) _)
  clear hW1 HE
  refine wp_region_noPanic ?_
  refine wp_region_held_drew (S := fun w' => w'.cell? ⟨w0.heap.size, 0, none⟩ = some (.int .i64 13) ∧ w'.cell? ⟨w0.heap.size, 1, none⟩ = some (.int .i64 n) ∧ w'.cell? ⟨w0.heap.size, 2, none⟩ = some (.int .i64 m) ∧ w'.cell? ⟨w0.heap.size, 3, none⟩ = some (.string s)
     ∧ w0.heap.size < w'.heap.size) (by kernel_rfl) ⟨c0, c1, c2, c3, hsz⟩ (fun hHeld => ?_)
  refine wpAnyH_take (i := 0) (v := ?v0) rfl (by kernel_rfl) (by kernel_rfl) (by kernel_rfl) (fun _ _ _ h => h) (Or.inl ⟨by (first | kernel_rfl | rfl), ?hy0⟩) (by assumption) ?rest0
  case hy0 => (intro w hSw; (try dsimp only at hSw); go_simp; try with_reducible rfl)
  try simp only [Act.put, List.setIfInBounds_toArray, List.set_cons_zero, List.set_cons_succ]
  refine wpAnyH_take (i := 3) (v := ?v3) rfl (by kernel_rfl) (by kernel_rfl) (by kernel_rfl) (fun _ _ _ h => h) (Or.inl ⟨by (first | kernel_rfl | rfl), ?hy3⟩) (by assumption) ?rest3
  case hy3 => (intro w hSw; (try dsimp only at hSw); go_simp; try with_reducible rfl)
  try simp only [Act.put, List.setIfInBounds_toArray, List.set_cons_zero, List.set_cons_succ]
  refine wpAnyH_ready (rs := [1]) (by kernel_rfl) (by simp) ?_
  refine AllReadyH.cons rfl (fun K hK => ?_) AllReadyH.nil
  go_simp
  refine hK.out _ _ ?_ (fun hHeld' => ?_)
  · obtain ⟨d0, d1, d2, d3, d4⟩ := hHeld
    have hU := under_alloc (Under.refl W1.drew) (.cells #[.int .i64 1, .int .i64 0, .int .i64 2, .int .i64 0] 3)
    exact ⟨(under_cell hU d4 _).trans d0, (under_cell hU d4 _).trans d1, (under_cell hU d4 _).trans d2, (under_cell hU d4 _).trans d3, Nat.lt_of_lt_of_le d4 hU.size⟩
  clear hK K hHeld
  have hHeld := hHeld'
  clear hHeld'
  try simp only [Act.put, List.setIfInBounds_toArray, List.set_cons_zero, List.set_cons_succ]
  refine wpAnyH_ready (rs := [2]) (by kernel_rfl) (by simp) ?_
  refine AllReadyH.cons rfl (fun K hK => ?_) AllReadyH.nil
  refine step_append_lies _ (by rfl) _ _ _ (by rfl) (w0.heap.size + 1) 3 i0 _ 1 8 Tryz.underlying63 hi hz0 hz1 hz2 rfl (by omega) (.slice (some ⟨w0.heap.size + 1, 0, none⟩) 0 0) 0 [] (by rfl) (HR.out.drew.alloc _)
        ⟨W1.heap.size, 0, none⟩ 4 4 [.int .i64 1, .int .i64 0, .int .i64 2, .int .i64 0] (by rfl) (by rfl) (World.news_of_block (cs := #[.int .i64 1, .int .i64 0, .int .i64 2, .int .i64 0]) (t := 3) (fr := (0, 0)) (heap_alloc_new _ _)) (by simp [Value.oneCell'])
        (by omega) (by simp [maxLen]) (by simp) (by simp; omega) (W1.heap.size + 1) (by simp) ?_
  intro gg cc w2 hown2 hgrow hat hlt
  have HB2 := Lib.hid (BoxAt.grown ((HBx.out.alloc (.cells #[.int .i64 1, .int .i64 0, .int .i64 2, .int .i64 0] 3)).drew) hgrow (fun e => by simp [Value.ownBlock] at e))
  have HU2 := Lib.hid (under_grown (under_drew (under_alloc HU.out (.cells #[.int .i64 1, .int .i64 0, .int .i64 2, .int .i64 0] 3))) hgrow (fun g e => by simp [Value.ownBlock] at e; omega))
  have HO2 := Lib.hid hown2
  refine hK.out _ _ ?_ (fun hHeld' => ?_)
  · exact ⟨HB2.out.cell 0, HB2.out.cell 1, HB2.out.cell 2, HB2.out.cell 3, HB2.out.lt⟩
  clear hK K hHeld hown2 hgrow hat hlt
  have hHeld := hHeld'
  clear hHeld'
  try simp only [Act.put, List.setIfInBounds_toArray, List.set_cons_zero, List.set_cons_succ]
  refine wpAnyH_ready (rs := [4]) (by kernel_rfl) (by simp) ?_
  refine AllReadyH.cons rfl (fun K hK => ?_) AllReadyH.nil
  go_simp
  go_at_call 68
  refine (HPl.out _).mono ?_
  rintro e w3 ⟨rfl, rfl⟩
  refine hK.out _ _ ?_ (fun hHeld' => ?_)
  · have HB3 := HB2.out.alloc (.cells #[.int .i64 13, .int .i64 n, .int .i64 m, .string s] 38)
    exact ⟨HB3.cell 0, HB3.cell 1, HB3.cell 2, HB3.cell 3, HB3.lt⟩
  clear hK K hHeld
  have hHeld := hHeld'
  clear hHeld'
  try simp only [Act.put, List.setIfInBounds_toArray, List.set_cons_zero, List.set_cons_succ]
  refine wpAnyH_take (i := 5) (v := ?v5) rfl (by kernel_rfl) (by kernel_rfl) (by kernel_rfl) (fun _ _ _ h => h) (Or.inl ⟨by (first | kernel_rfl | rfl), ?hy5⟩) (by assumption) ?rest5
  case hy5 => (intro w hSw; (try dsimp only at hSw); go_simp; try with_reducible rfl)
  try simp only [Act.put, List.getElem_toArray, List.getElem_cons_succ, List.getElem_cons_zero, List.setIfInBounds_toArray, List.set_cons_zero, List.set_cons_succ]
  refine wpAnyH_take (i := 6) (v := ?v6) rfl (by kernel_rfl) (by kernel_rfl) (by kernel_rfl) (fun _ _ _ h => h) (Or.inl ⟨by (first | kernel_rfl | rfl), ?hy6⟩) (by assumption) ?rest6
  case hy6 => (intro w hSw; (try dsimp only at hSw); go_simp; try with_reducible rfl)
  try simp only [Act.put, List.getElem_toArray, List.getElem_cons_succ, List.getElem_cons_zero, List.setIfInBounds_toArray, List.set_cons_zero, List.set_cons_succ]
  refine wpAnyH_done (by kernel_rfl) ?_ _
  refine NoPanic.normal ?_
  obtain ⟨q, c, hv, hc, hr⟩ := RowArg.of_own HO2.out
  cases hv
  go_wp2
  go_ret2
  exact ⟨_, _, rfl, hc, hr.under (under_alloc (Under.refl _) _), under_alloc HU2.out _⟩
set_option maxRecDepth 100000 in
set_option maxHeartbeats 4000000 in
theorem rb_20 (n m : Int) (s : ByteArray) : Calls Tryz.prog 44 #[ndV ⟨20, n, m, s⟩] w0 fun e w => ∃ q c, e = .returned (.tuple #[.slice q 4 c, .bool (plainB ⟨20, n, m, s⟩)]) ∧ 4 ≤ c ∧ RowArg w q (intsN [0, 0, 0, 0]) ∧ Under w0 w := by
  obtain ⟨i0, hi, hz0, hz1, hz2⟩ := info_parts Tryz.infoInt
  have HPl := Lib.hid (fun w => plain_any (w0 := w) ⟨20, n, m, s⟩)
  generalize plainB ⟨20, n, m, s⟩ = pb at *
  unfold ndV at *
  simp only at HPl ⊢
  have HE := Lib.hid (row_emptyZ (w0.alloc (.cells #[.int .i64 20, .int .i64 n, .int .i64 m, .string s] 38)) (w0.heap.size + 1) 3 1 (by simp))
  rw [show (w0.alloc (.cells #[.int .i64 20, .int .i64 n, .int .i64 m, .string s] 38)).heap.size = w0.heap.size + 1 by simp] at HE
  go_enter Tryz.func44, Tryz.ntmps44
  go_wp2_with fail
  obtain ⟨W1, hW1⟩ : ∃ W, W = (w0.alloc (.cells #[.int .i64 20, .int .i64 n, .int .i64 m, .string s] 38)).alloc (.cells #[] 3) := ⟨_, rfl⟩
  have c0 : W1.cell? ⟨w0.heap.size, 0, none⟩ = some (.int .i64 20) := by rw [hW1]; exact ((box_new w0 _ _).alloc _).cell 0
  have c1 : W1.cell? ⟨w0.heap.size, 1, none⟩ = some (.int .i64 n) := by rw [hW1]; exact ((box_new w0 _ _).alloc _).cell 1
  have c2 : W1.cell? ⟨w0.heap.size, 2, none⟩ = some (.int .i64 m) := by rw [hW1]; exact ((box_new w0 _ _).alloc _).cell 2
  have c3 : W1.cell? ⟨w0.heap.size, 3, none⟩ = some (.string s) := by rw [hW1]; exact ((box_new w0 _ _).alloc _).cell 3
  have hsz : w0.heap.size < W1.heap.size := by rw [hW1]; simp; omega
  have HR : RowKit.Hid (W1.ownsRow (w0.heap.size + 1) 3 1 (.slice (some ⟨w0.heap.size + 1, 0, none⟩) 0 0) 0 []) := Lib.hid (by rw [hW1]; exact HE.out)
  rw [← hW1]
  have HBx : RowKit.Hid (BoxAt W1 w0.heap.size 38 #[.int .i64 20, .int .i64 n, .int .i64 m, .string s]) := Lib.hid (by rw [hW1]; exact (box_new w0 _ _).alloc _)
  have HU := Lib.hid (show Under w0 W1 by rw [hW1]; exact under_alloc (under_alloc (Under.refl _) _) _)
  clear hW1 HE
  refine wp_region_noPanic ?_
  refine wp_region_held_drew (S := fun w' => w'.cell? ⟨w0.heap.size, 0, none⟩ = some (.int .i64 20) ∧ w'.cell? ⟨w0.heap.size, 1, none⟩ = some (.int .i64 n) ∧ w'.cell? ⟨w0.heap.size, 2, none⟩ = some (.int .i64 m) ∧ w'.cell? ⟨w0.heap.size, 3, none⟩ = some (.string s)
     ∧ w0.heap.size < w'.heap.size) (by kernel_rfl) ⟨c0, c1, c2, c3, hsz⟩ (fun hHeld => ?_)
  refine wpAnyH_take (i := 0) (v := ?v0) rfl (by kernel_rfl) (by kernel_rfl) (by kernel_rfl) (fun _ _ _ h => h) (Or.inl ⟨by (first | kernel_rfl | rfl), ?hy0⟩) (by assumption) ?rest0
  case hy0 => (intro w hSw; (try dsimp only at hSw); go_simp; try with_reducible rfl)
  try simp only [Act.put, List.setIfInBounds_toArray, List.set_cons_zero, List.set_cons_succ]
  refine wpAnyH_take (i := 3) (v := ?v3) rfl (by kernel_rfl) (by kernel_rfl) (by kernel_rfl) (fun _ _ _ h => h) (Or.inl ⟨by (first | kernel_rfl | rfl), ?hy3⟩) (by assumption) ?rest3
  case hy3 => (intro w hSw; (try dsimp only at hSw); go_simp; try with_reducible rfl)
  try simp only [Act.put, List.setIfInBounds_toArray, List.set_cons_zero, List.set_cons_succ]
  refine wpAnyH_ready (rs := [1]) (by kernel_rfl) (by simp) ?_
  refine AllReadyH.cons rfl (fun K hK => ?_) AllReadyH.nil
  go_simp
  refine hK.out _ _ ?_ (fun hHeld' => ?_)
  · obtain ⟨d0, d1, d2, d3, d4⟩ := hHeld
    have hU := under_alloc (Under.refl W1.drew) (.cells #[.int .i64 0, .int .i64 0, .int .i64 0, .int .i64 0] 3)
    exact ⟨(under_cell hU d4 _).trans d0, (under_cell hU d4 _).trans d1, (under_cell hU d4 _).trans d2, (under_cell hU d4 _).trans d3, Nat.lt_of_lt_of_le d4 hU.size⟩
  clear hK K hHeld
  have hHeld := hHeld'
  clear hHeld'
  try simp only [Act.put, List.setIfInBounds_toArray, List.set_cons_zero, List.set_cons_succ]
  refine wpAnyH_ready (rs := [2]) (by kernel_rfl) (by simp) ?_
  refine AllReadyH.cons rfl (fun K hK => ?_) AllReadyH.nil
  refine step_append_lies _ (by rfl) _ _ _ (by rfl) (w0.heap.size + 1) 3 i0 _ 1 8 Tryz.underlying63 hi hz0 hz1 hz2 rfl (by omega) (.slice (some ⟨w0.heap.size + 1, 0, none⟩) 0 0) 0 [] (by rfl) (HR.out.drew.alloc _)
        ⟨W1.heap.size, 0, none⟩ 4 4 [.int .i64 0, .int .i64 0, .int .i64 0, .int .i64 0] (by rfl) (by rfl) (World.news_of_block (cs := #[.int .i64 0, .int .i64 0, .int .i64 0, .int .i64 0]) (t := 3) (fr := (0, 0)) (heap_alloc_new _ _)) (by simp [Value.oneCell'])
        (by omega) (by simp [maxLen]) (by simp) (by simp; omega) (W1.heap.size + 1) (by simp) ?_
  intro gg cc w2 hown2 hgrow hat hlt
  have HB2 := Lib.hid (BoxAt.grown ((HBx.out.alloc (.cells #[.int .i64 0, .int .i64 0, .int .i64 0, .int .i64 0] 3)).drew) hgrow (fun e => by simp [Value.ownBlock] at e))
  have HU2 := Lib.hid (under_grown (under_drew (under_alloc HU.out (.cells #[.int .i64 0, .int .i64 0, .int .i64 0, .int .i64 0] 3))) hgrow (fun g e => by simp [Value.ownBlock] at e; omega))
  have HO2 := Lib.hid hown2
  refine hK.out _ _ ?_ (fun hHeld' => ?_)
  · exact ⟨HB2.out.cell 0, HB2.out.cell 1, HB2.out.cell 2, HB2.out.cell 3, HB2.out.lt⟩
  clear hK K hHeld hown2 hgrow hat hlt
  have hHeld := hHeld'
  clear hHeld'
  try simp only [Act.put, List.setIfInBounds_toArray, List.set_cons_zero, List.set_cons_succ]
  refine wpAnyH_ready (rs := [4]) (by kernel_rfl) (by simp) ?_
  refine AllReadyH.cons rfl (fun K hK => ?_) AllReadyH.nil
  go_simp
  go_at_call 68
  refine (HPl.out _).mono ?_
  rintro e w3 ⟨rfl, rfl⟩
  refine hK.out _ _ ?_ (fun hHeld' => ?_)
  · have HB3 := HB2.out.alloc (.cells #[.int .i64 20, .int .i64 n, .int .i64 m, .string s] 38)
    exact ⟨HB3.cell 0, HB3.cell 1, HB3.cell 2, HB3.cell 3, HB3.lt⟩
  clear hK K hHeld
  have hHeld := hHeld'
  clear hHeld'
  try simp only [Act.put, List.setIfInBounds_toArray, List.set_cons_zero, List.set_cons_succ]
  refine wpAnyH_take (i := 5) (v := ?v5) rfl (by kernel_rfl) (by kernel_rfl) (by kernel_rfl) (fun _ _ _ h => h) (Or.inl ⟨by (first | kernel_rfl | rfl), ?hy5⟩) (by assumption) ?rest5
  case hy5 => (intro w hSw; (try dsimp only at hSw); go_simp; try with_reducible rfl)
  try simp only [Act.put, List.getElem_toArray, List.getElem_cons_succ, List.getElem_cons_zero, List.setIfInBounds_toArray, List.set_cons_zero, List.set_cons_succ]
  refine wpAnyH_take (i := 6) (v := ?v6) rfl (by kernel_rfl) (by kernel_rfl) (by kernel_rfl) (fun _ _ _ h => h) (Or.inl ⟨by (first | kernel_rfl | rfl), ?hy6⟩) (by assumption) ?rest6
  case hy6 => (intro w hSw; (try dsimp only at hSw); go_simp; try with_reducible rfl)
  try simp only [Act.put, List.getElem_toArray, List.getElem_cons_succ, List.getElem_cons_zero, List.setIfInBounds_toArray, List.set_cons_zero, List.set_cons_succ]
  refine wpAnyH_done (by kernel_rfl) ?_ _
  refine NoPanic.normal ?_
  obtain ⟨q, c, hv, hc, hr⟩ := RowArg.of_own HO2.out
  cases hv
  go_wp2
  go_ret2
  exact ⟨_, _, rfl, hc, hr.under (under_alloc (Under.refl _) _), under_alloc HU2.out _⟩
set_option maxRecDepth 100000 in
set_option maxHeartbeats 4000000 in
theorem rb_21 (n m : Int) (s : ByteArray) : Calls Tryz.prog 44 #[ndV ⟨21, n, m, s⟩] w0 fun e w => ∃ q c, e = .returned (.tuple #[.slice q 6 c, .bool (plainB ⟨21, n, m, s⟩)]) ∧ 6 ≤ c ∧ RowArg w q (intsN [0, 0, 1, 0, 0, 0]) ∧ Under w0 w := by
  obtain ⟨i0, hi, hz0, hz1, hz2⟩ := info_parts Tryz.infoInt
  have HPl := Lib.hid (fun w => plain_any (w0 := w) ⟨21, n, m, s⟩)
  generalize plainB ⟨21, n, m, s⟩ = pb at *
  unfold ndV at *
  simp only at HPl ⊢
  have HE := Lib.hid (row_emptyZ (w0.alloc (.cells #[.int .i64 21, .int .i64 n, .int .i64 m, .string s] 38)) (w0.heap.size + 1) 3 1 (by simp))
  rw [show (w0.alloc (.cells #[.int .i64 21, .int .i64 n, .int .i64 m, .string s] 38)).heap.size = w0.heap.size + 1 by simp] at HE
  go_enter Tryz.func44, Tryz.ntmps44
  go_wp2_with fail
  obtain ⟨W1, hW1⟩ : ∃ W, W = (w0.alloc (.cells #[.int .i64 21, .int .i64 n, .int .i64 m, .string s] 38)).alloc (.cells #[] 3) := ⟨_, rfl⟩
  have c0 : W1.cell? ⟨w0.heap.size, 0, none⟩ = some (.int .i64 21) := by rw [hW1]; exact ((box_new w0 _ _).alloc _).cell 0
  have c1 : W1.cell? ⟨w0.heap.size, 1, none⟩ = some (.int .i64 n) := by rw [hW1]; exact ((box_new w0 _ _).alloc _).cell 1
  have c2 : W1.cell? ⟨w0.heap.size, 2, none⟩ = some (.int .i64 m) := by rw [hW1]; exact ((box_new w0 _ _).alloc _).cell 2
  have c3 : W1.cell? ⟨w0.heap.size, 3, none⟩ = some (.string s) := by rw [hW1]; exact ((box_new w0 _ _).alloc _).cell 3
  have hsz : w0.heap.size < W1.heap.size := by rw [hW1]; simp; omega
  have HR : RowKit.Hid (W1.ownsRow (w0.heap.size + 1) 3 1 (.slice (some ⟨w0.heap.size + 1, 0, none⟩) 0 0) 0 []) := Lib.hid (by rw [hW1]; exact HE.out)
  rw [← hW1]
  have HBx : RowKit.Hid (BoxAt W1 w0.heap.size 38 #[.int .i64 21, .int .i64 n, .int .i64 m, .string s]) := Lib.hid (by rw [hW1]; exact (box_new w0 _ _).alloc _)
  have HU := Lib.hid (show Under w0 W1 by rw [hW1]; exact under_alloc (under_alloc (Under.refl _) _) _)
  clear hW1 HE
  refine wp_region_noPanic ?_
  refine wp_region_held_drew (S := fun w' => w'.cell? ⟨w0.heap.size, 0, none⟩ = some (.int .i64 21) ∧ w'.cell? ⟨w0.heap.size, 1, none⟩ = some (.int .i64 n) ∧ w'.cell? ⟨w0.heap.size, 2, none⟩ = some (.int .i64 m) ∧ w'.cell? ⟨w0.heap.size, 3, none⟩ = some (.string s)
     ∧ w0.heap.size < w'.heap.size) (by kernel_rfl) ⟨c0, c1, c2, c3, hsz⟩ (fun hHeld => ?_)
  refine wpAnyH_take (i := 0) (v := ?v0) rfl (by kernel_rfl) (by kernel_rfl) (by kernel_rfl) (fun _ _ _ h => h) (Or.inl ⟨by (first | kernel_rfl | rfl), ?hy0⟩) (by assumption) ?rest0
  case hy0 => (intro w hSw; (try dsimp only at hSw); go_simp; try with_reducible rfl)
  try simp only [Act.put, List.setIfInBounds_toArray, List.set_cons_zero, List.set_cons_succ]
  refine wpAnyH_take (i := 3) (v := ?v3) rfl (by kernel_rfl) (by kernel_rfl) (by kernel_rfl) (fun _ _ _ h => h) (Or.inl ⟨by (first | kernel_rfl | rfl), ?hy3⟩) (by assumption) ?rest3
  case hy3 => (intro w hSw; (try dsimp only at hSw); go_simp; try with_reducible rfl)
  try simp only [Act.put, List.setIfInBounds_toArray, List.set_cons_zero, List.set_cons_succ]
  refine wpAnyH_ready (rs := [1]) (by kernel_rfl) (by simp) ?_
  refine AllReadyH.cons rfl (fun K hK => ?_) AllReadyH.nil
  go_simp
  refine hK.out _ _ ?_ (fun hHeld' => ?_)
  · obtain ⟨d0, d1, d2, d3, d4⟩ := hHeld
    have hU := under_alloc (Under.refl W1.drew) (.cells #[.int .i64 0, .int .i64 0, .int .i64 1, .int .i64 0, .int .i64 0, .int .i64 0] 3)
    exact ⟨(under_cell hU d4 _).trans d0, (under_cell hU d4 _).trans d1, (under_cell hU d4 _).trans d2, (under_cell hU d4 _).trans d3, Nat.lt_of_lt_of_le d4 hU.size⟩
  clear hK K hHeld
  have hHeld := hHeld'
  clear hHeld'
  try simp only [Act.put, List.setIfInBounds_toArray, List.set_cons_zero, List.set_cons_succ]
  refine wpAnyH_ready (rs := [2]) (by kernel_rfl) (by simp) ?_
  refine AllReadyH.cons rfl (fun K hK => ?_) AllReadyH.nil
  refine step_append_lies _ (by rfl) _ _ _ (by rfl) (w0.heap.size + 1) 3 i0 _ 1 8 Tryz.underlying63 hi hz0 hz1 hz2 rfl (by omega) (.slice (some ⟨w0.heap.size + 1, 0, none⟩) 0 0) 0 [] (by rfl) (HR.out.drew.alloc _)
        ⟨W1.heap.size, 0, none⟩ 6 6 [.int .i64 0, .int .i64 0, .int .i64 1, .int .i64 0, .int .i64 0, .int .i64 0] (by rfl) (by rfl) (World.news_of_block (cs := #[.int .i64 0, .int .i64 0, .int .i64 1, .int .i64 0, .int .i64 0, .int .i64 0]) (t := 3) (fr := (0, 0)) (heap_alloc_new _ _)) (by simp [Value.oneCell'])
        (by omega) (by simp [maxLen]) (by simp) (by simp; omega) (W1.heap.size + 1) (by simp) ?_
  intro gg cc w2 hown2 hgrow hat hlt
  have HB2 := Lib.hid (BoxAt.grown ((HBx.out.alloc (.cells #[.int .i64 0, .int .i64 0, .int .i64 1, .int .i64 0, .int .i64 0, .int .i64 0] 3)).drew) hgrow (fun e => by simp [Value.ownBlock] at e))
  have HU2 := Lib.hid (under_grown (under_drew (under_alloc HU.out (.cells #[.int .i64 0, .int .i64 0, .int .i64 1, .int .i64 0, .int .i64 0, .int .i64 0] 3))) hgrow (fun g e => by simp [Value.ownBlock] at e; omega))
  have HO2 := Lib.hid hown2
  refine hK.out _ _ ?_ (fun hHeld' => ?_)
  · exact ⟨HB2.out.cell 0, HB2.out.cell 1, HB2.out.cell 2, HB2.out.cell 3, HB2.out.lt⟩
  clear hK K hHeld hown2 hgrow hat hlt
  have hHeld := hHeld'
  clear hHeld'
  try simp only [Act.put, List.setIfInBounds_toArray, List.set_cons_zero, List.set_cons_succ]
  refine wpAnyH_ready (rs := [4]) (by kernel_rfl) (by simp) ?_
  refine AllReadyH.cons rfl (fun K hK => ?_) AllReadyH.nil
  go_simp
  go_at_call 68
  refine (HPl.out _).mono ?_
  rintro e w3 ⟨rfl, rfl⟩
  refine hK.out _ _ ?_ (fun hHeld' => ?_)
  · have HB3 := HB2.out.alloc (.cells #[.int .i64 21, .int .i64 n, .int .i64 m, .string s] 38)
    exact ⟨HB3.cell 0, HB3.cell 1, HB3.cell 2, HB3.cell 3, HB3.lt⟩
  clear hK K hHeld
  have hHeld := hHeld'
  clear hHeld'
  try simp only [Act.put, List.setIfInBounds_toArray, List.set_cons_zero, List.set_cons_succ]
  refine wpAnyH_take (i := 5) (v := ?v5) rfl (by kernel_rfl) (by kernel_rfl) (by kernel_rfl) (fun _ _ _ h => h) (Or.inl ⟨by (first | kernel_rfl | rfl), ?hy5⟩) (by assumption) ?rest5
  case hy5 => (intro w hSw; (try dsimp only at hSw); go_simp; try with_reducible rfl)
  try simp only [Act.put, List.getElem_toArray, List.getElem_cons_succ, List.getElem_cons_zero, List.setIfInBounds_toArray, List.set_cons_zero, List.set_cons_succ]
  refine wpAnyH_take (i := 6) (v := ?v6) rfl (by kernel_rfl) (by kernel_rfl) (by kernel_rfl) (fun _ _ _ h => h) (Or.inl ⟨by (first | kernel_rfl | rfl), ?hy6⟩) (by assumption) ?rest6
  case hy6 => (intro w hSw; (try dsimp only at hSw); go_simp; try with_reducible rfl)
  try simp only [Act.put, List.getElem_toArray, List.getElem_cons_succ, List.getElem_cons_zero, List.setIfInBounds_toArray, List.set_cons_zero, List.set_cons_succ]
  refine wpAnyH_done (by kernel_rfl) ?_ _
  refine NoPanic.normal ?_
  obtain ⟨q, c, hv, hc, hr⟩ := RowArg.of_own HO2.out
  cases hv
  go_wp2
  go_ret2
  exact ⟨_, _, rfl, hc, hr.under (under_alloc (Under.refl _) _), under_alloc HU2.out _⟩
set_option maxRecDepth 100000 in
set_option maxHeartbeats 4000000 in
theorem rb_22 (n m : Int) (s : ByteArray) : Calls Tryz.prog 44 #[ndV ⟨22, n, m, s⟩] w0 fun e w => ∃ q c, e = .returned (.tuple #[.slice q 5 c, .bool (plainB ⟨22, n, m, s⟩)]) ∧ 5 ≤ c ∧ RowArg w q (intsN [0, 2, 0, 0, 0]) ∧ Under w0 w := by
  obtain ⟨i0, hi, hz0, hz1, hz2⟩ := info_parts Tryz.infoInt
  have HPl := Lib.hid (fun w => plain_any (w0 := w) ⟨22, n, m, s⟩)
  generalize plainB ⟨22, n, m, s⟩ = pb at *
  unfold ndV at *
  simp only at HPl ⊢
  have HE := Lib.hid (row_emptyZ (w0.alloc (.cells #[.int .i64 22, .int .i64 n, .int .i64 m, .string s] 38)) (w0.heap.size + 1) 3 1 (by simp))
  rw [show (w0.alloc (.cells #[.int .i64 22, .int .i64 n, .int .i64 m, .string s] 38)).heap.size = w0.heap.size + 1 by simp] at HE
  go_enter Tryz.func44, Tryz.ntmps44
  go_wp2_with fail
  obtain ⟨W1, hW1⟩ : ∃ W, W = (w0.alloc (.cells #[.int .i64 22, .int .i64 n, .int .i64 m, .string s] 38)).alloc (.cells #[] 3) := ⟨_, rfl⟩
  have c0 : W1.cell? ⟨w0.heap.size, 0, none⟩ = some (.int .i64 22) := by rw [hW1]; exact ((box_new w0 _ _).alloc _).cell 0
  have c1 : W1.cell? ⟨w0.heap.size, 1, none⟩ = some (.int .i64 n) := by rw [hW1]; exact ((box_new w0 _ _).alloc _).cell 1
  have c2 : W1.cell? ⟨w0.heap.size, 2, none⟩ = some (.int .i64 m) := by rw [hW1]; exact ((box_new w0 _ _).alloc _).cell 2
  have c3 : W1.cell? ⟨w0.heap.size, 3, none⟩ = some (.string s) := by rw [hW1]; exact ((box_new w0 _ _).alloc _).cell 3
  have hsz : w0.heap.size < W1.heap.size := by rw [hW1]; simp; omega
  have HR : RowKit.Hid (W1.ownsRow (w0.heap.size + 1) 3 1 (.slice (some ⟨w0.heap.size + 1, 0, none⟩) 0 0) 0 []) := Lib.hid (by rw [hW1]; exact HE.out)
  rw [← hW1]
  have HBx : RowKit.Hid (BoxAt W1 w0.heap.size 38 #[.int .i64 22, .int .i64 n, .int .i64 m, .string s]) := Lib.hid (by rw [hW1]; exact (box_new w0 _ _).alloc _)
  have HU := Lib.hid (show Under w0 W1 by rw [hW1]; exact under_alloc (under_alloc (Under.refl _) _) _)
  clear hW1 HE
  refine wp_region_noPanic ?_
  refine wp_region_held_drew (S := fun w' => w'.cell? ⟨w0.heap.size, 0, none⟩ = some (.int .i64 22) ∧ w'.cell? ⟨w0.heap.size, 1, none⟩ = some (.int .i64 n) ∧ w'.cell? ⟨w0.heap.size, 2, none⟩ = some (.int .i64 m) ∧ w'.cell? ⟨w0.heap.size, 3, none⟩ = some (.string s)
     ∧ w0.heap.size < w'.heap.size) (by kernel_rfl) ⟨c0, c1, c2, c3, hsz⟩ (fun hHeld => ?_)
  refine wpAnyH_take (i := 0) (v := ?v0) rfl (by kernel_rfl) (by kernel_rfl) (by kernel_rfl) (fun _ _ _ h => h) (Or.inl ⟨by (first | kernel_rfl | rfl), ?hy0⟩) (by assumption) ?rest0
  case hy0 => (intro w hSw; (try dsimp only at hSw); go_simp; try with_reducible rfl)
  try simp only [Act.put, List.setIfInBounds_toArray, List.set_cons_zero, List.set_cons_succ]
  refine wpAnyH_take (i := 3) (v := ?v3) rfl (by kernel_rfl) (by kernel_rfl) (by kernel_rfl) (fun _ _ _ h => h) (Or.inl ⟨by (first | kernel_rfl | rfl), ?hy3⟩) (by assumption) ?rest3
  case hy3 => (intro w hSw; (try dsimp only at hSw); go_simp; try with_reducible rfl)
  try simp only [Act.put, List.setIfInBounds_toArray, List.set_cons_zero, List.set_cons_succ]
  refine wpAnyH_ready (rs := [1]) (by kernel_rfl) (by simp) ?_
  refine AllReadyH.cons rfl (fun K hK => ?_) AllReadyH.nil
  go_simp
  refine hK.out _ _ ?_ (fun hHeld' => ?_)
  · obtain ⟨d0, d1, d2, d3, d4⟩ := hHeld
    have hU := under_alloc (Under.refl W1.drew) (.cells #[.int .i64 0, .int .i64 2, .int .i64 0, .int .i64 0, .int .i64 0] 3)
    exact ⟨(under_cell hU d4 _).trans d0, (under_cell hU d4 _).trans d1, (under_cell hU d4 _).trans d2, (under_cell hU d4 _).trans d3, Nat.lt_of_lt_of_le d4 hU.size⟩
  clear hK K hHeld
  have hHeld := hHeld'
  clear hHeld'
  try simp only [Act.put, List.setIfInBounds_toArray, List.set_cons_zero, List.set_cons_succ]
  refine wpAnyH_ready (rs := [2]) (by kernel_rfl) (by simp) ?_
  refine AllReadyH.cons rfl (fun K hK => ?_) AllReadyH.nil
  refine step_append_lies _ (by rfl) _ _ _ (by rfl) (w0.heap.size + 1) 3 i0 _ 1 8 Tryz.underlying63 hi hz0 hz1 hz2 rfl (by omega) (.slice (some ⟨w0.heap.size + 1, 0, none⟩) 0 0) 0 [] (by rfl) (HR.out.drew.alloc _)
        ⟨W1.heap.size, 0, none⟩ 5 5 [.int .i64 0, .int .i64 2, .int .i64 0, .int .i64 0, .int .i64 0] (by rfl) (by rfl) (World.news_of_block (cs := #[.int .i64 0, .int .i64 2, .int .i64 0, .int .i64 0, .int .i64 0]) (t := 3) (fr := (0, 0)) (heap_alloc_new _ _)) (by simp [Value.oneCell'])
        (by omega) (by simp [maxLen]) (by simp) (by simp; omega) (W1.heap.size + 1) (by simp) ?_
  intro gg cc w2 hown2 hgrow hat hlt
  have HB2 := Lib.hid (BoxAt.grown ((HBx.out.alloc (.cells #[.int .i64 0, .int .i64 2, .int .i64 0, .int .i64 0, .int .i64 0] 3)).drew) hgrow (fun e => by simp [Value.ownBlock] at e))
  have HU2 := Lib.hid (under_grown (under_drew (under_alloc HU.out (.cells #[.int .i64 0, .int .i64 2, .int .i64 0, .int .i64 0, .int .i64 0] 3))) hgrow (fun g e => by simp [Value.ownBlock] at e; omega))
  have HO2 := Lib.hid hown2
  refine hK.out _ _ ?_ (fun hHeld' => ?_)
  · exact ⟨HB2.out.cell 0, HB2.out.cell 1, HB2.out.cell 2, HB2.out.cell 3, HB2.out.lt⟩
  clear hK K hHeld hown2 hgrow hat hlt
  have hHeld := hHeld'
  clear hHeld'
  try simp only [Act.put, List.setIfInBounds_toArray, List.set_cons_zero, List.set_cons_succ]
  refine wpAnyH_ready (rs := [4]) (by kernel_rfl) (by simp) ?_
  refine AllReadyH.cons rfl (fun K hK => ?_) AllReadyH.nil
  go_simp
  go_at_call 68
  refine (HPl.out _).mono ?_
  rintro e w3 ⟨rfl, rfl⟩
  refine hK.out _ _ ?_ (fun hHeld' => ?_)
  · have HB3 := HB2.out.alloc (.cells #[.int .i64 22, .int .i64 n, .int .i64 m, .string s] 38)
    exact ⟨HB3.cell 0, HB3.cell 1, HB3.cell 2, HB3.cell 3, HB3.lt⟩
  clear hK K hHeld
  have hHeld := hHeld'
  clear hHeld'
  try simp only [Act.put, List.setIfInBounds_toArray, List.set_cons_zero, List.set_cons_succ]
  refine wpAnyH_take (i := 5) (v := ?v5) rfl (by kernel_rfl) (by kernel_rfl) (by kernel_rfl) (fun _ _ _ h => h) (Or.inl ⟨by (first | kernel_rfl | rfl), ?hy5⟩) (by assumption) ?rest5
  case hy5 => (intro w hSw; (try dsimp only at hSw); go_simp; try with_reducible rfl)
  try simp only [Act.put, List.getElem_toArray, List.getElem_cons_succ, List.getElem_cons_zero, List.setIfInBounds_toArray, List.set_cons_zero, List.set_cons_succ]
  refine wpAnyH_take (i := 6) (v := ?v6) rfl (by kernel_rfl) (by kernel_rfl) (by kernel_rfl) (fun _ _ _ h => h) (Or.inl ⟨by (first | kernel_rfl | rfl), ?hy6⟩) (by assumption) ?rest6
  case hy6 => (intro w hSw; (try dsimp only at hSw); go_simp; try with_reducible rfl)
  try simp only [Act.put, List.getElem_toArray, List.getElem_cons_succ, List.getElem_cons_zero, List.setIfInBounds_toArray, List.set_cons_zero, List.set_cons_succ]
  refine wpAnyH_done (by kernel_rfl) ?_ _
  refine NoPanic.normal ?_
  obtain ⟨q, c, hv, hc, hr⟩ := RowArg.of_own HO2.out
  cases hv
  go_wp2
  go_ret2
  exact ⟨_, _, rfl, hc, hr.under (under_alloc (Under.refl _) _), under_alloc HU2.out _⟩
set_option maxRecDepth 100000 in
set_option maxHeartbeats 4000000 in
theorem rb_24 (n m : Int) (s : ByteArray) : Calls Tryz.prog 44 #[ndV ⟨24, n, m, s⟩] w0 fun e w => ∃ q c, e = .returned (.tuple #[.slice q 4 c, .bool (plainB ⟨24, n, m, s⟩)]) ∧ 4 ≤ c ∧ RowArg w q (intsN [0, 1, 0, 0]) ∧ Under w0 w := by
  obtain ⟨i0, hi, hz0, hz1, hz2⟩ := info_parts Tryz.infoInt
  have HPl := Lib.hid (fun w => plain_any (w0 := w) ⟨24, n, m, s⟩)
  generalize plainB ⟨24, n, m, s⟩ = pb at *
  unfold ndV at *
  simp only at HPl ⊢
  have HE := Lib.hid (row_emptyZ (w0.alloc (.cells #[.int .i64 24, .int .i64 n, .int .i64 m, .string s] 38)) (w0.heap.size + 1) 3 1 (by simp))
  rw [show (w0.alloc (.cells #[.int .i64 24, .int .i64 n, .int .i64 m, .string s] 38)).heap.size = w0.heap.size + 1 by simp] at HE
  go_enter Tryz.func44, Tryz.ntmps44
  go_wp2_with fail
  obtain ⟨W1, hW1⟩ : ∃ W, W = (w0.alloc (.cells #[.int .i64 24, .int .i64 n, .int .i64 m, .string s] 38)).alloc (.cells #[] 3) := ⟨_, rfl⟩
  have c0 : W1.cell? ⟨w0.heap.size, 0, none⟩ = some (.int .i64 24) := by rw [hW1]; exact ((box_new w0 _ _).alloc _).cell 0
  have c1 : W1.cell? ⟨w0.heap.size, 1, none⟩ = some (.int .i64 n) := by rw [hW1]; exact ((box_new w0 _ _).alloc _).cell 1
  have c2 : W1.cell? ⟨w0.heap.size, 2, none⟩ = some (.int .i64 m) := by rw [hW1]; exact ((box_new w0 _ _).alloc _).cell 2
  have c3 : W1.cell? ⟨w0.heap.size, 3, none⟩ = some (.string s) := by rw [hW1]; exact ((box_new w0 _ _).alloc _).cell 3
  have hsz : w0.heap.size < W1.heap.size := by rw [hW1]; simp; omega
  have HR : RowKit.Hid (W1.ownsRow (w0.heap.size + 1) 3 1 (.slice (some ⟨w0.heap.size + 1, 0, none⟩) 0 0) 0 []) := Lib.hid (by rw [hW1]; exact HE.out)
  rw [← hW1]
  have HBx : RowKit.Hid (BoxAt W1 w0.heap.size 38 #[.int .i64 24, .int .i64 n, .int .i64 m, .string s]) := Lib.hid (by rw [hW1]; exact (box_new w0 _ _).alloc _)
  have HU := Lib.hid (show Under w0 W1 by rw [hW1]; exact under_alloc (under_alloc (Under.refl _) _) _)
  clear hW1 HE
  refine wp_region_noPanic ?_
  refine wp_region_held_drew (S := fun w' => w'.cell? ⟨w0.heap.size, 0, none⟩ = some (.int .i64 24) ∧ w'.cell? ⟨w0.heap.size, 1, none⟩ = some (.int .i64 n) ∧ w'.cell? ⟨w0.heap.size, 2, none⟩ = some (.int .i64 m) ∧ w'.cell? ⟨w0.heap.size, 3, none⟩ = some (.string s)
     ∧ w0.heap.size < w'.heap.size) (by kernel_rfl) ⟨c0, c1, c2, c3, hsz⟩ (fun hHeld => ?_)
  refine wpAnyH_take (i := 0) (v := ?v0) rfl (by kernel_rfl) (by kernel_rfl) (by kernel_rfl) (fun _ _ _ h => h) (Or.inl ⟨by (first | kernel_rfl | rfl), ?hy0⟩) (by assumption) ?rest0
  case hy0 => (intro w hSw; (try dsimp only at hSw); go_simp; try with_reducible rfl)
  try simp only [Act.put, List.setIfInBounds_toArray, List.set_cons_zero, List.set_cons_succ]
  refine wpAnyH_take (i := 3) (v := ?v3) rfl (by kernel_rfl) (by kernel_rfl) (by kernel_rfl) (fun _ _ _ h => h) (Or.inl ⟨by (first | kernel_rfl | rfl), ?hy3⟩) (by assumption) ?rest3
  case hy3 => (intro w hSw; (try dsimp only at hSw); go_simp; try with_reducible rfl)
  try simp only [Act.put, List.setIfInBounds_toArray, List.set_cons_zero, List.set_cons_succ]
  refine wpAnyH_ready (rs := [1]) (by kernel_rfl) (by simp) ?_
  refine AllReadyH.cons rfl (fun K hK => ?_) AllReadyH.nil
  go_simp
  refine hK.out _ _ ?_ (fun hHeld' => ?_)
  · obtain ⟨d0, d1, d2, d3, d4⟩ := hHeld
    have hU := under_alloc (Under.refl W1.drew) (.cells #[.int .i64 0, .int .i64 1, .int .i64 0, .int .i64 0] 3)
    exact ⟨(under_cell hU d4 _).trans d0, (under_cell hU d4 _).trans d1, (under_cell hU d4 _).trans d2, (under_cell hU d4 _).trans d3, Nat.lt_of_lt_of_le d4 hU.size⟩
  clear hK K hHeld
  have hHeld := hHeld'
  clear hHeld'
  try simp only [Act.put, List.setIfInBounds_toArray, List.set_cons_zero, List.set_cons_succ]
  refine wpAnyH_ready (rs := [2]) (by kernel_rfl) (by simp) ?_
  refine AllReadyH.cons rfl (fun K hK => ?_) AllReadyH.nil
  refine step_append_lies _ (by rfl) _ _ _ (by rfl) (w0.heap.size + 1) 3 i0 _ 1 8 Tryz.underlying63 hi hz0 hz1 hz2 rfl (by omega) (.slice (some ⟨w0.heap.size + 1, 0, none⟩) 0 0) 0 [] (by rfl) (HR.out.drew.alloc _)
        ⟨W1.heap.size, 0, none⟩ 4 4 [.int .i64 0, .int .i64 1, .int .i64 0, .int .i64 0] (by rfl) (by rfl) (World.news_of_block (cs := #[.int .i64 0, .int .i64 1, .int .i64 0, .int .i64 0]) (t := 3) (fr := (0, 0)) (heap_alloc_new _ _)) (by simp [Value.oneCell'])
        (by omega) (by simp [maxLen]) (by simp) (by simp; omega) (W1.heap.size + 1) (by simp) ?_
  intro gg cc w2 hown2 hgrow hat hlt
  have HB2 := Lib.hid (BoxAt.grown ((HBx.out.alloc (.cells #[.int .i64 0, .int .i64 1, .int .i64 0, .int .i64 0] 3)).drew) hgrow (fun e => by simp [Value.ownBlock] at e))
  have HU2 := Lib.hid (under_grown (under_drew (under_alloc HU.out (.cells #[.int .i64 0, .int .i64 1, .int .i64 0, .int .i64 0] 3))) hgrow (fun g e => by simp [Value.ownBlock] at e; omega))
  have HO2 := Lib.hid hown2
  refine hK.out _ _ ?_ (fun hHeld' => ?_)
  · exact ⟨HB2.out.cell 0, HB2.out.cell 1, HB2.out.cell 2, HB2.out.cell 3, HB2.out.lt⟩
  clear hK K hHeld hown2 hgrow hat hlt
  have hHeld := hHeld'
  clear hHeld'
  try simp only [Act.put, List.setIfInBounds_toArray, List.set_cons_zero, List.set_cons_succ]
  refine wpAnyH_ready (rs := [4]) (by kernel_rfl) (by simp) ?_
  refine AllReadyH.cons rfl (fun K hK => ?_) AllReadyH.nil
  go_simp
  go_at_call 68
  refine (HPl.out _).mono ?_
  rintro e w3 ⟨rfl, rfl⟩
  refine hK.out _ _ ?_ (fun hHeld' => ?_)
  · have HB3 := HB2.out.alloc (.cells #[.int .i64 24, .int .i64 n, .int .i64 m, .string s] 38)
    exact ⟨HB3.cell 0, HB3.cell 1, HB3.cell 2, HB3.cell 3, HB3.lt⟩
  clear hK K hHeld
  have hHeld := hHeld'
  clear hHeld'
  try simp only [Act.put, List.setIfInBounds_toArray, List.set_cons_zero, List.set_cons_succ]
  refine wpAnyH_take (i := 5) (v := ?v5) rfl (by kernel_rfl) (by kernel_rfl) (by kernel_rfl) (fun _ _ _ h => h) (Or.inl ⟨by (first | kernel_rfl | rfl), ?hy5⟩) (by assumption) ?rest5
  case hy5 => (intro w hSw; (try dsimp only at hSw); go_simp; try with_reducible rfl)
  try simp only [Act.put, List.getElem_toArray, List.getElem_cons_succ, List.getElem_cons_zero, List.setIfInBounds_toArray, List.set_cons_zero, List.set_cons_succ]
  refine wpAnyH_take (i := 6) (v := ?v6) rfl (by kernel_rfl) (by kernel_rfl) (by kernel_rfl) (fun _ _ _ h => h) (Or.inl ⟨by (first | kernel_rfl | rfl), ?hy6⟩) (by assumption) ?rest6
  case hy6 => (intro w hSw; (try dsimp only at hSw); go_simp; try with_reducible rfl)
  try simp only [Act.put, List.getElem_toArray, List.getElem_cons_succ, List.getElem_cons_zero, List.setIfInBounds_toArray, List.set_cons_zero, List.set_cons_succ]
  refine wpAnyH_done (by kernel_rfl) ?_ _
  refine NoPanic.normal ?_
  obtain ⟨q, c, hv, hc, hr⟩ := RowArg.of_own HO2.out
  cases hv
  go_wp2
  go_ret2
  exact ⟨_, _, rfl, hc, hr.under (under_alloc (Under.refl _) _), under_alloc HU2.out _⟩
end
end Go.Proofs.YtiibknlpeodejaaGreatDoor

/- corniceref02.Binds: its contract, at kinds without parts, at names' kinds, at constructors, and where there is no such kind. -/
namespace Go.Proofs.YtiibknlpeodejaaGreatDoor
open Go.Lx Go.RowKit

/-- What Binds answers. -/
def BOut (w0 : World) (l : List Nat) (b : Bool) (e : Ending) (w : World) : Prop := ∃ q c, e = .returned (.tuple #[.slice q l.length c, .bool b]) ∧ l.length ≤ c ∧ RowArg w q (intsN l) ∧ Under w0 w
theorem BOut.empty {w0 w : World} {b : Bool} (a : Nat) (h : Under w0 w) : BOut w0 [] b (.returned (.tuple #[.slice (some ⟨a, 0, none⟩) 0 0, .bool b])) w := ⟨_, _, rfl, Nat.le_refl _, RowArg.nil, h⟩
section
variable {w0 : World}
set_option maxRecDepth 100000 in
set_option maxHeartbeats 1000000 in
theorem rb_10 (n m : Int) (s : ByteArray) : Calls Tryz.prog 44 #[ndV ⟨10, n, m, s⟩] w0 (BOut w0 [] (plainB ⟨10, n, m, s⟩)) := by
  have HPl := Lib.hid (fun w => plain_any (w0 := w) ⟨10, n, m, s⟩)
  generalize plainB ⟨10, n, m, s⟩ = pb at *
  unfold ndV at *
  simp only at HPl ⊢
  go_enter Tryz.func44, Tryz.ntmps44
  go_wp2_with fail
  refine (HPl.out _).mono ?_
  rintro e w3 ⟨rfl, rfl⟩
  go_wp2
  go_ret2
  exact BOut.empty _ (under_alloc (under_alloc (under_alloc (Under.refl _) _) _) _)
set_option maxRecDepth 100000 in
set_option maxHeartbeats 1000000 in
theorem rb_11 (n m : Int) (s : ByteArray) : Calls Tryz.prog 44 #[ndV ⟨11, n, m, s⟩] w0 (BOut w0 [] (plainB ⟨11, n, m, s⟩)) := by
  have HPl := Lib.hid (fun w => plain_any (w0 := w) ⟨11, n, m, s⟩)
  generalize plainB ⟨11, n, m, s⟩ = pb at *
  unfold ndV at *
  simp only at HPl ⊢
  go_enter Tryz.func44, Tryz.ntmps44
  go_wp2_with fail
  refine (HPl.out _).mono ?_
  rintro e w3 ⟨rfl, rfl⟩
  go_wp2
  go_ret2
  exact BOut.empty _ (under_alloc (under_alloc (under_alloc (Under.refl _) _) _) _)
set_option maxRecDepth 100000 in
set_option maxHeartbeats 1000000 in
theorem rb_14 (n m : Int) (s : ByteArray) : Calls Tryz.prog 44 #[ndV ⟨14, n, m, s⟩] w0 (BOut w0 [] (plainB ⟨14, n, m, s⟩)) := by
  have HPl := Lib.hid (fun w => plain_any (w0 := w) ⟨14, n, m, s⟩)
  generalize plainB ⟨14, n, m, s⟩ = pb at *
  unfold ndV at *
  simp only at HPl ⊢
  go_enter Tryz.func44, Tryz.ntmps44
  go_wp2_with fail
  refine (HPl.out _).mono ?_
  rintro e w3 ⟨rfl, rfl⟩
  go_wp2
  go_ret2
  exact BOut.empty _ (under_alloc (under_alloc (under_alloc (Under.refl _) _) _) _)
set_option maxRecDepth 100000 in
set_option maxHeartbeats 1000000 in
theorem rb_16 (n m : Int) (s : ByteArray) : Calls Tryz.prog 44 #[ndV ⟨16, n, m, s⟩] w0 (BOut w0 [] (plainB ⟨16, n, m, s⟩)) := by
  have HPl := Lib.hid (fun w => plain_any (w0 := w) ⟨16, n, m, s⟩)
  generalize plainB ⟨16, n, m, s⟩ = pb at *
  unfold ndV at *
  simp only at HPl ⊢
  go_enter Tryz.func44, Tryz.ntmps44
  go_wp2_with fail
  refine (HPl.out _).mono ?_
  rintro e w3 ⟨rfl, rfl⟩
  go_wp2
  go_ret2
  exact BOut.empty _ (under_alloc (under_alloc (under_alloc (Under.refl _) _) _) _)
set_option maxRecDepth 100000 in
set_option maxHeartbeats 1000000 in
theorem rb_17 (n m : Int) (s : ByteArray) : Calls Tryz.prog 44 #[ndV ⟨17, n, m, s⟩] w0 (BOut w0 [] (plainB ⟨17, n, m, s⟩)) := by
  have HPl := Lib.hid (fun w => plain_any (w0 := w) ⟨17, n, m, s⟩)
  generalize plainB ⟨17, n, m, s⟩ = pb at *
  unfold ndV at *
  simp only at HPl ⊢
  go_enter Tryz.func44, Tryz.ntmps44
  go_wp2_with fail
  refine (HPl.out _).mono ?_
  rintro e w3 ⟨rfl, rfl⟩
  go_wp2
  go_ret2
  exact BOut.empty _ (under_alloc (under_alloc (under_alloc (Under.refl _) _) _) _)
set_option maxRecDepth 100000 in
set_option maxHeartbeats 1000000 in
theorem rb_29 (n m : Int) (s : ByteArray) : Calls Tryz.prog 44 #[ndV ⟨29, n, m, s⟩] w0 (BOut w0 [] (plainB ⟨29, n, m, s⟩)) := by
  have HPl := Lib.hid (fun w => plain_any (w0 := w) ⟨29, n, m, s⟩)
  generalize plainB ⟨29, n, m, s⟩ = pb at *
  unfold ndV at *
  simp only at HPl ⊢
  go_enter Tryz.func44, Tryz.ntmps44
  go_wp2_with fail
  refine (HPl.out _).mono ?_
  rintro e w3 ⟨rfl, rfl⟩
  go_wp2
  go_ret2
  exact BOut.empty _ (under_alloc (under_alloc (under_alloc (Under.refl _) _) _) _)
set_option maxRecDepth 100000 in
set_option maxHeartbeats 1000000 in
theorem rb_1 (n m : Int) (s : ByteArray) : Calls Tryz.prog 44 #[ndV ⟨1, n, m, s⟩] w0 (BOut w0 [] ((n == 0) && (m == 0) && nameB s)) := by
  have HNm := Lib.hid (fun w => rname_any (w0 := w) s)
  generalize nameB s = nb at *
  unfold ndV
  cases h1 : (n == 0)
  · go_enter Tryz.func44, Tryz.ntmps44
    go_wp2
    go_ret2
    exact BOut.empty _ (under_alloc (under_alloc (Under.refl _) _) _)
  · cases h2 : (m == 0)
    · go_enter Tryz.func44, Tryz.ntmps44
      go_wp2
      go_ret2
      exact BOut.empty _ (under_alloc (under_alloc (Under.refl _) _) _)
    · go_enter Tryz.func44, Tryz.ntmps44
      go_wp2_with fail
      refine (HNm.out _).mono ?_
      rintro e w3 ⟨rfl, rfl⟩
      go_wp2
      go_ret2
      exact BOut.empty _ (under_alloc (under_alloc (Under.refl _) _) _)
set_option maxRecDepth 100000 in
set_option maxHeartbeats 1000000 in
theorem rb_25 (n m : Int) (s : ByteArray) : Calls Tryz.prog 44 #[ndV ⟨25, n, m, s⟩] w0 (BOut w0 [] ((n == 0) && (m == 0) && nameB s)) := by
  have HNm := Lib.hid (fun w => rname_any (w0 := w) s)
  generalize nameB s = nb at *
  unfold ndV
  cases h1 : (n == 0)
  · go_enter Tryz.func44, Tryz.ntmps44
    go_wp2
    go_ret2
    exact BOut.empty _ (under_alloc (under_alloc (Under.refl _) _) _)
  · cases h2 : (m == 0)
    · go_enter Tryz.func44, Tryz.ntmps44
      go_wp2
      go_ret2
      exact BOut.empty _ (under_alloc (under_alloc (Under.refl _) _) _)
    · go_enter Tryz.func44, Tryz.ntmps44
      go_wp2_with fail
      refine (HNm.out _).mono ?_
      rintro e w3 ⟨rfl, rfl⟩
      go_wp2
      go_ret2
      exact BOut.empty _ (under_alloc (under_alloc (Under.refl _) _) _)
end
end Go.Proofs.YtiibknlpeodejaaGreatDoor

/- corniceref02.Binds: its contract, at Con, Var, Sort, and where there is no such kind. -/
namespace Go.Proofs.YtiibknlpeodejaaGreatDoor
open Go.Lx Go.RowKit

section
variable {w0 : World}
set_option maxRecDepth 100000 in
set_option maxHeartbeats 2000000 in
theorem rb_26_no (n m : Int) (s : ByteArray) (h : nameB s = false ∨ n < 0 ∨ 6 ≤ n ∨ m < 0 ∨ 6 < m) : Calls Tryz.prog 44 #[ndV ⟨26, n, m, s⟩] w0 (BOut w0 [] false) := by
  have HNm := Lib.hid (fun w => rname_any (w0 := w) s)
  unfold ndV
  generalize nameB s = nb at *
  cases nb
  · clear h
    go_enter Tryz.func44, Tryz.ntmps44
    go_wp2_with fail
    refine (HNm.out _).mono ?_
    rintro e w3 ⟨rfl, rfl⟩
    go_wp2
    go_ret2
    exact BOut.empty _ (under_alloc (under_alloc (Under.refl _) _) _)
  · by_cases h1 : n < 0
    · clear h
      go_enter Tryz.func44, Tryz.ntmps44
      go_wp2_with fail
      refine (HNm.out _).mono ?_
      rintro e w3 ⟨rfl, rfl⟩
      go_wp2
      go_ret2
      exact BOut.empty _ (under_alloc (under_alloc (Under.refl _) _) _)
    · by_cases h2 : 6 ≤ n
      · clear h
        go_enter Tryz.func44, Tryz.ntmps44
        go_wp2_with fail
        refine (HNm.out _).mono ?_
        rintro e w3 ⟨rfl, rfl⟩
        go_wp2
        go_ret2
        exact BOut.empty _ (under_alloc (under_alloc (Under.refl _) _) _)
      · by_cases h3 : m < 0
        · clear h
          go_enter Tryz.func44, Tryz.ntmps44
          go_wp2_with fail
          refine (HNm.out _).mono ?_
          rintro e w3 ⟨rfl, rfl⟩
          go_wp2
          go_ret2
          exact BOut.empty _ (under_alloc (under_alloc (Under.refl _) _) _)
        · have h4 : 6 < m := by simp at h; omega
          clear h
          go_enter Tryz.func44, Tryz.ntmps44
          go_wp2_with fail
          refine (HNm.out _).mono ?_
          rintro e w3 ⟨rfl, rfl⟩
          go_wp2
          go_ret2
          exact BOut.empty _ (under_alloc (under_alloc (Under.refl _) _) _)
set_option maxRecDepth 100000 in
set_option maxHeartbeats 2000000 in
theorem rb_26_yes (n : Int) (m : Nat) (s : ByteArray) (hs : nameB s = true) (h1 : 0 ≤ n) (h2 : n < 6) (h3 : m ≤ 6) : Calls Tryz.prog 44 #[ndV ⟨26, n, m, s⟩] w0 (BOut w0 (List.replicate m 0) true) := by
  have HNm := Lib.hid (fun w => rname_any (w0 := w) s)
  rw [hs] at HNm
  obtain ⟨i0, hi, hz0, hz1, hz2⟩ := info_parts Tryz.infoInt
  unfold ndV
  have m0 : (0 : Int) ≤ m := Int.natCast_nonneg _
  have m6 : (m : Int) ≤ 6 := by omega
  clear hs
  go_enter Tryz.func44, Tryz.ntmps44
  go_wp2_with fail
  refine (HNm.out _).mono ?_
  rintro e w3 ⟨rfl, rfl⟩
  obtain ⟨W1, hW1⟩ : ∃ W, W = (w0.alloc (.cells #[.int .i64 26, .int .i64 n, .int .i64 m, .string s] 38)).alloc (.cells #[] 3) := ⟨_, rfl⟩
  have c1 : W1.cell? ⟨w0.heap.size, 1, none⟩ = some (.int .i64 n) := by rw [hW1]; exact ((box_new w0 _ _).alloc _).cell 1
  have c2 : W1.cell? ⟨w0.heap.size, 2, none⟩ = some (.int .i64 m) := by rw [hW1]; exact ((box_new w0 _ _).alloc _).cell 2
  have hsz : w0.heap.size < W1.heap.size := by rw [hW1]; simp; omega
  have HU := Lib.hid (show Under w0 W1 by rw [hW1]; exact under_alloc (under_alloc (Under.refl _) _) _)
  rw [← hW1]
  clear hW1
  go_wp2_with (at_make; refine wpList_make_full _ rfl _ _ _ rfl w0.heap.size 3 i0 _ 1 Tryz.underlying63 hi hz0 hz1 .i64 .i64 _ _ m rfl rfl rfl rfl ?c1 ?c2 ?c3 ?_)
  case c1 => rw [hz2]; omega
  case c2 => simp only [maxLen]; omega
  case c3 => omega
  intro w2 hown hgrow
  have HO := Lib.hid hown
  have HU2 := Lib.hid (under_grown HU.out hgrow fun g e => by cases e)
  clear hown hgrow
  go_wp2
  go_ret2
  have hcs : (madeCells #[Value.int .i64 0] m).toList = intsN (List.replicate m 0) := by
    apply List.ext_getElem
    · simp [intsN, madeCells]
    · intro j h1 h2
      simp [intsN, madeCells, Nat.mod_one]
  obtain ⟨q, c, hv, hc, hr⟩ := RowArg.of_own HO.out
  cases hv
  exact ⟨_, _, by rw [List.length_replicate]; rfl, by rw [List.length_replicate]; exact hc, by rw [← hcs]; exact hr, HU2.out⟩
set_option maxRecDepth 100000 in
set_option maxHeartbeats 2000000 in
theorem rb_else (k n m : Int) (s : ByteArray) (h : k < 0 ∨ 29 < k) : Calls Tryz.prog 44 #[ndV ⟨k, n, m, s⟩] w0 (BOut w0 [] false) := by
  unfold ndV
  have e : ∀ j : Int, 0 ≤ j → j ≤ 29 → (k == j) = false := fun j h1 h2 => by simp; omega
  have e0 := e 0 (by decide) (by decide)
  have e1 := e 1 (by decide) (by decide)
  have e2 := e 2 (by decide) (by decide)
  have e3 := e 3 (by decide) (by decide)
  have e4 := e 4 (by decide) (by decide)
  have e5 := e 5 (by decide) (by decide)
  have e6 := e 6 (by decide) (by decide)
  have e7 := e 7 (by decide) (by decide)
  have e8 := e 8 (by decide) (by decide)
  have e9 := e 9 (by decide) (by decide)
  have e10 := e 10 (by decide) (by decide)
  have e11 := e 11 (by decide) (by decide)
  have e12 := e 12 (by decide) (by decide)
  have e13 := e 13 (by decide) (by decide)
  have e14 := e 14 (by decide) (by decide)
  have e15 := e 15 (by decide) (by decide)
  have e16 := e 16 (by decide) (by decide)
  have e17 := e 17 (by decide) (by decide)
  have e18 := e 18 (by decide) (by decide)
  have e19 := e 19 (by decide) (by decide)
  have e20 := e 20 (by decide) (by decide)
  have e21 := e 21 (by decide) (by decide)
  have e22 := e 22 (by decide) (by decide)
  have e23 := e 23 (by decide) (by decide)
  have e24 := e 24 (by decide) (by decide)
  have e25 := e 25 (by decide) (by decide)
  have e26 := e 26 (by decide) (by decide)
  have e27 := e 27 (by decide) (by decide)
  have e28 := e 28 (by decide) (by decide)
  have e29 := e 29 (by decide) (by decide)
  clear e h
  go_enter Tryz.func44, Tryz.ntmps44
  go_wp2
  go_ret2
  exact BOut.empty _ (under_alloc (under_alloc (Under.refl _) _) _)
end
end Go.Proofs.YtiibknlpeodejaaGreatDoor

/- corniceref02.Binds: its contract, at Var and Sort. -/
namespace Go.Proofs.YtiibknlpeodejaaGreatDoor
open Go.Lx Go.RowKit

/-- A variable's fields. -/
def varB (n m : Int) (s : ByteArray) : Bool := ((decide (0 ≤ n) && decide (n ≤ 99)) && (m == 0)) && s.toList.isEmpty
section
variable {w0 : World}
set_option maxRecDepth 100000 in
set_option maxHeartbeats 2000000 in
theorem rb_0 (n m : Int) (s : ByteArray) : Calls Tryz.prog 44 #[ndV ⟨0, n, m, s⟩] w0 (BOut w0 [] (varB n m s)) := by
  have HO : RowKit.Hid (varB n m s = (((decide (0 ≤ n) && decide (n ≤ 99)) && (m == 0)) && s.toList.isEmpty)) := Lib.hid rfl
  generalize varB n m s = vb at *
  unfold ndV
  by_cases h1 : 0 ≤ n
  · by_cases h2 : n ≤ 99
    · cases h3 : (m == 0)
      · have HO : RowKit.Hid (vb = false) := Lib.hid (by rw [HO.out, h3]; simp)
        go_enter Tryz.func44, Tryz.ntmps44
        go_wp2_with fail
        go_quiet (fail)
        go_wp2
        go_ret2
        rw [HO.out]
        exact BOut.empty _ (under_drewN (under_alloc (under_alloc (Under.refl _) _) _) _)
      · cases h4 : s.toList.isEmpty
        · have HO : RowKit.Hid (vb = false) := Lib.hid (by rw [HO.out, h4]; simp)
          go_enter Tryz.func44, Tryz.ntmps44
          go_wp2_with fail
          go_quiet (fail)
          go_wp2
          go_ret2
          rw [HO.out]
          exact BOut.empty _ (under_drewN (under_alloc (under_alloc (Under.refl _) _) _) _)
        · have HO : RowKit.Hid (vb = true) := Lib.hid (by rw [HO.out, h3, h4]; simp [h1, h2])
          go_enter Tryz.func44, Tryz.ntmps44
          go_wp2_with fail
          go_quiet (fail)
          go_wp2
          go_ret2
          rw [HO.out]
          exact BOut.empty _ (under_drewN (under_alloc (under_alloc (Under.refl _) _) _) _)
    · have HO : RowKit.Hid (vb = false) := Lib.hid (by rw [HO.out]; simp [h2])
      go_enter Tryz.func44, Tryz.ntmps44
      go_wp2_with fail
      have hb : (n ≤ 99) = False := eq_false (by omega)
      go_quiet (fail)
      go_wp2
      go_ret2
      rw [HO.out]
      exact BOut.empty _ (under_drewN (under_alloc (under_alloc (Under.refl _) _) _) _)
  · have HO : RowKit.Hid (vb = false) := Lib.hid (by rw [HO.out]; simp [h1])
    go_enter Tryz.func44, Tryz.ntmps44
    go_wp2_with fail
    have hb : (0 ≤ n) = False := eq_false (by omega)
    go_quiet (fail)
    go_wp2
    go_ret2
    rw [HO.out]
    exact BOut.empty _ (under_drewN (under_alloc (under_alloc (Under.refl _) _) _) _)
set_option maxRecDepth 100000 in
set_option maxHeartbeats 2000000 in
theorem rb_2 (n m : Int) (s : ByteArray) : Calls Tryz.prog 44 #[ndV ⟨2, n, m, s⟩] w0 (BOut w0 [] ((levB n && (m == 0)) && s.toList.isEmpty)) := by
  have HO : RowKit.Hid (((levB n && (m == 0)) && s.toList.isEmpty) = ((levB n && (m == 0)) && s.toList.isEmpty)) := Lib.hid rfl
  have HC := Lib.hid (fun w => rlcheck_any (w0 := w) n)
  generalize hvb : ((levB n && (m == 0)) && s.toList.isEmpty) = vb at HO ⊢
  have HV := Lib.hid hvb
  clear hvb HO
  unfold ndV
  generalize levB n = lb at *
  cases lb
  · have HO : RowKit.Hid (vb = false) := Lib.hid (by rw [← HV.out]; simp)
    rw [if_neg (by decide)] at HC
    go_enter Tryz.func44, Tryz.ntmps44
    go_wp2_with fail
    go_quiet (first | (go_at_call 67; exact Calls.quiet_of_same (HC.out _)))
    go_wp2
    go_ret2
    rw [HO.out]
    exact BOut.empty _ (under_drewN (under_alloc (under_alloc (Under.refl _) _) _) _)
  · rw [if_pos rfl] at HC
    cases h3 : (m == 0)
    · have HO : RowKit.Hid (vb = false) := Lib.hid (by rw [← HV.out, h3]; simp)
      go_enter Tryz.func44, Tryz.ntmps44
      go_wp2_with fail
      go_quiet (first | (go_at_call 67; exact Calls.quiet_of_same (HC.out _)))
      go_wp2
      go_ret2
      rw [HO.out]
      exact BOut.empty _ (under_drewN (under_alloc (under_alloc (Under.refl _) _) _) _)
    · cases h4 : s.toList.isEmpty
      · have HO : RowKit.Hid (vb = false) := Lib.hid (by rw [← HV.out, h4]; simp)
        go_enter Tryz.func44, Tryz.ntmps44
        go_wp2_with fail
        go_quiet (first | (go_at_call 67; exact Calls.quiet_of_same (HC.out _)))
        go_wp2
        go_ret2
        rw [HO.out]
        exact BOut.empty _ (under_drewN (under_alloc (under_alloc (Under.refl _) _) _) _)
      · have HO : RowKit.Hid (vb = true) := Lib.hid (by rw [← HV.out, h3, h4]; rfl)
        go_enter Tryz.func44, Tryz.ntmps44
        go_wp2_with fail
        go_quiet (first | (go_at_call 67; exact Calls.quiet_of_same (HC.out _)))
        go_wp2
        go_ret2
        rw [HO.out]
        exact BOut.empty _ (under_drewN (under_alloc (under_alloc (Under.refl _) _) _) _)
end
end Go.Proofs.YtiibknlpeodejaaGreatDoor

/- corniceref02.Binds: its contract, at Pi and Sig. Printed by rpi.py. -/
namespace Go.Proofs.YtiibknlpeodejaaGreatDoor
open Go.Lx Go.RowKit

/-- The fields of Pi and Sig. -/
def piB (n m : Int) (s : ByteArray) : Bool := ((decide (0 ≤ n) && decide (n ≤ 3)) && (m == 0)) && s.toList.isEmpty
section
variable {w0 : World}
set_option maxRecDepth 100000 in
set_option maxHeartbeats 4000000 in
theorem rb_3a (n m : Int) (s : ByteArray) (h1 : (0 ≤ n) = False) : Calls Tryz.prog 44 #[ndV ⟨3, n, m, s⟩] w0 (BOut w0 [0, 1] false) := by
  obtain ⟨i0, hi, hz0, hz1, hz2⟩ := info_parts Tryz.infoInt
  unfold ndV at *
  simp only
  have HE := Lib.hid (row_emptyZ (w0.alloc (.cells #[.int .i64 3, .int .i64 n, .int .i64 m, .string s] 38)) (w0.heap.size + 1) 3 1 (by simp))
  rw [show (w0.alloc (.cells #[.int .i64 3, .int .i64 n, .int .i64 m, .string s] 38)).heap.size = w0.heap.size + 1 by simp] at HE
  go_enter Tryz.func44, Tryz.ntmps44
  go_wp2_with fail
  obtain ⟨W1, hW1⟩ : ∃ W, W = (w0.alloc (.cells #[.int .i64 3, .int .i64 n, .int .i64 m, .string s] 38)).alloc (.cells #[] 3) := ⟨_, rfl⟩
  have c0 : W1.cell? ⟨w0.heap.size, 0, none⟩ = some (.int .i64 3) := by rw [hW1]; exact ((box_new w0 _ _).alloc _).cell 0
  have c1 : W1.cell? ⟨w0.heap.size, 1, none⟩ = some (.int .i64 n) := by rw [hW1]; exact ((box_new w0 _ _).alloc _).cell 1
  have c2 : W1.cell? ⟨w0.heap.size, 2, none⟩ = some (.int .i64 m) := by rw [hW1]; exact ((box_new w0 _ _).alloc _).cell 2
  have c3 : W1.cell? ⟨w0.heap.size, 3, none⟩ = some (.string s) := by rw [hW1]; exact ((box_new w0 _ _).alloc _).cell 3
  have hsz : w0.heap.size < W1.heap.size := by rw [hW1]; simp; omega
  have HR : RowKit.Hid (W1.ownsRow (w0.heap.size + 1) 3 1 (.slice (some ⟨w0.heap.size + 1, 0, none⟩) 0 0) 0 []) := Lib.hid (by rw [hW1]; exact HE.out)
  rw [← hW1]
  have HBx : RowKit.Hid (BoxAt W1 w0.heap.size 38 #[.int .i64 3, .int .i64 n, .int .i64 m, .string s]) := Lib.hid (by rw [hW1]; exact (box_new w0 _ _).alloc _)
  have HU := Lib.hid (show Under w0 W1 by rw [hW1]; exact under_alloc (under_alloc (Under.refl _) _) _)
  clear hW1 HE
  refine wp_region_noPanic ?_
  refine wp_region_held_drew (S := fun w' => w'.cell? ⟨w0.heap.size, 0, none⟩ = some (.int .i64 3) ∧ w'.cell? ⟨w0.heap.size, 1, none⟩ = some (.int .i64 n) ∧ w'.cell? ⟨w0.heap.size, 2, none⟩ = some (.int .i64 m) ∧ w'.cell? ⟨w0.heap.size, 3, none⟩ = some (.string s)
     ∧ w0.heap.size < w'.heap.size) (by kernel_rfl) ⟨c0, c1, c2, c3, hsz⟩ (fun hHeld => ?_)
  refine wpAnyH_take (i := 0) (v := ?v0) rfl (by kernel_rfl) (by kernel_rfl) (by kernel_rfl) (fun _ _ _ h => h) (Or.inl ⟨by (first | kernel_rfl | rfl), ?hy0⟩) (by assumption) ?rest0
  case hy0 => (intro w hSw; (try dsimp only at hSw); go_simp; try with_reducible rfl)
  try simp only [Act.put, List.getElem_toArray, List.getElem_cons_succ, List.getElem_cons_zero, List.setIfInBounds_toArray, List.set_cons_zero, List.set_cons_succ]
  refine wpAnyH_take (i := 3) (v := ?v3) rfl (by kernel_rfl) (by kernel_rfl) (by kernel_rfl) (fun _ _ _ h => h) (Or.inl ⟨by (first | kernel_rfl | rfl), ?hy3⟩) (by assumption) ?rest3
  case hy3 => (intro w hSw; (try dsimp only at hSw); go_simp; try with_reducible rfl)
  try simp only [Act.put, List.getElem_toArray, List.getElem_cons_succ, List.getElem_cons_zero, List.setIfInBounds_toArray, List.set_cons_zero, List.set_cons_succ]
  refine wpAnyH_take (i := 4) (v := ?v4) rfl (by kernel_rfl) (by kernel_rfl) (by kernel_rfl) (fun _ _ _ h => h) (Or.inl ⟨by (first | kernel_rfl | rfl), ?hy4⟩) (by assumption) ?rest4
  case hy4 => (intro w hSw; (try dsimp only at hSw); go_simp; try with_reducible rfl)
  try simp only [Act.put, List.getElem_toArray, List.getElem_cons_succ, List.getElem_cons_zero, List.setIfInBounds_toArray, List.set_cons_zero, List.set_cons_succ]
  refine wpAnyH_take (i := 5) (v := .bool false) rfl (by kernel_rfl) (by kernel_rfl) (by kernel_rfl) (fun _ _ _ h => h) (Or.inl ⟨by (first | kernel_rfl | rfl), ?hy5⟩) (by assumption) ?rest5
  case hy5 => (intro w hSw; (try dsimp only at hSw); go_simp; try with_reducible rfl)
  try simp only [Act.put, List.getElem_toArray, List.getElem_cons_succ, List.getElem_cons_zero, List.setIfInBounds_toArray, List.set_cons_zero, List.set_cons_succ]
  refine wpAnyH_ready (rs := [1]) (by kernel_rfl) (by simp) ?_
  refine AllReadyH.cons rfl (fun K hK => ?_) AllReadyH.nil
  go_simp
  refine hK.out _ _ ?_ (fun hHeld' => ?_)
  · obtain ⟨d0, d1, d2, d3, d4⟩ := hHeld
    have hU := under_alloc (Under.refl W1.drew) (.cells #[.int .i64 0, .int .i64 1] 3)
    exact ⟨(under_cell hU d4 _).trans d0, (under_cell hU d4 _).trans d1, (under_cell hU d4 _).trans d2, (under_cell hU d4 _).trans d3, Nat.lt_of_lt_of_le d4 hU.size⟩
  clear hK K hHeld
  have hHeld := hHeld'
  clear hHeld'
  try simp only [Act.put, List.setIfInBounds_toArray, List.set_cons_zero, List.set_cons_succ]
  refine wpAnyH_ready (rs := [2]) (by kernel_rfl) (by simp) ?_
  refine AllReadyH.cons rfl (fun K hK => ?_) AllReadyH.nil
  refine step_append_lies _ (by rfl) _ _ _ (by rfl) (w0.heap.size + 1) 3 i0 _ 1 8 Tryz.underlying63 hi hz0 hz1 hz2 rfl (by omega) (.slice (some ⟨w0.heap.size + 1, 0, none⟩) 0 0) 0 [] (by rfl) (HR.out.drew.alloc _)
        ⟨W1.heap.size, 0, none⟩ 2 2 [.int .i64 0, .int .i64 1] (by rfl) (by rfl) (World.news_of_block (cs := #[.int .i64 0, .int .i64 1]) (t := 3) (fr := (0, 0)) (heap_alloc_new _ _)) (by simp [Value.oneCell'])
        (by omega) (by simp [maxLen]) (by simp) (by simp; omega) (W1.heap.size + 1) (by simp) ?_
  intro gg cc w2 hown2 hgrow hat hlt
  have HB2 := Lib.hid (BoxAt.grown ((HBx.out.alloc (.cells #[.int .i64 0, .int .i64 1] 3)).drew) hgrow (fun e => by simp [Value.ownBlock] at e))
  have HU2 := Lib.hid (under_grown (under_drew (under_alloc HU.out (.cells #[.int .i64 0, .int .i64 1] 3))) hgrow (fun g e => by simp [Value.ownBlock] at e; omega))
  have HO2 := Lib.hid hown2
  refine hK.out _ _ ?_ (fun hHeld' => ?_)
  · exact ⟨HB2.out.cell 0, HB2.out.cell 1, HB2.out.cell 2, HB2.out.cell 3, HB2.out.lt⟩
  clear hK K hHeld hown2 hgrow hat hlt
  have hHeld := hHeld'
  clear hHeld'
  try simp only [Act.put, List.getElem_toArray, List.getElem_cons_succ, List.getElem_cons_zero, List.setIfInBounds_toArray, List.set_cons_zero, List.set_cons_succ]
  refine wpAnyH_take (i := 6) (v := ?v6) rfl (by kernel_rfl) (by kernel_rfl) (by kernel_rfl) (fun _ _ _ h => h) (Or.inl ⟨by (first | kernel_rfl | rfl), ?hy6⟩) (by assumption) ?rest6
  case hy6 => (intro w hSw; (try dsimp only at hSw); go_simp; try with_reducible rfl)
  try simp only [Act.put, List.getElem_toArray, List.getElem_cons_succ, List.getElem_cons_zero, List.setIfInBounds_toArray, List.set_cons_zero, List.set_cons_succ]
  refine wpAnyH_take (i := 7) rfl (by kernel_rfl) (by kernel_rfl) (by kernel_rfl) (fun _ _ _ h => h) (Or.inr ⟨by (first | kernel_rfl | rfl), rfl⟩) (by assumption) ?_
  try simp only [Act.put, List.getElem_toArray, List.getElem_cons_succ, List.getElem_cons_zero, List.setIfInBounds_toArray, List.set_cons_zero, List.set_cons_succ]
  refine wpAnyH_take (i := 8) rfl (by kernel_rfl) (by kernel_rfl) (by kernel_rfl) (fun _ _ _ h => h) (Or.inr ⟨by (first | kernel_rfl | rfl), rfl⟩) (by assumption) ?_
  try simp only [Act.put, List.getElem_toArray, List.getElem_cons_succ, List.getElem_cons_zero, List.setIfInBounds_toArray, List.set_cons_zero, List.set_cons_succ]
  refine wpAnyH_take (i := 9) rfl (by kernel_rfl) (by kernel_rfl) (by kernel_rfl) (fun _ _ _ h => h) (Or.inr ⟨by (first | kernel_rfl | rfl), rfl⟩) (by assumption) ?_
  try simp only [Act.put, List.getElem_toArray, List.getElem_cons_succ, List.getElem_cons_zero, List.setIfInBounds_toArray, List.set_cons_zero, List.set_cons_succ]
  refine wpAnyH_take (i := 10) (v := .bool false) rfl (by kernel_rfl) (by kernel_rfl) (by kernel_rfl) (fun _ _ _ h => h) (Or.inl ⟨by (first | kernel_rfl | rfl), ?hy10⟩) (by assumption) ?rest10
  case hy10 => (intro w hSw; (try dsimp only at hSw); go_simp; try with_reducible rfl)
  try simp only [Act.put, List.getElem_toArray, List.getElem_cons_succ, List.getElem_cons_zero, List.setIfInBounds_toArray, List.set_cons_zero, List.set_cons_succ]
  refine wpAnyH_take (i := 11) (v := ?v11) rfl (by kernel_rfl) (by kernel_rfl) (by kernel_rfl) (fun _ _ _ h => h) (Or.inl ⟨by (first | kernel_rfl | rfl), ?hy11⟩) (by assumption) ?rest11
  case hy11 => (intro w hSw; (try dsimp only at hSw); go_simp; try with_reducible rfl)
  try simp only [Act.put, List.getElem_toArray, List.getElem_cons_succ, List.getElem_cons_zero, List.setIfInBounds_toArray, List.set_cons_zero, List.set_cons_succ]
  refine wpAnyH_take (i := 12) rfl (by kernel_rfl) (by kernel_rfl) (by kernel_rfl) (fun _ _ _ h => h) (Or.inr ⟨by (first | kernel_rfl | rfl), rfl⟩) (by assumption) ?_
  try simp only [Act.put, List.getElem_toArray, List.getElem_cons_succ, List.getElem_cons_zero, List.setIfInBounds_toArray, List.set_cons_zero, List.set_cons_succ]
  refine wpAnyH_take (i := 13) rfl (by kernel_rfl) (by kernel_rfl) (by kernel_rfl) (fun _ _ _ h => h) (Or.inr ⟨by (first | kernel_rfl | rfl), rfl⟩) (by assumption) ?_
  try simp only [Act.put, List.getElem_toArray, List.getElem_cons_succ, List.getElem_cons_zero, List.setIfInBounds_toArray, List.set_cons_zero, List.set_cons_succ]
  refine wpAnyH_take (i := 14) rfl (by kernel_rfl) (by kernel_rfl) (by kernel_rfl) (fun _ _ _ h => h) (Or.inr ⟨by (first | kernel_rfl | rfl), rfl⟩) (by assumption) ?_
  try simp only [Act.put, List.getElem_toArray, List.getElem_cons_succ, List.getElem_cons_zero, List.setIfInBounds_toArray, List.set_cons_zero, List.set_cons_succ]
  refine wpAnyH_take (i := 15) (v := .bool false) rfl (by kernel_rfl) (by kernel_rfl) (by kernel_rfl) (fun _ _ _ h => h) (Or.inl ⟨by (first | kernel_rfl | rfl), ?hy15⟩) (by assumption) ?rest15
  case hy15 => (intro w hSw; (try dsimp only at hSw); go_simp; try with_reducible rfl)
  try simp only [Act.put, List.getElem_toArray, List.getElem_cons_succ, List.getElem_cons_zero, List.setIfInBounds_toArray, List.set_cons_zero, List.set_cons_succ]
  refine wpAnyH_take (i := 16) (v := ?v16) rfl (by kernel_rfl) (by kernel_rfl) (by kernel_rfl) (fun _ _ _ h => h) (Or.inl ⟨by (first | kernel_rfl | rfl), ?hy16⟩) (by assumption) ?rest16
  case hy16 => (intro w hSw; (try dsimp only at hSw); go_simp; try with_reducible rfl)
  try simp only [Act.put, List.getElem_toArray, List.getElem_cons_succ, List.getElem_cons_zero, List.setIfInBounds_toArray, List.set_cons_zero, List.set_cons_succ]
  refine wpAnyH_take (i := 17) rfl (by kernel_rfl) (by kernel_rfl) (by kernel_rfl) (fun _ _ _ h => h) (Or.inr ⟨by (first | kernel_rfl | rfl), rfl⟩) (by assumption) ?_
  try simp only [Act.put, List.getElem_toArray, List.getElem_cons_succ, List.getElem_cons_zero, List.setIfInBounds_toArray, List.set_cons_zero, List.set_cons_succ]
  refine wpAnyH_take (i := 18) rfl (by kernel_rfl) (by kernel_rfl) (by kernel_rfl) (fun _ _ _ h => h) (Or.inr ⟨by (first | kernel_rfl | rfl), rfl⟩) (by assumption) ?_
  try simp only [Act.put, List.getElem_toArray, List.getElem_cons_succ, List.getElem_cons_zero, List.setIfInBounds_toArray, List.set_cons_zero, List.set_cons_succ]
  refine wpAnyH_take (i := 19) rfl (by kernel_rfl) (by kernel_rfl) (by kernel_rfl) (fun _ _ _ h => h) (Or.inr ⟨by (first | kernel_rfl | rfl), rfl⟩) (by assumption) ?_
  try simp only [Act.put, List.getElem_toArray, List.getElem_cons_succ, List.getElem_cons_zero, List.setIfInBounds_toArray, List.set_cons_zero, List.set_cons_succ]
  refine wpAnyH_take (i := 20) (v := .bool false) rfl (by kernel_rfl) (by kernel_rfl) (by kernel_rfl) (fun _ _ _ h => h) (Or.inl ⟨by (first | kernel_rfl | rfl), ?hy20⟩) (by assumption) ?rest20
  case hy20 => (intro w hSw; (try dsimp only at hSw); go_simp; try with_reducible rfl)
  try simp only [Act.put, List.getElem_toArray, List.getElem_cons_succ, List.getElem_cons_zero, List.setIfInBounds_toArray, List.set_cons_zero, List.set_cons_succ]
  refine wpAnyH_take (i := 21) (v := ?v21) rfl (by kernel_rfl) (by kernel_rfl) (by kernel_rfl) (fun _ _ _ h => h) (Or.inl ⟨by (first | kernel_rfl | rfl), ?hy21⟩) (by assumption) ?rest21
  case hy21 => (intro w hSw; (try dsimp only at hSw); go_simp; try with_reducible rfl)
  try simp only [Act.put, List.getElem_toArray, List.getElem_cons_succ, List.getElem_cons_zero, List.setIfInBounds_toArray, List.set_cons_zero, List.set_cons_succ]
  refine wpAnyH_take (i := 22) (v := ?v22) rfl (by kernel_rfl) (by kernel_rfl) (by kernel_rfl) (fun _ _ _ h => h) (Or.inl ⟨by (first | kernel_rfl | rfl), ?hy22⟩) (by assumption) ?rest22
  case hy22 => (intro w hSw; (try dsimp only at hSw); go_simp; try with_reducible rfl)
  try simp only [Act.put, List.getElem_toArray, List.getElem_cons_succ, List.getElem_cons_zero, List.setIfInBounds_toArray, List.set_cons_zero, List.set_cons_succ]
  refine wpAnyH_done (by kernel_rfl) ?_ _
  refine NoPanic.normal ?_
  obtain ⟨q, c, hv, hc, hr⟩ := RowArg.of_own HO2.out
  cases hv
  go_wp2
  go_ret2
  exact ⟨_, _, rfl, hc, hr, HU2.out⟩
set_option maxRecDepth 100000 in
set_option maxHeartbeats 4000000 in
theorem rb_3b (n m : Int) (s : ByteArray) (h1 : 0 ≤ n) (h2 : (n ≤ 3) = False) : Calls Tryz.prog 44 #[ndV ⟨3, n, m, s⟩] w0 (BOut w0 [0, 1] false) := by
  obtain ⟨i0, hi, hz0, hz1, hz2⟩ := info_parts Tryz.infoInt
  unfold ndV at *
  simp only
  have HE := Lib.hid (row_emptyZ (w0.alloc (.cells #[.int .i64 3, .int .i64 n, .int .i64 m, .string s] 38)) (w0.heap.size + 1) 3 1 (by simp))
  rw [show (w0.alloc (.cells #[.int .i64 3, .int .i64 n, .int .i64 m, .string s] 38)).heap.size = w0.heap.size + 1 by simp] at HE
  go_enter Tryz.func44, Tryz.ntmps44
  go_wp2_with fail
  obtain ⟨W1, hW1⟩ : ∃ W, W = (w0.alloc (.cells #[.int .i64 3, .int .i64 n, .int .i64 m, .string s] 38)).alloc (.cells #[] 3) := ⟨_, rfl⟩
  have c0 : W1.cell? ⟨w0.heap.size, 0, none⟩ = some (.int .i64 3) := by rw [hW1]; exact ((box_new w0 _ _).alloc _).cell 0
  have c1 : W1.cell? ⟨w0.heap.size, 1, none⟩ = some (.int .i64 n) := by rw [hW1]; exact ((box_new w0 _ _).alloc _).cell 1
  have c2 : W1.cell? ⟨w0.heap.size, 2, none⟩ = some (.int .i64 m) := by rw [hW1]; exact ((box_new w0 _ _).alloc _).cell 2
  have c3 : W1.cell? ⟨w0.heap.size, 3, none⟩ = some (.string s) := by rw [hW1]; exact ((box_new w0 _ _).alloc _).cell 3
  have hsz : w0.heap.size < W1.heap.size := by rw [hW1]; simp; omega
  have HR : RowKit.Hid (W1.ownsRow (w0.heap.size + 1) 3 1 (.slice (some ⟨w0.heap.size + 1, 0, none⟩) 0 0) 0 []) := Lib.hid (by rw [hW1]; exact HE.out)
  rw [← hW1]
  have HBx : RowKit.Hid (BoxAt W1 w0.heap.size 38 #[.int .i64 3, .int .i64 n, .int .i64 m, .string s]) := Lib.hid (by rw [hW1]; exact (box_new w0 _ _).alloc _)
  have HU := Lib.hid (show Under w0 W1 by rw [hW1]; exact under_alloc (under_alloc (Under.refl _) _) _)
  clear hW1 HE
  refine wp_region_noPanic ?_
  refine wp_region_held_drew (S := fun w' => w'.cell? ⟨w0.heap.size, 0, none⟩ = some (.int .i64 3) ∧ w'.cell? ⟨w0.heap.size, 1, none⟩ = some (.int .i64 n) ∧ w'.cell? ⟨w0.heap.size, 2, none⟩ = some (.int .i64 m) ∧ w'.cell? ⟨w0.heap.size, 3, none⟩ = some (.string s)
     ∧ w0.heap.size < w'.heap.size) (by kernel_rfl) ⟨c0, c1, c2, c3, hsz⟩ (fun hHeld => ?_)
  refine wpAnyH_take (i := 0) (v := ?v0) rfl (by kernel_rfl) (by kernel_rfl) (by kernel_rfl) (fun _ _ _ h => h) (Or.inl ⟨by (first | kernel_rfl | rfl), ?hy0⟩) (by assumption) ?rest0
  case hy0 => (intro w hSw; (try dsimp only at hSw); go_simp; try with_reducible rfl)
  try simp only [Act.put, List.getElem_toArray, List.getElem_cons_succ, List.getElem_cons_zero, List.setIfInBounds_toArray, List.set_cons_zero, List.set_cons_succ]
  refine wpAnyH_take (i := 3) (v := ?v3) rfl (by kernel_rfl) (by kernel_rfl) (by kernel_rfl) (fun _ _ _ h => h) (Or.inl ⟨by (first | kernel_rfl | rfl), ?hy3⟩) (by assumption) ?rest3
  case hy3 => (intro w hSw; (try dsimp only at hSw); go_simp; try with_reducible rfl)
  try simp only [Act.put, List.getElem_toArray, List.getElem_cons_succ, List.getElem_cons_zero, List.setIfInBounds_toArray, List.set_cons_zero, List.set_cons_succ]
  refine wpAnyH_take (i := 4) (v := ?v4) rfl (by kernel_rfl) (by kernel_rfl) (by kernel_rfl) (fun _ _ _ h => h) (Or.inl ⟨by (first | kernel_rfl | rfl), ?hy4⟩) (by assumption) ?rest4
  case hy4 => (intro w hSw; (try dsimp only at hSw); go_simp; try with_reducible rfl)
  try simp only [Act.put, List.getElem_toArray, List.getElem_cons_succ, List.getElem_cons_zero, List.setIfInBounds_toArray, List.set_cons_zero, List.set_cons_succ]
  refine wpAnyH_take (i := 5) (v := .bool true) rfl (by kernel_rfl) (by kernel_rfl) (by kernel_rfl) (fun _ _ _ h => h) (Or.inl ⟨by (first | kernel_rfl | rfl), ?hy5⟩) (by assumption) ?rest5
  case hy5 => (intro w hSw; (try dsimp only at hSw); go_simp; try with_reducible rfl)
  try simp only [Act.put, List.getElem_toArray, List.getElem_cons_succ, List.getElem_cons_zero, List.setIfInBounds_toArray, List.set_cons_zero, List.set_cons_succ]
  refine wpAnyH_ready (rs := [1]) (by kernel_rfl) (by simp) ?_
  refine AllReadyH.cons rfl (fun K hK => ?_) AllReadyH.nil
  go_simp
  refine hK.out _ _ ?_ (fun hHeld' => ?_)
  · obtain ⟨d0, d1, d2, d3, d4⟩ := hHeld
    have hU := under_alloc (Under.refl W1.drew) (.cells #[.int .i64 0, .int .i64 1] 3)
    exact ⟨(under_cell hU d4 _).trans d0, (under_cell hU d4 _).trans d1, (under_cell hU d4 _).trans d2, (under_cell hU d4 _).trans d3, Nat.lt_of_lt_of_le d4 hU.size⟩
  clear hK K hHeld
  have hHeld := hHeld'
  clear hHeld'
  try simp only [Act.put, List.setIfInBounds_toArray, List.set_cons_zero, List.set_cons_succ]
  refine wpAnyH_ready (rs := [2]) (by kernel_rfl) (by simp) ?_
  refine AllReadyH.cons rfl (fun K hK => ?_) AllReadyH.nil
  refine step_append_lies _ (by rfl) _ _ _ (by rfl) (w0.heap.size + 1) 3 i0 _ 1 8 Tryz.underlying63 hi hz0 hz1 hz2 rfl (by omega) (.slice (some ⟨w0.heap.size + 1, 0, none⟩) 0 0) 0 [] (by rfl) (HR.out.drew.alloc _)
        ⟨W1.heap.size, 0, none⟩ 2 2 [.int .i64 0, .int .i64 1] (by rfl) (by rfl) (World.news_of_block (cs := #[.int .i64 0, .int .i64 1]) (t := 3) (fr := (0, 0)) (heap_alloc_new _ _)) (by simp [Value.oneCell'])
        (by omega) (by simp [maxLen]) (by simp) (by simp; omega) (W1.heap.size + 1) (by simp) ?_
  intro gg cc w2 hown2 hgrow hat hlt
  have HB2 := Lib.hid (BoxAt.grown ((HBx.out.alloc (.cells #[.int .i64 0, .int .i64 1] 3)).drew) hgrow (fun e => by simp [Value.ownBlock] at e))
  have HU2 := Lib.hid (under_grown (under_drew (under_alloc HU.out (.cells #[.int .i64 0, .int .i64 1] 3))) hgrow (fun g e => by simp [Value.ownBlock] at e; omega))
  have HO2 := Lib.hid hown2
  refine hK.out _ _ ?_ (fun hHeld' => ?_)
  · exact ⟨HB2.out.cell 0, HB2.out.cell 1, HB2.out.cell 2, HB2.out.cell 3, HB2.out.lt⟩
  clear hK K hHeld hown2 hgrow hat hlt
  have hHeld := hHeld'
  clear hHeld'
  try simp only [Act.put, List.getElem_toArray, List.getElem_cons_succ, List.getElem_cons_zero, List.setIfInBounds_toArray, List.set_cons_zero, List.set_cons_succ]
  refine wpAnyH_take (i := 6) (v := ?v6) rfl (by kernel_rfl) (by kernel_rfl) (by kernel_rfl) (fun _ _ _ h => h) (Or.inl ⟨by (first | kernel_rfl | rfl), ?hy6⟩) (by assumption) ?rest6
  case hy6 => (intro w hSw; (try dsimp only at hSw); go_simp; try with_reducible rfl)
  try simp only [Act.put, List.getElem_toArray, List.getElem_cons_succ, List.getElem_cons_zero, List.setIfInBounds_toArray, List.set_cons_zero, List.set_cons_succ]
  refine wpAnyH_take (i := 7) (v := ?v7) rfl (by kernel_rfl) (by kernel_rfl) (by kernel_rfl) (fun _ _ _ h => h) (Or.inl ⟨by (first | kernel_rfl | rfl), ?hy7⟩) (by assumption) ?rest7
  case hy7 => (intro w hSw; (try dsimp only at hSw); go_simp; try with_reducible rfl)
  try simp only [Act.put, List.getElem_toArray, List.getElem_cons_succ, List.getElem_cons_zero, List.setIfInBounds_toArray, List.set_cons_zero, List.set_cons_succ]
  refine wpAnyH_take (i := 8) (v := ?v8) rfl (by kernel_rfl) (by kernel_rfl) (by kernel_rfl) (fun _ _ _ h => h) (Or.inl ⟨by (first | kernel_rfl | rfl), ?hy8⟩) (by assumption) ?rest8
  case hy8 => (intro w hSw; (try dsimp only at hSw); go_simp; try with_reducible rfl)
  try simp only [Act.put, List.getElem_toArray, List.getElem_cons_succ, List.getElem_cons_zero, List.setIfInBounds_toArray, List.set_cons_zero, List.set_cons_succ]
  refine wpAnyH_take (i := 9) (v := .bool false) rfl (by kernel_rfl) (by kernel_rfl) (by kernel_rfl) (fun _ _ _ h => h) (Or.inl ⟨by (first | kernel_rfl | rfl), ?hy9⟩) (by assumption) ?rest9
  case hy9 => (intro w hSw; (try dsimp only at hSw); go_simp; try with_reducible rfl)
  try simp only [Act.put, List.getElem_toArray, List.getElem_cons_succ, List.getElem_cons_zero, List.setIfInBounds_toArray, List.set_cons_zero, List.set_cons_succ]
  refine wpAnyH_take (i := 10) (v := .bool false) rfl (by kernel_rfl) (by kernel_rfl) (by kernel_rfl) (fun _ _ _ h => h) (Or.inl ⟨by (first | kernel_rfl | rfl), ?hy10⟩) (by assumption) ?rest10
  case hy10 => (intro w hSw; (try dsimp only at hSw); go_simp; try with_reducible rfl)
  try simp only [Act.put, List.getElem_toArray, List.getElem_cons_succ, List.getElem_cons_zero, List.setIfInBounds_toArray, List.set_cons_zero, List.set_cons_succ]
  refine wpAnyH_take (i := 11) (v := ?v11) rfl (by kernel_rfl) (by kernel_rfl) (by kernel_rfl) (fun _ _ _ h => h) (Or.inl ⟨by (first | kernel_rfl | rfl), ?hy11⟩) (by assumption) ?rest11
  case hy11 => (intro w hSw; (try dsimp only at hSw); go_simp; try with_reducible rfl)
  try simp only [Act.put, List.getElem_toArray, List.getElem_cons_succ, List.getElem_cons_zero, List.setIfInBounds_toArray, List.set_cons_zero, List.set_cons_succ]
  refine wpAnyH_take (i := 12) rfl (by kernel_rfl) (by kernel_rfl) (by kernel_rfl) (fun _ _ _ h => h) (Or.inr ⟨by (first | kernel_rfl | rfl), rfl⟩) (by assumption) ?_
  try simp only [Act.put, List.getElem_toArray, List.getElem_cons_succ, List.getElem_cons_zero, List.setIfInBounds_toArray, List.set_cons_zero, List.set_cons_succ]
  refine wpAnyH_take (i := 13) rfl (by kernel_rfl) (by kernel_rfl) (by kernel_rfl) (fun _ _ _ h => h) (Or.inr ⟨by (first | kernel_rfl | rfl), rfl⟩) (by assumption) ?_
  try simp only [Act.put, List.getElem_toArray, List.getElem_cons_succ, List.getElem_cons_zero, List.setIfInBounds_toArray, List.set_cons_zero, List.set_cons_succ]
  refine wpAnyH_take (i := 14) rfl (by kernel_rfl) (by kernel_rfl) (by kernel_rfl) (fun _ _ _ h => h) (Or.inr ⟨by (first | kernel_rfl | rfl), rfl⟩) (by assumption) ?_
  try simp only [Act.put, List.getElem_toArray, List.getElem_cons_succ, List.getElem_cons_zero, List.setIfInBounds_toArray, List.set_cons_zero, List.set_cons_succ]
  refine wpAnyH_take (i := 15) (v := .bool false) rfl (by kernel_rfl) (by kernel_rfl) (by kernel_rfl) (fun _ _ _ h => h) (Or.inl ⟨by (first | kernel_rfl | rfl), ?hy15⟩) (by assumption) ?rest15
  case hy15 => (intro w hSw; (try dsimp only at hSw); go_simp; try with_reducible rfl)
  try simp only [Act.put, List.getElem_toArray, List.getElem_cons_succ, List.getElem_cons_zero, List.setIfInBounds_toArray, List.set_cons_zero, List.set_cons_succ]
  refine wpAnyH_take (i := 16) (v := ?v16) rfl (by kernel_rfl) (by kernel_rfl) (by kernel_rfl) (fun _ _ _ h => h) (Or.inl ⟨by (first | kernel_rfl | rfl), ?hy16⟩) (by assumption) ?rest16
  case hy16 => (intro w hSw; (try dsimp only at hSw); go_simp; try with_reducible rfl)
  try simp only [Act.put, List.getElem_toArray, List.getElem_cons_succ, List.getElem_cons_zero, List.setIfInBounds_toArray, List.set_cons_zero, List.set_cons_succ]
  refine wpAnyH_take (i := 17) rfl (by kernel_rfl) (by kernel_rfl) (by kernel_rfl) (fun _ _ _ h => h) (Or.inr ⟨by (first | kernel_rfl | rfl), rfl⟩) (by assumption) ?_
  try simp only [Act.put, List.getElem_toArray, List.getElem_cons_succ, List.getElem_cons_zero, List.setIfInBounds_toArray, List.set_cons_zero, List.set_cons_succ]
  refine wpAnyH_take (i := 18) rfl (by kernel_rfl) (by kernel_rfl) (by kernel_rfl) (fun _ _ _ h => h) (Or.inr ⟨by (first | kernel_rfl | rfl), rfl⟩) (by assumption) ?_
  try simp only [Act.put, List.getElem_toArray, List.getElem_cons_succ, List.getElem_cons_zero, List.setIfInBounds_toArray, List.set_cons_zero, List.set_cons_succ]
  refine wpAnyH_take (i := 19) rfl (by kernel_rfl) (by kernel_rfl) (by kernel_rfl) (fun _ _ _ h => h) (Or.inr ⟨by (first | kernel_rfl | rfl), rfl⟩) (by assumption) ?_
  try simp only [Act.put, List.getElem_toArray, List.getElem_cons_succ, List.getElem_cons_zero, List.setIfInBounds_toArray, List.set_cons_zero, List.set_cons_succ]
  refine wpAnyH_take (i := 20) (v := .bool false) rfl (by kernel_rfl) (by kernel_rfl) (by kernel_rfl) (fun _ _ _ h => h) (Or.inl ⟨by (first | kernel_rfl | rfl), ?hy20⟩) (by assumption) ?rest20
  case hy20 => (intro w hSw; (try dsimp only at hSw); go_simp; try with_reducible rfl)
  try simp only [Act.put, List.getElem_toArray, List.getElem_cons_succ, List.getElem_cons_zero, List.setIfInBounds_toArray, List.set_cons_zero, List.set_cons_succ]
  refine wpAnyH_take (i := 21) (v := ?v21) rfl (by kernel_rfl) (by kernel_rfl) (by kernel_rfl) (fun _ _ _ h => h) (Or.inl ⟨by (first | kernel_rfl | rfl), ?hy21⟩) (by assumption) ?rest21
  case hy21 => (intro w hSw; (try dsimp only at hSw); go_simp; try with_reducible rfl)
  try simp only [Act.put, List.getElem_toArray, List.getElem_cons_succ, List.getElem_cons_zero, List.setIfInBounds_toArray, List.set_cons_zero, List.set_cons_succ]
  refine wpAnyH_take (i := 22) (v := ?v22) rfl (by kernel_rfl) (by kernel_rfl) (by kernel_rfl) (fun _ _ _ h => h) (Or.inl ⟨by (first | kernel_rfl | rfl), ?hy22⟩) (by assumption) ?rest22
  case hy22 => (intro w hSw; (try dsimp only at hSw); go_simp; try with_reducible rfl)
  try simp only [Act.put, List.getElem_toArray, List.getElem_cons_succ, List.getElem_cons_zero, List.setIfInBounds_toArray, List.set_cons_zero, List.set_cons_succ]
  refine wpAnyH_done (by kernel_rfl) ?_ _
  refine NoPanic.normal ?_
  obtain ⟨q, c, hv, hc, hr⟩ := RowArg.of_own HO2.out
  cases hv
  go_wp2
  go_ret2
  exact ⟨_, _, rfl, hc, hr, HU2.out⟩
set_option maxRecDepth 100000 in
set_option maxHeartbeats 4000000 in
theorem rb_3c (n m : Int) (s : ByteArray) (h1 : 0 ≤ n) (h2 : n ≤ 3) (h3 : (m == 0) = false) : Calls Tryz.prog 44 #[ndV ⟨3, n, m, s⟩] w0 (BOut w0 [0, 1] false) := by
  obtain ⟨i0, hi, hz0, hz1, hz2⟩ := info_parts Tryz.infoInt
  unfold ndV at *
  simp only
  have HE := Lib.hid (row_emptyZ (w0.alloc (.cells #[.int .i64 3, .int .i64 n, .int .i64 m, .string s] 38)) (w0.heap.size + 1) 3 1 (by simp))
  rw [show (w0.alloc (.cells #[.int .i64 3, .int .i64 n, .int .i64 m, .string s] 38)).heap.size = w0.heap.size + 1 by simp] at HE
  go_enter Tryz.func44, Tryz.ntmps44
  go_wp2_with fail
  obtain ⟨W1, hW1⟩ : ∃ W, W = (w0.alloc (.cells #[.int .i64 3, .int .i64 n, .int .i64 m, .string s] 38)).alloc (.cells #[] 3) := ⟨_, rfl⟩
  have c0 : W1.cell? ⟨w0.heap.size, 0, none⟩ = some (.int .i64 3) := by rw [hW1]; exact ((box_new w0 _ _).alloc _).cell 0
  have c1 : W1.cell? ⟨w0.heap.size, 1, none⟩ = some (.int .i64 n) := by rw [hW1]; exact ((box_new w0 _ _).alloc _).cell 1
  have c2 : W1.cell? ⟨w0.heap.size, 2, none⟩ = some (.int .i64 m) := by rw [hW1]; exact ((box_new w0 _ _).alloc _).cell 2
  have c3 : W1.cell? ⟨w0.heap.size, 3, none⟩ = some (.string s) := by rw [hW1]; exact ((box_new w0 _ _).alloc _).cell 3
  have hsz : w0.heap.size < W1.heap.size := by rw [hW1]; simp; omega
  have HR : RowKit.Hid (W1.ownsRow (w0.heap.size + 1) 3 1 (.slice (some ⟨w0.heap.size + 1, 0, none⟩) 0 0) 0 []) := Lib.hid (by rw [hW1]; exact HE.out)
  rw [← hW1]
  have HBx : RowKit.Hid (BoxAt W1 w0.heap.size 38 #[.int .i64 3, .int .i64 n, .int .i64 m, .string s]) := Lib.hid (by rw [hW1]; exact (box_new w0 _ _).alloc _)
  have HU := Lib.hid (show Under w0 W1 by rw [hW1]; exact under_alloc (under_alloc (Under.refl _) _) _)
  clear hW1 HE
  refine wp_region_noPanic ?_
  refine wp_region_held_drew (S := fun w' => w'.cell? ⟨w0.heap.size, 0, none⟩ = some (.int .i64 3) ∧ w'.cell? ⟨w0.heap.size, 1, none⟩ = some (.int .i64 n) ∧ w'.cell? ⟨w0.heap.size, 2, none⟩ = some (.int .i64 m) ∧ w'.cell? ⟨w0.heap.size, 3, none⟩ = some (.string s)
     ∧ w0.heap.size < w'.heap.size) (by kernel_rfl) ⟨c0, c1, c2, c3, hsz⟩ (fun hHeld => ?_)
  refine wpAnyH_take (i := 0) (v := ?v0) rfl (by kernel_rfl) (by kernel_rfl) (by kernel_rfl) (fun _ _ _ h => h) (Or.inl ⟨by (first | kernel_rfl | rfl), ?hy0⟩) (by assumption) ?rest0
  case hy0 => (intro w hSw; (try dsimp only at hSw); go_simp; try with_reducible rfl)
  try simp only [Act.put, List.getElem_toArray, List.getElem_cons_succ, List.getElem_cons_zero, List.setIfInBounds_toArray, List.set_cons_zero, List.set_cons_succ]
  refine wpAnyH_take (i := 3) (v := ?v3) rfl (by kernel_rfl) (by kernel_rfl) (by kernel_rfl) (fun _ _ _ h => h) (Or.inl ⟨by (first | kernel_rfl | rfl), ?hy3⟩) (by assumption) ?rest3
  case hy3 => (intro w hSw; (try dsimp only at hSw); go_simp; try with_reducible rfl)
  try simp only [Act.put, List.getElem_toArray, List.getElem_cons_succ, List.getElem_cons_zero, List.setIfInBounds_toArray, List.set_cons_zero, List.set_cons_succ]
  refine wpAnyH_take (i := 4) (v := ?v4) rfl (by kernel_rfl) (by kernel_rfl) (by kernel_rfl) (fun _ _ _ h => h) (Or.inl ⟨by (first | kernel_rfl | rfl), ?hy4⟩) (by assumption) ?rest4
  case hy4 => (intro w hSw; (try dsimp only at hSw); go_simp; try with_reducible rfl)
  try simp only [Act.put, List.getElem_toArray, List.getElem_cons_succ, List.getElem_cons_zero, List.setIfInBounds_toArray, List.set_cons_zero, List.set_cons_succ]
  refine wpAnyH_take (i := 5) (v := .bool true) rfl (by kernel_rfl) (by kernel_rfl) (by kernel_rfl) (fun _ _ _ h => h) (Or.inl ⟨by (first | kernel_rfl | rfl), ?hy5⟩) (by assumption) ?rest5
  case hy5 => (intro w hSw; (try dsimp only at hSw); go_simp; try with_reducible rfl)
  try simp only [Act.put, List.getElem_toArray, List.getElem_cons_succ, List.getElem_cons_zero, List.setIfInBounds_toArray, List.set_cons_zero, List.set_cons_succ]
  refine wpAnyH_ready (rs := [1]) (by kernel_rfl) (by simp) ?_
  refine AllReadyH.cons rfl (fun K hK => ?_) AllReadyH.nil
  go_simp
  refine hK.out _ _ ?_ (fun hHeld' => ?_)
  · obtain ⟨d0, d1, d2, d3, d4⟩ := hHeld
    have hU := under_alloc (Under.refl W1.drew) (.cells #[.int .i64 0, .int .i64 1] 3)
    exact ⟨(under_cell hU d4 _).trans d0, (under_cell hU d4 _).trans d1, (under_cell hU d4 _).trans d2, (under_cell hU d4 _).trans d3, Nat.lt_of_lt_of_le d4 hU.size⟩
  clear hK K hHeld
  have hHeld := hHeld'
  clear hHeld'
  try simp only [Act.put, List.setIfInBounds_toArray, List.set_cons_zero, List.set_cons_succ]
  refine wpAnyH_ready (rs := [2]) (by kernel_rfl) (by simp) ?_
  refine AllReadyH.cons rfl (fun K hK => ?_) AllReadyH.nil
  refine step_append_lies _ (by rfl) _ _ _ (by rfl) (w0.heap.size + 1) 3 i0 _ 1 8 Tryz.underlying63 hi hz0 hz1 hz2 rfl (by omega) (.slice (some ⟨w0.heap.size + 1, 0, none⟩) 0 0) 0 [] (by rfl) (HR.out.drew.alloc _)
        ⟨W1.heap.size, 0, none⟩ 2 2 [.int .i64 0, .int .i64 1] (by rfl) (by rfl) (World.news_of_block (cs := #[.int .i64 0, .int .i64 1]) (t := 3) (fr := (0, 0)) (heap_alloc_new _ _)) (by simp [Value.oneCell'])
        (by omega) (by simp [maxLen]) (by simp) (by simp; omega) (W1.heap.size + 1) (by simp) ?_
  intro gg cc w2 hown2 hgrow hat hlt
  have HB2 := Lib.hid (BoxAt.grown ((HBx.out.alloc (.cells #[.int .i64 0, .int .i64 1] 3)).drew) hgrow (fun e => by simp [Value.ownBlock] at e))
  have HU2 := Lib.hid (under_grown (under_drew (under_alloc HU.out (.cells #[.int .i64 0, .int .i64 1] 3))) hgrow (fun g e => by simp [Value.ownBlock] at e; omega))
  have HO2 := Lib.hid hown2
  refine hK.out _ _ ?_ (fun hHeld' => ?_)
  · exact ⟨HB2.out.cell 0, HB2.out.cell 1, HB2.out.cell 2, HB2.out.cell 3, HB2.out.lt⟩
  clear hK K hHeld hown2 hgrow hat hlt
  have hHeld := hHeld'
  clear hHeld'
  try simp only [Act.put, List.getElem_toArray, List.getElem_cons_succ, List.getElem_cons_zero, List.setIfInBounds_toArray, List.set_cons_zero, List.set_cons_succ]
  refine wpAnyH_take (i := 6) (v := ?v6) rfl (by kernel_rfl) (by kernel_rfl) (by kernel_rfl) (fun _ _ _ h => h) (Or.inl ⟨by (first | kernel_rfl | rfl), ?hy6⟩) (by assumption) ?rest6
  case hy6 => (intro w hSw; (try dsimp only at hSw); go_simp; try with_reducible rfl)
  try simp only [Act.put, List.getElem_toArray, List.getElem_cons_succ, List.getElem_cons_zero, List.setIfInBounds_toArray, List.set_cons_zero, List.set_cons_succ]
  refine wpAnyH_take (i := 7) (v := ?v7) rfl (by kernel_rfl) (by kernel_rfl) (by kernel_rfl) (fun _ _ _ h => h) (Or.inl ⟨by (first | kernel_rfl | rfl), ?hy7⟩) (by assumption) ?rest7
  case hy7 => (intro w hSw; (try dsimp only at hSw); go_simp; try with_reducible rfl)
  try simp only [Act.put, List.getElem_toArray, List.getElem_cons_succ, List.getElem_cons_zero, List.setIfInBounds_toArray, List.set_cons_zero, List.set_cons_succ]
  refine wpAnyH_take (i := 8) (v := ?v8) rfl (by kernel_rfl) (by kernel_rfl) (by kernel_rfl) (fun _ _ _ h => h) (Or.inl ⟨by (first | kernel_rfl | rfl), ?hy8⟩) (by assumption) ?rest8
  case hy8 => (intro w hSw; (try dsimp only at hSw); go_simp; try with_reducible rfl)
  try simp only [Act.put, List.getElem_toArray, List.getElem_cons_succ, List.getElem_cons_zero, List.setIfInBounds_toArray, List.set_cons_zero, List.set_cons_succ]
  refine wpAnyH_take (i := 9) (v := .bool true) rfl (by kernel_rfl) (by kernel_rfl) (by kernel_rfl) (fun _ _ _ h => h) (Or.inl ⟨by (first | kernel_rfl | rfl), ?hy9⟩) (by assumption) ?rest9
  case hy9 => (intro w hSw; (try dsimp only at hSw); go_simp; try with_reducible rfl)
  try simp only [Act.put, List.getElem_toArray, List.getElem_cons_succ, List.getElem_cons_zero, List.setIfInBounds_toArray, List.set_cons_zero, List.set_cons_succ]
  refine wpAnyH_take (i := 10) (v := .bool true) rfl (by kernel_rfl) (by kernel_rfl) (by kernel_rfl) (fun _ _ _ h => h) (Or.inl ⟨by (first | kernel_rfl | rfl), ?hy10⟩) (by assumption) ?rest10
  case hy10 => (intro w hSw; (try dsimp only at hSw); go_simp; try with_reducible rfl)
  try simp only [Act.put, List.getElem_toArray, List.getElem_cons_succ, List.getElem_cons_zero, List.setIfInBounds_toArray, List.set_cons_zero, List.set_cons_succ]
  refine wpAnyH_take (i := 11) (v := ?v11) rfl (by kernel_rfl) (by kernel_rfl) (by kernel_rfl) (fun _ _ _ h => h) (Or.inl ⟨by (first | kernel_rfl | rfl), ?hy11⟩) (by assumption) ?rest11
  case hy11 => (intro w hSw; (try dsimp only at hSw); go_simp; try with_reducible rfl)
  try simp only [Act.put, List.getElem_toArray, List.getElem_cons_succ, List.getElem_cons_zero, List.setIfInBounds_toArray, List.set_cons_zero, List.set_cons_succ]
  refine wpAnyH_take (i := 12) (v := ?v12) rfl (by kernel_rfl) (by kernel_rfl) (by kernel_rfl) (fun _ _ _ h => h) (Or.inl ⟨by (first | kernel_rfl | rfl), ?hy12⟩) (by assumption) ?rest12
  case hy12 => (intro w hSw; (try dsimp only at hSw); go_simp; try with_reducible rfl)
  try simp only [Act.put, List.getElem_toArray, List.getElem_cons_succ, List.getElem_cons_zero, List.setIfInBounds_toArray, List.set_cons_zero, List.set_cons_succ]
  refine wpAnyH_take (i := 13) (v := ?v13) rfl (by kernel_rfl) (by kernel_rfl) (by kernel_rfl) (fun _ _ _ h => h) (Or.inl ⟨by (first | kernel_rfl | rfl), ?hy13⟩) (by assumption) ?rest13
  case hy13 => (intro w hSw; (try dsimp only at hSw); go_simp; try with_reducible rfl)
  try simp only [Act.put, List.getElem_toArray, List.getElem_cons_succ, List.getElem_cons_zero, List.setIfInBounds_toArray, List.set_cons_zero, List.set_cons_succ]
  refine wpAnyH_take (i := 14) (v := .bool false) rfl (by kernel_rfl) (by kernel_rfl) (by kernel_rfl) (fun _ _ _ h => h) (Or.inl ⟨by (first | kernel_rfl | rfl), ?hy14⟩) (by assumption) ?rest14
  case hy14 => (intro w hSw; (try dsimp only at hSw); go_simp; try with_reducible rfl)
  try simp only [Act.put, List.getElem_toArray, List.getElem_cons_succ, List.getElem_cons_zero, List.setIfInBounds_toArray, List.set_cons_zero, List.set_cons_succ]
  refine wpAnyH_take (i := 15) (v := .bool false) rfl (by kernel_rfl) (by kernel_rfl) (by kernel_rfl) (fun _ _ _ h => h) (Or.inl ⟨by (first | kernel_rfl | rfl), ?hy15⟩) (by assumption) ?rest15
  case hy15 => (intro w hSw; (try dsimp only at hSw); go_simp; try with_reducible rfl)
  try simp only [Act.put, List.getElem_toArray, List.getElem_cons_succ, List.getElem_cons_zero, List.setIfInBounds_toArray, List.set_cons_zero, List.set_cons_succ]
  refine wpAnyH_take (i := 16) (v := ?v16) rfl (by kernel_rfl) (by kernel_rfl) (by kernel_rfl) (fun _ _ _ h => h) (Or.inl ⟨by (first | kernel_rfl | rfl), ?hy16⟩) (by assumption) ?rest16
  case hy16 => (intro w hSw; (try dsimp only at hSw); go_simp; try with_reducible rfl)
  try simp only [Act.put, List.getElem_toArray, List.getElem_cons_succ, List.getElem_cons_zero, List.setIfInBounds_toArray, List.set_cons_zero, List.set_cons_succ]
  refine wpAnyH_take (i := 17) rfl (by kernel_rfl) (by kernel_rfl) (by kernel_rfl) (fun _ _ _ h => h) (Or.inr ⟨by (first | kernel_rfl | rfl), rfl⟩) (by assumption) ?_
  try simp only [Act.put, List.getElem_toArray, List.getElem_cons_succ, List.getElem_cons_zero, List.setIfInBounds_toArray, List.set_cons_zero, List.set_cons_succ]
  refine wpAnyH_take (i := 18) rfl (by kernel_rfl) (by kernel_rfl) (by kernel_rfl) (fun _ _ _ h => h) (Or.inr ⟨by (first | kernel_rfl | rfl), rfl⟩) (by assumption) ?_
  try simp only [Act.put, List.getElem_toArray, List.getElem_cons_succ, List.getElem_cons_zero, List.setIfInBounds_toArray, List.set_cons_zero, List.set_cons_succ]
  refine wpAnyH_take (i := 19) rfl (by kernel_rfl) (by kernel_rfl) (by kernel_rfl) (fun _ _ _ h => h) (Or.inr ⟨by (first | kernel_rfl | rfl), rfl⟩) (by assumption) ?_
  try simp only [Act.put, List.getElem_toArray, List.getElem_cons_succ, List.getElem_cons_zero, List.setIfInBounds_toArray, List.set_cons_zero, List.set_cons_succ]
  refine wpAnyH_take (i := 20) (v := .bool false) rfl (by kernel_rfl) (by kernel_rfl) (by kernel_rfl) (fun _ _ _ h => h) (Or.inl ⟨by (first | kernel_rfl | rfl), ?hy20⟩) (by assumption) ?rest20
  case hy20 => (intro w hSw; (try dsimp only at hSw); go_simp; try with_reducible rfl)
  try simp only [Act.put, List.getElem_toArray, List.getElem_cons_succ, List.getElem_cons_zero, List.setIfInBounds_toArray, List.set_cons_zero, List.set_cons_succ]
  refine wpAnyH_take (i := 21) (v := ?v21) rfl (by kernel_rfl) (by kernel_rfl) (by kernel_rfl) (fun _ _ _ h => h) (Or.inl ⟨by (first | kernel_rfl | rfl), ?hy21⟩) (by assumption) ?rest21
  case hy21 => (intro w hSw; (try dsimp only at hSw); go_simp; try with_reducible rfl)
  try simp only [Act.put, List.getElem_toArray, List.getElem_cons_succ, List.getElem_cons_zero, List.setIfInBounds_toArray, List.set_cons_zero, List.set_cons_succ]
  refine wpAnyH_take (i := 22) (v := ?v22) rfl (by kernel_rfl) (by kernel_rfl) (by kernel_rfl) (fun _ _ _ h => h) (Or.inl ⟨by (first | kernel_rfl | rfl), ?hy22⟩) (by assumption) ?rest22
  case hy22 => (intro w hSw; (try dsimp only at hSw); go_simp; try with_reducible rfl)
  try simp only [Act.put, List.getElem_toArray, List.getElem_cons_succ, List.getElem_cons_zero, List.setIfInBounds_toArray, List.set_cons_zero, List.set_cons_succ]
  refine wpAnyH_done (by kernel_rfl) ?_ _
  refine NoPanic.normal ?_
  obtain ⟨q, c, hv, hc, hr⟩ := RowArg.of_own HO2.out
  cases hv
  go_wp2
  go_ret2
  exact ⟨_, _, rfl, hc, hr, HU2.out⟩
set_option maxRecDepth 100000 in
set_option maxHeartbeats 4000000 in
theorem rb_3d (n m : Int) (s : ByteArray) (h1 : 0 ≤ n) (h2 : n ≤ 3) (h3 : (m == 0) = true) (h4 : s.toList.isEmpty = false) : Calls Tryz.prog 44 #[ndV ⟨3, n, m, s⟩] w0 (BOut w0 [0, 1] false) := by
  obtain ⟨i0, hi, hz0, hz1, hz2⟩ := info_parts Tryz.infoInt
  unfold ndV at *
  simp only
  have HE := Lib.hid (row_emptyZ (w0.alloc (.cells #[.int .i64 3, .int .i64 n, .int .i64 m, .string s] 38)) (w0.heap.size + 1) 3 1 (by simp))
  rw [show (w0.alloc (.cells #[.int .i64 3, .int .i64 n, .int .i64 m, .string s] 38)).heap.size = w0.heap.size + 1 by simp] at HE
  go_enter Tryz.func44, Tryz.ntmps44
  go_wp2_with fail
  obtain ⟨W1, hW1⟩ : ∃ W, W = (w0.alloc (.cells #[.int .i64 3, .int .i64 n, .int .i64 m, .string s] 38)).alloc (.cells #[] 3) := ⟨_, rfl⟩
  have c0 : W1.cell? ⟨w0.heap.size, 0, none⟩ = some (.int .i64 3) := by rw [hW1]; exact ((box_new w0 _ _).alloc _).cell 0
  have c1 : W1.cell? ⟨w0.heap.size, 1, none⟩ = some (.int .i64 n) := by rw [hW1]; exact ((box_new w0 _ _).alloc _).cell 1
  have c2 : W1.cell? ⟨w0.heap.size, 2, none⟩ = some (.int .i64 m) := by rw [hW1]; exact ((box_new w0 _ _).alloc _).cell 2
  have c3 : W1.cell? ⟨w0.heap.size, 3, none⟩ = some (.string s) := by rw [hW1]; exact ((box_new w0 _ _).alloc _).cell 3
  have hsz : w0.heap.size < W1.heap.size := by rw [hW1]; simp; omega
  have HR : RowKit.Hid (W1.ownsRow (w0.heap.size + 1) 3 1 (.slice (some ⟨w0.heap.size + 1, 0, none⟩) 0 0) 0 []) := Lib.hid (by rw [hW1]; exact HE.out)
  rw [← hW1]
  have HBx : RowKit.Hid (BoxAt W1 w0.heap.size 38 #[.int .i64 3, .int .i64 n, .int .i64 m, .string s]) := Lib.hid (by rw [hW1]; exact (box_new w0 _ _).alloc _)
  have HU := Lib.hid (show Under w0 W1 by rw [hW1]; exact under_alloc (under_alloc (Under.refl _) _) _)
  clear hW1 HE
  refine wp_region_noPanic ?_
  refine wp_region_held_drew (S := fun w' => w'.cell? ⟨w0.heap.size, 0, none⟩ = some (.int .i64 3) ∧ w'.cell? ⟨w0.heap.size, 1, none⟩ = some (.int .i64 n) ∧ w'.cell? ⟨w0.heap.size, 2, none⟩ = some (.int .i64 m) ∧ w'.cell? ⟨w0.heap.size, 3, none⟩ = some (.string s)
     ∧ w0.heap.size < w'.heap.size) (by kernel_rfl) ⟨c0, c1, c2, c3, hsz⟩ (fun hHeld => ?_)
  refine wpAnyH_take (i := 0) (v := ?v0) rfl (by kernel_rfl) (by kernel_rfl) (by kernel_rfl) (fun _ _ _ h => h) (Or.inl ⟨by (first | kernel_rfl | rfl), ?hy0⟩) (by assumption) ?rest0
  case hy0 => (intro w hSw; (try dsimp only at hSw); go_simp; try with_reducible rfl)
  try simp only [Act.put, List.getElem_toArray, List.getElem_cons_succ, List.getElem_cons_zero, List.setIfInBounds_toArray, List.set_cons_zero, List.set_cons_succ]
  refine wpAnyH_take (i := 3) (v := ?v3) rfl (by kernel_rfl) (by kernel_rfl) (by kernel_rfl) (fun _ _ _ h => h) (Or.inl ⟨by (first | kernel_rfl | rfl), ?hy3⟩) (by assumption) ?rest3
  case hy3 => (intro w hSw; (try dsimp only at hSw); go_simp; try with_reducible rfl)
  try simp only [Act.put, List.getElem_toArray, List.getElem_cons_succ, List.getElem_cons_zero, List.setIfInBounds_toArray, List.set_cons_zero, List.set_cons_succ]
  refine wpAnyH_take (i := 4) (v := ?v4) rfl (by kernel_rfl) (by kernel_rfl) (by kernel_rfl) (fun _ _ _ h => h) (Or.inl ⟨by (first | kernel_rfl | rfl), ?hy4⟩) (by assumption) ?rest4
  case hy4 => (intro w hSw; (try dsimp only at hSw); go_simp; try with_reducible rfl)
  try simp only [Act.put, List.getElem_toArray, List.getElem_cons_succ, List.getElem_cons_zero, List.setIfInBounds_toArray, List.set_cons_zero, List.set_cons_succ]
  refine wpAnyH_take (i := 5) (v := .bool true) rfl (by kernel_rfl) (by kernel_rfl) (by kernel_rfl) (fun _ _ _ h => h) (Or.inl ⟨by (first | kernel_rfl | rfl), ?hy5⟩) (by assumption) ?rest5
  case hy5 => (intro w hSw; (try dsimp only at hSw); go_simp; try with_reducible rfl)
  try simp only [Act.put, List.getElem_toArray, List.getElem_cons_succ, List.getElem_cons_zero, List.setIfInBounds_toArray, List.set_cons_zero, List.set_cons_succ]
  refine wpAnyH_ready (rs := [1]) (by kernel_rfl) (by simp) ?_
  refine AllReadyH.cons rfl (fun K hK => ?_) AllReadyH.nil
  go_simp
  refine hK.out _ _ ?_ (fun hHeld' => ?_)
  · obtain ⟨d0, d1, d2, d3, d4⟩ := hHeld
    have hU := under_alloc (Under.refl W1.drew) (.cells #[.int .i64 0, .int .i64 1] 3)
    exact ⟨(under_cell hU d4 _).trans d0, (under_cell hU d4 _).trans d1, (under_cell hU d4 _).trans d2, (under_cell hU d4 _).trans d3, Nat.lt_of_lt_of_le d4 hU.size⟩
  clear hK K hHeld
  have hHeld := hHeld'
  clear hHeld'
  try simp only [Act.put, List.setIfInBounds_toArray, List.set_cons_zero, List.set_cons_succ]
  refine wpAnyH_ready (rs := [2]) (by kernel_rfl) (by simp) ?_
  refine AllReadyH.cons rfl (fun K hK => ?_) AllReadyH.nil
  refine step_append_lies _ (by rfl) _ _ _ (by rfl) (w0.heap.size + 1) 3 i0 _ 1 8 Tryz.underlying63 hi hz0 hz1 hz2 rfl (by omega) (.slice (some ⟨w0.heap.size + 1, 0, none⟩) 0 0) 0 [] (by rfl) (HR.out.drew.alloc _)
        ⟨W1.heap.size, 0, none⟩ 2 2 [.int .i64 0, .int .i64 1] (by rfl) (by rfl) (World.news_of_block (cs := #[.int .i64 0, .int .i64 1]) (t := 3) (fr := (0, 0)) (heap_alloc_new _ _)) (by simp [Value.oneCell'])
        (by omega) (by simp [maxLen]) (by simp) (by simp; omega) (W1.heap.size + 1) (by simp) ?_
  intro gg cc w2 hown2 hgrow hat hlt
  have HB2 := Lib.hid (BoxAt.grown ((HBx.out.alloc (.cells #[.int .i64 0, .int .i64 1] 3)).drew) hgrow (fun e => by simp [Value.ownBlock] at e))
  have HU2 := Lib.hid (under_grown (under_drew (under_alloc HU.out (.cells #[.int .i64 0, .int .i64 1] 3))) hgrow (fun g e => by simp [Value.ownBlock] at e; omega))
  have HO2 := Lib.hid hown2
  refine hK.out _ _ ?_ (fun hHeld' => ?_)
  · exact ⟨HB2.out.cell 0, HB2.out.cell 1, HB2.out.cell 2, HB2.out.cell 3, HB2.out.lt⟩
  clear hK K hHeld hown2 hgrow hat hlt
  have hHeld := hHeld'
  clear hHeld'
  try simp only [Act.put, List.getElem_toArray, List.getElem_cons_succ, List.getElem_cons_zero, List.setIfInBounds_toArray, List.set_cons_zero, List.set_cons_succ]
  refine wpAnyH_take (i := 6) (v := ?v6) rfl (by kernel_rfl) (by kernel_rfl) (by kernel_rfl) (fun _ _ _ h => h) (Or.inl ⟨by (first | kernel_rfl | rfl), ?hy6⟩) (by assumption) ?rest6
  case hy6 => (intro w hSw; (try dsimp only at hSw); go_simp; try with_reducible rfl)
  try simp only [Act.put, List.getElem_toArray, List.getElem_cons_succ, List.getElem_cons_zero, List.setIfInBounds_toArray, List.set_cons_zero, List.set_cons_succ]
  refine wpAnyH_take (i := 7) (v := ?v7) rfl (by kernel_rfl) (by kernel_rfl) (by kernel_rfl) (fun _ _ _ h => h) (Or.inl ⟨by (first | kernel_rfl | rfl), ?hy7⟩) (by assumption) ?rest7
  case hy7 => (intro w hSw; (try dsimp only at hSw); go_simp; try with_reducible rfl)
  try simp only [Act.put, List.getElem_toArray, List.getElem_cons_succ, List.getElem_cons_zero, List.setIfInBounds_toArray, List.set_cons_zero, List.set_cons_succ]
  refine wpAnyH_take (i := 8) (v := ?v8) rfl (by kernel_rfl) (by kernel_rfl) (by kernel_rfl) (fun _ _ _ h => h) (Or.inl ⟨by (first | kernel_rfl | rfl), ?hy8⟩) (by assumption) ?rest8
  case hy8 => (intro w hSw; (try dsimp only at hSw); go_simp; try with_reducible rfl)
  try simp only [Act.put, List.getElem_toArray, List.getElem_cons_succ, List.getElem_cons_zero, List.setIfInBounds_toArray, List.set_cons_zero, List.set_cons_succ]
  refine wpAnyH_take (i := 9) (v := .bool true) rfl (by kernel_rfl) (by kernel_rfl) (by kernel_rfl) (fun _ _ _ h => h) (Or.inl ⟨by (first | kernel_rfl | rfl), ?hy9⟩) (by assumption) ?rest9
  case hy9 => (intro w hSw; (try dsimp only at hSw); go_simp; try with_reducible rfl)
  try simp only [Act.put, List.getElem_toArray, List.getElem_cons_succ, List.getElem_cons_zero, List.setIfInBounds_toArray, List.set_cons_zero, List.set_cons_succ]
  refine wpAnyH_take (i := 10) (v := .bool true) rfl (by kernel_rfl) (by kernel_rfl) (by kernel_rfl) (fun _ _ _ h => h) (Or.inl ⟨by (first | kernel_rfl | rfl), ?hy10⟩) (by assumption) ?rest10
  case hy10 => (intro w hSw; (try dsimp only at hSw); go_simp; try with_reducible rfl)
  try simp only [Act.put, List.getElem_toArray, List.getElem_cons_succ, List.getElem_cons_zero, List.setIfInBounds_toArray, List.set_cons_zero, List.set_cons_succ]
  refine wpAnyH_take (i := 11) (v := ?v11) rfl (by kernel_rfl) (by kernel_rfl) (by kernel_rfl) (fun _ _ _ h => h) (Or.inl ⟨by (first | kernel_rfl | rfl), ?hy11⟩) (by assumption) ?rest11
  case hy11 => (intro w hSw; (try dsimp only at hSw); go_simp; try with_reducible rfl)
  try simp only [Act.put, List.getElem_toArray, List.getElem_cons_succ, List.getElem_cons_zero, List.setIfInBounds_toArray, List.set_cons_zero, List.set_cons_succ]
  refine wpAnyH_take (i := 12) (v := ?v12) rfl (by kernel_rfl) (by kernel_rfl) (by kernel_rfl) (fun _ _ _ h => h) (Or.inl ⟨by (first | kernel_rfl | rfl), ?hy12⟩) (by assumption) ?rest12
  case hy12 => (intro w hSw; (try dsimp only at hSw); go_simp; try with_reducible rfl)
  try simp only [Act.put, List.getElem_toArray, List.getElem_cons_succ, List.getElem_cons_zero, List.setIfInBounds_toArray, List.set_cons_zero, List.set_cons_succ]
  refine wpAnyH_take (i := 13) (v := ?v13) rfl (by kernel_rfl) (by kernel_rfl) (by kernel_rfl) (fun _ _ _ h => h) (Or.inl ⟨by (first | kernel_rfl | rfl), ?hy13⟩) (by assumption) ?rest13
  case hy13 => (intro w hSw; (try dsimp only at hSw); go_simp; try with_reducible rfl)
  try simp only [Act.put, List.getElem_toArray, List.getElem_cons_succ, List.getElem_cons_zero, List.setIfInBounds_toArray, List.set_cons_zero, List.set_cons_succ]
  refine wpAnyH_take (i := 14) (v := .bool true) rfl (by kernel_rfl) (by kernel_rfl) (by kernel_rfl) (fun _ _ _ h => h) (Or.inl ⟨by (first | kernel_rfl | rfl), ?hy14⟩) (by assumption) ?rest14
  case hy14 => (intro w hSw; (try dsimp only at hSw); go_simp; try with_reducible rfl)
  try simp only [Act.put, List.getElem_toArray, List.getElem_cons_succ, List.getElem_cons_zero, List.setIfInBounds_toArray, List.set_cons_zero, List.set_cons_succ]
  refine wpAnyH_take (i := 15) (v := .bool true) rfl (by kernel_rfl) (by kernel_rfl) (by kernel_rfl) (fun _ _ _ h => h) (Or.inl ⟨by (first | kernel_rfl | rfl), ?hy15⟩) (by assumption) ?rest15
  case hy15 => (intro w hSw; (try dsimp only at hSw); go_simp; try with_reducible rfl)
  try simp only [Act.put, List.getElem_toArray, List.getElem_cons_succ, List.getElem_cons_zero, List.setIfInBounds_toArray, List.set_cons_zero, List.set_cons_succ]
  refine wpAnyH_take (i := 16) (v := ?v16) rfl (by kernel_rfl) (by kernel_rfl) (by kernel_rfl) (fun _ _ _ h => h) (Or.inl ⟨by (first | kernel_rfl | rfl), ?hy16⟩) (by assumption) ?rest16
  case hy16 => (intro w hSw; (try dsimp only at hSw); go_simp; try with_reducible rfl)
  try simp only [Act.put, List.getElem_toArray, List.getElem_cons_succ, List.getElem_cons_zero, List.setIfInBounds_toArray, List.set_cons_zero, List.set_cons_succ]
  refine wpAnyH_take (i := 17) (v := ?v17) rfl (by kernel_rfl) (by kernel_rfl) (by kernel_rfl) (fun _ _ _ h => h) (Or.inl ⟨by (first | kernel_rfl | rfl), ?hy17⟩) (by assumption) ?rest17
  case hy17 => (intro w hSw; (try dsimp only at hSw); go_simp; try with_reducible rfl)
  try simp only [Act.put, List.getElem_toArray, List.getElem_cons_succ, List.getElem_cons_zero, List.setIfInBounds_toArray, List.set_cons_zero, List.set_cons_succ]
  refine wpAnyH_take (i := 18) (v := ?v18) rfl (by kernel_rfl) (by kernel_rfl) (by kernel_rfl) (fun _ _ _ h => h) (Or.inl ⟨by (first | kernel_rfl | rfl), ?hy18⟩) (by assumption) ?rest18
  case hy18 => (intro w hSw; (try dsimp only at hSw); go_simp; try with_reducible rfl)
  try simp only [Act.put, List.getElem_toArray, List.getElem_cons_succ, List.getElem_cons_zero, List.setIfInBounds_toArray, List.set_cons_zero, List.set_cons_succ]
  refine wpAnyH_take (i := 19) (v := .bool false) rfl (by kernel_rfl) (by kernel_rfl) (by kernel_rfl) (fun _ _ _ h => h) (Or.inl ⟨by (first | kernel_rfl | rfl), ?hy19⟩) (by assumption) ?rest19
  case hy19 => (intro w hSw; (try dsimp only at hSw); go_simp; try with_reducible rfl)
  try simp only [Act.put, List.getElem_toArray, List.getElem_cons_succ, List.getElem_cons_zero, List.setIfInBounds_toArray, List.set_cons_zero, List.set_cons_succ]
  refine wpAnyH_take (i := 20) (v := .bool false) rfl (by kernel_rfl) (by kernel_rfl) (by kernel_rfl) (fun _ _ _ h => h) (Or.inl ⟨by (first | kernel_rfl | rfl), ?hy20⟩) (by assumption) ?rest20
  case hy20 => (intro w hSw; (try dsimp only at hSw); go_simp; try with_reducible rfl)
  try simp only [Act.put, List.getElem_toArray, List.getElem_cons_succ, List.getElem_cons_zero, List.setIfInBounds_toArray, List.set_cons_zero, List.set_cons_succ]
  refine wpAnyH_take (i := 21) (v := ?v21) rfl (by kernel_rfl) (by kernel_rfl) (by kernel_rfl) (fun _ _ _ h => h) (Or.inl ⟨by (first | kernel_rfl | rfl), ?hy21⟩) (by assumption) ?rest21
  case hy21 => (intro w hSw; (try dsimp only at hSw); go_simp; try with_reducible rfl)
  try simp only [Act.put, List.getElem_toArray, List.getElem_cons_succ, List.getElem_cons_zero, List.setIfInBounds_toArray, List.set_cons_zero, List.set_cons_succ]
  refine wpAnyH_take (i := 22) (v := ?v22) rfl (by kernel_rfl) (by kernel_rfl) (by kernel_rfl) (fun _ _ _ h => h) (Or.inl ⟨by (first | kernel_rfl | rfl), ?hy22⟩) (by assumption) ?rest22
  case hy22 => (intro w hSw; (try dsimp only at hSw); go_simp; try with_reducible rfl)
  try simp only [Act.put, List.getElem_toArray, List.getElem_cons_succ, List.getElem_cons_zero, List.setIfInBounds_toArray, List.set_cons_zero, List.set_cons_succ]
  refine wpAnyH_done (by kernel_rfl) ?_ _
  refine NoPanic.normal ?_
  obtain ⟨q, c, hv, hc, hr⟩ := RowArg.of_own HO2.out
  cases hv
  go_wp2
  go_ret2
  exact ⟨_, _, rfl, hc, hr, HU2.out⟩
set_option maxRecDepth 100000 in
set_option maxHeartbeats 4000000 in
theorem rb_3e (n m : Int) (s : ByteArray) (h1 : 0 ≤ n) (h2 : n ≤ 3) (h3 : (m == 0) = true) (h4 : s.toList.isEmpty = true) : Calls Tryz.prog 44 #[ndV ⟨3, n, m, s⟩] w0 (BOut w0 [0, 1] true) := by
  obtain ⟨i0, hi, hz0, hz1, hz2⟩ := info_parts Tryz.infoInt
  unfold ndV at *
  simp only
  have HE := Lib.hid (row_emptyZ (w0.alloc (.cells #[.int .i64 3, .int .i64 n, .int .i64 m, .string s] 38)) (w0.heap.size + 1) 3 1 (by simp))
  rw [show (w0.alloc (.cells #[.int .i64 3, .int .i64 n, .int .i64 m, .string s] 38)).heap.size = w0.heap.size + 1 by simp] at HE
  go_enter Tryz.func44, Tryz.ntmps44
  go_wp2_with fail
  obtain ⟨W1, hW1⟩ : ∃ W, W = (w0.alloc (.cells #[.int .i64 3, .int .i64 n, .int .i64 m, .string s] 38)).alloc (.cells #[] 3) := ⟨_, rfl⟩
  have c0 : W1.cell? ⟨w0.heap.size, 0, none⟩ = some (.int .i64 3) := by rw [hW1]; exact ((box_new w0 _ _).alloc _).cell 0
  have c1 : W1.cell? ⟨w0.heap.size, 1, none⟩ = some (.int .i64 n) := by rw [hW1]; exact ((box_new w0 _ _).alloc _).cell 1
  have c2 : W1.cell? ⟨w0.heap.size, 2, none⟩ = some (.int .i64 m) := by rw [hW1]; exact ((box_new w0 _ _).alloc _).cell 2
  have c3 : W1.cell? ⟨w0.heap.size, 3, none⟩ = some (.string s) := by rw [hW1]; exact ((box_new w0 _ _).alloc _).cell 3
  have hsz : w0.heap.size < W1.heap.size := by rw [hW1]; simp; omega
  have HR : RowKit.Hid (W1.ownsRow (w0.heap.size + 1) 3 1 (.slice (some ⟨w0.heap.size + 1, 0, none⟩) 0 0) 0 []) := Lib.hid (by rw [hW1]; exact HE.out)
  rw [← hW1]
  have HBx : RowKit.Hid (BoxAt W1 w0.heap.size 38 #[.int .i64 3, .int .i64 n, .int .i64 m, .string s]) := Lib.hid (by rw [hW1]; exact (box_new w0 _ _).alloc _)
  have HU := Lib.hid (show Under w0 W1 by rw [hW1]; exact under_alloc (under_alloc (Under.refl _) _) _)
  clear hW1 HE
  refine wp_region_noPanic ?_
  refine wp_region_held_drew (S := fun w' => w'.cell? ⟨w0.heap.size, 0, none⟩ = some (.int .i64 3) ∧ w'.cell? ⟨w0.heap.size, 1, none⟩ = some (.int .i64 n) ∧ w'.cell? ⟨w0.heap.size, 2, none⟩ = some (.int .i64 m) ∧ w'.cell? ⟨w0.heap.size, 3, none⟩ = some (.string s)
     ∧ w0.heap.size < w'.heap.size) (by kernel_rfl) ⟨c0, c1, c2, c3, hsz⟩ (fun hHeld => ?_)
  refine wpAnyH_take (i := 0) (v := ?v0) rfl (by kernel_rfl) (by kernel_rfl) (by kernel_rfl) (fun _ _ _ h => h) (Or.inl ⟨by (first | kernel_rfl | rfl), ?hy0⟩) (by assumption) ?rest0
  case hy0 => (intro w hSw; (try dsimp only at hSw); go_simp; try with_reducible rfl)
  try simp only [Act.put, List.getElem_toArray, List.getElem_cons_succ, List.getElem_cons_zero, List.setIfInBounds_toArray, List.set_cons_zero, List.set_cons_succ]
  refine wpAnyH_take (i := 3) (v := ?v3) rfl (by kernel_rfl) (by kernel_rfl) (by kernel_rfl) (fun _ _ _ h => h) (Or.inl ⟨by (first | kernel_rfl | rfl), ?hy3⟩) (by assumption) ?rest3
  case hy3 => (intro w hSw; (try dsimp only at hSw); go_simp; try with_reducible rfl)
  try simp only [Act.put, List.getElem_toArray, List.getElem_cons_succ, List.getElem_cons_zero, List.setIfInBounds_toArray, List.set_cons_zero, List.set_cons_succ]
  refine wpAnyH_take (i := 4) (v := ?v4) rfl (by kernel_rfl) (by kernel_rfl) (by kernel_rfl) (fun _ _ _ h => h) (Or.inl ⟨by (first | kernel_rfl | rfl), ?hy4⟩) (by assumption) ?rest4
  case hy4 => (intro w hSw; (try dsimp only at hSw); go_simp; try with_reducible rfl)
  try simp only [Act.put, List.getElem_toArray, List.getElem_cons_succ, List.getElem_cons_zero, List.setIfInBounds_toArray, List.set_cons_zero, List.set_cons_succ]
  refine wpAnyH_take (i := 5) (v := .bool true) rfl (by kernel_rfl) (by kernel_rfl) (by kernel_rfl) (fun _ _ _ h => h) (Or.inl ⟨by (first | kernel_rfl | rfl), ?hy5⟩) (by assumption) ?rest5
  case hy5 => (intro w hSw; (try dsimp only at hSw); go_simp; try with_reducible rfl)
  try simp only [Act.put, List.getElem_toArray, List.getElem_cons_succ, List.getElem_cons_zero, List.setIfInBounds_toArray, List.set_cons_zero, List.set_cons_succ]
  refine wpAnyH_ready (rs := [1]) (by kernel_rfl) (by simp) ?_
  refine AllReadyH.cons rfl (fun K hK => ?_) AllReadyH.nil
  go_simp
  refine hK.out _ _ ?_ (fun hHeld' => ?_)
  · obtain ⟨d0, d1, d2, d3, d4⟩ := hHeld
    have hU := under_alloc (Under.refl W1.drew) (.cells #[.int .i64 0, .int .i64 1] 3)
    exact ⟨(under_cell hU d4 _).trans d0, (under_cell hU d4 _).trans d1, (under_cell hU d4 _).trans d2, (under_cell hU d4 _).trans d3, Nat.lt_of_lt_of_le d4 hU.size⟩
  clear hK K hHeld
  have hHeld := hHeld'
  clear hHeld'
  try simp only [Act.put, List.setIfInBounds_toArray, List.set_cons_zero, List.set_cons_succ]
  refine wpAnyH_ready (rs := [2]) (by kernel_rfl) (by simp) ?_
  refine AllReadyH.cons rfl (fun K hK => ?_) AllReadyH.nil
  refine step_append_lies _ (by rfl) _ _ _ (by rfl) (w0.heap.size + 1) 3 i0 _ 1 8 Tryz.underlying63 hi hz0 hz1 hz2 rfl (by omega) (.slice (some ⟨w0.heap.size + 1, 0, none⟩) 0 0) 0 [] (by rfl) (HR.out.drew.alloc _)
        ⟨W1.heap.size, 0, none⟩ 2 2 [.int .i64 0, .int .i64 1] (by rfl) (by rfl) (World.news_of_block (cs := #[.int .i64 0, .int .i64 1]) (t := 3) (fr := (0, 0)) (heap_alloc_new _ _)) (by simp [Value.oneCell'])
        (by omega) (by simp [maxLen]) (by simp) (by simp; omega) (W1.heap.size + 1) (by simp) ?_
  intro gg cc w2 hown2 hgrow hat hlt
  have HB2 := Lib.hid (BoxAt.grown ((HBx.out.alloc (.cells #[.int .i64 0, .int .i64 1] 3)).drew) hgrow (fun e => by simp [Value.ownBlock] at e))
  have HU2 := Lib.hid (under_grown (under_drew (under_alloc HU.out (.cells #[.int .i64 0, .int .i64 1] 3))) hgrow (fun g e => by simp [Value.ownBlock] at e; omega))
  have HO2 := Lib.hid hown2
  refine hK.out _ _ ?_ (fun hHeld' => ?_)
  · exact ⟨HB2.out.cell 0, HB2.out.cell 1, HB2.out.cell 2, HB2.out.cell 3, HB2.out.lt⟩
  clear hK K hHeld hown2 hgrow hat hlt
  have hHeld := hHeld'
  clear hHeld'
  try simp only [Act.put, List.getElem_toArray, List.getElem_cons_succ, List.getElem_cons_zero, List.setIfInBounds_toArray, List.set_cons_zero, List.set_cons_succ]
  refine wpAnyH_take (i := 6) (v := ?v6) rfl (by kernel_rfl) (by kernel_rfl) (by kernel_rfl) (fun _ _ _ h => h) (Or.inl ⟨by (first | kernel_rfl | rfl), ?hy6⟩) (by assumption) ?rest6
  case hy6 => (intro w hSw; (try dsimp only at hSw); go_simp; try with_reducible rfl)
  try simp only [Act.put, List.getElem_toArray, List.getElem_cons_succ, List.getElem_cons_zero, List.setIfInBounds_toArray, List.set_cons_zero, List.set_cons_succ]
  refine wpAnyH_take (i := 7) (v := ?v7) rfl (by kernel_rfl) (by kernel_rfl) (by kernel_rfl) (fun _ _ _ h => h) (Or.inl ⟨by (first | kernel_rfl | rfl), ?hy7⟩) (by assumption) ?rest7
  case hy7 => (intro w hSw; (try dsimp only at hSw); go_simp; try with_reducible rfl)
  try simp only [Act.put, List.getElem_toArray, List.getElem_cons_succ, List.getElem_cons_zero, List.setIfInBounds_toArray, List.set_cons_zero, List.set_cons_succ]
  refine wpAnyH_take (i := 8) (v := ?v8) rfl (by kernel_rfl) (by kernel_rfl) (by kernel_rfl) (fun _ _ _ h => h) (Or.inl ⟨by (first | kernel_rfl | rfl), ?hy8⟩) (by assumption) ?rest8
  case hy8 => (intro w hSw; (try dsimp only at hSw); go_simp; try with_reducible rfl)
  try simp only [Act.put, List.getElem_toArray, List.getElem_cons_succ, List.getElem_cons_zero, List.setIfInBounds_toArray, List.set_cons_zero, List.set_cons_succ]
  refine wpAnyH_take (i := 9) (v := .bool true) rfl (by kernel_rfl) (by kernel_rfl) (by kernel_rfl) (fun _ _ _ h => h) (Or.inl ⟨by (first | kernel_rfl | rfl), ?hy9⟩) (by assumption) ?rest9
  case hy9 => (intro w hSw; (try dsimp only at hSw); go_simp; try with_reducible rfl)
  try simp only [Act.put, List.getElem_toArray, List.getElem_cons_succ, List.getElem_cons_zero, List.setIfInBounds_toArray, List.set_cons_zero, List.set_cons_succ]
  refine wpAnyH_take (i := 10) (v := .bool true) rfl (by kernel_rfl) (by kernel_rfl) (by kernel_rfl) (fun _ _ _ h => h) (Or.inl ⟨by (first | kernel_rfl | rfl), ?hy10⟩) (by assumption) ?rest10
  case hy10 => (intro w hSw; (try dsimp only at hSw); go_simp; try with_reducible rfl)
  try simp only [Act.put, List.getElem_toArray, List.getElem_cons_succ, List.getElem_cons_zero, List.setIfInBounds_toArray, List.set_cons_zero, List.set_cons_succ]
  refine wpAnyH_take (i := 11) (v := ?v11) rfl (by kernel_rfl) (by kernel_rfl) (by kernel_rfl) (fun _ _ _ h => h) (Or.inl ⟨by (first | kernel_rfl | rfl), ?hy11⟩) (by assumption) ?rest11
  case hy11 => (intro w hSw; (try dsimp only at hSw); go_simp; try with_reducible rfl)
  try simp only [Act.put, List.getElem_toArray, List.getElem_cons_succ, List.getElem_cons_zero, List.setIfInBounds_toArray, List.set_cons_zero, List.set_cons_succ]
  refine wpAnyH_take (i := 12) (v := ?v12) rfl (by kernel_rfl) (by kernel_rfl) (by kernel_rfl) (fun _ _ _ h => h) (Or.inl ⟨by (first | kernel_rfl | rfl), ?hy12⟩) (by assumption) ?rest12
  case hy12 => (intro w hSw; (try dsimp only at hSw); go_simp; try with_reducible rfl)
  try simp only [Act.put, List.getElem_toArray, List.getElem_cons_succ, List.getElem_cons_zero, List.setIfInBounds_toArray, List.set_cons_zero, List.set_cons_succ]
  refine wpAnyH_take (i := 13) (v := ?v13) rfl (by kernel_rfl) (by kernel_rfl) (by kernel_rfl) (fun _ _ _ h => h) (Or.inl ⟨by (first | kernel_rfl | rfl), ?hy13⟩) (by assumption) ?rest13
  case hy13 => (intro w hSw; (try dsimp only at hSw); go_simp; try with_reducible rfl)
  try simp only [Act.put, List.getElem_toArray, List.getElem_cons_succ, List.getElem_cons_zero, List.setIfInBounds_toArray, List.set_cons_zero, List.set_cons_succ]
  refine wpAnyH_take (i := 14) (v := .bool true) rfl (by kernel_rfl) (by kernel_rfl) (by kernel_rfl) (fun _ _ _ h => h) (Or.inl ⟨by (first | kernel_rfl | rfl), ?hy14⟩) (by assumption) ?rest14
  case hy14 => (intro w hSw; (try dsimp only at hSw); go_simp; try with_reducible rfl)
  try simp only [Act.put, List.getElem_toArray, List.getElem_cons_succ, List.getElem_cons_zero, List.setIfInBounds_toArray, List.set_cons_zero, List.set_cons_succ]
  refine wpAnyH_take (i := 15) (v := .bool true) rfl (by kernel_rfl) (by kernel_rfl) (by kernel_rfl) (fun _ _ _ h => h) (Or.inl ⟨by (first | kernel_rfl | rfl), ?hy15⟩) (by assumption) ?rest15
  case hy15 => (intro w hSw; (try dsimp only at hSw); go_simp; try with_reducible rfl)
  try simp only [Act.put, List.getElem_toArray, List.getElem_cons_succ, List.getElem_cons_zero, List.setIfInBounds_toArray, List.set_cons_zero, List.set_cons_succ]
  refine wpAnyH_take (i := 16) (v := ?v16) rfl (by kernel_rfl) (by kernel_rfl) (by kernel_rfl) (fun _ _ _ h => h) (Or.inl ⟨by (first | kernel_rfl | rfl), ?hy16⟩) (by assumption) ?rest16
  case hy16 => (intro w hSw; (try dsimp only at hSw); go_simp; try with_reducible rfl)
  try simp only [Act.put, List.getElem_toArray, List.getElem_cons_succ, List.getElem_cons_zero, List.setIfInBounds_toArray, List.set_cons_zero, List.set_cons_succ]
  refine wpAnyH_take (i := 17) (v := ?v17) rfl (by kernel_rfl) (by kernel_rfl) (by kernel_rfl) (fun _ _ _ h => h) (Or.inl ⟨by (first | kernel_rfl | rfl), ?hy17⟩) (by assumption) ?rest17
  case hy17 => (intro w hSw; (try dsimp only at hSw); go_simp; try with_reducible rfl)
  try simp only [Act.put, List.getElem_toArray, List.getElem_cons_succ, List.getElem_cons_zero, List.setIfInBounds_toArray, List.set_cons_zero, List.set_cons_succ]
  refine wpAnyH_take (i := 18) (v := ?v18) rfl (by kernel_rfl) (by kernel_rfl) (by kernel_rfl) (fun _ _ _ h => h) (Or.inl ⟨by (first | kernel_rfl | rfl), ?hy18⟩) (by assumption) ?rest18
  case hy18 => (intro w hSw; (try dsimp only at hSw); go_simp; try with_reducible rfl)
  try simp only [Act.put, List.getElem_toArray, List.getElem_cons_succ, List.getElem_cons_zero, List.setIfInBounds_toArray, List.set_cons_zero, List.set_cons_succ]
  refine wpAnyH_take (i := 19) (v := .bool true) rfl (by kernel_rfl) (by kernel_rfl) (by kernel_rfl) (fun _ _ _ h => h) (Or.inl ⟨by (first | kernel_rfl | rfl), ?hy19⟩) (by assumption) ?rest19
  case hy19 => (intro w hSw; (try dsimp only at hSw); go_simp; try with_reducible rfl)
  try simp only [Act.put, List.getElem_toArray, List.getElem_cons_succ, List.getElem_cons_zero, List.setIfInBounds_toArray, List.set_cons_zero, List.set_cons_succ]
  refine wpAnyH_take (i := 20) (v := .bool true) rfl (by kernel_rfl) (by kernel_rfl) (by kernel_rfl) (fun _ _ _ h => h) (Or.inl ⟨by (first | kernel_rfl | rfl), ?hy20⟩) (by assumption) ?rest20
  case hy20 => (intro w hSw; (try dsimp only at hSw); go_simp; try with_reducible rfl)
  try simp only [Act.put, List.getElem_toArray, List.getElem_cons_succ, List.getElem_cons_zero, List.setIfInBounds_toArray, List.set_cons_zero, List.set_cons_succ]
  refine wpAnyH_take (i := 21) (v := ?v21) rfl (by kernel_rfl) (by kernel_rfl) (by kernel_rfl) (fun _ _ _ h => h) (Or.inl ⟨by (first | kernel_rfl | rfl), ?hy21⟩) (by assumption) ?rest21
  case hy21 => (intro w hSw; (try dsimp only at hSw); go_simp; try with_reducible rfl)
  try simp only [Act.put, List.getElem_toArray, List.getElem_cons_succ, List.getElem_cons_zero, List.setIfInBounds_toArray, List.set_cons_zero, List.set_cons_succ]
  refine wpAnyH_take (i := 22) (v := ?v22) rfl (by kernel_rfl) (by kernel_rfl) (by kernel_rfl) (fun _ _ _ h => h) (Or.inl ⟨by (first | kernel_rfl | rfl), ?hy22⟩) (by assumption) ?rest22
  case hy22 => (intro w hSw; (try dsimp only at hSw); go_simp; try with_reducible rfl)
  try simp only [Act.put, List.getElem_toArray, List.getElem_cons_succ, List.getElem_cons_zero, List.setIfInBounds_toArray, List.set_cons_zero, List.set_cons_succ]
  refine wpAnyH_done (by kernel_rfl) ?_ _
  refine NoPanic.normal ?_
  obtain ⟨q, c, hv, hc, hr⟩ := RowArg.of_own HO2.out
  cases hv
  go_wp2
  go_ret2
  exact ⟨_, _, rfl, hc, hr, HU2.out⟩
set_option maxRecDepth 100000 in
set_option maxHeartbeats 4000000 in
theorem rb_6a (n m : Int) (s : ByteArray) (h1 : (0 ≤ n) = False) : Calls Tryz.prog 44 #[ndV ⟨6, n, m, s⟩] w0 (BOut w0 [0, 1] false) := by
  obtain ⟨i0, hi, hz0, hz1, hz2⟩ := info_parts Tryz.infoInt
  unfold ndV at *
  simp only
  have HE := Lib.hid (row_emptyZ (w0.alloc (.cells #[.int .i64 6, .int .i64 n, .int .i64 m, .string s] 38)) (w0.heap.size + 1) 3 1 (by simp))
  rw [show (w0.alloc (.cells #[.int .i64 6, .int .i64 n, .int .i64 m, .string s] 38)).heap.size = w0.heap.size + 1 by simp] at HE
  go_enter Tryz.func44, Tryz.ntmps44
  go_wp2_with fail
  obtain ⟨W1, hW1⟩ : ∃ W, W = (w0.alloc (.cells #[.int .i64 6, .int .i64 n, .int .i64 m, .string s] 38)).alloc (.cells #[] 3) := ⟨_, rfl⟩
  have c0 : W1.cell? ⟨w0.heap.size, 0, none⟩ = some (.int .i64 6) := by rw [hW1]; exact ((box_new w0 _ _).alloc _).cell 0
  have c1 : W1.cell? ⟨w0.heap.size, 1, none⟩ = some (.int .i64 n) := by rw [hW1]; exact ((box_new w0 _ _).alloc _).cell 1
  have c2 : W1.cell? ⟨w0.heap.size, 2, none⟩ = some (.int .i64 m) := by rw [hW1]; exact ((box_new w0 _ _).alloc _).cell 2
  have c3 : W1.cell? ⟨w0.heap.size, 3, none⟩ = some (.string s) := by rw [hW1]; exact ((box_new w0 _ _).alloc _).cell 3
  have hsz : w0.heap.size < W1.heap.size := by rw [hW1]; simp; omega
  have HR : RowKit.Hid (W1.ownsRow (w0.heap.size + 1) 3 1 (.slice (some ⟨w0.heap.size + 1, 0, none⟩) 0 0) 0 []) := Lib.hid (by rw [hW1]; exact HE.out)
  rw [← hW1]
  have HBx : RowKit.Hid (BoxAt W1 w0.heap.size 38 #[.int .i64 6, .int .i64 n, .int .i64 m, .string s]) := Lib.hid (by rw [hW1]; exact (box_new w0 _ _).alloc _)
  have HU := Lib.hid (show Under w0 W1 by rw [hW1]; exact under_alloc (under_alloc (Under.refl _) _) _)
  clear hW1 HE
  refine wp_region_noPanic ?_
  refine wp_region_held_drew (S := fun w' => w'.cell? ⟨w0.heap.size, 0, none⟩ = some (.int .i64 6) ∧ w'.cell? ⟨w0.heap.size, 1, none⟩ = some (.int .i64 n) ∧ w'.cell? ⟨w0.heap.size, 2, none⟩ = some (.int .i64 m) ∧ w'.cell? ⟨w0.heap.size, 3, none⟩ = some (.string s)
     ∧ w0.heap.size < w'.heap.size) (by kernel_rfl) ⟨c0, c1, c2, c3, hsz⟩ (fun hHeld => ?_)
  refine wpAnyH_take (i := 0) (v := ?v0) rfl (by kernel_rfl) (by kernel_rfl) (by kernel_rfl) (fun _ _ _ h => h) (Or.inl ⟨by (first | kernel_rfl | rfl), ?hy0⟩) (by assumption) ?rest0
  case hy0 => (intro w hSw; (try dsimp only at hSw); go_simp; try with_reducible rfl)
  try simp only [Act.put, List.getElem_toArray, List.getElem_cons_succ, List.getElem_cons_zero, List.setIfInBounds_toArray, List.set_cons_zero, List.set_cons_succ]
  refine wpAnyH_take (i := 3) (v := ?v3) rfl (by kernel_rfl) (by kernel_rfl) (by kernel_rfl) (fun _ _ _ h => h) (Or.inl ⟨by (first | kernel_rfl | rfl), ?hy3⟩) (by assumption) ?rest3
  case hy3 => (intro w hSw; (try dsimp only at hSw); go_simp; try with_reducible rfl)
  try simp only [Act.put, List.getElem_toArray, List.getElem_cons_succ, List.getElem_cons_zero, List.setIfInBounds_toArray, List.set_cons_zero, List.set_cons_succ]
  refine wpAnyH_take (i := 4) (v := ?v4) rfl (by kernel_rfl) (by kernel_rfl) (by kernel_rfl) (fun _ _ _ h => h) (Or.inl ⟨by (first | kernel_rfl | rfl), ?hy4⟩) (by assumption) ?rest4
  case hy4 => (intro w hSw; (try dsimp only at hSw); go_simp; try with_reducible rfl)
  try simp only [Act.put, List.getElem_toArray, List.getElem_cons_succ, List.getElem_cons_zero, List.setIfInBounds_toArray, List.set_cons_zero, List.set_cons_succ]
  refine wpAnyH_take (i := 5) (v := .bool false) rfl (by kernel_rfl) (by kernel_rfl) (by kernel_rfl) (fun _ _ _ h => h) (Or.inl ⟨by (first | kernel_rfl | rfl), ?hy5⟩) (by assumption) ?rest5
  case hy5 => (intro w hSw; (try dsimp only at hSw); go_simp; try with_reducible rfl)
  try simp only [Act.put, List.getElem_toArray, List.getElem_cons_succ, List.getElem_cons_zero, List.setIfInBounds_toArray, List.set_cons_zero, List.set_cons_succ]
  refine wpAnyH_ready (rs := [1]) (by kernel_rfl) (by simp) ?_
  refine AllReadyH.cons rfl (fun K hK => ?_) AllReadyH.nil
  go_simp
  refine hK.out _ _ ?_ (fun hHeld' => ?_)
  · obtain ⟨d0, d1, d2, d3, d4⟩ := hHeld
    have hU := under_alloc (Under.refl W1.drew) (.cells #[.int .i64 0, .int .i64 1] 3)
    exact ⟨(under_cell hU d4 _).trans d0, (under_cell hU d4 _).trans d1, (under_cell hU d4 _).trans d2, (under_cell hU d4 _).trans d3, Nat.lt_of_lt_of_le d4 hU.size⟩
  clear hK K hHeld
  have hHeld := hHeld'
  clear hHeld'
  try simp only [Act.put, List.setIfInBounds_toArray, List.set_cons_zero, List.set_cons_succ]
  refine wpAnyH_ready (rs := [2]) (by kernel_rfl) (by simp) ?_
  refine AllReadyH.cons rfl (fun K hK => ?_) AllReadyH.nil
  refine step_append_lies _ (by rfl) _ _ _ (by rfl) (w0.heap.size + 1) 3 i0 _ 1 8 Tryz.underlying63 hi hz0 hz1 hz2 rfl (by omega) (.slice (some ⟨w0.heap.size + 1, 0, none⟩) 0 0) 0 [] (by rfl) (HR.out.drew.alloc _)
        ⟨W1.heap.size, 0, none⟩ 2 2 [.int .i64 0, .int .i64 1] (by rfl) (by rfl) (World.news_of_block (cs := #[.int .i64 0, .int .i64 1]) (t := 3) (fr := (0, 0)) (heap_alloc_new _ _)) (by simp [Value.oneCell'])
        (by omega) (by simp [maxLen]) (by simp) (by simp; omega) (W1.heap.size + 1) (by simp) ?_
  intro gg cc w2 hown2 hgrow hat hlt
  have HB2 := Lib.hid (BoxAt.grown ((HBx.out.alloc (.cells #[.int .i64 0, .int .i64 1] 3)).drew) hgrow (fun e => by simp [Value.ownBlock] at e))
  have HU2 := Lib.hid (under_grown (under_drew (under_alloc HU.out (.cells #[.int .i64 0, .int .i64 1] 3))) hgrow (fun g e => by simp [Value.ownBlock] at e; omega))
  have HO2 := Lib.hid hown2
  refine hK.out _ _ ?_ (fun hHeld' => ?_)
  · exact ⟨HB2.out.cell 0, HB2.out.cell 1, HB2.out.cell 2, HB2.out.cell 3, HB2.out.lt⟩
  clear hK K hHeld hown2 hgrow hat hlt
  have hHeld := hHeld'
  clear hHeld'
  try simp only [Act.put, List.getElem_toArray, List.getElem_cons_succ, List.getElem_cons_zero, List.setIfInBounds_toArray, List.set_cons_zero, List.set_cons_succ]
  refine wpAnyH_take (i := 6) (v := ?v6) rfl (by kernel_rfl) (by kernel_rfl) (by kernel_rfl) (fun _ _ _ h => h) (Or.inl ⟨by (first | kernel_rfl | rfl), ?hy6⟩) (by assumption) ?rest6
  case hy6 => (intro w hSw; (try dsimp only at hSw); go_simp; try with_reducible rfl)
  try simp only [Act.put, List.getElem_toArray, List.getElem_cons_succ, List.getElem_cons_zero, List.setIfInBounds_toArray, List.set_cons_zero, List.set_cons_succ]
  refine wpAnyH_take (i := 7) rfl (by kernel_rfl) (by kernel_rfl) (by kernel_rfl) (fun _ _ _ h => h) (Or.inr ⟨by (first | kernel_rfl | rfl), rfl⟩) (by assumption) ?_
  try simp only [Act.put, List.getElem_toArray, List.getElem_cons_succ, List.getElem_cons_zero, List.setIfInBounds_toArray, List.set_cons_zero, List.set_cons_succ]
  refine wpAnyH_take (i := 8) rfl (by kernel_rfl) (by kernel_rfl) (by kernel_rfl) (fun _ _ _ h => h) (Or.inr ⟨by (first | kernel_rfl | rfl), rfl⟩) (by assumption) ?_
  try simp only [Act.put, List.getElem_toArray, List.getElem_cons_succ, List.getElem_cons_zero, List.setIfInBounds_toArray, List.set_cons_zero, List.set_cons_succ]
  refine wpAnyH_take (i := 9) rfl (by kernel_rfl) (by kernel_rfl) (by kernel_rfl) (fun _ _ _ h => h) (Or.inr ⟨by (first | kernel_rfl | rfl), rfl⟩) (by assumption) ?_
  try simp only [Act.put, List.getElem_toArray, List.getElem_cons_succ, List.getElem_cons_zero, List.setIfInBounds_toArray, List.set_cons_zero, List.set_cons_succ]
  refine wpAnyH_take (i := 10) (v := .bool false) rfl (by kernel_rfl) (by kernel_rfl) (by kernel_rfl) (fun _ _ _ h => h) (Or.inl ⟨by (first | kernel_rfl | rfl), ?hy10⟩) (by assumption) ?rest10
  case hy10 => (intro w hSw; (try dsimp only at hSw); go_simp; try with_reducible rfl)
  try simp only [Act.put, List.getElem_toArray, List.getElem_cons_succ, List.getElem_cons_zero, List.setIfInBounds_toArray, List.set_cons_zero, List.set_cons_succ]
  refine wpAnyH_take (i := 11) (v := ?v11) rfl (by kernel_rfl) (by kernel_rfl) (by kernel_rfl) (fun _ _ _ h => h) (Or.inl ⟨by (first | kernel_rfl | rfl), ?hy11⟩) (by assumption) ?rest11
  case hy11 => (intro w hSw; (try dsimp only at hSw); go_simp; try with_reducible rfl)
  try simp only [Act.put, List.getElem_toArray, List.getElem_cons_succ, List.getElem_cons_zero, List.setIfInBounds_toArray, List.set_cons_zero, List.set_cons_succ]
  refine wpAnyH_take (i := 12) rfl (by kernel_rfl) (by kernel_rfl) (by kernel_rfl) (fun _ _ _ h => h) (Or.inr ⟨by (first | kernel_rfl | rfl), rfl⟩) (by assumption) ?_
  try simp only [Act.put, List.getElem_toArray, List.getElem_cons_succ, List.getElem_cons_zero, List.setIfInBounds_toArray, List.set_cons_zero, List.set_cons_succ]
  refine wpAnyH_take (i := 13) rfl (by kernel_rfl) (by kernel_rfl) (by kernel_rfl) (fun _ _ _ h => h) (Or.inr ⟨by (first | kernel_rfl | rfl), rfl⟩) (by assumption) ?_
  try simp only [Act.put, List.getElem_toArray, List.getElem_cons_succ, List.getElem_cons_zero, List.setIfInBounds_toArray, List.set_cons_zero, List.set_cons_succ]
  refine wpAnyH_take (i := 14) rfl (by kernel_rfl) (by kernel_rfl) (by kernel_rfl) (fun _ _ _ h => h) (Or.inr ⟨by (first | kernel_rfl | rfl), rfl⟩) (by assumption) ?_
  try simp only [Act.put, List.getElem_toArray, List.getElem_cons_succ, List.getElem_cons_zero, List.setIfInBounds_toArray, List.set_cons_zero, List.set_cons_succ]
  refine wpAnyH_take (i := 15) (v := .bool false) rfl (by kernel_rfl) (by kernel_rfl) (by kernel_rfl) (fun _ _ _ h => h) (Or.inl ⟨by (first | kernel_rfl | rfl), ?hy15⟩) (by assumption) ?rest15
  case hy15 => (intro w hSw; (try dsimp only at hSw); go_simp; try with_reducible rfl)
  try simp only [Act.put, List.getElem_toArray, List.getElem_cons_succ, List.getElem_cons_zero, List.setIfInBounds_toArray, List.set_cons_zero, List.set_cons_succ]
  refine wpAnyH_take (i := 16) (v := ?v16) rfl (by kernel_rfl) (by kernel_rfl) (by kernel_rfl) (fun _ _ _ h => h) (Or.inl ⟨by (first | kernel_rfl | rfl), ?hy16⟩) (by assumption) ?rest16
  case hy16 => (intro w hSw; (try dsimp only at hSw); go_simp; try with_reducible rfl)
  try simp only [Act.put, List.getElem_toArray, List.getElem_cons_succ, List.getElem_cons_zero, List.setIfInBounds_toArray, List.set_cons_zero, List.set_cons_succ]
  refine wpAnyH_take (i := 17) rfl (by kernel_rfl) (by kernel_rfl) (by kernel_rfl) (fun _ _ _ h => h) (Or.inr ⟨by (first | kernel_rfl | rfl), rfl⟩) (by assumption) ?_
  try simp only [Act.put, List.getElem_toArray, List.getElem_cons_succ, List.getElem_cons_zero, List.setIfInBounds_toArray, List.set_cons_zero, List.set_cons_succ]
  refine wpAnyH_take (i := 18) rfl (by kernel_rfl) (by kernel_rfl) (by kernel_rfl) (fun _ _ _ h => h) (Or.inr ⟨by (first | kernel_rfl | rfl), rfl⟩) (by assumption) ?_
  try simp only [Act.put, List.getElem_toArray, List.getElem_cons_succ, List.getElem_cons_zero, List.setIfInBounds_toArray, List.set_cons_zero, List.set_cons_succ]
  refine wpAnyH_take (i := 19) rfl (by kernel_rfl) (by kernel_rfl) (by kernel_rfl) (fun _ _ _ h => h) (Or.inr ⟨by (first | kernel_rfl | rfl), rfl⟩) (by assumption) ?_
  try simp only [Act.put, List.getElem_toArray, List.getElem_cons_succ, List.getElem_cons_zero, List.setIfInBounds_toArray, List.set_cons_zero, List.set_cons_succ]
  refine wpAnyH_take (i := 20) (v := .bool false) rfl (by kernel_rfl) (by kernel_rfl) (by kernel_rfl) (fun _ _ _ h => h) (Or.inl ⟨by (first | kernel_rfl | rfl), ?hy20⟩) (by assumption) ?rest20
  case hy20 => (intro w hSw; (try dsimp only at hSw); go_simp; try with_reducible rfl)
  try simp only [Act.put, List.getElem_toArray, List.getElem_cons_succ, List.getElem_cons_zero, List.setIfInBounds_toArray, List.set_cons_zero, List.set_cons_succ]
  refine wpAnyH_take (i := 21) (v := ?v21) rfl (by kernel_rfl) (by kernel_rfl) (by kernel_rfl) (fun _ _ _ h => h) (Or.inl ⟨by (first | kernel_rfl | rfl), ?hy21⟩) (by assumption) ?rest21
  case hy21 => (intro w hSw; (try dsimp only at hSw); go_simp; try with_reducible rfl)
  try simp only [Act.put, List.getElem_toArray, List.getElem_cons_succ, List.getElem_cons_zero, List.setIfInBounds_toArray, List.set_cons_zero, List.set_cons_succ]
  refine wpAnyH_take (i := 22) (v := ?v22) rfl (by kernel_rfl) (by kernel_rfl) (by kernel_rfl) (fun _ _ _ h => h) (Or.inl ⟨by (first | kernel_rfl | rfl), ?hy22⟩) (by assumption) ?rest22
  case hy22 => (intro w hSw; (try dsimp only at hSw); go_simp; try with_reducible rfl)
  try simp only [Act.put, List.getElem_toArray, List.getElem_cons_succ, List.getElem_cons_zero, List.setIfInBounds_toArray, List.set_cons_zero, List.set_cons_succ]
  refine wpAnyH_done (by kernel_rfl) ?_ _
  refine NoPanic.normal ?_
  obtain ⟨q, c, hv, hc, hr⟩ := RowArg.of_own HO2.out
  cases hv
  go_wp2
  go_ret2
  exact ⟨_, _, rfl, hc, hr, HU2.out⟩
set_option maxRecDepth 100000 in
set_option maxHeartbeats 4000000 in
theorem rb_6b (n m : Int) (s : ByteArray) (h1 : 0 ≤ n) (h2 : (n ≤ 3) = False) : Calls Tryz.prog 44 #[ndV ⟨6, n, m, s⟩] w0 (BOut w0 [0, 1] false) := by
  obtain ⟨i0, hi, hz0, hz1, hz2⟩ := info_parts Tryz.infoInt
  unfold ndV at *
  simp only
  have HE := Lib.hid (row_emptyZ (w0.alloc (.cells #[.int .i64 6, .int .i64 n, .int .i64 m, .string s] 38)) (w0.heap.size + 1) 3 1 (by simp))
  rw [show (w0.alloc (.cells #[.int .i64 6, .int .i64 n, .int .i64 m, .string s] 38)).heap.size = w0.heap.size + 1 by simp] at HE
  go_enter Tryz.func44, Tryz.ntmps44
  go_wp2_with fail
  obtain ⟨W1, hW1⟩ : ∃ W, W = (w0.alloc (.cells #[.int .i64 6, .int .i64 n, .int .i64 m, .string s] 38)).alloc (.cells #[] 3) := ⟨_, rfl⟩
  have c0 : W1.cell? ⟨w0.heap.size, 0, none⟩ = some (.int .i64 6) := by rw [hW1]; exact ((box_new w0 _ _).alloc _).cell 0
  have c1 : W1.cell? ⟨w0.heap.size, 1, none⟩ = some (.int .i64 n) := by rw [hW1]; exact ((box_new w0 _ _).alloc _).cell 1
  have c2 : W1.cell? ⟨w0.heap.size, 2, none⟩ = some (.int .i64 m) := by rw [hW1]; exact ((box_new w0 _ _).alloc _).cell 2
  have c3 : W1.cell? ⟨w0.heap.size, 3, none⟩ = some (.string s) := by rw [hW1]; exact ((box_new w0 _ _).alloc _).cell 3
  have hsz : w0.heap.size < W1.heap.size := by rw [hW1]; simp; omega
  have HR : RowKit.Hid (W1.ownsRow (w0.heap.size + 1) 3 1 (.slice (some ⟨w0.heap.size + 1, 0, none⟩) 0 0) 0 []) := Lib.hid (by rw [hW1]; exact HE.out)
  rw [← hW1]
  have HBx : RowKit.Hid (BoxAt W1 w0.heap.size 38 #[.int .i64 6, .int .i64 n, .int .i64 m, .string s]) := Lib.hid (by rw [hW1]; exact (box_new w0 _ _).alloc _)
  have HU := Lib.hid (show Under w0 W1 by rw [hW1]; exact under_alloc (under_alloc (Under.refl _) _) _)
  clear hW1 HE
  refine wp_region_noPanic ?_
  refine wp_region_held_drew (S := fun w' => w'.cell? ⟨w0.heap.size, 0, none⟩ = some (.int .i64 6) ∧ w'.cell? ⟨w0.heap.size, 1, none⟩ = some (.int .i64 n) ∧ w'.cell? ⟨w0.heap.size, 2, none⟩ = some (.int .i64 m) ∧ w'.cell? ⟨w0.heap.size, 3, none⟩ = some (.string s)
     ∧ w0.heap.size < w'.heap.size) (by kernel_rfl) ⟨c0, c1, c2, c3, hsz⟩ (fun hHeld => ?_)
  refine wpAnyH_take (i := 0) (v := ?v0) rfl (by kernel_rfl) (by kernel_rfl) (by kernel_rfl) (fun _ _ _ h => h) (Or.inl ⟨by (first | kernel_rfl | rfl), ?hy0⟩) (by assumption) ?rest0
  case hy0 => (intro w hSw; (try dsimp only at hSw); go_simp; try with_reducible rfl)
  try simp only [Act.put, List.getElem_toArray, List.getElem_cons_succ, List.getElem_cons_zero, List.setIfInBounds_toArray, List.set_cons_zero, List.set_cons_succ]
  refine wpAnyH_take (i := 3) (v := ?v3) rfl (by kernel_rfl) (by kernel_rfl) (by kernel_rfl) (fun _ _ _ h => h) (Or.inl ⟨by (first | kernel_rfl | rfl), ?hy3⟩) (by assumption) ?rest3
  case hy3 => (intro w hSw; (try dsimp only at hSw); go_simp; try with_reducible rfl)
  try simp only [Act.put, List.getElem_toArray, List.getElem_cons_succ, List.getElem_cons_zero, List.setIfInBounds_toArray, List.set_cons_zero, List.set_cons_succ]
  refine wpAnyH_take (i := 4) (v := ?v4) rfl (by kernel_rfl) (by kernel_rfl) (by kernel_rfl) (fun _ _ _ h => h) (Or.inl ⟨by (first | kernel_rfl | rfl), ?hy4⟩) (by assumption) ?rest4
  case hy4 => (intro w hSw; (try dsimp only at hSw); go_simp; try with_reducible rfl)
  try simp only [Act.put, List.getElem_toArray, List.getElem_cons_succ, List.getElem_cons_zero, List.setIfInBounds_toArray, List.set_cons_zero, List.set_cons_succ]
  refine wpAnyH_take (i := 5) (v := .bool true) rfl (by kernel_rfl) (by kernel_rfl) (by kernel_rfl) (fun _ _ _ h => h) (Or.inl ⟨by (first | kernel_rfl | rfl), ?hy5⟩) (by assumption) ?rest5
  case hy5 => (intro w hSw; (try dsimp only at hSw); go_simp; try with_reducible rfl)
  try simp only [Act.put, List.getElem_toArray, List.getElem_cons_succ, List.getElem_cons_zero, List.setIfInBounds_toArray, List.set_cons_zero, List.set_cons_succ]
  refine wpAnyH_ready (rs := [1]) (by kernel_rfl) (by simp) ?_
  refine AllReadyH.cons rfl (fun K hK => ?_) AllReadyH.nil
  go_simp
  refine hK.out _ _ ?_ (fun hHeld' => ?_)
  · obtain ⟨d0, d1, d2, d3, d4⟩ := hHeld
    have hU := under_alloc (Under.refl W1.drew) (.cells #[.int .i64 0, .int .i64 1] 3)
    exact ⟨(under_cell hU d4 _).trans d0, (under_cell hU d4 _).trans d1, (under_cell hU d4 _).trans d2, (under_cell hU d4 _).trans d3, Nat.lt_of_lt_of_le d4 hU.size⟩
  clear hK K hHeld
  have hHeld := hHeld'
  clear hHeld'
  try simp only [Act.put, List.setIfInBounds_toArray, List.set_cons_zero, List.set_cons_succ]
  refine wpAnyH_ready (rs := [2]) (by kernel_rfl) (by simp) ?_
  refine AllReadyH.cons rfl (fun K hK => ?_) AllReadyH.nil
  refine step_append_lies _ (by rfl) _ _ _ (by rfl) (w0.heap.size + 1) 3 i0 _ 1 8 Tryz.underlying63 hi hz0 hz1 hz2 rfl (by omega) (.slice (some ⟨w0.heap.size + 1, 0, none⟩) 0 0) 0 [] (by rfl) (HR.out.drew.alloc _)
        ⟨W1.heap.size, 0, none⟩ 2 2 [.int .i64 0, .int .i64 1] (by rfl) (by rfl) (World.news_of_block (cs := #[.int .i64 0, .int .i64 1]) (t := 3) (fr := (0, 0)) (heap_alloc_new _ _)) (by simp [Value.oneCell'])
        (by omega) (by simp [maxLen]) (by simp) (by simp; omega) (W1.heap.size + 1) (by simp) ?_
  intro gg cc w2 hown2 hgrow hat hlt
  have HB2 := Lib.hid (BoxAt.grown ((HBx.out.alloc (.cells #[.int .i64 0, .int .i64 1] 3)).drew) hgrow (fun e => by simp [Value.ownBlock] at e))
  have HU2 := Lib.hid (under_grown (under_drew (under_alloc HU.out (.cells #[.int .i64 0, .int .i64 1] 3))) hgrow (fun g e => by simp [Value.ownBlock] at e; omega))
  have HO2 := Lib.hid hown2
  refine hK.out _ _ ?_ (fun hHeld' => ?_)
  · exact ⟨HB2.out.cell 0, HB2.out.cell 1, HB2.out.cell 2, HB2.out.cell 3, HB2.out.lt⟩
  clear hK K hHeld hown2 hgrow hat hlt
  have hHeld := hHeld'
  clear hHeld'
  try simp only [Act.put, List.getElem_toArray, List.getElem_cons_succ, List.getElem_cons_zero, List.setIfInBounds_toArray, List.set_cons_zero, List.set_cons_succ]
  refine wpAnyH_take (i := 6) (v := ?v6) rfl (by kernel_rfl) (by kernel_rfl) (by kernel_rfl) (fun _ _ _ h => h) (Or.inl ⟨by (first | kernel_rfl | rfl), ?hy6⟩) (by assumption) ?rest6
  case hy6 => (intro w hSw; (try dsimp only at hSw); go_simp; try with_reducible rfl)
  try simp only [Act.put, List.getElem_toArray, List.getElem_cons_succ, List.getElem_cons_zero, List.setIfInBounds_toArray, List.set_cons_zero, List.set_cons_succ]
  refine wpAnyH_take (i := 7) (v := ?v7) rfl (by kernel_rfl) (by kernel_rfl) (by kernel_rfl) (fun _ _ _ h => h) (Or.inl ⟨by (first | kernel_rfl | rfl), ?hy7⟩) (by assumption) ?rest7
  case hy7 => (intro w hSw; (try dsimp only at hSw); go_simp; try with_reducible rfl)
  try simp only [Act.put, List.getElem_toArray, List.getElem_cons_succ, List.getElem_cons_zero, List.setIfInBounds_toArray, List.set_cons_zero, List.set_cons_succ]
  refine wpAnyH_take (i := 8) (v := ?v8) rfl (by kernel_rfl) (by kernel_rfl) (by kernel_rfl) (fun _ _ _ h => h) (Or.inl ⟨by (first | kernel_rfl | rfl), ?hy8⟩) (by assumption) ?rest8
  case hy8 => (intro w hSw; (try dsimp only at hSw); go_simp; try with_reducible rfl)
  try simp only [Act.put, List.getElem_toArray, List.getElem_cons_succ, List.getElem_cons_zero, List.setIfInBounds_toArray, List.set_cons_zero, List.set_cons_succ]
  refine wpAnyH_take (i := 9) (v := .bool false) rfl (by kernel_rfl) (by kernel_rfl) (by kernel_rfl) (fun _ _ _ h => h) (Or.inl ⟨by (first | kernel_rfl | rfl), ?hy9⟩) (by assumption) ?rest9
  case hy9 => (intro w hSw; (try dsimp only at hSw); go_simp; try with_reducible rfl)
  try simp only [Act.put, List.getElem_toArray, List.getElem_cons_succ, List.getElem_cons_zero, List.setIfInBounds_toArray, List.set_cons_zero, List.set_cons_succ]
  refine wpAnyH_take (i := 10) (v := .bool false) rfl (by kernel_rfl) (by kernel_rfl) (by kernel_rfl) (fun _ _ _ h => h) (Or.inl ⟨by (first | kernel_rfl | rfl), ?hy10⟩) (by assumption) ?rest10
  case hy10 => (intro w hSw; (try dsimp only at hSw); go_simp; try with_reducible rfl)
  try simp only [Act.put, List.getElem_toArray, List.getElem_cons_succ, List.getElem_cons_zero, List.setIfInBounds_toArray, List.set_cons_zero, List.set_cons_succ]
  refine wpAnyH_take (i := 11) (v := ?v11) rfl (by kernel_rfl) (by kernel_rfl) (by kernel_rfl) (fun _ _ _ h => h) (Or.inl ⟨by (first | kernel_rfl | rfl), ?hy11⟩) (by assumption) ?rest11
  case hy11 => (intro w hSw; (try dsimp only at hSw); go_simp; try with_reducible rfl)
  try simp only [Act.put, List.getElem_toArray, List.getElem_cons_succ, List.getElem_cons_zero, List.setIfInBounds_toArray, List.set_cons_zero, List.set_cons_succ]
  refine wpAnyH_take (i := 12) rfl (by kernel_rfl) (by kernel_rfl) (by kernel_rfl) (fun _ _ _ h => h) (Or.inr ⟨by (first | kernel_rfl | rfl), rfl⟩) (by assumption) ?_
  try simp only [Act.put, List.getElem_toArray, List.getElem_cons_succ, List.getElem_cons_zero, List.setIfInBounds_toArray, List.set_cons_zero, List.set_cons_succ]
  refine wpAnyH_take (i := 13) rfl (by kernel_rfl) (by kernel_rfl) (by kernel_rfl) (fun _ _ _ h => h) (Or.inr ⟨by (first | kernel_rfl | rfl), rfl⟩) (by assumption) ?_
  try simp only [Act.put, List.getElem_toArray, List.getElem_cons_succ, List.getElem_cons_zero, List.setIfInBounds_toArray, List.set_cons_zero, List.set_cons_succ]
  refine wpAnyH_take (i := 14) rfl (by kernel_rfl) (by kernel_rfl) (by kernel_rfl) (fun _ _ _ h => h) (Or.inr ⟨by (first | kernel_rfl | rfl), rfl⟩) (by assumption) ?_
  try simp only [Act.put, List.getElem_toArray, List.getElem_cons_succ, List.getElem_cons_zero, List.setIfInBounds_toArray, List.set_cons_zero, List.set_cons_succ]
  refine wpAnyH_take (i := 15) (v := .bool false) rfl (by kernel_rfl) (by kernel_rfl) (by kernel_rfl) (fun _ _ _ h => h) (Or.inl ⟨by (first | kernel_rfl | rfl), ?hy15⟩) (by assumption) ?rest15
  case hy15 => (intro w hSw; (try dsimp only at hSw); go_simp; try with_reducible rfl)
  try simp only [Act.put, List.getElem_toArray, List.getElem_cons_succ, List.getElem_cons_zero, List.setIfInBounds_toArray, List.set_cons_zero, List.set_cons_succ]
  refine wpAnyH_take (i := 16) (v := ?v16) rfl (by kernel_rfl) (by kernel_rfl) (by kernel_rfl) (fun _ _ _ h => h) (Or.inl ⟨by (first | kernel_rfl | rfl), ?hy16⟩) (by assumption) ?rest16
  case hy16 => (intro w hSw; (try dsimp only at hSw); go_simp; try with_reducible rfl)
  try simp only [Act.put, List.getElem_toArray, List.getElem_cons_succ, List.getElem_cons_zero, List.setIfInBounds_toArray, List.set_cons_zero, List.set_cons_succ]
  refine wpAnyH_take (i := 17) rfl (by kernel_rfl) (by kernel_rfl) (by kernel_rfl) (fun _ _ _ h => h) (Or.inr ⟨by (first | kernel_rfl | rfl), rfl⟩) (by assumption) ?_
  try simp only [Act.put, List.getElem_toArray, List.getElem_cons_succ, List.getElem_cons_zero, List.setIfInBounds_toArray, List.set_cons_zero, List.set_cons_succ]
  refine wpAnyH_take (i := 18) rfl (by kernel_rfl) (by kernel_rfl) (by kernel_rfl) (fun _ _ _ h => h) (Or.inr ⟨by (first | kernel_rfl | rfl), rfl⟩) (by assumption) ?_
  try simp only [Act.put, List.getElem_toArray, List.getElem_cons_succ, List.getElem_cons_zero, List.setIfInBounds_toArray, List.set_cons_zero, List.set_cons_succ]
  refine wpAnyH_take (i := 19) rfl (by kernel_rfl) (by kernel_rfl) (by kernel_rfl) (fun _ _ _ h => h) (Or.inr ⟨by (first | kernel_rfl | rfl), rfl⟩) (by assumption) ?_
  try simp only [Act.put, List.getElem_toArray, List.getElem_cons_succ, List.getElem_cons_zero, List.setIfInBounds_toArray, List.set_cons_zero, List.set_cons_succ]
  refine wpAnyH_take (i := 20) (v := .bool false) rfl (by kernel_rfl) (by kernel_rfl) (by kernel_rfl) (fun _ _ _ h => h) (Or.inl ⟨by (first | kernel_rfl | rfl), ?hy20⟩) (by assumption) ?rest20
  case hy20 => (intro w hSw; (try dsimp only at hSw); go_simp; try with_reducible rfl)
  try simp only [Act.put, List.getElem_toArray, List.getElem_cons_succ, List.getElem_cons_zero, List.setIfInBounds_toArray, List.set_cons_zero, List.set_cons_succ]
  refine wpAnyH_take (i := 21) (v := ?v21) rfl (by kernel_rfl) (by kernel_rfl) (by kernel_rfl) (fun _ _ _ h => h) (Or.inl ⟨by (first | kernel_rfl | rfl), ?hy21⟩) (by assumption) ?rest21
  case hy21 => (intro w hSw; (try dsimp only at hSw); go_simp; try with_reducible rfl)
  try simp only [Act.put, List.getElem_toArray, List.getElem_cons_succ, List.getElem_cons_zero, List.setIfInBounds_toArray, List.set_cons_zero, List.set_cons_succ]
  refine wpAnyH_take (i := 22) (v := ?v22) rfl (by kernel_rfl) (by kernel_rfl) (by kernel_rfl) (fun _ _ _ h => h) (Or.inl ⟨by (first | kernel_rfl | rfl), ?hy22⟩) (by assumption) ?rest22
  case hy22 => (intro w hSw; (try dsimp only at hSw); go_simp; try with_reducible rfl)
  try simp only [Act.put, List.getElem_toArray, List.getElem_cons_succ, List.getElem_cons_zero, List.setIfInBounds_toArray, List.set_cons_zero, List.set_cons_succ]
  refine wpAnyH_done (by kernel_rfl) ?_ _
  refine NoPanic.normal ?_
  obtain ⟨q, c, hv, hc, hr⟩ := RowArg.of_own HO2.out
  cases hv
  go_wp2
  go_ret2
  exact ⟨_, _, rfl, hc, hr, HU2.out⟩
set_option maxRecDepth 100000 in
set_option maxHeartbeats 4000000 in
theorem rb_6c (n m : Int) (s : ByteArray) (h1 : 0 ≤ n) (h2 : n ≤ 3) (h3 : (m == 0) = false) : Calls Tryz.prog 44 #[ndV ⟨6, n, m, s⟩] w0 (BOut w0 [0, 1] false) := by
  obtain ⟨i0, hi, hz0, hz1, hz2⟩ := info_parts Tryz.infoInt
  unfold ndV at *
  simp only
  have HE := Lib.hid (row_emptyZ (w0.alloc (.cells #[.int .i64 6, .int .i64 n, .int .i64 m, .string s] 38)) (w0.heap.size + 1) 3 1 (by simp))
  rw [show (w0.alloc (.cells #[.int .i64 6, .int .i64 n, .int .i64 m, .string s] 38)).heap.size = w0.heap.size + 1 by simp] at HE
  go_enter Tryz.func44, Tryz.ntmps44
  go_wp2_with fail
  obtain ⟨W1, hW1⟩ : ∃ W, W = (w0.alloc (.cells #[.int .i64 6, .int .i64 n, .int .i64 m, .string s] 38)).alloc (.cells #[] 3) := ⟨_, rfl⟩
  have c0 : W1.cell? ⟨w0.heap.size, 0, none⟩ = some (.int .i64 6) := by rw [hW1]; exact ((box_new w0 _ _).alloc _).cell 0
  have c1 : W1.cell? ⟨w0.heap.size, 1, none⟩ = some (.int .i64 n) := by rw [hW1]; exact ((box_new w0 _ _).alloc _).cell 1
  have c2 : W1.cell? ⟨w0.heap.size, 2, none⟩ = some (.int .i64 m) := by rw [hW1]; exact ((box_new w0 _ _).alloc _).cell 2
  have c3 : W1.cell? ⟨w0.heap.size, 3, none⟩ = some (.string s) := by rw [hW1]; exact ((box_new w0 _ _).alloc _).cell 3
  have hsz : w0.heap.size < W1.heap.size := by rw [hW1]; simp; omega
  have HR : RowKit.Hid (W1.ownsRow (w0.heap.size + 1) 3 1 (.slice (some ⟨w0.heap.size + 1, 0, none⟩) 0 0) 0 []) := Lib.hid (by rw [hW1]; exact HE.out)
  rw [← hW1]
  have HBx : RowKit.Hid (BoxAt W1 w0.heap.size 38 #[.int .i64 6, .int .i64 n, .int .i64 m, .string s]) := Lib.hid (by rw [hW1]; exact (box_new w0 _ _).alloc _)
  have HU := Lib.hid (show Under w0 W1 by rw [hW1]; exact under_alloc (under_alloc (Under.refl _) _) _)
  clear hW1 HE
  refine wp_region_noPanic ?_
  refine wp_region_held_drew (S := fun w' => w'.cell? ⟨w0.heap.size, 0, none⟩ = some (.int .i64 6) ∧ w'.cell? ⟨w0.heap.size, 1, none⟩ = some (.int .i64 n) ∧ w'.cell? ⟨w0.heap.size, 2, none⟩ = some (.int .i64 m) ∧ w'.cell? ⟨w0.heap.size, 3, none⟩ = some (.string s)
     ∧ w0.heap.size < w'.heap.size) (by kernel_rfl) ⟨c0, c1, c2, c3, hsz⟩ (fun hHeld => ?_)
  refine wpAnyH_take (i := 0) (v := ?v0) rfl (by kernel_rfl) (by kernel_rfl) (by kernel_rfl) (fun _ _ _ h => h) (Or.inl ⟨by (first | kernel_rfl | rfl), ?hy0⟩) (by assumption) ?rest0
  case hy0 => (intro w hSw; (try dsimp only at hSw); go_simp; try with_reducible rfl)
  try simp only [Act.put, List.getElem_toArray, List.getElem_cons_succ, List.getElem_cons_zero, List.setIfInBounds_toArray, List.set_cons_zero, List.set_cons_succ]
  refine wpAnyH_take (i := 3) (v := ?v3) rfl (by kernel_rfl) (by kernel_rfl) (by kernel_rfl) (fun _ _ _ h => h) (Or.inl ⟨by (first | kernel_rfl | rfl), ?hy3⟩) (by assumption) ?rest3
  case hy3 => (intro w hSw; (try dsimp only at hSw); go_simp; try with_reducible rfl)
  try simp only [Act.put, List.getElem_toArray, List.getElem_cons_succ, List.getElem_cons_zero, List.setIfInBounds_toArray, List.set_cons_zero, List.set_cons_succ]
  refine wpAnyH_take (i := 4) (v := ?v4) rfl (by kernel_rfl) (by kernel_rfl) (by kernel_rfl) (fun _ _ _ h => h) (Or.inl ⟨by (first | kernel_rfl | rfl), ?hy4⟩) (by assumption) ?rest4
  case hy4 => (intro w hSw; (try dsimp only at hSw); go_simp; try with_reducible rfl)
  try simp only [Act.put, List.getElem_toArray, List.getElem_cons_succ, List.getElem_cons_zero, List.setIfInBounds_toArray, List.set_cons_zero, List.set_cons_succ]
  refine wpAnyH_take (i := 5) (v := .bool true) rfl (by kernel_rfl) (by kernel_rfl) (by kernel_rfl) (fun _ _ _ h => h) (Or.inl ⟨by (first | kernel_rfl | rfl), ?hy5⟩) (by assumption) ?rest5
  case hy5 => (intro w hSw; (try dsimp only at hSw); go_simp; try with_reducible rfl)
  try simp only [Act.put, List.getElem_toArray, List.getElem_cons_succ, List.getElem_cons_zero, List.setIfInBounds_toArray, List.set_cons_zero, List.set_cons_succ]
  refine wpAnyH_ready (rs := [1]) (by kernel_rfl) (by simp) ?_
  refine AllReadyH.cons rfl (fun K hK => ?_) AllReadyH.nil
  go_simp
  refine hK.out _ _ ?_ (fun hHeld' => ?_)
  · obtain ⟨d0, d1, d2, d3, d4⟩ := hHeld
    have hU := under_alloc (Under.refl W1.drew) (.cells #[.int .i64 0, .int .i64 1] 3)
    exact ⟨(under_cell hU d4 _).trans d0, (under_cell hU d4 _).trans d1, (under_cell hU d4 _).trans d2, (under_cell hU d4 _).trans d3, Nat.lt_of_lt_of_le d4 hU.size⟩
  clear hK K hHeld
  have hHeld := hHeld'
  clear hHeld'
  try simp only [Act.put, List.setIfInBounds_toArray, List.set_cons_zero, List.set_cons_succ]
  refine wpAnyH_ready (rs := [2]) (by kernel_rfl) (by simp) ?_
  refine AllReadyH.cons rfl (fun K hK => ?_) AllReadyH.nil
  refine step_append_lies _ (by rfl) _ _ _ (by rfl) (w0.heap.size + 1) 3 i0 _ 1 8 Tryz.underlying63 hi hz0 hz1 hz2 rfl (by omega) (.slice (some ⟨w0.heap.size + 1, 0, none⟩) 0 0) 0 [] (by rfl) (HR.out.drew.alloc _)
        ⟨W1.heap.size, 0, none⟩ 2 2 [.int .i64 0, .int .i64 1] (by rfl) (by rfl) (World.news_of_block (cs := #[.int .i64 0, .int .i64 1]) (t := 3) (fr := (0, 0)) (heap_alloc_new _ _)) (by simp [Value.oneCell'])
        (by omega) (by simp [maxLen]) (by simp) (by simp; omega) (W1.heap.size + 1) (by simp) ?_
  intro gg cc w2 hown2 hgrow hat hlt
  have HB2 := Lib.hid (BoxAt.grown ((HBx.out.alloc (.cells #[.int .i64 0, .int .i64 1] 3)).drew) hgrow (fun e => by simp [Value.ownBlock] at e))
  have HU2 := Lib.hid (under_grown (under_drew (under_alloc HU.out (.cells #[.int .i64 0, .int .i64 1] 3))) hgrow (fun g e => by simp [Value.ownBlock] at e; omega))
  have HO2 := Lib.hid hown2
  refine hK.out _ _ ?_ (fun hHeld' => ?_)
  · exact ⟨HB2.out.cell 0, HB2.out.cell 1, HB2.out.cell 2, HB2.out.cell 3, HB2.out.lt⟩
  clear hK K hHeld hown2 hgrow hat hlt
  have hHeld := hHeld'
  clear hHeld'
  try simp only [Act.put, List.getElem_toArray, List.getElem_cons_succ, List.getElem_cons_zero, List.setIfInBounds_toArray, List.set_cons_zero, List.set_cons_succ]
  refine wpAnyH_take (i := 6) (v := ?v6) rfl (by kernel_rfl) (by kernel_rfl) (by kernel_rfl) (fun _ _ _ h => h) (Or.inl ⟨by (first | kernel_rfl | rfl), ?hy6⟩) (by assumption) ?rest6
  case hy6 => (intro w hSw; (try dsimp only at hSw); go_simp; try with_reducible rfl)
  try simp only [Act.put, List.getElem_toArray, List.getElem_cons_succ, List.getElem_cons_zero, List.setIfInBounds_toArray, List.set_cons_zero, List.set_cons_succ]
  refine wpAnyH_take (i := 7) (v := ?v7) rfl (by kernel_rfl) (by kernel_rfl) (by kernel_rfl) (fun _ _ _ h => h) (Or.inl ⟨by (first | kernel_rfl | rfl), ?hy7⟩) (by assumption) ?rest7
  case hy7 => (intro w hSw; (try dsimp only at hSw); go_simp; try with_reducible rfl)
  try simp only [Act.put, List.getElem_toArray, List.getElem_cons_succ, List.getElem_cons_zero, List.setIfInBounds_toArray, List.set_cons_zero, List.set_cons_succ]
  refine wpAnyH_take (i := 8) (v := ?v8) rfl (by kernel_rfl) (by kernel_rfl) (by kernel_rfl) (fun _ _ _ h => h) (Or.inl ⟨by (first | kernel_rfl | rfl), ?hy8⟩) (by assumption) ?rest8
  case hy8 => (intro w hSw; (try dsimp only at hSw); go_simp; try with_reducible rfl)
  try simp only [Act.put, List.getElem_toArray, List.getElem_cons_succ, List.getElem_cons_zero, List.setIfInBounds_toArray, List.set_cons_zero, List.set_cons_succ]
  refine wpAnyH_take (i := 9) (v := .bool true) rfl (by kernel_rfl) (by kernel_rfl) (by kernel_rfl) (fun _ _ _ h => h) (Or.inl ⟨by (first | kernel_rfl | rfl), ?hy9⟩) (by assumption) ?rest9
  case hy9 => (intro w hSw; (try dsimp only at hSw); go_simp; try with_reducible rfl)
  try simp only [Act.put, List.getElem_toArray, List.getElem_cons_succ, List.getElem_cons_zero, List.setIfInBounds_toArray, List.set_cons_zero, List.set_cons_succ]
  refine wpAnyH_take (i := 10) (v := .bool true) rfl (by kernel_rfl) (by kernel_rfl) (by kernel_rfl) (fun _ _ _ h => h) (Or.inl ⟨by (first | kernel_rfl | rfl), ?hy10⟩) (by assumption) ?rest10
  case hy10 => (intro w hSw; (try dsimp only at hSw); go_simp; try with_reducible rfl)
  try simp only [Act.put, List.getElem_toArray, List.getElem_cons_succ, List.getElem_cons_zero, List.setIfInBounds_toArray, List.set_cons_zero, List.set_cons_succ]
  refine wpAnyH_take (i := 11) (v := ?v11) rfl (by kernel_rfl) (by kernel_rfl) (by kernel_rfl) (fun _ _ _ h => h) (Or.inl ⟨by (first | kernel_rfl | rfl), ?hy11⟩) (by assumption) ?rest11
  case hy11 => (intro w hSw; (try dsimp only at hSw); go_simp; try with_reducible rfl)
  try simp only [Act.put, List.getElem_toArray, List.getElem_cons_succ, List.getElem_cons_zero, List.setIfInBounds_toArray, List.set_cons_zero, List.set_cons_succ]
  refine wpAnyH_take (i := 12) (v := ?v12) rfl (by kernel_rfl) (by kernel_rfl) (by kernel_rfl) (fun _ _ _ h => h) (Or.inl ⟨by (first | kernel_rfl | rfl), ?hy12⟩) (by assumption) ?rest12
  case hy12 => (intro w hSw; (try dsimp only at hSw); go_simp; try with_reducible rfl)
  try simp only [Act.put, List.getElem_toArray, List.getElem_cons_succ, List.getElem_cons_zero, List.setIfInBounds_toArray, List.set_cons_zero, List.set_cons_succ]
  refine wpAnyH_take (i := 13) (v := ?v13) rfl (by kernel_rfl) (by kernel_rfl) (by kernel_rfl) (fun _ _ _ h => h) (Or.inl ⟨by (first | kernel_rfl | rfl), ?hy13⟩) (by assumption) ?rest13
  case hy13 => (intro w hSw; (try dsimp only at hSw); go_simp; try with_reducible rfl)
  try simp only [Act.put, List.getElem_toArray, List.getElem_cons_succ, List.getElem_cons_zero, List.setIfInBounds_toArray, List.set_cons_zero, List.set_cons_succ]
  refine wpAnyH_take (i := 14) (v := .bool false) rfl (by kernel_rfl) (by kernel_rfl) (by kernel_rfl) (fun _ _ _ h => h) (Or.inl ⟨by (first | kernel_rfl | rfl), ?hy14⟩) (by assumption) ?rest14
  case hy14 => (intro w hSw; (try dsimp only at hSw); go_simp; try with_reducible rfl)
  try simp only [Act.put, List.getElem_toArray, List.getElem_cons_succ, List.getElem_cons_zero, List.setIfInBounds_toArray, List.set_cons_zero, List.set_cons_succ]
  refine wpAnyH_take (i := 15) (v := .bool false) rfl (by kernel_rfl) (by kernel_rfl) (by kernel_rfl) (fun _ _ _ h => h) (Or.inl ⟨by (first | kernel_rfl | rfl), ?hy15⟩) (by assumption) ?rest15
  case hy15 => (intro w hSw; (try dsimp only at hSw); go_simp; try with_reducible rfl)
  try simp only [Act.put, List.getElem_toArray, List.getElem_cons_succ, List.getElem_cons_zero, List.setIfInBounds_toArray, List.set_cons_zero, List.set_cons_succ]
  refine wpAnyH_take (i := 16) (v := ?v16) rfl (by kernel_rfl) (by kernel_rfl) (by kernel_rfl) (fun _ _ _ h => h) (Or.inl ⟨by (first | kernel_rfl | rfl), ?hy16⟩) (by assumption) ?rest16
  case hy16 => (intro w hSw; (try dsimp only at hSw); go_simp; try with_reducible rfl)
  try simp only [Act.put, List.getElem_toArray, List.getElem_cons_succ, List.getElem_cons_zero, List.setIfInBounds_toArray, List.set_cons_zero, List.set_cons_succ]
  refine wpAnyH_take (i := 17) rfl (by kernel_rfl) (by kernel_rfl) (by kernel_rfl) (fun _ _ _ h => h) (Or.inr ⟨by (first | kernel_rfl | rfl), rfl⟩) (by assumption) ?_
  try simp only [Act.put, List.getElem_toArray, List.getElem_cons_succ, List.getElem_cons_zero, List.setIfInBounds_toArray, List.set_cons_zero, List.set_cons_succ]
  refine wpAnyH_take (i := 18) rfl (by kernel_rfl) (by kernel_rfl) (by kernel_rfl) (fun _ _ _ h => h) (Or.inr ⟨by (first | kernel_rfl | rfl), rfl⟩) (by assumption) ?_
  try simp only [Act.put, List.getElem_toArray, List.getElem_cons_succ, List.getElem_cons_zero, List.setIfInBounds_toArray, List.set_cons_zero, List.set_cons_succ]
  refine wpAnyH_take (i := 19) rfl (by kernel_rfl) (by kernel_rfl) (by kernel_rfl) (fun _ _ _ h => h) (Or.inr ⟨by (first | kernel_rfl | rfl), rfl⟩) (by assumption) ?_
  try simp only [Act.put, List.getElem_toArray, List.getElem_cons_succ, List.getElem_cons_zero, List.setIfInBounds_toArray, List.set_cons_zero, List.set_cons_succ]
  refine wpAnyH_take (i := 20) (v := .bool false) rfl (by kernel_rfl) (by kernel_rfl) (by kernel_rfl) (fun _ _ _ h => h) (Or.inl ⟨by (first | kernel_rfl | rfl), ?hy20⟩) (by assumption) ?rest20
  case hy20 => (intro w hSw; (try dsimp only at hSw); go_simp; try with_reducible rfl)
  try simp only [Act.put, List.getElem_toArray, List.getElem_cons_succ, List.getElem_cons_zero, List.setIfInBounds_toArray, List.set_cons_zero, List.set_cons_succ]
  refine wpAnyH_take (i := 21) (v := ?v21) rfl (by kernel_rfl) (by kernel_rfl) (by kernel_rfl) (fun _ _ _ h => h) (Or.inl ⟨by (first | kernel_rfl | rfl), ?hy21⟩) (by assumption) ?rest21
  case hy21 => (intro w hSw; (try dsimp only at hSw); go_simp; try with_reducible rfl)
  try simp only [Act.put, List.getElem_toArray, List.getElem_cons_succ, List.getElem_cons_zero, List.setIfInBounds_toArray, List.set_cons_zero, List.set_cons_succ]
  refine wpAnyH_take (i := 22) (v := ?v22) rfl (by kernel_rfl) (by kernel_rfl) (by kernel_rfl) (fun _ _ _ h => h) (Or.inl ⟨by (first | kernel_rfl | rfl), ?hy22⟩) (by assumption) ?rest22
  case hy22 => (intro w hSw; (try dsimp only at hSw); go_simp; try with_reducible rfl)
  try simp only [Act.put, List.getElem_toArray, List.getElem_cons_succ, List.getElem_cons_zero, List.setIfInBounds_toArray, List.set_cons_zero, List.set_cons_succ]
  refine wpAnyH_done (by kernel_rfl) ?_ _
  refine NoPanic.normal ?_
  obtain ⟨q, c, hv, hc, hr⟩ := RowArg.of_own HO2.out
  cases hv
  go_wp2
  go_ret2
  exact ⟨_, _, rfl, hc, hr, HU2.out⟩
set_option maxRecDepth 100000 in
set_option maxHeartbeats 4000000 in
theorem rb_6d (n m : Int) (s : ByteArray) (h1 : 0 ≤ n) (h2 : n ≤ 3) (h3 : (m == 0) = true) (h4 : s.toList.isEmpty = false) : Calls Tryz.prog 44 #[ndV ⟨6, n, m, s⟩] w0 (BOut w0 [0, 1] false) := by
  obtain ⟨i0, hi, hz0, hz1, hz2⟩ := info_parts Tryz.infoInt
  unfold ndV at *
  simp only
  have HE := Lib.hid (row_emptyZ (w0.alloc (.cells #[.int .i64 6, .int .i64 n, .int .i64 m, .string s] 38)) (w0.heap.size + 1) 3 1 (by simp))
  rw [show (w0.alloc (.cells #[.int .i64 6, .int .i64 n, .int .i64 m, .string s] 38)).heap.size = w0.heap.size + 1 by simp] at HE
  go_enter Tryz.func44, Tryz.ntmps44
  go_wp2_with fail
  obtain ⟨W1, hW1⟩ : ∃ W, W = (w0.alloc (.cells #[.int .i64 6, .int .i64 n, .int .i64 m, .string s] 38)).alloc (.cells #[] 3) := ⟨_, rfl⟩
  have c0 : W1.cell? ⟨w0.heap.size, 0, none⟩ = some (.int .i64 6) := by rw [hW1]; exact ((box_new w0 _ _).alloc _).cell 0
  have c1 : W1.cell? ⟨w0.heap.size, 1, none⟩ = some (.int .i64 n) := by rw [hW1]; exact ((box_new w0 _ _).alloc _).cell 1
  have c2 : W1.cell? ⟨w0.heap.size, 2, none⟩ = some (.int .i64 m) := by rw [hW1]; exact ((box_new w0 _ _).alloc _).cell 2
  have c3 : W1.cell? ⟨w0.heap.size, 3, none⟩ = some (.string s) := by rw [hW1]; exact ((box_new w0 _ _).alloc _).cell 3
  have hsz : w0.heap.size < W1.heap.size := by rw [hW1]; simp; omega
  have HR : RowKit.Hid (W1.ownsRow (w0.heap.size + 1) 3 1 (.slice (some ⟨w0.heap.size + 1, 0, none⟩) 0 0) 0 []) := Lib.hid (by rw [hW1]; exact HE.out)
  rw [← hW1]
  have HBx : RowKit.Hid (BoxAt W1 w0.heap.size 38 #[.int .i64 6, .int .i64 n, .int .i64 m, .string s]) := Lib.hid (by rw [hW1]; exact (box_new w0 _ _).alloc _)
  have HU := Lib.hid (show Under w0 W1 by rw [hW1]; exact under_alloc (under_alloc (Under.refl _) _) _)
  clear hW1 HE
  refine wp_region_noPanic ?_
  refine wp_region_held_drew (S := fun w' => w'.cell? ⟨w0.heap.size, 0, none⟩ = some (.int .i64 6) ∧ w'.cell? ⟨w0.heap.size, 1, none⟩ = some (.int .i64 n) ∧ w'.cell? ⟨w0.heap.size, 2, none⟩ = some (.int .i64 m) ∧ w'.cell? ⟨w0.heap.size, 3, none⟩ = some (.string s)
     ∧ w0.heap.size < w'.heap.size) (by kernel_rfl) ⟨c0, c1, c2, c3, hsz⟩ (fun hHeld => ?_)
  refine wpAnyH_take (i := 0) (v := ?v0) rfl (by kernel_rfl) (by kernel_rfl) (by kernel_rfl) (fun _ _ _ h => h) (Or.inl ⟨by (first | kernel_rfl | rfl), ?hy0⟩) (by assumption) ?rest0
  case hy0 => (intro w hSw; (try dsimp only at hSw); go_simp; try with_reducible rfl)
  try simp only [Act.put, List.getElem_toArray, List.getElem_cons_succ, List.getElem_cons_zero, List.setIfInBounds_toArray, List.set_cons_zero, List.set_cons_succ]
  refine wpAnyH_take (i := 3) (v := ?v3) rfl (by kernel_rfl) (by kernel_rfl) (by kernel_rfl) (fun _ _ _ h => h) (Or.inl ⟨by (first | kernel_rfl | rfl), ?hy3⟩) (by assumption) ?rest3
  case hy3 => (intro w hSw; (try dsimp only at hSw); go_simp; try with_reducible rfl)
  try simp only [Act.put, List.getElem_toArray, List.getElem_cons_succ, List.getElem_cons_zero, List.setIfInBounds_toArray, List.set_cons_zero, List.set_cons_succ]
  refine wpAnyH_take (i := 4) (v := ?v4) rfl (by kernel_rfl) (by kernel_rfl) (by kernel_rfl) (fun _ _ _ h => h) (Or.inl ⟨by (first | kernel_rfl | rfl), ?hy4⟩) (by assumption) ?rest4
  case hy4 => (intro w hSw; (try dsimp only at hSw); go_simp; try with_reducible rfl)
  try simp only [Act.put, List.getElem_toArray, List.getElem_cons_succ, List.getElem_cons_zero, List.setIfInBounds_toArray, List.set_cons_zero, List.set_cons_succ]
  refine wpAnyH_take (i := 5) (v := .bool true) rfl (by kernel_rfl) (by kernel_rfl) (by kernel_rfl) (fun _ _ _ h => h) (Or.inl ⟨by (first | kernel_rfl | rfl), ?hy5⟩) (by assumption) ?rest5
  case hy5 => (intro w hSw; (try dsimp only at hSw); go_simp; try with_reducible rfl)
  try simp only [Act.put, List.getElem_toArray, List.getElem_cons_succ, List.getElem_cons_zero, List.setIfInBounds_toArray, List.set_cons_zero, List.set_cons_succ]
  refine wpAnyH_ready (rs := [1]) (by kernel_rfl) (by simp) ?_
  refine AllReadyH.cons rfl (fun K hK => ?_) AllReadyH.nil
  go_simp
  refine hK.out _ _ ?_ (fun hHeld' => ?_)
  · obtain ⟨d0, d1, d2, d3, d4⟩ := hHeld
    have hU := under_alloc (Under.refl W1.drew) (.cells #[.int .i64 0, .int .i64 1] 3)
    exact ⟨(under_cell hU d4 _).trans d0, (under_cell hU d4 _).trans d1, (under_cell hU d4 _).trans d2, (under_cell hU d4 _).trans d3, Nat.lt_of_lt_of_le d4 hU.size⟩
  clear hK K hHeld
  have hHeld := hHeld'
  clear hHeld'
  try simp only [Act.put, List.setIfInBounds_toArray, List.set_cons_zero, List.set_cons_succ]
  refine wpAnyH_ready (rs := [2]) (by kernel_rfl) (by simp) ?_
  refine AllReadyH.cons rfl (fun K hK => ?_) AllReadyH.nil
  refine step_append_lies _ (by rfl) _ _ _ (by rfl) (w0.heap.size + 1) 3 i0 _ 1 8 Tryz.underlying63 hi hz0 hz1 hz2 rfl (by omega) (.slice (some ⟨w0.heap.size + 1, 0, none⟩) 0 0) 0 [] (by rfl) (HR.out.drew.alloc _)
        ⟨W1.heap.size, 0, none⟩ 2 2 [.int .i64 0, .int .i64 1] (by rfl) (by rfl) (World.news_of_block (cs := #[.int .i64 0, .int .i64 1]) (t := 3) (fr := (0, 0)) (heap_alloc_new _ _)) (by simp [Value.oneCell'])
        (by omega) (by simp [maxLen]) (by simp) (by simp; omega) (W1.heap.size + 1) (by simp) ?_
  intro gg cc w2 hown2 hgrow hat hlt
  have HB2 := Lib.hid (BoxAt.grown ((HBx.out.alloc (.cells #[.int .i64 0, .int .i64 1] 3)).drew) hgrow (fun e => by simp [Value.ownBlock] at e))
  have HU2 := Lib.hid (under_grown (under_drew (under_alloc HU.out (.cells #[.int .i64 0, .int .i64 1] 3))) hgrow (fun g e => by simp [Value.ownBlock] at e; omega))
  have HO2 := Lib.hid hown2
  refine hK.out _ _ ?_ (fun hHeld' => ?_)
  · exact ⟨HB2.out.cell 0, HB2.out.cell 1, HB2.out.cell 2, HB2.out.cell 3, HB2.out.lt⟩
  clear hK K hHeld hown2 hgrow hat hlt
  have hHeld := hHeld'
  clear hHeld'
  try simp only [Act.put, List.getElem_toArray, List.getElem_cons_succ, List.getElem_cons_zero, List.setIfInBounds_toArray, List.set_cons_zero, List.set_cons_succ]
  refine wpAnyH_take (i := 6) (v := ?v6) rfl (by kernel_rfl) (by kernel_rfl) (by kernel_rfl) (fun _ _ _ h => h) (Or.inl ⟨by (first | kernel_rfl | rfl), ?hy6⟩) (by assumption) ?rest6
  case hy6 => (intro w hSw; (try dsimp only at hSw); go_simp; try with_reducible rfl)
  try simp only [Act.put, List.getElem_toArray, List.getElem_cons_succ, List.getElem_cons_zero, List.setIfInBounds_toArray, List.set_cons_zero, List.set_cons_succ]
  refine wpAnyH_take (i := 7) (v := ?v7) rfl (by kernel_rfl) (by kernel_rfl) (by kernel_rfl) (fun _ _ _ h => h) (Or.inl ⟨by (first | kernel_rfl | rfl), ?hy7⟩) (by assumption) ?rest7
  case hy7 => (intro w hSw; (try dsimp only at hSw); go_simp; try with_reducible rfl)
  try simp only [Act.put, List.getElem_toArray, List.getElem_cons_succ, List.getElem_cons_zero, List.setIfInBounds_toArray, List.set_cons_zero, List.set_cons_succ]
  refine wpAnyH_take (i := 8) (v := ?v8) rfl (by kernel_rfl) (by kernel_rfl) (by kernel_rfl) (fun _ _ _ h => h) (Or.inl ⟨by (first | kernel_rfl | rfl), ?hy8⟩) (by assumption) ?rest8
  case hy8 => (intro w hSw; (try dsimp only at hSw); go_simp; try with_reducible rfl)
  try simp only [Act.put, List.getElem_toArray, List.getElem_cons_succ, List.getElem_cons_zero, List.setIfInBounds_toArray, List.set_cons_zero, List.set_cons_succ]
  refine wpAnyH_take (i := 9) (v := .bool true) rfl (by kernel_rfl) (by kernel_rfl) (by kernel_rfl) (fun _ _ _ h => h) (Or.inl ⟨by (first | kernel_rfl | rfl), ?hy9⟩) (by assumption) ?rest9
  case hy9 => (intro w hSw; (try dsimp only at hSw); go_simp; try with_reducible rfl)
  try simp only [Act.put, List.getElem_toArray, List.getElem_cons_succ, List.getElem_cons_zero, List.setIfInBounds_toArray, List.set_cons_zero, List.set_cons_succ]
  refine wpAnyH_take (i := 10) (v := .bool true) rfl (by kernel_rfl) (by kernel_rfl) (by kernel_rfl) (fun _ _ _ h => h) (Or.inl ⟨by (first | kernel_rfl | rfl), ?hy10⟩) (by assumption) ?rest10
  case hy10 => (intro w hSw; (try dsimp only at hSw); go_simp; try with_reducible rfl)
  try simp only [Act.put, List.getElem_toArray, List.getElem_cons_succ, List.getElem_cons_zero, List.setIfInBounds_toArray, List.set_cons_zero, List.set_cons_succ]
  refine wpAnyH_take (i := 11) (v := ?v11) rfl (by kernel_rfl) (by kernel_rfl) (by kernel_rfl) (fun _ _ _ h => h) (Or.inl ⟨by (first | kernel_rfl | rfl), ?hy11⟩) (by assumption) ?rest11
  case hy11 => (intro w hSw; (try dsimp only at hSw); go_simp; try with_reducible rfl)
  try simp only [Act.put, List.getElem_toArray, List.getElem_cons_succ, List.getElem_cons_zero, List.setIfInBounds_toArray, List.set_cons_zero, List.set_cons_succ]
  refine wpAnyH_take (i := 12) (v := ?v12) rfl (by kernel_rfl) (by kernel_rfl) (by kernel_rfl) (fun _ _ _ h => h) (Or.inl ⟨by (first | kernel_rfl | rfl), ?hy12⟩) (by assumption) ?rest12
  case hy12 => (intro w hSw; (try dsimp only at hSw); go_simp; try with_reducible rfl)
  try simp only [Act.put, List.getElem_toArray, List.getElem_cons_succ, List.getElem_cons_zero, List.setIfInBounds_toArray, List.set_cons_zero, List.set_cons_succ]
  refine wpAnyH_take (i := 13) (v := ?v13) rfl (by kernel_rfl) (by kernel_rfl) (by kernel_rfl) (fun _ _ _ h => h) (Or.inl ⟨by (first | kernel_rfl | rfl), ?hy13⟩) (by assumption) ?rest13
  case hy13 => (intro w hSw; (try dsimp only at hSw); go_simp; try with_reducible rfl)
  try simp only [Act.put, List.getElem_toArray, List.getElem_cons_succ, List.getElem_cons_zero, List.setIfInBounds_toArray, List.set_cons_zero, List.set_cons_succ]
  refine wpAnyH_take (i := 14) (v := .bool true) rfl (by kernel_rfl) (by kernel_rfl) (by kernel_rfl) (fun _ _ _ h => h) (Or.inl ⟨by (first | kernel_rfl | rfl), ?hy14⟩) (by assumption) ?rest14
  case hy14 => (intro w hSw; (try dsimp only at hSw); go_simp; try with_reducible rfl)
  try simp only [Act.put, List.getElem_toArray, List.getElem_cons_succ, List.getElem_cons_zero, List.setIfInBounds_toArray, List.set_cons_zero, List.set_cons_succ]
  refine wpAnyH_take (i := 15) (v := .bool true) rfl (by kernel_rfl) (by kernel_rfl) (by kernel_rfl) (fun _ _ _ h => h) (Or.inl ⟨by (first | kernel_rfl | rfl), ?hy15⟩) (by assumption) ?rest15
  case hy15 => (intro w hSw; (try dsimp only at hSw); go_simp; try with_reducible rfl)
  try simp only [Act.put, List.getElem_toArray, List.getElem_cons_succ, List.getElem_cons_zero, List.setIfInBounds_toArray, List.set_cons_zero, List.set_cons_succ]
  refine wpAnyH_take (i := 16) (v := ?v16) rfl (by kernel_rfl) (by kernel_rfl) (by kernel_rfl) (fun _ _ _ h => h) (Or.inl ⟨by (first | kernel_rfl | rfl), ?hy16⟩) (by assumption) ?rest16
  case hy16 => (intro w hSw; (try dsimp only at hSw); go_simp; try with_reducible rfl)
  try simp only [Act.put, List.getElem_toArray, List.getElem_cons_succ, List.getElem_cons_zero, List.setIfInBounds_toArray, List.set_cons_zero, List.set_cons_succ]
  refine wpAnyH_take (i := 17) (v := ?v17) rfl (by kernel_rfl) (by kernel_rfl) (by kernel_rfl) (fun _ _ _ h => h) (Or.inl ⟨by (first | kernel_rfl | rfl), ?hy17⟩) (by assumption) ?rest17
  case hy17 => (intro w hSw; (try dsimp only at hSw); go_simp; try with_reducible rfl)
  try simp only [Act.put, List.getElem_toArray, List.getElem_cons_succ, List.getElem_cons_zero, List.setIfInBounds_toArray, List.set_cons_zero, List.set_cons_succ]
  refine wpAnyH_take (i := 18) (v := ?v18) rfl (by kernel_rfl) (by kernel_rfl) (by kernel_rfl) (fun _ _ _ h => h) (Or.inl ⟨by (first | kernel_rfl | rfl), ?hy18⟩) (by assumption) ?rest18
  case hy18 => (intro w hSw; (try dsimp only at hSw); go_simp; try with_reducible rfl)
  try simp only [Act.put, List.getElem_toArray, List.getElem_cons_succ, List.getElem_cons_zero, List.setIfInBounds_toArray, List.set_cons_zero, List.set_cons_succ]
  refine wpAnyH_take (i := 19) (v := .bool false) rfl (by kernel_rfl) (by kernel_rfl) (by kernel_rfl) (fun _ _ _ h => h) (Or.inl ⟨by (first | kernel_rfl | rfl), ?hy19⟩) (by assumption) ?rest19
  case hy19 => (intro w hSw; (try dsimp only at hSw); go_simp; try with_reducible rfl)
  try simp only [Act.put, List.getElem_toArray, List.getElem_cons_succ, List.getElem_cons_zero, List.setIfInBounds_toArray, List.set_cons_zero, List.set_cons_succ]
  refine wpAnyH_take (i := 20) (v := .bool false) rfl (by kernel_rfl) (by kernel_rfl) (by kernel_rfl) (fun _ _ _ h => h) (Or.inl ⟨by (first | kernel_rfl | rfl), ?hy20⟩) (by assumption) ?rest20
  case hy20 => (intro w hSw; (try dsimp only at hSw); go_simp; try with_reducible rfl)
  try simp only [Act.put, List.getElem_toArray, List.getElem_cons_succ, List.getElem_cons_zero, List.setIfInBounds_toArray, List.set_cons_zero, List.set_cons_succ]
  refine wpAnyH_take (i := 21) (v := ?v21) rfl (by kernel_rfl) (by kernel_rfl) (by kernel_rfl) (fun _ _ _ h => h) (Or.inl ⟨by (first | kernel_rfl | rfl), ?hy21⟩) (by assumption) ?rest21
  case hy21 => (intro w hSw; (try dsimp only at hSw); go_simp; try with_reducible rfl)
  try simp only [Act.put, List.getElem_toArray, List.getElem_cons_succ, List.getElem_cons_zero, List.setIfInBounds_toArray, List.set_cons_zero, List.set_cons_succ]
  refine wpAnyH_take (i := 22) (v := ?v22) rfl (by kernel_rfl) (by kernel_rfl) (by kernel_rfl) (fun _ _ _ h => h) (Or.inl ⟨by (first | kernel_rfl | rfl), ?hy22⟩) (by assumption) ?rest22
  case hy22 => (intro w hSw; (try dsimp only at hSw); go_simp; try with_reducible rfl)
  try simp only [Act.put, List.getElem_toArray, List.getElem_cons_succ, List.getElem_cons_zero, List.setIfInBounds_toArray, List.set_cons_zero, List.set_cons_succ]
  refine wpAnyH_done (by kernel_rfl) ?_ _
  refine NoPanic.normal ?_
  obtain ⟨q, c, hv, hc, hr⟩ := RowArg.of_own HO2.out
  cases hv
  go_wp2
  go_ret2
  exact ⟨_, _, rfl, hc, hr, HU2.out⟩
set_option maxRecDepth 100000 in
set_option maxHeartbeats 4000000 in
theorem rb_6e (n m : Int) (s : ByteArray) (h1 : 0 ≤ n) (h2 : n ≤ 3) (h3 : (m == 0) = true) (h4 : s.toList.isEmpty = true) : Calls Tryz.prog 44 #[ndV ⟨6, n, m, s⟩] w0 (BOut w0 [0, 1] true) := by
  obtain ⟨i0, hi, hz0, hz1, hz2⟩ := info_parts Tryz.infoInt
  unfold ndV at *
  simp only
  have HE := Lib.hid (row_emptyZ (w0.alloc (.cells #[.int .i64 6, .int .i64 n, .int .i64 m, .string s] 38)) (w0.heap.size + 1) 3 1 (by simp))
  rw [show (w0.alloc (.cells #[.int .i64 6, .int .i64 n, .int .i64 m, .string s] 38)).heap.size = w0.heap.size + 1 by simp] at HE
  go_enter Tryz.func44, Tryz.ntmps44
  go_wp2_with fail
  obtain ⟨W1, hW1⟩ : ∃ W, W = (w0.alloc (.cells #[.int .i64 6, .int .i64 n, .int .i64 m, .string s] 38)).alloc (.cells #[] 3) := ⟨_, rfl⟩
  have c0 : W1.cell? ⟨w0.heap.size, 0, none⟩ = some (.int .i64 6) := by rw [hW1]; exact ((box_new w0 _ _).alloc _).cell 0
  have c1 : W1.cell? ⟨w0.heap.size, 1, none⟩ = some (.int .i64 n) := by rw [hW1]; exact ((box_new w0 _ _).alloc _).cell 1
  have c2 : W1.cell? ⟨w0.heap.size, 2, none⟩ = some (.int .i64 m) := by rw [hW1]; exact ((box_new w0 _ _).alloc _).cell 2
  have c3 : W1.cell? ⟨w0.heap.size, 3, none⟩ = some (.string s) := by rw [hW1]; exact ((box_new w0 _ _).alloc _).cell 3
  have hsz : w0.heap.size < W1.heap.size := by rw [hW1]; simp; omega
  have HR : RowKit.Hid (W1.ownsRow (w0.heap.size + 1) 3 1 (.slice (some ⟨w0.heap.size + 1, 0, none⟩) 0 0) 0 []) := Lib.hid (by rw [hW1]; exact HE.out)
  rw [← hW1]
  have HBx : RowKit.Hid (BoxAt W1 w0.heap.size 38 #[.int .i64 6, .int .i64 n, .int .i64 m, .string s]) := Lib.hid (by rw [hW1]; exact (box_new w0 _ _).alloc _)
  have HU := Lib.hid (show Under w0 W1 by rw [hW1]; exact under_alloc (under_alloc (Under.refl _) _) _)
  clear hW1 HE
  refine wp_region_noPanic ?_
  refine wp_region_held_drew (S := fun w' => w'.cell? ⟨w0.heap.size, 0, none⟩ = some (.int .i64 6) ∧ w'.cell? ⟨w0.heap.size, 1, none⟩ = some (.int .i64 n) ∧ w'.cell? ⟨w0.heap.size, 2, none⟩ = some (.int .i64 m) ∧ w'.cell? ⟨w0.heap.size, 3, none⟩ = some (.string s)
     ∧ w0.heap.size < w'.heap.size) (by kernel_rfl) ⟨c0, c1, c2, c3, hsz⟩ (fun hHeld => ?_)
  refine wpAnyH_take (i := 0) (v := ?v0) rfl (by kernel_rfl) (by kernel_rfl) (by kernel_rfl) (fun _ _ _ h => h) (Or.inl ⟨by (first | kernel_rfl | rfl), ?hy0⟩) (by assumption) ?rest0
  case hy0 => (intro w hSw; (try dsimp only at hSw); go_simp; try with_reducible rfl)
  try simp only [Act.put, List.getElem_toArray, List.getElem_cons_succ, List.getElem_cons_zero, List.setIfInBounds_toArray, List.set_cons_zero, List.set_cons_succ]
  refine wpAnyH_take (i := 3) (v := ?v3) rfl (by kernel_rfl) (by kernel_rfl) (by kernel_rfl) (fun _ _ _ h => h) (Or.inl ⟨by (first | kernel_rfl | rfl), ?hy3⟩) (by assumption) ?rest3
  case hy3 => (intro w hSw; (try dsimp only at hSw); go_simp; try with_reducible rfl)
  try simp only [Act.put, List.getElem_toArray, List.getElem_cons_succ, List.getElem_cons_zero, List.setIfInBounds_toArray, List.set_cons_zero, List.set_cons_succ]
  refine wpAnyH_take (i := 4) (v := ?v4) rfl (by kernel_rfl) (by kernel_rfl) (by kernel_rfl) (fun _ _ _ h => h) (Or.inl ⟨by (first | kernel_rfl | rfl), ?hy4⟩) (by assumption) ?rest4
  case hy4 => (intro w hSw; (try dsimp only at hSw); go_simp; try with_reducible rfl)
  try simp only [Act.put, List.getElem_toArray, List.getElem_cons_succ, List.getElem_cons_zero, List.setIfInBounds_toArray, List.set_cons_zero, List.set_cons_succ]
  refine wpAnyH_take (i := 5) (v := .bool true) rfl (by kernel_rfl) (by kernel_rfl) (by kernel_rfl) (fun _ _ _ h => h) (Or.inl ⟨by (first | kernel_rfl | rfl), ?hy5⟩) (by assumption) ?rest5
  case hy5 => (intro w hSw; (try dsimp only at hSw); go_simp; try with_reducible rfl)
  try simp only [Act.put, List.getElem_toArray, List.getElem_cons_succ, List.getElem_cons_zero, List.setIfInBounds_toArray, List.set_cons_zero, List.set_cons_succ]
  refine wpAnyH_ready (rs := [1]) (by kernel_rfl) (by simp) ?_
  refine AllReadyH.cons rfl (fun K hK => ?_) AllReadyH.nil
  go_simp
  refine hK.out _ _ ?_ (fun hHeld' => ?_)
  · obtain ⟨d0, d1, d2, d3, d4⟩ := hHeld
    have hU := under_alloc (Under.refl W1.drew) (.cells #[.int .i64 0, .int .i64 1] 3)
    exact ⟨(under_cell hU d4 _).trans d0, (under_cell hU d4 _).trans d1, (under_cell hU d4 _).trans d2, (under_cell hU d4 _).trans d3, Nat.lt_of_lt_of_le d4 hU.size⟩
  clear hK K hHeld
  have hHeld := hHeld'
  clear hHeld'
  try simp only [Act.put, List.setIfInBounds_toArray, List.set_cons_zero, List.set_cons_succ]
  refine wpAnyH_ready (rs := [2]) (by kernel_rfl) (by simp) ?_
  refine AllReadyH.cons rfl (fun K hK => ?_) AllReadyH.nil
  refine step_append_lies _ (by rfl) _ _ _ (by rfl) (w0.heap.size + 1) 3 i0 _ 1 8 Tryz.underlying63 hi hz0 hz1 hz2 rfl (by omega) (.slice (some ⟨w0.heap.size + 1, 0, none⟩) 0 0) 0 [] (by rfl) (HR.out.drew.alloc _)
        ⟨W1.heap.size, 0, none⟩ 2 2 [.int .i64 0, .int .i64 1] (by rfl) (by rfl) (World.news_of_block (cs := #[.int .i64 0, .int .i64 1]) (t := 3) (fr := (0, 0)) (heap_alloc_new _ _)) (by simp [Value.oneCell'])
        (by omega) (by simp [maxLen]) (by simp) (by simp; omega) (W1.heap.size + 1) (by simp) ?_
  intro gg cc w2 hown2 hgrow hat hlt
  have HB2 := Lib.hid (BoxAt.grown ((HBx.out.alloc (.cells #[.int .i64 0, .int .i64 1] 3)).drew) hgrow (fun e => by simp [Value.ownBlock] at e))
  have HU2 := Lib.hid (under_grown (under_drew (under_alloc HU.out (.cells #[.int .i64 0, .int .i64 1] 3))) hgrow (fun g e => by simp [Value.ownBlock] at e; omega))
  have HO2 := Lib.hid hown2
  refine hK.out _ _ ?_ (fun hHeld' => ?_)
  · exact ⟨HB2.out.cell 0, HB2.out.cell 1, HB2.out.cell 2, HB2.out.cell 3, HB2.out.lt⟩
  clear hK K hHeld hown2 hgrow hat hlt
  have hHeld := hHeld'
  clear hHeld'
  try simp only [Act.put, List.getElem_toArray, List.getElem_cons_succ, List.getElem_cons_zero, List.setIfInBounds_toArray, List.set_cons_zero, List.set_cons_succ]
  refine wpAnyH_take (i := 6) (v := ?v6) rfl (by kernel_rfl) (by kernel_rfl) (by kernel_rfl) (fun _ _ _ h => h) (Or.inl ⟨by (first | kernel_rfl | rfl), ?hy6⟩) (by assumption) ?rest6
  case hy6 => (intro w hSw; (try dsimp only at hSw); go_simp; try with_reducible rfl)
  try simp only [Act.put, List.getElem_toArray, List.getElem_cons_succ, List.getElem_cons_zero, List.setIfInBounds_toArray, List.set_cons_zero, List.set_cons_succ]
  refine wpAnyH_take (i := 7) (v := ?v7) rfl (by kernel_rfl) (by kernel_rfl) (by kernel_rfl) (fun _ _ _ h => h) (Or.inl ⟨by (first | kernel_rfl | rfl), ?hy7⟩) (by assumption) ?rest7
  case hy7 => (intro w hSw; (try dsimp only at hSw); go_simp; try with_reducible rfl)
  try simp only [Act.put, List.getElem_toArray, List.getElem_cons_succ, List.getElem_cons_zero, List.setIfInBounds_toArray, List.set_cons_zero, List.set_cons_succ]
  refine wpAnyH_take (i := 8) (v := ?v8) rfl (by kernel_rfl) (by kernel_rfl) (by kernel_rfl) (fun _ _ _ h => h) (Or.inl ⟨by (first | kernel_rfl | rfl), ?hy8⟩) (by assumption) ?rest8
  case hy8 => (intro w hSw; (try dsimp only at hSw); go_simp; try with_reducible rfl)
  try simp only [Act.put, List.getElem_toArray, List.getElem_cons_succ, List.getElem_cons_zero, List.setIfInBounds_toArray, List.set_cons_zero, List.set_cons_succ]
  refine wpAnyH_take (i := 9) (v := .bool true) rfl (by kernel_rfl) (by kernel_rfl) (by kernel_rfl) (fun _ _ _ h => h) (Or.inl ⟨by (first | kernel_rfl | rfl), ?hy9⟩) (by assumption) ?rest9
  case hy9 => (intro w hSw; (try dsimp only at hSw); go_simp; try with_reducible rfl)
  try simp only [Act.put, List.getElem_toArray, List.getElem_cons_succ, List.getElem_cons_zero, List.setIfInBounds_toArray, List.set_cons_zero, List.set_cons_succ]
  refine wpAnyH_take (i := 10) (v := .bool true) rfl (by kernel_rfl) (by kernel_rfl) (by kernel_rfl) (fun _ _ _ h => h) (Or.inl ⟨by (first | kernel_rfl | rfl), ?hy10⟩) (by assumption) ?rest10
  case hy10 => (intro w hSw; (try dsimp only at hSw); go_simp; try with_reducible rfl)
  try simp only [Act.put, List.getElem_toArray, List.getElem_cons_succ, List.getElem_cons_zero, List.setIfInBounds_toArray, List.set_cons_zero, List.set_cons_succ]
  refine wpAnyH_take (i := 11) (v := ?v11) rfl (by kernel_rfl) (by kernel_rfl) (by kernel_rfl) (fun _ _ _ h => h) (Or.inl ⟨by (first | kernel_rfl | rfl), ?hy11⟩) (by assumption) ?rest11
  case hy11 => (intro w hSw; (try dsimp only at hSw); go_simp; try with_reducible rfl)
  try simp only [Act.put, List.getElem_toArray, List.getElem_cons_succ, List.getElem_cons_zero, List.setIfInBounds_toArray, List.set_cons_zero, List.set_cons_succ]
  refine wpAnyH_take (i := 12) (v := ?v12) rfl (by kernel_rfl) (by kernel_rfl) (by kernel_rfl) (fun _ _ _ h => h) (Or.inl ⟨by (first | kernel_rfl | rfl), ?hy12⟩) (by assumption) ?rest12
  case hy12 => (intro w hSw; (try dsimp only at hSw); go_simp; try with_reducible rfl)
  try simp only [Act.put, List.getElem_toArray, List.getElem_cons_succ, List.getElem_cons_zero, List.setIfInBounds_toArray, List.set_cons_zero, List.set_cons_succ]
  refine wpAnyH_take (i := 13) (v := ?v13) rfl (by kernel_rfl) (by kernel_rfl) (by kernel_rfl) (fun _ _ _ h => h) (Or.inl ⟨by (first | kernel_rfl | rfl), ?hy13⟩) (by assumption) ?rest13
  case hy13 => (intro w hSw; (try dsimp only at hSw); go_simp; try with_reducible rfl)
  try simp only [Act.put, List.getElem_toArray, List.getElem_cons_succ, List.getElem_cons_zero, List.setIfInBounds_toArray, List.set_cons_zero, List.set_cons_succ]
  refine wpAnyH_take (i := 14) (v := .bool true) rfl (by kernel_rfl) (by kernel_rfl) (by kernel_rfl) (fun _ _ _ h => h) (Or.inl ⟨by (first | kernel_rfl | rfl), ?hy14⟩) (by assumption) ?rest14
  case hy14 => (intro w hSw; (try dsimp only at hSw); go_simp; try with_reducible rfl)
  try simp only [Act.put, List.getElem_toArray, List.getElem_cons_succ, List.getElem_cons_zero, List.setIfInBounds_toArray, List.set_cons_zero, List.set_cons_succ]
  refine wpAnyH_take (i := 15) (v := .bool true) rfl (by kernel_rfl) (by kernel_rfl) (by kernel_rfl) (fun _ _ _ h => h) (Or.inl ⟨by (first | kernel_rfl | rfl), ?hy15⟩) (by assumption) ?rest15
  case hy15 => (intro w hSw; (try dsimp only at hSw); go_simp; try with_reducible rfl)
  try simp only [Act.put, List.getElem_toArray, List.getElem_cons_succ, List.getElem_cons_zero, List.setIfInBounds_toArray, List.set_cons_zero, List.set_cons_succ]
  refine wpAnyH_take (i := 16) (v := ?v16) rfl (by kernel_rfl) (by kernel_rfl) (by kernel_rfl) (fun _ _ _ h => h) (Or.inl ⟨by (first | kernel_rfl | rfl), ?hy16⟩) (by assumption) ?rest16
  case hy16 => (intro w hSw; (try dsimp only at hSw); go_simp; try with_reducible rfl)
  try simp only [Act.put, List.getElem_toArray, List.getElem_cons_succ, List.getElem_cons_zero, List.setIfInBounds_toArray, List.set_cons_zero, List.set_cons_succ]
  refine wpAnyH_take (i := 17) (v := ?v17) rfl (by kernel_rfl) (by kernel_rfl) (by kernel_rfl) (fun _ _ _ h => h) (Or.inl ⟨by (first | kernel_rfl | rfl), ?hy17⟩) (by assumption) ?rest17
  case hy17 => (intro w hSw; (try dsimp only at hSw); go_simp; try with_reducible rfl)
  try simp only [Act.put, List.getElem_toArray, List.getElem_cons_succ, List.getElem_cons_zero, List.setIfInBounds_toArray, List.set_cons_zero, List.set_cons_succ]
  refine wpAnyH_take (i := 18) (v := ?v18) rfl (by kernel_rfl) (by kernel_rfl) (by kernel_rfl) (fun _ _ _ h => h) (Or.inl ⟨by (first | kernel_rfl | rfl), ?hy18⟩) (by assumption) ?rest18
  case hy18 => (intro w hSw; (try dsimp only at hSw); go_simp; try with_reducible rfl)
  try simp only [Act.put, List.getElem_toArray, List.getElem_cons_succ, List.getElem_cons_zero, List.setIfInBounds_toArray, List.set_cons_zero, List.set_cons_succ]
  refine wpAnyH_take (i := 19) (v := .bool true) rfl (by kernel_rfl) (by kernel_rfl) (by kernel_rfl) (fun _ _ _ h => h) (Or.inl ⟨by (first | kernel_rfl | rfl), ?hy19⟩) (by assumption) ?rest19
  case hy19 => (intro w hSw; (try dsimp only at hSw); go_simp; try with_reducible rfl)
  try simp only [Act.put, List.getElem_toArray, List.getElem_cons_succ, List.getElem_cons_zero, List.setIfInBounds_toArray, List.set_cons_zero, List.set_cons_succ]
  refine wpAnyH_take (i := 20) (v := .bool true) rfl (by kernel_rfl) (by kernel_rfl) (by kernel_rfl) (fun _ _ _ h => h) (Or.inl ⟨by (first | kernel_rfl | rfl), ?hy20⟩) (by assumption) ?rest20
  case hy20 => (intro w hSw; (try dsimp only at hSw); go_simp; try with_reducible rfl)
  try simp only [Act.put, List.getElem_toArray, List.getElem_cons_succ, List.getElem_cons_zero, List.setIfInBounds_toArray, List.set_cons_zero, List.set_cons_succ]
  refine wpAnyH_take (i := 21) (v := ?v21) rfl (by kernel_rfl) (by kernel_rfl) (by kernel_rfl) (fun _ _ _ h => h) (Or.inl ⟨by (first | kernel_rfl | rfl), ?hy21⟩) (by assumption) ?rest21
  case hy21 => (intro w hSw; (try dsimp only at hSw); go_simp; try with_reducible rfl)
  try simp only [Act.put, List.getElem_toArray, List.getElem_cons_succ, List.getElem_cons_zero, List.setIfInBounds_toArray, List.set_cons_zero, List.set_cons_succ]
  refine wpAnyH_take (i := 22) (v := ?v22) rfl (by kernel_rfl) (by kernel_rfl) (by kernel_rfl) (fun _ _ _ h => h) (Or.inl ⟨by (first | kernel_rfl | rfl), ?hy22⟩) (by assumption) ?rest22
  case hy22 => (intro w hSw; (try dsimp only at hSw); go_simp; try with_reducible rfl)
  try simp only [Act.put, List.getElem_toArray, List.getElem_cons_succ, List.getElem_cons_zero, List.setIfInBounds_toArray, List.set_cons_zero, List.set_cons_succ]
  refine wpAnyH_done (by kernel_rfl) ?_ _
  refine NoPanic.normal ?_
  obtain ⟨q, c, hv, hc, hr⟩ := RowArg.of_own HO2.out
  cases hv
  go_wp2
  go_ret2
  exact ⟨_, _, rfl, hc, hr, HU2.out⟩
end
end Go.Proofs.YtiibknlpeodejaaGreatDoor
