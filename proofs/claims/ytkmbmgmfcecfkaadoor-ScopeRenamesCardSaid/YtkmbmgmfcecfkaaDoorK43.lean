/- Part 43 of what the proof rests on. -/
import Derived.Test.YtkmbmgmfcecfkaaDoorRows
import Derived.Conc.Holds
import Derived.KernelRfl
import Derived.Test.YtkmbmgmfcecfkaaDoorK16
import Derived.Test.YtkmbmgmfcecfkaaDoorK41
import Derived.Test.YtkmbmgmfcecfkaaDoorK42
set_option linter.unusedSimpArgs false
set_option linter.unusedVariables false
namespace Go.Proofs.YtkmbmgmfcecfkaaDoor
open Go.Conc Go.Lx Go.RowKit
noncomputable def rnText : Code := Tryd.f3.body.getD .skip
noncomputable def rnA : Code := sndOf (sndOf (sndOf (sndOf rnText)))
def rnFrame (a b h : ByteArray) (J : Nat → Value) : Array Value := #[.string a, .string b, J 2, J 3, J 4, J 5, J 6, J 7, .string h, J 9, J 10, J 11, J 12, J 13, J 14, J 15, J 16, J 17, J 18, J 19, J 20, J 21, J 22, J 23, J 24, J 25, J 26, J 27, J 28, J 29, J 30, J 31, J 32, J 33, J 34, J 35, J 36, J 37, J 38, J 39, J 40, J 41, J 42, J 43, J 44, J 45, J 46, J 47, J 48, J 49, J 50, J 51, J 52, J 53, J 54, J 55, J 56, J 57, J 58, J 59, J 60, J 61, J 62, J 63, J 64, J 65, J 66, J 67, J 68, J 69, J 70, J 71, J 72, J 73, J 74, J 75, J 76, J 77, J 78, J 79, J 80, J 81, J 82, J 83, J 84, J 85, J 86, J 87, J 88, J 89, J 90, J 91, J 92, J 93, J 94, J 95, J 96, J 97, J 98, J 99, J 100, J 101, J 102, J 103, J 104, J 105, J 106, J 107, J 108, J 109, J 110, J 111, J 112, J 113, J 114, J 115, J 116, J 117, J 118, J 119, J 120, J 121, J 122, J 123, J 124, J 125, J 126, J 127, J 128, J 129, J 130, J 131, J 132, J 133, J 134, J 135, J 136, J 137, J 138, J 139, J 140, J 141, J 142, J 143, J 144, J 145, J 146, J 147, J 148, J 149, J 150, J 151, J 152, J 153, J 154]
theorem ren_text (h a b : ByteArray) : (⟨#[40]⟩ : ByteArray) ++ h ++ ⟨#[32]⟩ ++ a ++ ⟨#[32, 78, 97, 116, 32, 40]⟩ ++ h ++ ⟨#[32]⟩ ++ b ++ ⟨#[32, 40, 115, 117, 99, 32]⟩ ++ a ++ ⟨#[41, 32, 40, 97, 112, 112, 32]⟩ ++ a ++ ⟨#[32]⟩ ++ b ++ ⟨#[41, 41, 41]⟩ = ⟨(textX (renSX h a b)).toArray⟩ := by
  apply ByteArray.ext
  apply Array.ext'
  simp [ByteArray.data_append, renSX, textX, textXs, tailX, natW, sucW, appW]
theorem ren_len (k n i : Int) : (renTm k n i).length = 8 := rfl
section
variable {W : World}
noncomputable def rnB : Code := sndOf (sndOf rnA)
def rnFrame2 (a b : ByteArray) (q1 q2 : Option Addr) (c1 c2 : Nat) (J : Nat → Value) : Array Value := #[.string a, .string b, J 2, J 3, J 4, J 5, J 6, J 7, J 8, .slice q1 8 c1, J 10, .int .i64 0, .slice q2 8 c2, J 13, .int .i64 0, J 15, J 16, J 17, J 18, J 19, J 20, J 21, J 22, J 23, J 24, J 25, J 26, J 27, J 28, J 29, J 30, J 31, J 32, J 33, J 34, J 35, J 36, J 37, J 38, J 39, J 40, J 41, J 42, J 43, J 44, J 45, J 46, J 47, J 48, J 49, J 50, J 51, J 52, J 53, J 54, J 55, J 56, J 57, J 58, J 59, J 60, J 61, J 62, J 63, J 64, J 65, J 66, J 67, J 68, J 69, J 70, J 71, J 72, J 73, J 74, J 75, J 76, J 77, J 78, J 79, J 80, J 81, J 82, J 83, J 84, J 85, J 86, J 87, J 88, J 89, J 90, J 91, J 92, J 93, J 94, J 95, J 96, J 97, J 98, J 99, J 100, J 101, J 102, J 103, J 104, J 105, J 106, J 107, J 108, J 109, J 110, J 111, J 112, J 113, J 114, J 115, J 116, J 117, J 118, J 119, J 120, J 121, J 122, J 123, J 124, J 125, J 126, J 127, J 128, J 129, J 130, J 131, J 132, J 133, J 134, J 135, J 136, J 137, J 138, J 139, J 140, J 141, J 142, J 143, J 144, J 145, J 146, J 147, J 148, J 149, J 150, J 151, J 152, J 153, J 154]
theorem ren_node {w : World} {q : Option Addr} {c : Nat} {k n i : Int} (h : TermV w (.slice q 8 c) (renTm k n i)) : ∃ b off, q = some ⟨b, off, none⟩ ∧ b < w.heap.size ∧
    w.cell? ⟨b, off + 12, none⟩ = some (.int .i64 0) ∧ w.cell? ⟨b, off + 13, none⟩ = some (.int .i64 i) ∧ w.cell? ⟨b, off + 16, none⟩ = some (.int .i64 0) ∧ w.cell? ⟨b, off + 17, none⟩ = some (.int .i64 0) ∧ w.cell? ⟨b, off + 18, none⟩ = some (.int .i64 0) ∧ w.cell? ⟨b, off + 19, none⟩ = some (.string ⟨#[]⟩) := by
  obtain ⟨p, c', e, _, _, hr⟩ := h
  cases e
  obtain ⟨b, off, rfl, hb, d0, d1, _, _⟩ := RowArg.node hr (k := 3) (x := ⟨0, i, 0, ⟨#[]⟩⟩) rfl
  obtain ⟨b', off', e, _, e0, e1, e2, e3⟩ := RowArg.node hr (k := 4) (x := ⟨0, 0, 0, ⟨#[]⟩⟩) rfl
  cases e
  exact ⟨b, off, rfl, hb, d0, d1, e0, e1, e2, e3⟩
set_option maxRecDepth 100000 in
set_option maxHeartbeats 2000000 in
theorem rn_tail (a b : ByteArray) {kk n : Int} {q1 q2 : Option Addr} {c1 c2 : Nat} {w : World} (hU : Under W w) (h1 : TermV w (.slice q1 8 c1) (renTm kk n (if a = b then 0 else 1))) (h2 : TermV w (.slice q2 8 c2) (renTm kk n (if b = a then 0 else 1))) (J : Nat → Value) :
    rnB.wp Tryd.prog (bodyPostG Tryd.prog Tryd.f3 (TrueU W)) ⟨rnFrame2 a b q1 q2 c1 c2 J, []⟩ w := by
  have hi : (if b = a then (0 : Int) else 1) = if a = b then 0 else 1 := by
    by_cases e : a = b
    · rw [if_pos e, if_pos e.symm]
    · rw [if_neg e, if_neg fun h => e h.symm]
  rw [hi] at h2
  have HU := Lib.hid hU
  obtain ⟨b1, o1, rfl, hb1, x0, x1, y0, y1, y2, y3⟩ := ren_node h1
  have HSm := Lib.hid (fun w' (h : Under w w') => same_any (w0 := w') (renTm kk n (if a = b then 0 else 1)) (renTm kk n (if a = b then 0 else 1)) (by rw [ren_len]; decide) (TermV.mono _ _ _ _ h h1) (TermV.mono _ _ _ _ h h2))
  have HA := Lib.hid (under_alloc (Under.refl w) (.cells #[.int .i64 0, .int .i64 0, .int .i64 0, .string ⟨#[]⟩] 32))
  have HB := Lib.hid (box_new w #[.int .i64 0, .int .i64 0, .int .i64 0, .string ⟨#[]⟩] 32)
  generalize hQ : bodyPostG Tryd.prog Tryd.f3 (TrueU W) = Q
  have HQ := Lib.hid hQ
  clear hi h1 h2 hU hQ
  unfold rnB rnA rnText
  simp only [Tryd.f3, Option.getD_some, sndOf]
  unfold rnFrame2
  by_cases e : a = b
  · subst e
    go_wp2_with fail
    refine (HSm.out _ HA.out).mono ?_
    rintro e w2 ⟨rfl, hU2⟩
    rw [same_refl]
    have HZ := Lib.hid (HB.out.under hU2)
    have z1 : w2.cell? ⟨w.heap.size, 1, none⟩ = some (.int .i64 0) := HZ.out.cell 1
    have zl := HZ.out.lt
    have HU2 := Lib.hid (HU.out.trans (HA.out.trans hU2))
    clear hU2 HSm x0 x1 y0 y1 y2 y3
    go_wp2
    rw [← HQ.out]
    exact bodyG_tmp rfl rfl ⟨rfl, HU2.out⟩
  · have he : (a.toList == b.toList) = false := by
      rw [ByteArray.toList_eq, ByteArray.toList_eq]
      simp only [beq_eq_false_iff_ne, ne_eq]
      intro h
      exact e (ByteArray.ext (Array.ext' h))
    rw [if_neg e] at x1 HSm
    clear e
    go_wp2_with fail
    refine (HSm.out _ HA.out).mono ?_
    rintro e w2 ⟨rfl, hU2⟩
    rw [same_refl]
    have HZ := Lib.hid (HB.out.under hU2)
    have z1 : w2.cell? ⟨w.heap.size, 1, none⟩ = some (.int .i64 0) := HZ.out.cell 1
    have zl := HZ.out.lt
    have x0 := (under_cell (HA.out.trans hU2) hb1 _).trans x0
    have x1 := (under_cell (HA.out.trans hU2) hb1 _).trans x1
    have hb2 := Nat.lt_of_lt_of_le hb1 (HA.out.trans hU2).size
    have HU2 := Lib.hid (HU.out.trans (HA.out.trans hU2))
    clear hU2 HSm y0 y1 y2 y3
    go_wp2
    rw [← HQ.out]
    exact bodyG_tmp rfl rfl ⟨rfl, HU2.out⟩
set_option maxRecDepth 100000 in
set_option maxHeartbeats 2000000 in
theorem rn_rest (a b h : ByteArray) {kk n : Int} (hh : (h.data.toList, kk, n) ∈ headR) (ha : nameK a = true) (hb : nameK b = true) (w : World) (hU : Under W w) (hE : StrcAt W) (hS : ShapesAt 0 W) (J : Nat → Value) :
    rnA.wpG Tryd.prog (bodyPostG Tryd.prog Tryd.f3 (TrueU W)) ⟨rnFrame a b h J, []⟩ w := by
  have hX := ren_read (a := a) (b := b) hh ha hb w (hE.under hU) (hS.under hU)
  have hs1 : a.size ≤ 16 := nameK_size ha
  have hs2 : b.size ≤ 16 := nameK_size hb
  have hs3 := (head_okX hh).2
  unfold rnA rnText
  simp only [Tryd.f3, Option.getD_some, sndOf]
  unfold rnFrame
  refine wpG_seq tame ?_
  refine wpG_split tame 22 (by decide) fun τ d => ?_
  simp only [List.take_succ_cons, List.take_zero]
  go_wp2
  refine opsG_re ?_ τ d
  refine opsG_call (i := 22) (rest := List.range' 23 7) tame rfl (by rfl) (run_call_fn (vs := #[.agg #[.slice none 0 0, .slice none 0 0], .string ⟨(textX (renSX h a b)).toArray⟩]) rfl Tryd.func8 (by kernel_rfl) rfl (by simp [Act.eval]; exact ren_text h a b)) hX ?_
  rintro v w1 ⟨hU1, u, rfl, hT⟩
  have HT1 := Lib.hid hT
  obtain ⟨q1, c1, rfl, _⟩ := hT
  rw [ren_len]
  have HU1 := Lib.hid (hU.trans hU1)
  have hY := ren_read (a := b) (b := a) hh hb ha w1 (hE.under HU1.out) (hS.under HU1.out)
  clear hX hU1
  refine opsG_split tame 23 7 0 (by decide) fun τ d => ?_
  simp only [List.drop_succ_cons, List.drop_zero, List.take_succ_cons, List.take_zero]
  walk_nrm
  go_wp2
  refine opsG_nil tame ?_
  simp only [Exit.then]
  refine wpG_re ?_ τ d
  refine wpG_seq tame ?_
  refine wpG_split tame 22 (by decide) fun τ d => ?_
  simp only [List.take_succ_cons, List.take_zero]
  go_wp2
  refine opsG_re ?_ τ d
  refine opsG_call (i := 22) (rest := List.range' 23 7) tame rfl (by rfl) (run_call_fn (vs := #[.agg #[.slice none 0 0, .slice none 0 0], .string ⟨(textX (renSX h b a)).toArray⟩]) rfl Tryd.func8 (by kernel_rfl) rfl (by simp [Act.eval]; exact ren_text h b a)) hY ?_
  rintro v w2 ⟨hU1, u, rfl, hT⟩
  have HT2 := Lib.hid hT
  obtain ⟨q2, c2, rfl, _⟩ := hT
  rw [ren_len]
  have HU2 := Lib.hid (HU1.out.trans hU1)
  have HT1 := Lib.hid (TermV.mono _ _ _ _ hU1 HT1.out)
  clear hY hU1
  refine opsG_split tame 23 7 0 (by decide) fun τ d => ?_
  simp only [List.drop_succ_cons, List.drop_zero, List.take_succ_cons, List.take_zero]
  walk_nrm
  go_wp2
  refine opsG_nil tame ?_
  simp only [Exit.then]
  refine wpG_re ?_ τ d
  exact wpG_fr (F := rnFrame2 a b q1 q2 c1 c2) (by rfl) fun J => wpG_lone tame fun τ d => rn_tail a b (HU2.out.re τ d) (termV_re HT1.out τ d) (termV_re HT2.out τ d) J
end
end Go.Proofs.YtkmbmgmfcecfkaaDoor
namespace Go.Proofs.YtkmbmgmfcecfkaaDoor
open Go.Conc Go.Lx Go.RowKit
section
variable {W : World}
theorem head_pick (m : Nat) (hm : m < 4) : ∃ h k n, ([⟨#[108, 97, 109]⟩, ⟨#[112, 105]⟩, ⟨#[112, 105, 51]⟩, ⟨#[115, 105, 103, 50]⟩] : List ByteArray)[m]? = some h ∧ (h.data.toList, k, n) ∈ headR := by
  match m, hm with
  | 0, _ => exact ⟨_, 4, 0, rfl, by decide⟩
  | 1, _ => exact ⟨_, 3, 0, rfl, by decide⟩
  | 2, _ => exact ⟨_, 3, 3, rfl, by decide⟩
  | 3, _ => exact ⟨_, 6, 2, rfl, by decide⟩
set_option maxRecDepth 100000 in
set_option maxHeartbeats 4000000 in
theorem renames_all (a b : ByteArray) (kind : Int) (hk0 : 0 ≤ kind) (hk1 : kind ≤ 255) (W : World) (hE : StrcAt W) (hS : ShapesAt 0 W) :
    CallsG Tryd.prog 3 #[.string a, .string b, .int .u8 kind] W (TrueU W) := by
  refine callsG_of_wpG tame Tryd.func3 rfl ?_ TrueU.re
  simp only [Tryd.ntmps3, List.size_toArray, List.length_cons, List.length_nil, Nat.reduceAdd, Nat.reduceSub, Array.replicate_succ, Array.replicate_zero, List.push_toArray, List.append_toArray, List.nil_append, List.cons_append]
  refine wpG_seq tame (wpG_lone tame fun τ d => ?_)
  go_wp2
  refine wpG_re ?_ τ d
  refine wpG_seq tame (wpG_seq tame (wpG_region tame ?_))
  refine opsG_call (i := 0) (rest := List.range' 1 29) tame rfl (by rfl) (run_call_fn (vs := #[]) rfl Tryd.func5 (by kernel_rfl) rfl (by simp)) (shown8_calls W hE hS) ?_
  rintro v w1 ⟨rfl, hU1⟩
  refine opsG_split tame 1 29 0 (by decide) fun τ d => ?_
  simp only [List.drop_succ_cons, List.drop_zero, List.take_succ_cons, List.take_zero]
  walk_nrm
  have HW := Lib.hid (hU1.re τ d)
  generalize re w1 τ d = w2 at *
  clear hU1
  by_cases h1 : (20 : Int) < a.size
  · go_wp2
    refine opsG_nil tame ?_
    simp only [Exit.then]
    refine wpG_cond tame (t := true) rfl ?_
    simp only [if_true]
    refine wpG_seq tame (wpG_region tame ?_)
    refine opsG_call (i := 0) (rest := List.range' 1 1) tame rfl (by rfl) (run_call_fn (vs := #[]) rfl Tryd.func5 (by kernel_rfl) rfl (by simp)) (shown8_calls _ (hE.under HW.out) (hS.under HW.out)) ?_
    rintro v w9 ⟨rfl, hU9⟩
    refine opsG_split tame 1 1 0 (by decide) fun τ d => ?_
    simp only [List.drop_succ_cons, List.drop_zero, List.take_succ_cons, List.take_zero]
    walk_nrm
    go_wp2
    refine opsG_nil tame ?_
    simp only [Exit.then]
    refine wpG_lone tame fun τ d => ?_
    go_wp2
    exact bodyG_tmp rfl rfl ⟨rfl, (HW.out.trans hU9).re _ _⟩
  by_cases h2 : (20 : Int) < b.size
  · go_wp2
    refine opsG_nil tame ?_
    simp only [Exit.then]
    refine wpG_cond tame (t := true) rfl ?_
    simp only [if_true]
    refine wpG_seq tame (wpG_region tame ?_)
    refine opsG_call (i := 0) (rest := List.range' 1 1) tame rfl (by rfl) (run_call_fn (vs := #[]) rfl Tryd.func5 (by kernel_rfl) rfl (by simp)) (shown8_calls _ (hE.under HW.out) (hS.under HW.out)) ?_
    rintro v w9 ⟨rfl, hU9⟩
    refine opsG_split tame 1 1 0 (by decide) fun τ d => ?_
    simp only [List.drop_succ_cons, List.drop_zero, List.take_succ_cons, List.take_zero]
    walk_nrm
    go_wp2
    refine opsG_nil tame ?_
    simp only [Exit.then]
    refine wpG_lone tame fun τ d => ?_
    go_wp2
    exact bodyG_tmp rfl rfl ⟨rfl, (HW.out.trans hU9).re _ _⟩
  cases h3 : nameB a
  · go_wp2_with fail
    refine (rname_any a).mono ?_
    rintro e wx ⟨rfl, hwx⟩
    subst wx
    rw [h3]
    go_wp2
    refine opsG_nil tame ?_
    simp only [Exit.then]
    refine wpG_cond tame (t := true) rfl ?_
    simp only [if_true]
    refine wpG_seq tame (wpG_region tame ?_)
    refine opsG_call (i := 0) (rest := List.range' 1 1) tame rfl (by rfl) (run_call_fn (vs := #[]) rfl Tryd.func5 (by kernel_rfl) rfl (by simp)) (shown8_calls _ (hE.under HW.out) (hS.under HW.out)) ?_
    rintro v w9 ⟨rfl, hU9⟩
    refine opsG_split tame 1 1 0 (by decide) fun τ d => ?_
    simp only [List.drop_succ_cons, List.drop_zero, List.take_succ_cons, List.take_zero]
    walk_nrm
    go_wp2
    refine opsG_nil tame ?_
    simp only [Exit.then]
    refine wpG_lone tame fun τ d => ?_
    go_wp2
    exact bodyG_tmp rfl rfl ⟨rfl, (HW.out.trans hU9).re _ _⟩
  cases h4 : nameB b
  · go_wp2_with fail
    refine (rname_any a).mono ?_
    rintro e wx ⟨rfl, hwx⟩
    subst wx
    rw [h3]
    go_wp2_with fail
    refine (rname_any b).mono ?_
    rintro e wx ⟨rfl, hwx⟩
    subst wx
    rw [h4]
    go_wp2
    refine opsG_nil tame ?_
    simp only [Exit.then]
    refine wpG_cond tame (t := true) rfl ?_
    simp only [if_true]
    refine wpG_seq tame (wpG_region tame ?_)
    refine opsG_call (i := 0) (rest := List.range' 1 1) tame rfl (by rfl) (run_call_fn (vs := #[]) rfl Tryd.func5 (by kernel_rfl) rfl (by simp)) (shown8_calls _ (hE.under HW.out) (hS.under HW.out)) ?_
    rintro v w9 ⟨rfl, hU9⟩
    refine opsG_split tame 1 1 0 (by decide) fun τ d => ?_
    simp only [List.drop_succ_cons, List.drop_zero, List.take_succ_cons, List.take_zero]
    walk_nrm
    go_wp2
    refine opsG_nil tame ?_
    simp only [Exit.then]
    refine wpG_lone tame fun τ d => ?_
    go_wp2
    exact bodyG_tmp rfl rfl ⟨rfl, (HW.out.trans hU9).re _ _⟩
  cases h5 : kwB a
  rotate_left
  · go_wp2_with fail
    refine (rname_any a).mono ?_
    rintro e wx ⟨rfl, hwx⟩
    subst wx
    rw [h3]
    go_wp2_with fail
    refine (rname_any b).mono ?_
    rintro e wx ⟨rfl, hwx⟩
    subst wx
    rw [h4]
    go_wp2_with fail
    refine (Keyword_any (w0 := w2) a).mono ?_
    rintro e w3 ⟨rfl, hUk⟩
    rw [h5]
    have HW := Lib.hid (HW.out.trans hUk)
    clear hUk
    go_wp2
    refine opsG_nil tame ?_
    simp only [Exit.then]
    refine wpG_cond tame (t := true) rfl ?_
    simp only [if_true]
    refine wpG_seq tame (wpG_region tame ?_)
    refine opsG_call (i := 0) (rest := List.range' 1 1) tame rfl (by rfl) (run_call_fn (vs := #[]) rfl Tryd.func5 (by kernel_rfl) rfl (by simp)) (shown8_calls _ (hE.under HW.out) (hS.under HW.out)) ?_
    rintro v w9 ⟨rfl, hU9⟩
    refine opsG_split tame 1 1 0 (by decide) fun τ d => ?_
    simp only [List.drop_succ_cons, List.drop_zero, List.take_succ_cons, List.take_zero]
    walk_nrm
    go_wp2
    refine opsG_nil tame ?_
    simp only [Exit.then]
    refine wpG_lone tame fun τ d => ?_
    go_wp2
    exact bodyG_tmp rfl rfl ⟨rfl, (HW.out.trans hU9).re _ _⟩
  cases h6 : kwB b
  rotate_left
  · go_wp2_with fail
    refine (rname_any a).mono ?_
    rintro e wx ⟨rfl, hwx⟩
    subst wx
    rw [h3]
    go_wp2_with fail
    refine (rname_any b).mono ?_
    rintro e wx ⟨rfl, hwx⟩
    subst wx
    rw [h4]
    go_wp2_with fail
    refine (Keyword_any (w0 := w2) a).mono ?_
    rintro e w3 ⟨rfl, hUk⟩
    rw [h5]
    have HW := Lib.hid (HW.out.trans hUk)
    clear hUk
    go_wp2_with fail
    refine (Keyword_any (w0 := w3) b).mono ?_
    rintro e w4 ⟨rfl, hUk⟩
    rw [h6]
    have HW := Lib.hid (HW.out.trans hUk)
    clear hUk
    go_wp2
    refine opsG_nil tame ?_
    simp only [Exit.then]
    refine wpG_cond tame (t := true) rfl ?_
    simp only [if_true]
    refine wpG_seq tame (wpG_region tame ?_)
    refine opsG_call (i := 0) (rest := List.range' 1 1) tame rfl (by rfl) (run_call_fn (vs := #[]) rfl Tryd.func5 (by kernel_rfl) rfl (by simp)) (shown8_calls _ (hE.under HW.out) (hS.under HW.out)) ?_
    rintro v w9 ⟨rfl, hU9⟩
    refine opsG_split tame 1 1 0 (by decide) fun τ d => ?_
    simp only [List.drop_succ_cons, List.drop_zero, List.take_succ_cons, List.take_zero]
    walk_nrm
    go_wp2
    refine opsG_nil tame ?_
    simp only [Exit.then]
    refine wpG_lone tame fun τ d => ?_
    go_wp2
    exact bodyG_tmp rfl rfl ⟨rfl, (HW.out.trans hU9).re _ _⟩
  have ka : nameK a = true := by unfold nameK; rw [h3, ← kw_eq, h5]; rfl
  have kb : nameK b = true := by unfold nameK; rw [h4, ← kw_eq, h6]; rfl
  go_wp2_with fail
  refine (rname_any a).mono ?_
  rintro e wx ⟨rfl, hwx⟩
  subst wx
  rw [h3]
  go_wp2_with fail
  refine (rname_any b).mono ?_
  rintro e wx ⟨rfl, hwx⟩
  subst wx
  rw [h4]
  go_wp2_with fail
  refine (Keyword_any (w0 := w2) a).mono ?_
  rintro e w3 ⟨rfl, hUk⟩
  rw [h5]
  have HW := Lib.hid (HW.out.trans hUk)
  clear hUk
  go_wp2_with fail
  refine (Keyword_any (w0 := w3) b).mono ?_
  rintro e w4 ⟨rfl, hUk⟩
  rw [h6]
  have HW := Lib.hid (HW.out.trans hUk)
  clear hUk
  go_wp2
  refine opsG_nil tame ?_
  simp only [Exit.then]
  refine wpG_cond tame (t := false) rfl ?_
  simp only [Bool.false_eq_true, if_false]
  refine wpG_lone tame fun τ d => ?_
  go_wp2
  refine wpG_re ?_ τ d
  refine wpG_seq tame (wpG_lone tame fun τ d => ?_)
  go_wp2
  have HU5 := Lib.hid (under_alloc (HW.out.re τ d) (.cells #[.string ⟨#[108, 97, 109]⟩, .string ⟨#[112, 105]⟩, .string ⟨#[112, 105, 51]⟩, .string ⟨#[115, 105, 103, 50]⟩] 9))
  have HB5 := Lib.hid (box_new (re w4 τ d) #[.string ⟨#[108, 97, 109]⟩, .string ⟨#[112, 105]⟩, .string ⟨#[112, 105, 51]⟩, .string ⟨#[115, 105, 103, 50]⟩] 9)
  generalize (re w4 τ d).alloc (.cells #[.string ⟨#[108, 97, 109]⟩, .string ⟨#[112, 105]⟩, .string ⟨#[112, 105, 51]⟩, .string ⟨#[115, 105, 103, 50]⟩] 9) = w5 at *
  generalize (re w4 τ d).heap.size = hb at *
  have hmod0 : 0 ≤ kind % 4 := Int.emod_nonneg _ (by omega)
  have hmod1 : kind % 4 < 4 := Int.emod_lt_of_pos _ (by omega)
  obtain ⟨m, hm⟩ : ∃ m : Nat, kind % 4 = m := ⟨_, (Int.toNat_of_nonneg hmod0).symm⟩
  have hm4 : m < 4 := by omega
  obtain ⟨h, kk, n, hp, hh⟩ := head_pick m hm4
  have hc0 : w5.cell? ⟨hb, m, none⟩ = some (.string h) := by
    rw [HB5.out.cell m]
    match m, hm4, hp with
    | 0, _, hp => cases hp; rfl
    | 1, _, hp => cases hp; rfl
    | 2, _, hp => cases hp; rfl
    | 3, _, hp => cases hp; rfl
  have hl0 := HB5.out.lt
  clear hp hmod0 hmod1 h1 h2 h3 h4 h5 h6
  refine wpG_seq tame (wpG_lone tame fun τ d => ?_)
  have hc : (re w5 τ d).cell? ⟨hb, m, none⟩ = some (.string h) := hc0
  have hl : hb < (re w5 τ d).heap.size := hl0
  have hm5 : (m : Int) < 4 := by omega
  have hm6 : (0 : Int) ≤ (m : Int) := by omega
  go_wp2
  exact wpG_fr (F := rnFrame a b h) (by rfl) fun J => rn_rest a b h hh ka kb _ (HU5.out.re τ d) hE hS J
end
end Go.Proofs.YtkmbmgmfcecfkaaDoor
namespace Go.Proofs.YtkmbmgmfcecfkaaDoor
open Go
theorem faScopeRenames : mapsRowed Tryd.pinned.checked.prog = true := by kernel_rfl
theorem fbScopeRenames : (Rows.scopeRenamesRow.inPlace == Tryd.pinned.checked.prog.inPlace 3) = true := by kernel_rfl
theorem fcScopeRenames : (Rows.scopeRenamesRow.unfollowed == Tryd.pinned.checked.prog.unfollowed 3) = true := by kernel_rfl
theorem fdScopeRenames : (Rows.scopeRenamesRow.recurses == Tryd.pinned.checked.prog.recurses 3) = true := by kernel_rfl
theorem feScopeRenames : (Rows.scopeRenamesRow.named == Tryd.pinned.checked.prog.varsNamed 3) = true := by kernel_rfl
theorem factsScopeRenames : joinedFacts Tryd.pinned.checked.prog 3 Tryd.f3 Rows.scopeRenamesSpec Rows.scopeRenamesRow = true := by
  unfold joinedFacts
  rw [faScopeRenames, fbScopeRenames, fcScopeRenames, fdScopeRenames, feScopeRenames]
  kernel_rfl
end Go.Proofs.YtkmbmgmfcecfkaaDoor
namespace Go.Proofs.YtkmbmgmfcecfkaaDoor
open Go.ChangeShapes Go.WideShapes Go.ChangeAt Go.WideMaps Go.WideElems Go.RowKit Go.Lx Go.Deep Go.Conc
set_option maxRecDepth 100000 in
theorem liftedScopeRenames (os : Os) (started : os.Started) (H : Type) (enc : TypeId × Value → H) :
    ReturnsInLeavingWide {} Tryd.checked os 3 .any (fun w args => (Rows.scopeRenamesSpec.pre enc Tryd.prog Tryd.f3 [] false w args ∧ laidMetH Tryd.prog laidL w) ∧ sizedMet enc Tryd.prog Tryd.f3 (OpenSpec.ofChange Rows.scopeRenamesSpec) false w args)
      (Rows.scopeRenamesSpec.post enc Tryd.prog Tryd.f3 false true false false) := by
  refine leavingWide_and (C := Tryd.checked) (X := fun w _ => laidMetH Tryd.prog laidL w) (fun _ _ _ hh h => h.of_heap hh) Tryd.own started Tryd.func3
    (ChangeSpec.witness_shaped (enc := enc) (C := Tryd.checked) (os := os) (X := fun w _ => laidMetH Tryd.prog laidL w) false (World.doorLaid Tryd.prog 400 os) #[.string ⟨#[]⟩, .string ⟨#[]⟩, .int .u8 0] 8 rfl (World.shaped_of_RefB (by kernel_rfl) (by kernel_rfl)) (by kernel_rfl) (by kernel_rfl) (by kernel_rfl) (door_met os _)) ?_
  intro W base args ds gs before hval0 hW _ _ hL _
  have hval : ∀ (j : Nat) t v, Tryd.f3.params[j]? = some t → args[j]? = some v → Value.okWide Tryd.prog W .any base t v := hval0
  have hW' := hW
  obtain ⟨p, q, hA0, hV, rfl, _, _⟩ := hW
  have hA : DataW.TrodAll enc Tryd.prog W 0 (fun _ => true) true Tryd.f3.params.toList args.toList ds p := hA0
  rw [Tryd.params3] at hA hval
  have hlt := hA.lt
  obtain ⟨v0, v1, v2, d0, d1, d2, p0, p1, p2, rfl, rfl, rfl, h0, h1, h2⟩ := trodAll_three hA
  obtain ⟨rfl, rfl⟩ := trodVars_none hV
  obtain ⟨l0, rfl⟩ := okWide_string Tryd.underlying9 (hval 0 9 v0 rfl rfl)
  obtain ⟨l1, rfl⟩ := okWide_string Tryd.underlying9 (hval 1 9 v1 rfl rfl)
  have g2 := h2
  obtain ⟨z2, rfl⟩ := okWide_int Tryd.underlying5 (hval 2 5 v2 rfl rfl)
  obtain ⟨fuel2, hf2⟩ := g2
  obtain ⟨y2, hy2, _, hwf2⟩ := DataW.trod_int Tryd.underlying5 hf2
  simp only [Value.cells, List.cons.injEq, and_true, Value.int.injEq, true_and] at hy2
  obtain rfl := hy2
  simp only [Lit.wf, Bool.and_eq_true, decide_eq_true_eq] at hwf2
  have hB := of_laid hL
  refine good_of_callsG (P := Tryd.prog) Tryd.func3 rfl rfl (by kernel_rfl) ((renames_all l0 l1 z2 hwf2.1 hwf2.2 W hB.1 hB.2).mono ?_)
  rintro v w ⟨rfl, hU⟩ τ d
  refine ChangeSpec.post_alike (W'' := re w W.tape d) ?_ ⟨rfl, rfl, rfl⟩
  have hb := below_ofS hU d
  refine ⟨_, _, _, [], p0 ++ (p1 ++ p2), [], hW', ?_, ?_, rfl, hb.frame _, fun h => by cases h⟩
  · exact trodAll_mk1 (shut_boolS true)
  · exact trodAll_mk3 (staysS (by kernel_rfl) (by decide +kernel) hU d (fun x hx => hlt x (by simp [hx])) h0) (staysS (by kernel_rfl) (by decide +kernel) hU d (fun x hx => hlt x (by simp [hx])) h1) (staysS (by kernel_rfl) (by decide +kernel) hU d (fun x hx => hlt x (by simp [hx])) h2)
theorem scopeRenames_holds : Rows.ScopeRenamesSaid :=
  OpenClaim.holds_of_wide_leaving 3 Tryd.f3 rfl rfl rfl rfl rfl rfl rfl ⟨rfl, rfl, rfl, rfl, rfl⟩ rfl rfl rfl rfl rfl (by kernel_rfl) Tryd.func3 factsScopeRenames
    (of_decide_eq_true (by kernel_rfl)) (by unfold Func.isWrapper; first | (rw [if_pos (by decide +kernel)]; kernel_rfl) | (rw [if_neg (by decide +kernel)]; exact ⟨rfl, rfl⟩))
    (fun os started H enc _ => liftedScopeRenames os started H enc)
end Go.Proofs.YtkmbmgmfcecfkaaDoor
