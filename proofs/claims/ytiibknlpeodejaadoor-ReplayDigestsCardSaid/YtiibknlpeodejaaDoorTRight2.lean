/- term.right, walked. -/
import Derived.Test.YtiibknlpeodejaaDoorTRight
import Derived.Deep.QuietTactic
set_option linter.unusedSimpArgs false
set_option linter.unusedVariables false
namespace Go.Proofs.YtiibknlpeodejaaDoor
open Go.Lx Go.RowKit

theorem combos (k : Nat) : (fN k = true ∧ fM k = false ∧ fS k = false ∧ (k = 0 ∨ k = 2 ∨ k = 3 ∨ k = 6)) ∨ (fN k = false ∧ fM k = false ∧ fS k = true ∧ (k = 1 ∨ k = 25)) ∨ (fN k = true ∧ fM k = true ∧ fS k = true ∧ k = 26) ∨ (fN k = false ∧ fM k = true ∧ fS k = true ∧ k = 27) ∨
    (fN k = false ∧ fM k = false ∧ fS k = false ∧ k ≠ 2 ∧ k ≠ 26 ∧ k ≠ 27) := by
  simp only [fN, fM, fS, List.contains_iff_mem, Bool.eq_false_iff, ne_eq, List.mem_cons, List.not_mem_nil, or_false]
  omega
theorem isEmpty_size (s : ByteArray) : s.toList.isEmpty = decide (s.size = 0) := by
  rw [ByteArray.toList_eq, ← ByteArray.size_data]
  cases h : s.data.toList with
  | nil => simp [← Array.length_toList, h]
  | cons a b => simp [← Array.length_toList, h]
/-- What is asked of the fields, where the kind has been found. -/
structure RightAt (k n m : Int) (s : ByteArray) (w : World) (a b c : Bool) : Prop where
  k0 : 0 ≤ k
  k1 : k < 30
  hs : s.size ≤ maxLen
  lt : 1 < w.heap.size
  row : ∃ p q, w.cell? ⟨1, k.toNat * 4, none⟩ = some (.slice p (bindsOf k.toNat).length q)
  c1 : w.cell? ⟨1, k.toNat * 4 + 1, none⟩ = some (.bool a)
  c2 : w.cell? ⟨1, k.toNat * 4 + 2, none⟩ = some (.bool b)
  c3 : w.cell? ⟨1, k.toNat * 4 + 3, none⟩ = some (.bool c)
  e1 : fN k.toNat = a
  e2 : fM k.toNat = b
  e3 : fS k.toNat = c
theorem RightAt.val {k n m : Int} {s : ByteArray} {w : World} {a b c : Bool} (H : RightAt k n m s w a b c) : rightB ⟨k, n, m, s⟩ =
    if (!a && (n != 0)) = true then false else if (!b && (m != 0)) = true then false else if (!c && !s.toList.isEmpty) = true then false else if (c && !nameB s) = true then false
    else if (k == 2) = true then decide (0 ≤ n) && decide (n ≤ 9) else if (k == 26) = true then decide (0 ≤ n) && decide (n ≤ 5) && decide (0 ≤ m) && decide (m ≤ 6) else if (k == 27) = true then decide (0 ≤ m) && decide (m ≤ 6) else !a || (decide (0 ≤ n) && decide (n ≤ mostN k)) := by
  have e1 := H.e1; have e2 := H.e2; have e3 := H.e3
  have h0 := H.k0; have h1 := H.k1
  unfold rightB
  simp only
  rw [if_neg (by omega), e1, e2, e3, isEmpty_size]
  cases a <;> cases b <;> cases c <;> simp
theorem most26 (k : Int) (h : (k == 26) = true) (w : World) : Calls Tryd.prog 56 #[.int .i64 k] w fun e w' => e = .returned (.int .i64 5) ∧ w = w' := by
  have : mostN k = 5 := by simp at h; subst h; rfl
  have hc := most_any k w
  rw [this] at hc
  exact hc
section
variable {k n m : Int} {s : ByteArray} {w : World}
set_option maxRecDepth 100000 in
set_option maxHeartbeats 4000000 in
theorem right_TFF (H : RightAt k n m s w true false false) (h26 : (k == 26) = false) (h27 : (k == 27) = false) : Calls Tryd.prog 52 #[ndV ⟨k, n, m, s⟩] w fun e w' => e = .returned (.bool (rightB ⟨k, n, m, s⟩)) ∧ Under w w' := by
  have HV := Lib.hid H.val
  obtain ⟨hk0, hk1, hs, hb, ⟨p, q, c0⟩, c1, c2, c3, e1, e2, e3⟩ := H
  clear e1 e2 e3
  unfold ndV
  cases hm : (m != 0)
  · cases he : s.toList.isEmpty
    · rw [show rightB ⟨k, n, m, s⟩ = false from HV.out.trans (by simp [*])]
      clear HV
      go_enter Tryd.func52, Tryd.ntmps52
      go_wp2
      go_ret
      exact ⟨rfl, (by first | exact under_alloc (under_alloc (Under.refl _) _) _ | exact under_alloc (under_alloc (under_alloc (Under.refl _) _) _) _ | exact under_drewN (under_alloc (under_alloc (Under.refl _) _) _) _)⟩
    · cases h2 : (k == 2)
      · cases hn : decide (0 ≤ n)
        · rw [show rightB ⟨k, n, m, s⟩ = false from HV.out.trans (by simp [*])]
          clear HV
          go_enter Tryd.func52, Tryd.ntmps52
          go_wp2
          go_quiet ((go_at_call 56; exact Calls.quiet_of_same ((most_any _ _).mono fun _ _ h => ⟨h.1, h.2.symm⟩)))
          go_wp2
          go_ret
          exact ⟨rfl, under_drewN (under_alloc (under_alloc (Under.refl _) _) _) _⟩
        · rw [show rightB ⟨k, n, m, s⟩ = decide (n ≤ mostN k) from HV.out.trans (by simp [*])]
          clear HV
          go_enter Tryd.func52, Tryd.ntmps52
          go_wp2
          go_quiet ((go_at_call 56; exact Calls.quiet_of_same ((most_any _ _).mono fun _ _ h => ⟨h.1, h.2.symm⟩)))
          go_wp2
          go_ret
          exact ⟨rfl, under_drewN (under_alloc (under_alloc (Under.refl _) _) _) _⟩
      · rw [show rightB ⟨k, n, m, s⟩ = (decide (0 ≤ n) && decide (n ≤ 9)) from HV.out.trans (by simp [*])]
        clear HV
        go_enter Tryd.func52, Tryd.ntmps52
        go_wp2_with fail
        refine (levelCheck_any n _).mono ?_
        rintro e w' ⟨rfl, hU⟩
        have HU := Lib.hid hU
        clear hU
        unfold levelE lvlB
        go_wp2
        all_goals
          go_ret
          exact ⟨ret_bool (by simp [*] <;> omega), (under_alloc (under_alloc (Under.refl _) _) _).trans HU.out⟩
  · rw [show rightB ⟨k, n, m, s⟩ = false from HV.out.trans (by simp [*])]
    clear HV
    go_enter Tryd.func52, Tryd.ntmps52
    go_wp2
    go_ret
    exact ⟨rfl, (by first | exact under_alloc (under_alloc (Under.refl _) _) _ | exact under_alloc (under_alloc (under_alloc (Under.refl _) _) _) _ | exact under_drewN (under_alloc (under_alloc (Under.refl _) _) _) _)⟩
set_option maxRecDepth 100000 in
set_option maxHeartbeats 4000000 in
theorem right_FFT (H : RightAt k n m s w false false true) (h2 : (k == 2) = false) (h26 : (k == 26) = false) (h27 : (k == 27) = false) : Calls Tryd.prog 52 #[ndV ⟨k, n, m, s⟩] w fun e w' => e = .returned (.bool (rightB ⟨k, n, m, s⟩)) ∧ Under w w' := by
  have HV := Lib.hid H.val
  obtain ⟨hk0, hk1, hs, hb, ⟨p, q, c0⟩, c1, c2, c3, e1, e2, e3⟩ := H
  clear e1 e2 e3
  unfold ndV
  cases hn : (n != 0)
  · cases hm : (m != 0)
    · cases hnm : nameB s
      · rw [show rightB ⟨k, n, m, s⟩ = false from HV.out.trans (by simp [*])]
        clear HV
        go_enter Tryd.func52, Tryd.ntmps52
        go_wp2_with (go_at_call 35; refine (name_any s _ hs).mono ?_; rintro e w' ⟨rfl, rfl⟩; try rw [hnm])
        go_ret
        exact ⟨rfl, (by first | exact under_alloc (under_alloc (Under.refl _) _) _ | exact under_alloc (under_alloc (under_alloc (Under.refl _) _) _) _ | exact under_drewN (under_alloc (under_alloc (Under.refl _) _) _) _)⟩
      · rw [show rightB ⟨k, n, m, s⟩ = true from HV.out.trans (by simp [*])]
        clear HV
        go_enter Tryd.func52, Tryd.ntmps52
        go_wp2_with (go_at_call 35; refine (name_any s _ hs).mono ?_; rintro e w' ⟨rfl, rfl⟩; try rw [hnm])
        go_quiet (fail)
        go_wp2
        go_ret
        exact ⟨rfl, (by first | exact under_alloc (under_alloc (Under.refl _) _) _ | exact under_alloc (under_alloc (under_alloc (Under.refl _) _) _) _ | exact under_drewN (under_alloc (under_alloc (Under.refl _) _) _) _)⟩
    · rw [show rightB ⟨k, n, m, s⟩ = false from HV.out.trans (by simp [*])]
      clear HV
      go_enter Tryd.func52, Tryd.ntmps52
      go_wp2
      go_ret
      exact ⟨rfl, (by first | exact under_alloc (under_alloc (Under.refl _) _) _ | exact under_alloc (under_alloc (under_alloc (Under.refl _) _) _) _ | exact under_drewN (under_alloc (under_alloc (Under.refl _) _) _) _)⟩
  · rw [show rightB ⟨k, n, m, s⟩ = false from HV.out.trans (by simp [*])]
    clear HV
    go_enter Tryd.func52, Tryd.ntmps52
    go_wp2
    go_ret
    exact ⟨rfl, (by first | exact under_alloc (under_alloc (Under.refl _) _) _ | exact under_alloc (under_alloc (under_alloc (Under.refl _) _) _) _ | exact under_drewN (under_alloc (under_alloc (Under.refl _) _) _) _)⟩
set_option maxRecDepth 100000 in
set_option maxHeartbeats 4000000 in
theorem right_TTT (H : RightAt k n m s w true true true) (h2 : (k == 2) = false) (h26 : (k == 26) = true) : Calls Tryd.prog 52 #[ndV ⟨k, n, m, s⟩] w fun e w' => e = .returned (.bool (rightB ⟨k, n, m, s⟩)) ∧ Under w w' := by
  have HV := Lib.hid H.val
  obtain ⟨hk0, hk1, hs, hb, ⟨p, q, c0⟩, c1, c2, c3, e1, e2, e3⟩ := H
  clear e1 e2 e3
  unfold ndV
  cases hnm : nameB s
  · rw [show rightB ⟨k, n, m, s⟩ = false from HV.out.trans (by simp [*])]
    clear HV
    go_enter Tryd.func52, Tryd.ntmps52
    go_wp2_with (go_at_call 35; refine (name_any s _ hs).mono ?_; rintro e w' ⟨rfl, rfl⟩; try rw [hnm])
    go_ret
    exact ⟨rfl, (by first | exact under_alloc (under_alloc (Under.refl _) _) _ | exact under_alloc (under_alloc (under_alloc (Under.refl _) _) _) _ | exact under_drewN (under_alloc (under_alloc (Under.refl _) _) _) _)⟩
  · cases hn : decide (0 ≤ n)
    · rw [show rightB ⟨k, n, m, s⟩ = false from HV.out.trans (by simp [*])]
      clear HV
      go_enter Tryd.func52, Tryd.ntmps52
      go_wp2_with (go_at_call 35; refine (name_any s _ hs).mono ?_; rintro e w' ⟨rfl, rfl⟩; try rw [hnm])
      go_quiet ((go_at_call 56; exact Calls.quiet_of_same ((most26 _ (by assumption) _).mono fun _ _ h => ⟨h.1, h.2.symm⟩)))
      go_wp2
      go_ret
      exact ⟨rfl, (by first | exact under_alloc (under_alloc (Under.refl _) _) _ | exact under_alloc (under_alloc (under_alloc (Under.refl _) _) _) _ | exact under_drewN (under_alloc (under_alloc (Under.refl _) _) _) _)⟩
    · cases hn5 : decide (n ≤ 5)
      · rw [show rightB ⟨k, n, m, s⟩ = false from HV.out.trans (by simp [*])]
        clear HV
        go_enter Tryd.func52, Tryd.ntmps52
        go_wp2_with (go_at_call 35; refine (name_any s _ hs).mono ?_; rintro e w' ⟨rfl, rfl⟩; try rw [hnm])
        go_quiet ((go_at_call 56; exact Calls.quiet_of_same ((most26 _ (by assumption) _).mono fun _ _ h => ⟨h.1, h.2.symm⟩)))
        go_wp2
        go_ret
        exact ⟨rfl, (by first | exact under_alloc (under_alloc (Under.refl _) _) _ | exact under_alloc (under_alloc (under_alloc (Under.refl _) _) _) _ | exact under_drewN (under_alloc (under_alloc (Under.refl _) _) _) _)⟩
      · cases hm0 : decide (0 ≤ m)
        · rw [show rightB ⟨k, n, m, s⟩ = false from HV.out.trans (by simp [*])]
          clear HV
          go_enter Tryd.func52, Tryd.ntmps52
          go_wp2_with (go_at_call 35; refine (name_any s _ hs).mono ?_; rintro e w' ⟨rfl, rfl⟩; try rw [hnm])
          go_quiet ((go_at_call 56; exact Calls.quiet_of_same ((most26 _ (by assumption) _).mono fun _ _ h => ⟨h.1, h.2.symm⟩)))
          go_wp2
          go_ret
          exact ⟨rfl, (by first | exact under_alloc (under_alloc (Under.refl _) _) _ | exact under_alloc (under_alloc (under_alloc (Under.refl _) _) _) _ | exact under_drewN (under_alloc (under_alloc (Under.refl _) _) _) _)⟩
        · rw [show rightB ⟨k, n, m, s⟩ = decide (m ≤ 6) from HV.out.trans (by simp [*])]
          clear HV
          go_enter Tryd.func52, Tryd.ntmps52
          go_wp2_with (go_at_call 35; refine (name_any s _ hs).mono ?_; rintro e w' ⟨rfl, rfl⟩; try rw [hnm])
          go_quiet ((go_at_call 56; exact Calls.quiet_of_same ((most26 _ (by assumption) _).mono fun _ _ h => ⟨h.1, h.2.symm⟩)))
          go_wp2
          go_ret
          exact ⟨rfl, (by first | exact under_alloc (under_alloc (Under.refl _) _) _ | exact under_alloc (under_alloc (under_alloc (Under.refl _) _) _) _ | exact under_drewN (under_alloc (under_alloc (Under.refl _) _) _) _)⟩
set_option maxRecDepth 100000 in
set_option maxHeartbeats 4000000 in
theorem right_FTT (H : RightAt k n m s w false true true) (h2 : (k == 2) = false) (h26 : (k == 26) = false) (h27 : (k == 27) = true) : Calls Tryd.prog 52 #[ndV ⟨k, n, m, s⟩] w fun e w' => e = .returned (.bool (rightB ⟨k, n, m, s⟩)) ∧ Under w w' := by
  have HV := Lib.hid H.val
  obtain ⟨hk0, hk1, hs, hb, ⟨p, q, c0⟩, c1, c2, c3, e1, e2, e3⟩ := H
  clear e1 e2 e3
  unfold ndV
  cases hn : (n != 0)
  · cases hnm : nameB s
    · rw [show rightB ⟨k, n, m, s⟩ = false from HV.out.trans (by simp [*])]
      clear HV
      go_enter Tryd.func52, Tryd.ntmps52
      go_wp2_with (go_at_call 35; refine (name_any s _ hs).mono ?_; rintro e w' ⟨rfl, rfl⟩; try rw [hnm])
      go_ret
      exact ⟨rfl, (by first | exact under_alloc (under_alloc (Under.refl _) _) _ | exact under_alloc (under_alloc (under_alloc (Under.refl _) _) _) _ | exact under_drewN (under_alloc (under_alloc (Under.refl _) _) _) _)⟩
    · cases hm0 : decide (0 ≤ m)
      · rw [show rightB ⟨k, n, m, s⟩ = false from HV.out.trans (by simp [*])]
        clear HV
        go_enter Tryd.func52, Tryd.ntmps52
        go_wp2_with (go_at_call 35; refine (name_any s _ hs).mono ?_; rintro e w' ⟨rfl, rfl⟩; try rw [hnm])
        go_ret
        exact ⟨rfl, (by first | exact under_alloc (under_alloc (Under.refl _) _) _ | exact under_alloc (under_alloc (under_alloc (Under.refl _) _) _) _ | exact under_drewN (under_alloc (under_alloc (Under.refl _) _) _) _)⟩
      · rw [show rightB ⟨k, n, m, s⟩ = decide (m ≤ 6) from HV.out.trans (by simp [*])]
        clear HV
        go_enter Tryd.func52, Tryd.ntmps52
        go_wp2_with (go_at_call 35; refine (name_any s _ hs).mono ?_; rintro e w' ⟨rfl, rfl⟩; try rw [hnm])
        go_ret
        exact ⟨rfl, (by first | exact under_alloc (under_alloc (Under.refl _) _) _ | exact under_alloc (under_alloc (under_alloc (Under.refl _) _) _) _ | exact under_drewN (under_alloc (under_alloc (Under.refl _) _) _) _)⟩
  · rw [show rightB ⟨k, n, m, s⟩ = false from HV.out.trans (by simp [*])]
    clear HV
    go_enter Tryd.func52, Tryd.ntmps52
    go_wp2
    go_ret
    exact ⟨rfl, (by first | exact under_alloc (under_alloc (Under.refl _) _) _ | exact under_alloc (under_alloc (under_alloc (Under.refl _) _) _) _ | exact under_drewN (under_alloc (under_alloc (Under.refl _) _) _) _)⟩
set_option maxRecDepth 100000 in
set_option maxHeartbeats 4000000 in
theorem right_FFF (H : RightAt k n m s w false false false) (h2 : (k == 2) = false) (h26 : (k == 26) = false) (h27 : (k == 27) = false) : Calls Tryd.prog 52 #[ndV ⟨k, n, m, s⟩] w fun e w' => e = .returned (.bool (rightB ⟨k, n, m, s⟩)) ∧ Under w w' := by
  have HV := Lib.hid H.val
  obtain ⟨hk0, hk1, hs, hb, ⟨p, q, c0⟩, c1, c2, c3, e1, e2, e3⟩ := H
  clear e1 e2 e3
  unfold ndV
  cases hn : (n != 0)
  · cases hm : (m != 0)
    · cases he : s.toList.isEmpty
      · rw [show rightB ⟨k, n, m, s⟩ = false from HV.out.trans (by simp [*])]
        clear HV
        go_enter Tryd.func52, Tryd.ntmps52
        go_wp2
        go_ret
        exact ⟨rfl, (by first | exact under_alloc (under_alloc (Under.refl _) _) _ | exact under_alloc (under_alloc (under_alloc (Under.refl _) _) _) _ | exact under_drewN (under_alloc (under_alloc (Under.refl _) _) _) _)⟩
      · rw [show rightB ⟨k, n, m, s⟩ = true from HV.out.trans (by simp [*])]
        clear HV
        go_enter Tryd.func52, Tryd.ntmps52
        go_wp2
        go_quiet (fail)
        go_wp2
        go_ret
        exact ⟨rfl, under_drewN (under_alloc (under_alloc (Under.refl _) _) _) _⟩
    · rw [show rightB ⟨k, n, m, s⟩ = false from HV.out.trans (by simp [*])]
      clear HV
      go_enter Tryd.func52, Tryd.ntmps52
      go_wp2
      go_ret
      exact ⟨rfl, (by first | exact under_alloc (under_alloc (Under.refl _) _) _ | exact under_alloc (under_alloc (under_alloc (Under.refl _) _) _) _ | exact under_drewN (under_alloc (under_alloc (Under.refl _) _) _) _)⟩
  · rw [show rightB ⟨k, n, m, s⟩ = false from HV.out.trans (by simp [*])]
    clear HV
    go_enter Tryd.func52, Tryd.ntmps52
    go_wp2
    go_ret
    exact ⟨rfl, (by first | exact under_alloc (under_alloc (Under.refl _) _) _ | exact under_alloc (under_alloc (under_alloc (Under.refl _) _) _) _ | exact under_drewN (under_alloc (under_alloc (Under.refl _) _) _) _)⟩
end
set_option maxRecDepth 100000 in
theorem right_any (x : Nd) (w : World) (hs : x.s.size ≤ maxLen) (hS : ShapesAt 1 w) : Calls Tryd.prog 52 #[ndV x] w fun e w' => e = .returned (.bool (rightB x)) ∧ Under w w' := by
  obtain ⟨k, n, m, s⟩ := x
  simp only at *
  by_cases hk : k < 0
  · rw [show rightB ⟨k, n, m, s⟩ = false by simp [rightB, hk]]
    unfold ndV
    go_enter Tryd.func52, Tryd.ntmps52
    go_wp2
    go_ret
    exact ⟨rfl, under_alloc (Under.refl _) _⟩
  by_cases hk2 : 30 ≤ k
  · rw [show rightB ⟨k, n, m, s⟩ = false by simp [rightB, hk2]]
    unfold ndV
    go_enter Tryd.func52, Tryd.ntmps52
    go_wp2
    go_ret
    exact ⟨rfl, under_alloc (Under.refl _) _⟩
  obtain ⟨p, c, c0, _, _, c1, c2, c3⟩ := hS.row k.toNat (by omega)
  have hR : RightAt k n m s w (fN k.toNat) (fM k.toNat) (fS k.toNat) := ⟨by omega, by omega, hs, hS.lt, ⟨p, c, c0⟩, c1, c2, c3, rfl, rfl, rfl⟩
  rcases combos k.toNat with ⟨e1, e2, e3, hc⟩ | ⟨e1, e2, e3, hc⟩ | ⟨e1, e2, e3, hc⟩ | ⟨e1, e2, e3, hc⟩ | ⟨e1, e2, e3, hc⟩ <;> rw [e1, e2, e3] at hR
  · exact right_TFF hR (by simp; omega) (by simp; omega)
  · exact right_FFT hR (by simp; omega) (by simp; omega) (by simp; omega)
  · exact right_TTT hR (by simp; omega) (by simp; omega)
  · exact right_FTT hR (by simp; omega) (by simp; omega) (by simp; omega)
  · exact right_FFF hR (by simp; omega) (by simp; omega) (by simp; omega)
end Go.Proofs.YtiibknlpeodejaaDoor
