/- term.Name, walked. -/
import Derived.Test.YtiibknlpeodejaaDoorChecked
import Derived.Test.YtiibknlpeodejaaDoorLxM
import Derived.KernelRfl
import Derived.WalkKit
import Derived.Tactics
import Derived.LoopTactic
import Derived.OwnWalk
import Derived.Maps.AppendAt
import Derived.Deep.QuietTactic
import Derived.BigQuiet
import Derived.Deep.LoopGhost
import Derived.Lib.Hide
import Derived.Outline
set_option linter.unusedSimpArgs false
set_option linter.unusedVariables false
namespace Go.Proofs.YtiibknlpeodejaaDoor
open Go.Lx Go.RowKit

theorem nameFrom_drop {l : List UInt8} {k : Nat} {c : UInt8} (h : l[k]? = some c) : nameFrom k (l.drop k) = (okB k c && nameFrom (k + 1) (l.drop (k + 1))) := by
  obtain ⟨hk, hc⟩ := List.getElem?_eq_some_iff.1 h
  rw [List.drop_eq_getElem_cons hk, hc]
  rfl

theorem ret_bool {a b : Bool} (h : a = b) : Ending.returned (.bool a) = .returned (.bool b) := by rw [h]
theorem ret_int {k : IntKind} {a b : Int} (h : a = b) : Ending.returned (.int k a) = .returned (.int k b) := by rw [h]
theorem name_stop {s : ByteArray} {k : Nat} {b : Bool} (h1 : Hid (nameFrom 0 s.data.toList = nameFrom k (s.data.toList.drop k))) (h2 : Hid (nameFrom k (s.data.toList.drop k) = (b && nameFrom (k + 1) (s.data.toList.drop (k + 1))))) (h : b = false) : false = nameB s := by
  unfold nameB; rw [h1.out, h2.out, h]; rfl
theorem name_go {s : ByteArray} {k : Nat} {b : Bool} (h1 : Hid (nameFrom 0 s.data.toList = nameFrom k (s.data.toList.drop k))) (h2 : Hid (nameFrom k (s.data.toList.drop k) = (b && nameFrom (k + 1) (s.data.toList.drop (k + 1))))) (h : b = true) : nameFrom 0 s.data.toList = nameFrom (k + 1) (s.data.toList.drop (k + 1)) := by
  rw [h1.out, h2.out, h]; rfl
theorem name_end {s : ByteArray} {k : Nat} (h1 : Hid (nameFrom 0 s.data.toList = nameFrom k (s.data.toList.drop k))) (hk : ¬ k < s.size) : nameB s = (!s.toList.isEmpty && decide ((s.size : Int) ≤ 16)) := by
  unfold nameB
  rw [h1.out, List.drop_eq_nil_of_le (by simp [← ByteArray.size_data] at hk ⊢; omega), ByteArray.toList_eq]
  have e1 : decide (s.size ≠ 0) = !s.data.toList.isEmpty := by
    rw [← ByteArray.size_data]
    cases h : s.data.toList with
    | nil => simp [← Array.length_toList, h]
    | cons a b => simp [← Array.length_toList, h]
  have e2 : decide (s.size ≤ 16) = decide ((s.size : Int) ≤ 16) := by rw [Bool.eq_iff_iff]; simp; omega
  rw [e1, e2]
  simp [nameFrom]

set_option maxRecDepth 100000 in
set_option maxHeartbeats 1000000 in
theorem name_any (s : ByteArray) (w : World) (hs : s.size ≤ maxLen) : Calls Tryd.prog 35 #[.string s] w fun e w' => e = .returned (.bool (nameB s)) ∧ w = w' := by
  unfold maxLen at hs
  go_enter Tryd.func35, Tryd.ntmps35
  go_wp2
  go_loop [8] (fun i => ∃ k : Nat, k ≤ s.size ∧ i = .int .i64 k ∧ nameFrom 0 s.data.toList = nameFrom k (s.data.toList.drop k)) (fun i => s.size - (intOf i).toNat)
  case atStart => exact ⟨0, Nat.zero_le _, rfl, by simp⟩
  case round =>
    obtain ⟨k, hk, rfl, hN⟩ := hrel
    have HN := Lib.hid hN
    clear hN
    by_cases hlt : k < s.size
    · have hc := nameFrom_drop (l := s.data.toList) (k := k) (c := s[k]) (by rw [List.getElem?_eq_getElem (by simpa using hlt)]; rfl)
      have HC := Lib.hid hc
      clear hc
      by_cases hz : k = 0
      · subst hz
        go_wp2
        all_goals try (go_round
                       case measure => simp [intOf]; omega)
        all_goals first
          | exact ⟨1, by omega, rfl, name_go HN HC (by unfold okB ltrB digB lowC; simp at *; omega)⟩
          | (exact ⟨1, by omega, rfl, name_go HN HC (by unfold okB ltrB digB lowC; simp [*])⟩)
          | (go_ret; exact ⟨ret_bool (name_stop HN HC (by unfold okB ltrB digB lowC; simp at *; omega)), rfl⟩)
      · have hz' : (0 : Int) < k := by omega
        clear hz
        go_wp2
        all_goals try (go_round
                       case measure => simp [intOf]; omega)
        all_goals first
          | exact ⟨k + 1, by omega, by go_num, name_go HN HC (by unfold okB ltrB digB lowC; simp at *; omega)⟩
          | (go_ret; exact ⟨ret_bool (name_stop HN HC (by unfold okB ltrB digB lowC; simp at *; omega)), rfl⟩)
    · have he := name_end HN hlt
      have HE := Lib.hid he
      clear he
      go_wp2
      all_goals
        go_ret
        exact ⟨by rw [HE.out]; simp [*], rfl⟩
end Go.Proofs.YtiibknlpeodejaaDoor
