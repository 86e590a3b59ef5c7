/- LexerLines, walked. -/
import Derived.Test.YtjnoffgclibfaaaLine
namespace Go.Proofs.Ytjnoffgclibfaaa
open Go.Conc Go.Lx Go.RowKit

noncomputable def linesText : Code := Try.f11.body.getD .skip
noncomputable def linesRest : Code := sndOf (sndOf linesText)
def lnFrame (s : ByteArray) (x : Int) (J : Nat → Value) : Array Value := #[.string s, .int .u16 x, J 2, J 3, J 4, J 5, J 6, J 7, J 8, J 9, J 10, J 11, J 12, J 13, J 14, J 15, J 16, J 17, J 18, J 19, J 20, J 21, J 22, J 23, J 24, J 25, J 26, J 27, J 28, J 29, J 30, J 31, J 32, J 33, J 34, J 35, J 36, J 37, J 38, J 39, J 40, J 41, J 42, J 43, J 44, J 45, J 46, J 47, J 48, J 49, J 50, J 51, J 52, J 53, J 54, J 55, J 56, J 57, J 58, J 59, J 60, J 61, J 62, J 63, J 64, J 65, J 66, J 67, J 68, J 69, J 70, J 71, J 72, J 73, J 74, J 75, J 76, J 77, J 78, J 79, J 80, J 81, J 82, J 83, J 84, J 85, J 86, J 87, J 88, J 89, J 90, J 91, J 92, J 93, J 94, J 95, J 96, J 97, J 98, J 99, J 100, J 101, J 102, J 103, J 104]


set_option maxRecDepth 100000 in
set_option maxHeartbeats 2000000 in
theorem lines_calls (s : ByteArray) (x : Int) (W : World) (hrest : s.size ≤ 2048 → ∀ J w, Under W w → linesRest.wp Try.prog (bodyPostG Try.prog Try.f11 (TrueU W)) ⟨lnFrame s x J, []⟩ w) :
    CallsG Try.prog 11 #[.string s, .int .u16 x] W (TrueU W) := by
  refine callsG_of_wpG tame Try.func11 rfl ?_ TrueU.re
  simp only [Try.ntmps11, List.size_toArray, List.length_cons, List.length_nil, Nat.reduceAdd, Nat.reduceSub, Array.replicate_succ, Array.replicate_zero, List.push_toArray, List.append_toArray, List.nil_append, List.cons_append]
  refine wpG_seq tame (wpG_lone tame fun τ d => ?_)
  go_wp2
  refine wpG_re ?_ τ d
  by_cases h1 : (2048 : Int) < s.size
  · refine wpG_seq tame ?_
    refine wpG_seq tame (wpG_lone tame fun τ d => ?_)
    go_wp2
    refine wpG_re ?_ τ d
    refine wpG_cond tame (t := true) rfl ?_
    simp only [if_true]
    refine wpG_seq tame (wpG_region tame ?_)
    simp only [List.size_toArray, List.length_cons, List.length_nil, Nat.reduceAdd, Nat.zero_add, List.range, List.range.loop]
    refine opsG_call tame rfl (by rfl) (run_call_fn (vs := #[]) rfl Try.func13 (by kernel_rfl) rfl (by simp)) (shown_calls _) ?_
    rintro v w1 ⟨rfl, hU1⟩
    refine opsG_upto tame [1] [] fun τ d => ?_
    refine .inl ?_
    refine opsG_nil tame ?_
    simp only [Exit.then]
    refine wpG_lone tame fun τ d => ?_
    walk_nrm
    go_wp2
    exact bodyG_tmp rfl rfl ⟨rfl, hU1.re _ _⟩
  · refine wpG_seq tame (wpG_seq tame ?_)
    refine wpG_split tame 4 (by decide) fun τ d => ?_
    simp only [List.take_succ_cons, List.take_zero]
    go_wp2
    refine opsG_re ?_ τ d
    refine opsG_call (i := 4) (rest := List.range' 5 2) tame rfl (by rfl) (run_call_fn (vs := #[]) rfl Try.func13 (by kernel_rfl) rfl (by simp)) (shown_calls _) ?_
    rintro v w1 ⟨rfl, hU1⟩
    refine opsG_split tame 5 2 0 (by decide) fun τ d => ?_
    simp only [List.drop_succ_cons, List.drop_zero, List.take_succ_cons, List.take_zero]
    walk_nrm
    go_wp2
    refine opsG_nil tame ?_
    simp only [Exit.then]
    refine wpG_re ?_ τ d
    refine wpG_cond tame (t := false) rfl ?_
    simp only [Bool.false_eq_true, if_false]
    refine wpG_lone tame fun τ d => ?_
    go_wp2
    refine wpG_re ?_ τ d
    exact wpG_frame (F := lnFrame s x) (by rfl) fun J => wpG_lone tame fun τ d => hrest (by omega) J _ (hU1.re τ d)

set_option maxRecDepth 100000 in
set_option maxHeartbeats 4000000 in
theorem lines_rest (s : ByteArray) (x : Int) (W : World) (hx : 0 ≤ x) (hx2 : x ≤ 65535) (hs : s.size ≤ 2048) (J : Nat → Value) (w : World) (hU : Under W w) :
    linesRest.wp Try.prog (bodyPostG Try.prog Try.f11 (TrueU W)) ⟨lnFrame s x J, []⟩ w := by
  have hmod0 : 0 ≤ x % ((s.size : Int) + 1) := Int.emod_nonneg _ (by omega)
  have hmod1 : x % ((s.size : Int) + 1) < (s.size : Int) + 1 := Int.emod_lt_of_pos _ (by omega)
  obtain ⟨k, hk⟩ : ∃ k : Nat, x % ((s.size : Int) + 1) = k := ⟨_, (Int.toNat_of_nonneg hmod0).symm⟩
  have hkl : k ≤ s.size := by omega
  have cA := line_calls s k k (by omega) (by omega) (.inl ⟨by omega, rfl⟩)
  have cE := line_calls s ((s.size : Int) + 100) s.size (by omega) (by omega) (.inr ⟨by omega, rfl⟩)
  have cG := line_calls s (s.size : Int) s.size (by omega) (by omega) (.inl ⟨by omega, rfl⟩)
  have pA := line_pos (s.data.toList.take k)
  have qA := col_pos (s.data.toList.take k)
  have lA : (s.data.toList.take k).length ≤ 2048 := by rw [List.length_take]; omega
  unfold linesRest linesText
  simp only [Try.f11, Option.getD_some, sndOf]
  unfold lnFrame
  have HE := Lib.hid cE
  have HG := Lib.hid cG
  clear cE cG hmod0 hmod1
  by_cases hks : k = s.size
  · subst hks
    have cC := line_calls s ((s.size : Int) + 1) s.size (by omega) (by omega) (.inr ⟨by omega, rfl⟩)
    have HA := Lib.hid cA
    have HC := Lib.hid cC
    clear cA cC
    revert HA HC
    revert HE HG
    revert pA qA
    generalize lineN (s.data.toList.take s.size) = a
    generalize colN (s.data.toList.take s.size) = b
    intro pA qA HE HG HA HC
    have a1 : ¬ a < 1 := by omega
    have b1 : ¬ b < 1 := by omega
    go_wp2_with fail
    refine (HA.out _).mono ?_
    rintro e w' ⟨rfl, rfl⟩
    go_wp2_with fail
    refine (HC.out _).mono ?_
    rintro e w' ⟨rfl, rfl⟩
    go_wp2_with fail
    refine (HE.out _).mono ?_
    rintro e w' ⟨rfl, rfl⟩
    go_wp2_with fail
    refine (HG.out _).mono ?_
    rintro e w' ⟨rfl, rfl⟩
    go_wp2
    exact bodyG_tmp rfl rfl ⟨rfl, hU⟩
  · have hlt : k < s.size := by omega
    have cC := line_calls s ((k : Int) + 1) (k + 1) (by omega) (by omega) (.inl ⟨by omega, by omega⟩)
    have hsn : s.data.toList.take (k + 1) = s.data.toList.take k ++ [s[k]'hlt] := by
      rw [List.take_succ_eq_append_getElem (by simpa using hlt)]; rfl
    have hc1 := count_snoc (s.data.toList.take k) (s[k]'hlt)
    have hc2 := col_snoc (s.data.toList.take k) (s[k]'hlt)
    rw [← hsn] at hc1 hc2
    by_cases h10 : s[k]'hlt = 10
    · rw [if_pos h10] at hc1 hc2
      rw [hc1, hc2] at cC
      have HA := Lib.hid cA
      have HC := Lib.hid cC
      have hb : (((s[k]'hlt).toNat : Int) == 10) = true := by rw [h10]; rfl
      clear cA cC hc1 hc2 hsn h10
      revert HA HC pA qA
      generalize lineN (s.data.toList.take k) = a
      generalize colN (s.data.toList.take k) = b
      intro pA qA HA HC
      have a1 : ¬ a < 1 := by omega
      have b1 : ¬ b < 1 := by omega
      have hin : (k : Int) < s.size := by omega
      have hne : ((k : Int) == (s.size : Int)) = false := by simp; omega
      revert HE HG
      generalize lineN (s.data.toList.take s.size) = e1
      generalize colN (s.data.toList.take s.size) = e2
      intro HE HG
      go_wp2_with fail
      refine (HA.out _).mono ?_
      rintro e w' ⟨rfl, rfl⟩
      go_wp2_with fail
      refine (HC.out _).mono ?_
      rintro e w' ⟨rfl, rfl⟩
      go_wp2_with fail
      refine (HE.out _).mono ?_
      rintro e w' ⟨rfl, rfl⟩
      go_wp2_with fail
      refine (HG.out _).mono ?_
      rintro e w' ⟨rfl, rfl⟩
      go_wp2
      exact bodyG_tmp rfl rfl ⟨rfl, hU⟩
    · rw [if_neg h10] at hc1 hc2
      rw [hc1, hc2] at cC
      have HA := Lib.hid cA
      have HC := Lib.hid cC
      have hb : (((s[k]'hlt).toNat : Int) == 10) = false := by
        have : (s[k]'hlt).toNat ≠ 10 := fun h => h10 (UInt8.toNat_inj.1 h)
        simp; omega
      clear cA cC hc1 hc2 hsn h10
      revert HA HC pA qA
      generalize lineN (s.data.toList.take k) = a
      generalize colN (s.data.toList.take k) = b
      intro pA qA HA HC
      have a1 : ¬ a < 1 := by omega
      have b1 : ¬ b < 1 := by omega
      have hin : (k : Int) < s.size := by omega
      have hne : ((k : Int) == (s.size : Int)) = false := by simp; omega
      revert HE HG
      generalize lineN (s.data.toList.take s.size) = e1
      generalize colN (s.data.toList.take s.size) = e2
      intro HE HG
      go_wp2_with fail
      refine (HA.out _).mono ?_
      rintro e w' ⟨rfl, rfl⟩
      go_wp2_with fail
      refine (HC.out _).mono ?_
      rintro e w' ⟨rfl, rfl⟩
      go_wp2_with fail
      refine (HE.out _).mono ?_
      rintro e w' ⟨rfl, rfl⟩
      go_wp2_with fail
      refine (HG.out _).mono ?_
      rintro e w' ⟨rfl, rfl⟩
      go_wp2
      exact bodyG_tmp rfl rfl ⟨rfl, hU⟩

theorem lines_all (s : ByteArray) (x : Int) (hx : 0 ≤ x) (hx2 : x ≤ 65535) (W : World) : CallsG Try.prog 11 #[.string s, .int .u16 x] W (TrueU W) :=
  lines_calls s x W fun hs J w hU => lines_rest s x W hx hx2 hs J w hU
end Go.Proofs.Ytjnoffgclibfaaa
