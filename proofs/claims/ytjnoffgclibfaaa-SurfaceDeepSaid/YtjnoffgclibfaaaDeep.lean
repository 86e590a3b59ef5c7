/- SurfaceDeep, walked. -/
import Derived.Test.YtjnoffgclibfaaaDeepPlain
namespace Go.Proofs.Ytjnoffgclibfaaa
open Go.Conc Go.Lx Go.RowKit

noncomputable def deepText : Code := Try.f8.body.getD .skip
noncomputable def deepX : Code := sndOf (sndOf (sndOf (sndOf (sndOf deepText))))
noncomputable def deepY : Code := sndOf (sndOf deepX)
def dFrame (short : Int) (k : Nat) (s : ByteArray) (J : Nat → Value) : Array Value := #[J 0, .int .u8 short, J 2, J 3, J 4, .int .i64 (k : Int), .string s, J 7, J 8, J 9, J 10, J 11, J 12, J 13, J 14, J 15, J 16, J 17, J 18, J 19, J 20, J 21, J 22, J 23, J 24, J 25, J 26, J 27, J 28, J 29, J 30, J 31, J 32, J 33, J 34, J 35, J 36, J 37, J 38, J 39, J 40, J 41, J 42, J 43, J 44, J 45, J 46, J 47, J 48, J 49, J 50, J 51, J 52, J 53, J 54, J 55, J 56, J 57, J 58, J 59, J 60, J 61, J 62, J 63, J 64, J 65, J 66, J 67, J 68, J 69, J 70, J 71, J 72, J 73, J 74, J 75, J 76, J 77, J 78, J 79, J 80, J 81, J 82, J 83, J 84, J 85, J 86, J 87, J 88, J 89, J 90, J 91, J 92, J 93, J 94, J 95, J 96, J 97, J 98, J 99, J 100, J 101, J 102, J 103, J 104, J 105, J 106, J 107, J 108, J 109, J 110, J 111, J 112, J 113, J 114, J 115, J 116, J 117, J 118]
def eFrame (short : Int) (k : Nat) (t : ByteArray) (J : Nat → Value) : Array Value := #[J 0, .int .u8 short, J 2, J 3, J 4, .int .i64 (k : Int), J 6, J 7, .string t, J 9, J 10, J 11, J 12, J 13, J 14, J 15, J 16, J 17, J 18, J 19, J 20, J 21, J 22, J 23, J 24, J 25, J 26, J 27, J 28, J 29, J 30, J 31, J 32, J 33, J 34, J 35, J 36, J 37, J 38, J 39, J 40, J 41, J 42, J 43, J 44, J 45, J 46, J 47, J 48, J 49, J 50, J 51, J 52, J 53, J 54, J 55, J 56, J 57, J 58, J 59, J 60, J 61, J 62, J 63, J 64, J 65, J 66, J 67, J 68, J 69, J 70, J 71, J 72, J 73, J 74, J 75, J 76, J 77, J 78, J 79, J 80, J 81, J 82, J 83, J 84, J 85, J 86, J 87, J 88, J 89, J 90, J 91, J 92, J 93, J 94, J 95, J 96, J 97, J 98, J 99, J 100, J 101, J 102, J 103, J 104, J 105, J 106, J 107, J 108, J 109, J 110, J 111, J 112, J 113, J 114, J 115, J 116, J 117, J 118]

set_option maxRecDepth 100000 in
set_option maxHeartbeats 2000000 in
theorem deep_calls (n short : Int) (hn0 : 0 ≤ n) (hn1 : n ≤ 255) (hs0 : 0 ≤ short) (hs1 : short ≤ 255) (W : World) (h2 : ∀ k : Nat, k ≤ 99 → ∀ J w, Under W w → deepX.wpG Try.prog (bodyPostG Try.prog Try.f8 (TrueU W)) ⟨dFrame short k (ptext k 0) J, []⟩ w) :
    CallsG Try.prog 8 #[.int .u8 n, .int .u8 short] W (TrueU W) := by
  obtain ⟨k, hk⟩ : ∃ k : Nat, n % 100 = k := ⟨_, (Int.toNat_of_nonneg (Int.emod_nonneg _ (by omega))).symm⟩
  have hk99 : k ≤ 99 := by omega
  refine callsG_of_wpG tame Try.func8 rfl ?_ TrueU.re
  simp only [Try.ntmps8, List.size_toArray, List.length_cons, List.length_nil, Nat.reduceAdd, Nat.reduceSub, Array.replicate_succ, Array.replicate_zero, List.push_toArray, List.append_toArray, List.nil_append, List.cons_append]
  refine wpG_seq tame (wpG_lone tame fun τ d => ?_)
  go_wp2
  refine wpG_re ?_ τ d
  refine wpG_seq tame (wpG_seq tame (wpG_region tame ?_))
  refine opsG_call (i := 0) (rest := List.range' 1 1) tame rfl (by rfl) (run_call_fn (vs := #[]) rfl Try.func17 (by kernel_rfl) rfl (by simp)) (shown7_calls W) ?_
  rintro v w1 ⟨rfl, hU1⟩
  refine opsG_split tame 1 1 0 (by decide) fun τ d => ?_
  simp only [List.drop_succ_cons, List.drop_zero, List.take_succ_cons, List.take_zero]
  walk_nrm
  go_wp2
  refine opsG_nil tame ?_
  simp only [Exit.then]
  refine wpG_re ?_ τ d
  refine wpG_cond tame (t := false) rfl ?_
  simp only [Bool.false_eq_true, if_false]
  refine wpG_lone tame fun τ d => ?_
  go_wp2
  refine wpG_re ?_ τ d
  refine wpG_seq tame (wpG_lone tame fun τ d => ?_)
  go_wp2
  refine wpG_re ?_ τ d
  refine wpG_seq tame (wpG_lone tame fun τ d => ?_)
  go_wp2
  refine wpG_re ?_ τ d
  refine wpG_seq tame (wpG_lone tame fun τ d => ?_)
  rw [hk]
  have HK := Lib.hid hk
  clear hk
  go_wp2
  go_loop [6, 7] (fun s i => ∃ j : Nat, j ≤ k ∧ i = .int .i64 j ∧ s = .string (ptext j 0)) (fun _ i => k - (intOf i).toNat)
  case atStart => exact ⟨0, by omega, rfl, rfl⟩
  case round =>
    obtain ⟨j, hj, rfl, rfl⟩ := hrel
    by_cases hjk : j < k
    · have hin : (j : Int) < k := by omega
      have hz : (ptext j 0).size = j := ptext_size j 0
      go_wp2
      go_round
      case rel => exact ⟨j + 1, hjk, by go_num, by rw [ptext_open]⟩
      case measure => simp [intOf]; omega
    · obtain rfl : k = j := by omega
      go_wp2
      refine wpG_re ?_ τ d
      exact wpG_fr (F := dFrame short k (ptext k 0)) (by rfl) fun J => h2 k hk99 J w1 hU1

set_option maxRecDepth 100000 in
set_option maxHeartbeats 2000000 in
theorem deep_two (short : Int) (W : World) (k : Nat) (hk99 : k ≤ 99) (J : Nat → Value) (w : World) (hU : Under W w) (h3 : ∀ J w, Under W w → deepY.wpG Try.prog (bodyPostG Try.prog Try.f8 (TrueU W)) ⟨eFrame short k (ptext k k) J, []⟩ w) :
    deepX.wpG Try.prog (bodyPostG Try.prog Try.f8 (TrueU W)) ⟨dFrame short k (ptext k 0) J, []⟩ w := by
  unfold deepX deepText
  simp only [Try.f8, Option.getD_some, sndOf]
  unfold dFrame
  refine wpG_seq tame (wpG_lone tame fun τ d => ?_)
  go_wp2
  refine wpG_re ?_ τ d
  refine wpG_seq tame (wpG_lone tame fun τ d => ?_)
  go_wp2
  go_loop [8, 9] (fun s i => ∃ j : Nat, j ≤ k ∧ i = .int .i64 j ∧ s = .string (ptext k j)) (fun _ i => k - (intOf i).toNat)
  case atStart => exact ⟨0, by omega, rfl, rfl⟩
  case round =>
    obtain ⟨j, hj, rfl, rfl⟩ := hrel
    by_cases hjk : j < k
    · have hin : (j : Int) < k := by omega
      have hz : (ptext k j).size = k + j := ptext_size k j
      go_wp2
      go_round
      case rel => exact ⟨j + 1, hjk, by go_num, by rw [ptext_shut]⟩
      case measure => simp [intOf]; omega
    · obtain rfl : k = j := by omega
      go_wp2
      refine wpG_re ?_ τ d
      exact wpG_fr (F := eFrame short k (ptext k k)) (by rfl) fun J => h3 J w hU
end Go.Proofs.Ytjnoffgclibfaaa
