/- SurfaceDeep, walked to its end. -/
import Derived.Test.YtjnoffgclibfaaaDeep
namespace Go.Proofs.Ytjnoffgclibfaaa
open Go.Conc Go.Lx Go.RowKit


/-- behind the first reading, where there are no more than may be. -/
noncomputable def deepZ : Code := sndOf (sndOf deepY)
def zFrame (short : Int) (k : Nat) (p : Option Addr) (cap : Nat) (J : Nat → Value) : Array Value := #[J 0, .int .u8 short, J 2, J 3, J 4, .int .i64 (k : Int), J 6, J 7, .string (ptext k k), J 9, .slice p k cap, J 11, .int .i64 0, J 13, J 14, J 15, J 16, J 17, J 18, J 19, J 20, J 21, J 22, J 23, J 24, J 25, J 26, J 27, J 28, J 29, J 30, J 31, J 32, J 33, J 34, J 35, J 36, J 37, J 38, J 39, J 40, J 41, J 42, J 43, J 44, J 45, J 46, J 47, J 48, J 49, J 50, J 51, J 52, J 53, J 54, J 55, J 56, J 57, J 58, J 59, J 60, J 61, J 62, J 63, J 64, J 65, J 66, J 67, J 68, J 69, J 70, J 71, J 72, J 73, J 74, J 75, J 76, J 77, J 78, J 79, J 80, J 81, J 82, J 83, J 84, J 85, J 86, J 87, J 88, J 89, J 90, J 91, J 92, J 93, J 94, J 95, J 96, J 97, J 98, J 99, J 100, J 101, J 102, J 103, J 104, J 105, J 106, J 107, J 108, J 109, J 110, J 111, J 112, J 113, J 114, J 115, J 116, J 117, J 118]
def yFrame (k m : Nat) (at_ e : Int) (J : Nat → Value) : Array Value := #[J 0, J 1, J 2, J 3, J 4, .int .i64 (k : Int), J 6, J 7, .string (ptext k k), J 9, J 10, .int .i64 at_, .int .i64 e, .int .i64 (m : Int), J 14, J 15, J 16, J 17, J 18, J 19, J 20, J 21, J 22, J 23, J 24, J 25, J 26, J 27, J 28, J 29, J 30, J 31, J 32, J 33, J 34, J 35, J 36, J 37, J 38, J 39, J 40, J 41, J 42, J 43, J 44, J 45, J 46, J 47, J 48, J 49, J 50, J 51, J 52, J 53, J 54, J 55, J 56, J 57, J 58, J 59, J 60, J 61, J 62, J 63, J 64, J 65, J 66, J 67, J 68, J 69, J 70, J 71, J 72, J 73, J 74, J 75, J 76, J 77, J 78, J 79, J 80, J 81, J 82, J 83, J 84, J 85, J 86, J 87, J 88, J 89, J 90, J 91, J 92, J 93, J 94, J 95, J 96, J 97, J 98, J 99, J 100, J 101, J 102, J 103, J 104, J 105, J 106, J 107, J 108, J 109, J 110, J 111, J 112, J 113, J 114, J 115, J 116, J 117, J 118]

section
variable {W : World} {short : Int} {k : Nat}

set_option maxRecDepth 100000 in
set_option maxHeartbeats 2000000 in
theorem deep_three (hk99 : k ≤ 99) (J : Nat → Value) (w : World) (hU : Under W w)
    (h4 : k ≤ 60 → ∀ p cap J w, Under W w → deepZ.wpG Try.prog (bodyPostG Try.prog Try.f8 (TrueU W)) ⟨zFrame short k p cap J, []⟩ w) :
    deepY.wpG Try.prog (bodyPostG Try.prog Try.f8 (TrueU W)) ⟨eFrame short k (ptext k k) J, []⟩ w := by
  have hread := pread k k (by omega) w
  unfold deepY deepX deepText
  simp only [Try.f8, Option.getD_some, sndOf]
  unfold eFrame
  refine wpG_seq tame ?_
  refine wpG_split tame 1 (by decide) fun τ d => ?_
  simp only [List.take_succ_cons, List.take_zero]
  go_wp2
  refine opsG_re ?_ τ d
  by_cases h60 : 60 < k
  · rw [pR_deep h60] at hread
    refine opsG_call (i := 1) (rest := List.range' 2 7) tame rfl (by rfl) (run_call_fn (vs := #[.string (ptext k k)]) rfl Try.func18 (by kernel_rfl) rfl (by simp [Act.eval])) hread ?_
    rintro v w1 ⟨hU1, rfl⟩
    have hU2 := hU.trans hU1
    clear hread
    refine opsG_split tame 2 7 0 (by decide) fun τ d => ?_
    simp only [List.drop_succ_cons, List.drop_zero, List.take_succ_cons, List.take_zero]
    walk_nrm
    go_wp2
    refine opsG_nil tame ?_
    simp only [Exit.then]
    refine wpG_re ?_ τ d
    have hin : (60 : Int) < k := by omega
    refine wpG_lone tame fun τ d => ?_
    go_wp2
    exact bodyG_tmp rfl rfl ⟨rfl, hU2.re _ _⟩
  · obtain ⟨row, hrow, hlen⟩ := pR_even (a := k) (by omega)
    rw [hrow] at hread
    refine opsG_call (i := 1) (rest := List.range' 2 7) tame rfl (by rfl) (run_call_fn (vs := #[.string (ptext k k)]) rfl Try.func18 (by kernel_rfl) rfl (by simp [Act.eval])) hread ?_
    rintro v w1 ⟨hU1, vr, rfl, hown⟩
    have hU2 := hU.trans hU1
    obtain ⟨p, cap, rfl⟩ : ∃ p cap, vr = .slice p k cap := by
      rcases hown.2 with ⟨rfl, h0⟩ | ⟨g, cap, cur, rfl, _⟩
      · exact ⟨none, 0, by rw [← hlen, h0]⟩
      · exact ⟨_, cap, by rw [hlen]⟩
    clear hread hown hrow hlen
    refine opsG_split tame 2 7 0 (by decide) fun τ d => ?_
    simp only [List.drop_succ_cons, List.drop_zero, List.take_succ_cons, List.take_zero]
    walk_nrm
    go_wp2
    refine opsG_nil tame ?_
    simp only [Exit.then]
    refine wpG_re ?_ τ d
    have hin : ¬ (60 : Int) < k := by omega
    refine wpG_seq tame (wpG_lone tame fun τ d => ?_)
    go_wp2
    refine wpG_re ?_ τ d
    exact wpG_fr (F := zFrame short k p cap) (by rfl) fun J => h4 (by omega) p cap J w1 hU2

set_option maxRecDepth 100000 in
set_option maxHeartbeats 2000000 in
theorem deep_four (hk60 : k ≤ 60) (hs0 : 0 ≤ short) (hs1 : short ≤ 255) (p : Option Addr) (cap : Nat) (J : Nat → Value) (w : World) (hU : Under W w)
    (h5 : ∀ m at_ e, m ≤ k → (m = k ∧ e = 0 ∨ m < k ∧ e = 70 ∧ at_ = (k : Int) - m - 1) → ∀ J w, Under W w → (sndOf (sndOf (sndOf deepZ))).wpG Try.prog (bodyPostG Try.prog Try.f8 (TrueU W)) ⟨yFrame k m at_ e J, []⟩ w) :
    deepZ.wpG Try.prog (bodyPostG Try.prog Try.f8 (TrueU W)) ⟨zFrame short k p cap J, []⟩ w := by
  have hmod0 : 0 ≤ short % ((k : Int) + 1) := Int.emod_nonneg _ (by omega)
  have hmod1 : short % ((k : Int) + 1) < (k : Int) + 1 := Int.emod_lt_of_pos _ (by omega)
  obtain ⟨m, hm⟩ : ∃ m : Nat, short % ((k : Int) + 1) = m := ⟨_, (Int.toNat_of_nonneg hmod0).symm⟩
  have hmk : m ≤ k := by omega
  clear hmod0 hmod1
  generalize hQ : bodyPostG Try.prog Try.f8 (TrueU W) = Q at h5 ⊢
  clear hQ
  have H5 := Lib.hid h5
  clear h5
  unfold deepZ deepY deepX deepText
  simp only [Try.f8, Option.getD_some, sndOf]
  unfold zFrame
  have hin : ((k : Int) != (k : Int)) = false := by simp
  refine wpG_seq tame (wpG_lone tame fun τ d => ?_)
  go_wp2
  refine wpG_re ?_ τ d
  refine wpG_seq tame (wpG_lone tame fun τ d => ?_)
  go_wp2
  refine wpG_re ?_ τ d
  rw [hm]
  have HM := Lib.hid hm
  clear hm hin
  have hread := pread k m (by omega) w
  have hz : (ptext k k).size = k + k := ptext_size k k
  have htake := ptext_take k k m hmk
  have hmk' : (k : Int) + m ≤ (k + k : Nat) := by omega
  have HR := Lib.hid hread
  clear hread
  refine wpG_seq tame ?_
  refine wpG_split tame 5 (by decide) fun τ d => ?_
  simp only [List.take_succ_cons, List.take_zero]
  go_wp2
  refine opsG_re ?_ τ d
  have hread := HR.out
  by_cases hmk2 : m = k
  · subst hmk2
    obtain ⟨row, hrow, hlen⟩ := pR_even (a := m) (by omega)
    rw [hrow] at hread
    refine opsG_call (i := 5) (rest := List.range' 6 6) tame rfl (by rfl) (run_call_fn (vs := #[.string (ptext m m)]) rfl Try.func18 (by kernel_rfl) rfl (by simp [Act.eval]; exact htake)) hread ?_
    rintro v w1 ⟨hU1, vr, rfl, hown⟩
    have hU2 := hU.trans hU1
    clear hread hown hrow hlen htake hmk' HR
    refine opsG_split tame 6 6 0 (by decide) fun τ d => ?_
    simp only [List.drop_succ_cons, List.drop_zero, List.take_succ_cons, List.take_zero]
    walk_nrm
    go_wp2
    refine opsG_nil tame ?_
    simp only [Exit.then]
    refine wpG_re ?_ τ d
    exact wpG_fr (F := yFrame m m 0 0) (by rfl) fun J => H5.out m 0 0 hmk (.inl ⟨rfl, rfl⟩) J w1 hU2
  · have hlt : m < k := by omega
    rw [pR_less hk60 hlt] at hread
    refine opsG_call (i := 5) (rest := List.range' 6 6) tame rfl (by rfl) (run_call_fn (vs := #[.string (ptext k m)]) rfl Try.func18 (by kernel_rfl) rfl (by simp [Act.eval]; exact htake)) hread ?_
    rintro v w1 ⟨hU1, rfl⟩
    have hU2 := hU.trans hU1
    clear hread htake hmk' HR
    refine opsG_split tame 6 6 0 (by decide) fun τ d => ?_
    simp only [List.drop_succ_cons, List.drop_zero, List.take_succ_cons, List.take_zero]
    walk_nrm
    go_wp2
    refine opsG_nil tame ?_
    simp only [Exit.then]
    refine wpG_re ?_ τ d
    exact wpG_fr (F := yFrame k m ((k : Int) - m - 1) 70) (by rfl) fun J => H5.out m _ 70 hmk (.inr ⟨hlt, rfl, rfl⟩) J w1 hU2

set_option maxRecDepth 100000 in
set_option maxHeartbeats 4000000 in
theorem deep_five (hk60 : k ≤ 60) (m : Nat) (at_ e : Int) (hmk : m ≤ k) (he : m = k ∧ e = 0 ∨ m < k ∧ e = 70 ∧ at_ = (k : Int) - m - 1) (J : Nat → Value) (w : World) (hU : Under W w) :
    (sndOf (sndOf (sndOf deepZ))).wpG Try.prog (bodyPostG Try.prog Try.f8 (TrueU W)) ⟨yFrame k m at_ e J, []⟩ w := by
  have hread := pread k (k + 1) (by omega) w
  rw [pR_more hk60] at hread
  have hz : (ptext k k).size = k + k := ptext_size k k
  have hshut := ptext_shut k k
  have h5 : ∀ w, Under W w → TrueU W (.bool true) w := fun w h => ⟨rfl, h⟩
  unfold deepZ deepY deepX deepText
  simp only [Try.f8, Option.getD_some, sndOf]
  unfold yFrame
  refine wpG_seq tame ?_
  refine wpG_split tame 2 (by decide) fun τ d => ?_
  simp only [List.take_succ_cons, List.take_zero]
  go_wp2
  refine opsG_re ?_ τ d
  refine opsG_call (i := 2) (rest := List.range' 3 7) tame rfl (by rfl) (run_call_fn (vs := #[.string (ptext k (k + 1))]) rfl Try.func18 (by kernel_rfl) rfl (by simp [Act.eval])) hread ?_
  rintro v w1 ⟨hU1, rfl⟩
  have hU2 := hU.trans hU1
  clear hread hz hshut
  refine opsG_split tame 3 7 0 (by decide) fun τ d => ?_
  simp only [List.drop_succ_cons, List.drop_zero, List.take_succ_cons, List.take_zero]
  walk_nrm
  go_wp2
  refine opsG_nil tame ?_
  simp only [Exit.then]
  refine wpG_re ?_ τ d
  refine wpG_lone tame fun τ d => ?_
  rcases he with ⟨rfl, rfl⟩ | ⟨hlt, rfl, rfl⟩
  · go_wp2
    exact bodyG_tmp rfl rfl ⟨rfl, hU2.re _ _⟩
  · have hne : ((m : Int) == (k : Int)) = false := by simp; omega
    go_wp2
    exact bodyG_tmp rfl rfl ⟨rfl, hU2.re _ _⟩
end

theorem deep_all (n short : Int) (hn0 : 0 ≤ n) (hn1 : n ≤ 255) (hs0 : 0 ≤ short) (hs1 : short ≤ 255) (W : World) :
    CallsG Try.prog 8 #[.int .u8 n, .int .u8 short] W (TrueU W) :=
  deep_calls n short hn0 hn1 hs0 hs1 W fun k hk J w hU => deep_two short W k hk J w hU fun J w hU => deep_three hk J w hU fun h60 p cap J w hU => deep_four h60 hs0 hs1 p cap J w hU fun m at_ e hm he J w hU => deep_five h60 m at_ e hm he J w hU
end Go.Proofs.Ytjnoffgclibfaaa
