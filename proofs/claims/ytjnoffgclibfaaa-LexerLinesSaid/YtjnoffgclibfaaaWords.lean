/- LexerWords, walked. -/
import Derived.Test.YtjnoffgclibfaaaWordsPlain
import Derived.LoopTactic
import Derived.WalkLawsBesides
import Derived.WalkSpells
namespace Go.Proofs.Ytjnoffgclibfaaa
open Go.Conc Go.Lx Go.RowKit

def refB (c : UInt8) : Bool := decide ((97 : Int) ≤ c.toNat) && decide ((c.toNat : Int) ≤ 122) || decide ((65 : Int) ≤ c.toNat) && decide ((c.toNat : Int) ≤ 90) || decide ((48 : Int) ≤ c.toNat) && decide ((c.toNat : Int) ≤ 57) || (c.toNat : Int) == 95
theorem refB_word (c : UInt8) : refB c = wordB c := by
  have := byte_all (p := fun c => refB c == wordB c) (by decide +kernel) c
  simpa using this

set_option maxRecDepth 100000 in
set_option maxHeartbeats 2000000 in
theorem ref_word (c : UInt8) (w : World) : Calls Try.prog 16 #[.int .u8 c.toNat] w fun e w' => e = .returned (.bool (wordB c)) ∧ w = w' := by
  rw [← refB_word]
  by_cases h1 : (97 : Int) ≤ c.toNat <;> by_cases h2 : (c.toNat : Int) ≤ 122 <;> (try (exfalso; omega)) <;> by_cases h3 : (65 : Int) ≤ c.toNat <;> (try (exfalso; omega)) <;> by_cases h4 : (c.toNat : Int) ≤ 90 <;> (try (exfalso; omega)) <;> by_cases h5 : (48 : Int) ≤ c.toNat <;> (try (exfalso; omega)) <;> by_cases h6 : (c.toNat : Int) ≤ 57 <;> (try (exfalso; omega)) <;> by_cases h7 : (c.toNat : Int) = 95 <;> (try (exfalso; omega))
  all_goals
    go_enter Try.func16, Try.ntmps16
    go_wp2
    go_ret
    refine ⟨?_, rfl⟩
    simp [refB, h1, h2, h3, h4, h5, h6, h7]


theorem Under.trans {a b c : World} (h : Under a b) (h' : Under b c) : Under a c :=
  ⟨h'.os.trans h.os, h'.output.trans h.output, Nat.le_trans h.size h'.size, fun x hx => (h'.low x (Nat.lt_of_lt_of_le hx h.size)).trans (h.low x hx)⟩
theorem Under.refl (a : World) : Under a a := ⟨rfl, rfl, Nat.le_refl _, fun _ _ => rfl⟩

noncomputable def wordsText : Code := Try.f5.body.getD .skip
/-- What stands behind the first test. -/
noncomputable def wordsRest : Code := sndOf (sndOf wordsText)

def wFrame (s : ByteArray) (x y : Int) (J : Nat → Value) : Array Value := #[.string s, .int .u8 x, .int .u8 y, J 3, J 4, J 5, J 6, J 7, J 8, J 9, J 10, J 11, J 12, J 13, J 14, J 15, J 16, J 17, J 18, J 19, J 20, J 21, J 22, J 23, J 24, J 25, J 26, J 27, J 28, J 29, J 30, J 31, J 32, J 33, J 34, J 35, J 36, J 37, J 38, J 39, J 40, J 41, J 42, J 43, J 44, J 45, J 46, J 47, J 48, J 49, J 50, J 51, J 52, J 53, J 54, J 55, J 56, J 57, J 58, J 59, J 60, J 61, J 62, J 63, J 64, J 65, J 66, J 67, J 68, J 69, J 70, J 71, J 72, J 73, J 74, J 75, J 76, J 77, J 78, J 79, J 80, J 81, J 82, J 83, J 84, J 85, J 86, J 87, J 88, J 89, J 90, J 91, J 92, J 93, J 94, J 95]
theorem wpG_frame {P : Program} {c : Code} {Q : Exit → Act → World → Prop} {A : Array Value} {F : (Nat → Value) → Array Value} {df : List Deferred} {w : World} (hA : A = F fun n => A.getD n undef) (h : ∀ J, c.wpG P Q ⟨F J, df⟩ w) : c.wpG P Q ⟨A, df⟩ w := by
  have := h fun n => A.getD n undef
  rw [← hA] at this
  exact this

set_option maxRecDepth 100000 in
set_option maxHeartbeats 2000000 in
theorem words_calls (s : ByteArray) (x y : Int) (W : World) (hrest : (0 < s.size ∧ s.size ≤ 1024) → ∀ J w, Under W w → wordsRest.wpG Try.prog (bodyPostG Try.prog Try.f5 (TrueU W)) ⟨wFrame s x y J, []⟩ w) :
    CallsG Try.prog 5 #[.string s, .int .u8 x, .int .u8 y] W (TrueU W) := by
  refine callsG_of_wpG tame Try.func5 rfl ?_ TrueU.re
  simp only [Try.ntmps5, List.size_toArray, List.length_cons, List.length_nil, Nat.reduceAdd, Nat.reduceSub, Array.replicate_succ, Array.replicate_zero, List.push_toArray, List.append_toArray, List.nil_append, List.cons_append]
  refine wpG_seq tame (wpG_lone tame fun τ d => ?_)
  go_wp2
  refine wpG_re ?_ τ d
  by_cases h1 : (1024 : Int) < s.size
  · refine wpG_seq tame ?_
    refine wpG_seq tame (wpG_lone tame fun τ d => ?_)
    go_wp2
    refine wpG_re ?_ τ d
    refine wpG_cond tame (t := true) rfl ?_
    simp only [if_true]
    refine wpG_seq tame (wpG_region tame ?_)
    simp only [List.size_toArray, List.length_cons, List.length_nil, Nat.reduceAdd, Nat.zero_add, List.range, List.range.loop]
    refine opsG_call tame rfl (by rfl) (run_call_fn (vs := #[]) rfl Try.func13 (by kernel_rfl) rfl (by simp)) (shown_calls _) ?_
    rintro v w1 ⟨rfl, hU1⟩
    refine opsG_upto tame [1] [] fun τ d => ?_
    refine .inl ?_
    refine opsG_nil tame ?_
    simp only [Exit.then]
    refine wpG_lone tame fun τ d => ?_
    walk_nrm
    go_wp2
    exact bodyG_tmp rfl rfl ⟨rfl, hU1.re _ _⟩
  · by_cases h2 : s.size = 0
    · have h2' : ((s.size : Int) == 0) = true := by simp [h2]
      refine wpG_seq tame ?_
      refine wpG_seq tame (wpG_lone tame fun τ d => ?_)
      go_wp2
      refine wpG_re ?_ τ d
      refine wpG_cond tame (t := true) rfl ?_
      simp only [if_true]
      refine wpG_seq tame (wpG_region tame ?_)
      simp only [List.size_toArray, List.length_cons, List.length_nil, Nat.reduceAdd, Nat.zero_add, List.range, List.range.loop]
      refine opsG_call tame rfl (by rfl) (run_call_fn (vs := #[]) rfl Try.func13 (by kernel_rfl) rfl (by simp)) (shown_calls _) ?_
      rintro v w1 ⟨rfl, hU1⟩
      refine opsG_upto tame [1] [] fun τ d => ?_
      refine .inl ?_
      refine opsG_nil tame ?_
      simp only [Exit.then]
      refine wpG_lone tame fun τ d => ?_
      walk_nrm
      go_wp2
      exact bodyG_tmp rfl rfl ⟨rfl, hU1.re _ _⟩
    · have h2' : ((s.size : Int) == 0) = false := by simp; exact fun h => h2 (by simpa using h)
      refine wpG_seq tame (wpG_seq tame ?_)
      refine wpG_split tame 9 (by decide) fun τ d => ?_
      simp only [List.take_succ_cons, List.take_zero]
      go_wp2
      refine opsG_re ?_ τ d
      refine opsG_call (i := 9) (rest := List.range' 10 2) tame rfl (by rfl) (run_call_fn (vs := #[]) rfl Try.func13 (by kernel_rfl) rfl (by simp)) (shown_calls _) ?_
      rintro v w1 ⟨rfl, hU1⟩
      refine opsG_split tame 10 2 0 (by decide) fun τ d => ?_
      simp only [List.drop_succ_cons, List.drop_zero, List.take_succ_cons, List.take_zero]
      walk_nrm
      go_wp2
      refine opsG_nil tame ?_
      simp only [Exit.then]
      refine wpG_re ?_ τ d
      refine wpG_cond tame (t := false) rfl ?_
      simp only [Bool.false_eq_true, if_false]
      refine wpG_lone tame fun τ d => ?_
      go_wp2
      refine wpG_re ?_ τ d
      exact wpG_frame (F := wFrame s x y) (by rfl) fun J => hrest ⟨by omega, by omega⟩ J w1 hU1
end Go.Proofs.Ytjnoffgclibfaaa
