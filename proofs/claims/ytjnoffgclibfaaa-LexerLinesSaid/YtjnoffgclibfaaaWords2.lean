/- LexerWords: the loop that looks at the bytes. -/
import Derived.Test.YtjnoffgclibfaaaWords
namespace Go.Proofs.Ytjnoffgclibfaaa
open Go.Conc Go.Lx Go.RowKit

noncomputable def wordsLook : Code := fstOf wordsRest
noncomputable def lookRound : Code := inOf (inOf (sndOf wordsLook))
theorem wordsLook_eq : wordsLook = .seq (fstOf wordsLook) (.block 0 (.loop lookRound)) := by rfl
def w1Frame (s : ByteArray) (x y : Int) (k : Nat) (J : Nat → Value) : Array Value := #[.string s, .int .u8 x, .int .u8 y, J 3, J 4, J 5, J 6, .int .i64 (k : Int), J 8, J 9, J 10, J 11, J 12, J 13, J 14, J 15, J 16, J 17, J 18, J 19, J 20, J 21, J 22, J 23, J 24, J 25, J 26, J 27, J 28, J 29, J 30, J 31, J 32, J 33, J 34, J 35, J 36, J 37, J 38, J 39, J 40, J 41, J 42, J 43, J 44, J 45, J 46, J 47, J 48, J 49, J 50, J 51, J 52, J 53, J 54, J 55, J 56, J 57, J 58, J 59, J 60, J 61, J 62, J 63, J 64, J 65, J 66, J 67, J 68, J 69, J 70, J 71, J 72, J 73, J 74, J 75, J 76, J 77, J 78, J 79, J 80, J 81, J 82, J 83, J 84, J 85, J 86, J 87, J 88, J 89, J 90, J 91, J 92, J 93, J 94, J 95]
def slot7 (a : Act) : Nat := match a.tmps.getD 7 undef with | .int _ n => n.toNat | _ => 0
theorem slot7_of (s : ByteArray) (x y : Int) (k : Nat) (J : Nat → Value) (df : List Deferred) : slot7 ⟨w1Frame s x y k J, df⟩ = k := by
  have : (w1Frame s x y k J).getD 7 undef = .int .i64 k := rfl
  simp [slot7, this]


section
variable {s : ByteArray} {x y : Int} {W : World}

set_option maxRecDepth 100000 in
set_option maxHeartbeats 2000000 in
/-- A round at a byte of a word. -/
theorem look_word (k : Nat) (hk : k < s.size) (hs : s.size ≤ 1024) (hw : wordB (s[k]'hk) = true) (J : Nat → Value) (w : World) :
    lookRound.wp Try.prog (Exit.then (IsF (w1Frame s x y (k + 1)) [] (w = ·)) (fun _ _ _ => False)) ⟨w1Frame s x y k J, []⟩ w := by
  unfold lookRound wordsLook wordsRest wordsText
  simp only [Try.f5, Option.getD_some, fstOf, sndOf, inOf]
  unfold w1Frame
  have h1 : (k : Int) < s.size := by omega
  have hc := ref_word (s[k]'hk)
  rw [hw] at hc
  go_wp2_with (go_at_call 16; refine (hc _).mono ?_; rintro e w' ⟨rfl, rfl⟩)
  have e : ((k : Int) + 1) = ((k + 1 : Nat) : Int) := by omega
  rw [e]
  exact isFa (F := w1Frame s x y (k + 1)) (by rfl) rfl

set_option maxRecDepth 100000 in
set_option maxHeartbeats 2000000 in
/-- Behind the last byte. -/
theorem look_end (J : Nat → Value) (w : World) :
    lookRound.wp Try.prog (fun e a' w' => e = .exit 0 ∧ IsF (w1Frame s x y s.size) [] (w = ·) a' w') ⟨w1Frame s x y s.size J, []⟩ w := by
  unfold lookRound wordsLook wordsRest wordsText
  simp only [Try.f5, Option.getD_some, fstOf, sndOf, inOf]
  unfold w1Frame
  go_wp2
  exact isFa (F := w1Frame s x y s.size) (by rfl) rfl

set_option maxRecDepth 100000 in
set_option maxHeartbeats 2000000 in
/-- A round at another byte. -/
theorem look_no (k : Nat) (hk : k < s.size) (hs : s.size ≤ 1024) (hw : wordB (s[k]'hk) = false) (J : Nat → Value) (w : World) (hU : Under W w) :
    lookRound.wpG Try.prog (fun e a' w' => e = .ret ∧ bodyPostG Try.prog Try.f5 (TrueU W) .ret a' w') ⟨w1Frame s x y k J, []⟩ w := by
  unfold lookRound wordsLook wordsRest wordsText
  simp only [Try.f5, Option.getD_some, fstOf, sndOf, inOf]
  unfold w1Frame
  have h1 : (k : Int) < s.size := by omega
  have hc := ref_word (s[k]'hk)
  rw [hw] at hc
  refine wpG_seq tame (wpG_lone tame fun τ d => ?_)
  go_wp2
  refine wpG_re ?_ τ d
  refine wpG_seq tame (wpG_block tame (wpG_seq tame (wpG_lone tame fun τ d => ?_)))
  go_wp2_with (go_at_call 16; refine (hc _).mono ?_; rintro e w' ⟨rfl, rfl⟩)
  refine wpG_re ?_ τ d
  refine wpG_cond tame (t := true) rfl ?_
  simp only [if_true]
  refine wpG_seq tame (wpG_region tame ?_)
  simp only [List.size_toArray, List.length_cons, List.length_nil, Nat.reduceAdd, Nat.zero_add, List.range, List.range.loop]
  refine opsG_call tame rfl (by rfl) (run_call_fn (vs := #[]) rfl Try.func13 (by kernel_rfl) rfl (by simp)) (shown_calls _) ?_
  rintro v w1 ⟨rfl, hU1⟩
  refine opsG_upto tame [1] [] fun τ d => ?_
  refine .inl ?_
  refine opsG_nil tame ?_
  simp only [Exit.then]
  refine wpG_lone tame fun τ d => ?_
  walk_nrm
  go_wp2
  exact ⟨trivial, bodyG_tmp rfl rfl ⟨rfl, (hU.trans hU1).re _ _⟩⟩

/-- The loop: all are of a word, or the law says so at once. -/
theorem look_all (hs : s.size ≤ 1024) (J : Nat → Value) (w : World) (hU : Under W w) :
    (Code.block 0 (.loop lookRound)).wpG Try.prog (Exit.then (fun a' w' => (∀ c ∈ s.data.toList, wordB c = true) ∧ IsF (w1Frame s x y s.size) [] (Under W) a' w') (bodyPostG Try.prog Try.f5 (TrueU W))) ⟨w1Frame s x y 0 J, []⟩ w := by
  refine wpG_block tame (wpG_loop tame (fun a w => ∃ k J, k ≤ s.size ∧ (∀ j (h : j < s.size), j < k → wordB (s[j]'h) = true) ∧ a = ⟨w1Frame s x y k J, []⟩ ∧ Under W w) (fun a _ => s.size - slot7 a) ⟨0, J, Nat.zero_le _, fun j _ hj => absurd hj (by omega), rfl, hU⟩ ?_)
  rintro a w ⟨k, J, hk, hall, rfl, hU⟩
  rcases Nat.lt_or_ge k s.size with hlt | hge
  · cases hw : wordB (s[k]'hlt) with
    | true =>
      refine wpG_mono (wpG_lone tame (Q := Exit.then (IsF (w1Frame s x y (k + 1)) [] (·.Alike w)) (fun _ _ _ => False)) (wp_same ⟨rfl, rfl, rfl⟩ fun w' hw' => wp_mono (look_word k hlt hs hw J w') (mono_same hw'))) ?_
      intro e a' w' h
      cases e with
      | normal =>
        obtain ⟨⟨J', rfl⟩, hA⟩ := h
        refine ⟨⟨k + 1, J', hlt, fun j hj hjk => ?_, rfl, ⟨hA.2.1.trans hU.os, hA.2.2.trans hU.output, by rw [hA.1]; exact hU.size, fun b hb => by rw [hA.1]; exact hU.low b hb⟩⟩, ?_⟩
        · rcases Nat.lt_or_ge j k with h' | h'
          · exact hall j hj h'
          · obtain rfl : j = k := by omega
            exact hw
        · show s.size - slot7 _ < s.size - slot7 _
          rw [slot7_of, slot7_of]; omega
      | _ => exact h.elim
    | false =>
      refine wpG_mono (look_no k hlt hs hw J w hU) ?_
      rintro e a' w' ⟨rfl, h⟩
      exact h
  · obtain rfl : k = s.size := by omega
    refine wpG_mono (wpG_lone tame (Q := fun e a' w' => e = .exit 0 ∧ IsF (w1Frame s x y s.size) [] (·.Alike w) a' w') (wp_same ⟨rfl, rfl, rfl⟩ fun w' hw' => wp_mono (look_end (s := s) (x := x) (y := y) J w') ?_)) ?_
    · rintro e a'' w'' ⟨rfl, h, rfl⟩
      exact ⟨rfl, h, hw'⟩
    · rintro e a' w' ⟨rfl, ⟨J', rfl⟩, hA⟩
      refine ⟨fun c hc => ?_, ⟨J', rfl⟩, hA.2.1.trans hU.os, hA.2.2.trans hU.output, by rw [hA.1]; exact hU.size, fun b hb => by rw [hA.1]; exact hU.low b hb⟩
      obtain ⟨j, hj, rfl⟩ := List.mem_iff_getElem.1 hc
      exact hall j hj hj
end
end Go.Proofs.Ytjnoffgclibfaaa
