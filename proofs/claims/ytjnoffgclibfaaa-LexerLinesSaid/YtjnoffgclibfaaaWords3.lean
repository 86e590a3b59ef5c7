/- LexerWords: the blanks around the word. -/
import Derived.Test.YtjnoffgclibfaaaWords2
namespace Go.Proofs.Ytjnoffgclibfaaa
open Go.Conc Go.Lx Go.RowKit

noncomputable def wordsTail : Code := sndOf wordsRest
noncomputable def aheadLoop : Code := fstOf (sndOf wordsTail)
noncomputable def behindLoop : Code := fstOf (sndOf (sndOf (sndOf wordsTail)))
noncomputable def wordsLast : Code := sndOf (sndOf (sndOf (sndOf wordsTail)))
theorem wordsTail_eq : wordsTail = .seq (fstOf wordsTail) (.seq aheadLoop (.seq (fstOf (sndOf (sndOf wordsTail))) (.seq behindLoop wordsLast))) := by rfl

def w8Frame (s : ByteArray) (x y : Int) (t : ByteArray) (J : Nat → Value) : Array Value := #[.string s, .int .u8 x, .int .u8 y, J 3, J 4, J 5, J 6, J 7, .string t, J 9, J 10, J 11, J 12, J 13, J 14, J 15, J 16, J 17, J 18, J 19, J 20, J 21, J 22, J 23, J 24, J 25, J 26, J 27, J 28, J 29, J 30, J 31, J 32, J 33, J 34, J 35, J 36, J 37, J 38, J 39, J 40, J 41, J 42, J 43, J 44, J 45, J 46, J 47, J 48, J 49, J 50, J 51, J 52, J 53, J 54, J 55, J 56, J 57, J 58, J 59, J 60, J 61, J 62, J 63, J 64, J 65, J 66, J 67, J 68, J 69, J 70, J 71, J 72, J 73, J 74, J 75, J 76, J 77, J 78, J 79, J 80, J 81, J 82, J 83, J 84, J 85, J 86, J 87, J 88, J 89, J 90, J 91, J 92, J 93, J 94, J 95]
def w10Frame (s : ByteArray) (x y : Int) (t u : ByteArray) (J : Nat → Value) : Array Value := #[.string s, .int .u8 x, .int .u8 y, J 3, J 4, J 5, J 6, J 7, .string t, J 9, .string u, J 11, J 12, J 13, J 14, J 15, J 16, J 17, J 18, J 19, J 20, J 21, J 22, J 23, J 24, J 25, J 26, J 27, J 28, J 29, J 30, J 31, J 32, J 33, J 34, J 35, J 36, J 37, J 38, J 39, J 40, J 41, J 42, J 43, J 44, J 45, J 46, J 47, J 48, J 49, J 50, J 51, J 52, J 53, J 54, J 55, J 56, J 57, J 58, J 59, J 60, J 61, J 62, J 63, J 64, J 65, J 66, J 67, J 68, J 69, J 70, J 71, J 72, J 73, J 74, J 75, J 76, J 77, J 78, J 79, J 80, J 81, J 82, J 83, J 84, J 85, J 86, J 87, J 88, J 89, J 90, J 91, J 92, J 93, J 94, J 95]
def Blanks (t : ByteArray) (n : Nat) : Prop := t.size = n ∧ ∀ c ∈ t.data.toList, blankB c = true
theorem Blanks.app {t z : ByteArray} {n m : Nat} (h : Blanks t n) (hz : Blanks z m) : Blanks (t ++ z) (n + m) := by
  refine ⟨by rw [ByteArray.size_append, h.1, hz.1], fun x hx => ?_⟩
  have hx : x ∈ t.data.toList ++ z.data.toList := by simpa [ByteArray.data_append] using hx
  rcases List.mem_append.1 hx with h' | h'
  · exact h.2 x h'
  · exact hz.2 x h'

def AheadPost (s : ByteArray) (x y : Int) (w : World) (a' : Act) (w' : World) : Prop := ∃ t n, Blanks t n ∧ n ≤ 19 ∧ IsF (w8Frame s x y t) [] (w = ·) a' w'

section
variable {s : ByteArray} {x y : Int}
set_option maxRecDepth 100000 in
set_option maxHeartbeats 4000000 in
theorem ahead_all (hx : 0 ≤ x) (hx2 : x ≤ 255) (J : Nat → Value) (w : World) :
    aheadLoop.wp Try.prog (Exit.then (AheadPost s x y w) (fun _ _ _ => False)) ⟨w8Frame s x y ⟨#[]⟩ J, []⟩ w := by
  unfold aheadLoop wordsTail wordsRest wordsText
  simp only [Try.f5, Option.getD_some, fstOf, sndOf]
  unfold w8Frame
  go_wp2
  go_loop [8, 9] (fun v i => ∃ (k : Nat) (t : ByteArray), (k : Int) ≤ x % 20 ∧ i = .int .i64 k ∧ v = .string t ∧ Blanks t k) (fun _ i => 20 - (intOf i).toNat)
  case atStart => exact ⟨0, ⟨#[]⟩, by omega, rfl, rfl, rfl, by simp⟩
  case round =>
    obtain ⟨k, t, hk, rfl, rfl, hb⟩ := hrel
    have ht : ¬ 9223372036854775807 < t.size + 1 := by have := hb.1; omega
    have H := Lib.hid hb
    clear hb
    by_cases hlt : (k : Int) < x % 20
    · have hm : (k : Int) % 4 = 0 ∨ (k : Int) % 4 = 1 ∨ (k : Int) % 4 = 2 ∨ (k : Int) % 4 = 3 := by omega
      rcases hm with hm | hm | hm | hm
      all_goals
        go_wp2
        go_round
        case rel => exact ⟨k + 1, _, by omega, by go_num, rfl, H.out.app ⟨by decide +kernel, by decide +kernel⟩⟩
        case measure => simp [intOf]; omega
    · go_wp2
      exact ⟨t, k, H.out, by omega, isFa (F := w8Frame s x y t) (by rfl) rfl⟩

def BehindPost (s : ByteArray) (x y : Int) (t : ByteArray) (w : World) (a' : Act) (w' : World) : Prop := ∃ r n, Blanks r n ∧ n ≤ 19 ∧ IsF (w10Frame s x y t (t ++ s ++ r)) [] (w = ·) a' w'

set_option maxRecDepth 100000 in
set_option maxHeartbeats 4000000 in
theorem behind_all {t : ByteArray} (hs : s.size ≤ 1024) (ht : t.size ≤ 19) (hy : 0 ≤ y) (hy2 : y ≤ 255) (J : Nat → Value) (w : World) :
    behindLoop.wp Try.prog (Exit.then (BehindPost s x y t w) (fun _ _ _ => False)) ⟨w10Frame s x y t (t ++ s) J, []⟩ w := by
  unfold behindLoop wordsTail wordsRest wordsText
  simp only [Try.f5, Option.getD_some, fstOf, sndOf]
  unfold w10Frame
  go_wp2
  go_loop [10, 11] (fun v i => ∃ (k : Nat) (r : ByteArray), (k : Int) ≤ y % 20 ∧ i = .int .i64 k ∧ v = .string (t ++ s ++ r) ∧ Blanks r k) (fun _ i => 20 - (intOf i).toNat)
  case atStart => exact ⟨0, ⟨#[]⟩, by omega, rfl, by rw [show t ++ s ++ (⟨#[]⟩ : ByteArray) = t ++ s by simp [ByteArray.ext_iff, ByteArray.data_append]], rfl, by simp⟩
  case round =>
    obtain ⟨k, r, hk, rfl, rfl, hb⟩ := hrel
    have hz : ¬ 9223372036854775807 < (t ++ s ++ r).size + 1 := by have := hb.1; simp only [ByteArray.size_append]; omega
    have hz2 : ¬ 9223372036854775807 < t.size + s.size + r.size + 1 := by have := hb.1; omega
    have H := Lib.hid hb
    clear hb
    by_cases hlt : (k : Int) < y % 20
    · have hm : (k : Int) % 4 = 0 ∨ (k : Int) % 4 = 1 ∨ (k : Int) % 4 = 2 ∨ (k : Int) % 4 = 3 := by omega
      rcases hm with hm | hm | hm | hm
      all_goals
        go_wp2
        go_round
        case rel => exact ⟨k + 1, _, by omega, by go_num, by rw [ByteArray.append_assoc (a := t ++ s)], H.out.app ⟨by decide +kernel, by decide +kernel⟩⟩
        case measure => simp [intOf]; omega
    · go_wp2
      exact ⟨r, k, H.out, by omega, isFa (F := w10Frame s x y t (t ++ s ++ r)) (by rfl) rfl⟩

set_option maxRecDepth 100000 in
theorem empty_text {k : Nat} (J : Nat → Value) (w : World) :
    (fstOf wordsTail).wp Try.prog (Exit.then (IsF (w8Frame s x y ⟨#[]⟩) [] (w = ·)) (fun _ _ _ => False)) ⟨w1Frame s x y k J, []⟩ w := by
  unfold wordsTail wordsRest wordsText
  simp only [Try.f5, Option.getD_some, fstOf, sndOf]
  unfold w1Frame
  go_wp2
  exact isFa (F := w8Frame s x y ⟨#[]⟩) (by rfl) rfl

set_option maxRecDepth 100000 in
theorem joined_text {t : ByteArray} (hs : s.size ≤ 1024) (ht : t.size ≤ 19) (J : Nat → Value) (w : World) :
    (fstOf (sndOf (sndOf wordsTail))).wp Try.prog (Exit.then (IsF (w10Frame s x y t (t ++ s)) [] (w = ·)) (fun _ _ _ => False)) ⟨w8Frame s x y t J, []⟩ w := by
  unfold wordsTail wordsRest wordsText
  simp only [Try.f5, Option.getD_some, fstOf, sndOf]
  unfold w8Frame
  have hz : ¬ 9223372036854775807 < t.size + s.size := by omega
  go_wp2
  exact isFa (F := w10Frame s x y t (t ++ s)) (by rfl) rfl
end
end Go.Proofs.Ytjnoffgclibfaaa
