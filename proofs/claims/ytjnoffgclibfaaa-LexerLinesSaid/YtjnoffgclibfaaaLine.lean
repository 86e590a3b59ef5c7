/- lexer.Line, and what it says plainly. -/
import Derived.Test.YtjnoffgclibfaaaWords4
import Derived.Lib.Bytealg
namespace Go.Proofs.Ytjnoffgclibfaaa
open Go.Conc Go.Lx Go.RowKit

def no10 (c : UInt8) : Bool := c != 10
/-- Where the last byte 10 stands, or -1. -/
def lastIdx (l : List UInt8) : Int := (l.length : Int) - 1 - (many no10 l.reverse : Nat)
def lineN (l : List UInt8) : Int := 1 + (Lib.countByte l 10 : Nat)
def colN (l : List UInt8) : Int := (l.length : Int) - lastIdx l

theorem lastIdx_bounds (l : List UInt8) : -1 ≤ lastIdx l ∧ lastIdx l ≤ (l.length : Int) - 1 := by
  have := many_le no10 l.reverse
  rw [List.length_reverse] at this
  unfold lastIdx
  omega
theorem lastIdx_snoc (l : List UInt8) (c : UInt8) : lastIdx (l ++ [c]) = if c = 10 then (l.length : Int) else lastIdx l := by
  unfold lastIdx
  rw [List.reverse_append, List.reverse_singleton, List.singleton_append]
  by_cases hc : c = 10
  · subst hc
    rw [if_pos rfl]
    have : many no10 (10 :: l.reverse) = 0 := by simp [many, no10]
    rw [this]
    simp
  · rw [if_neg hc]
    have hno : no10 c = true := by simp [no10, hc]
    have : many no10 (c :: l.reverse) = many no10 l.reverse + 1 := by simp only [many, List.takeWhile_cons, hno, if_true, List.length_cons]
    rw [this]
    simp only [List.length_append, List.length_cons, List.length_nil]
    omega
theorem count_snoc (l : List UInt8) (c : UInt8) : lineN (l ++ [c]) = if c = 10 then lineN l + 1 else lineN l := by
  unfold lineN Lib.countByte
  rw [List.count_append]
  by_cases hc : c = 10
  · subst hc; rw [if_pos rfl]; simp; omega
  · rw [if_neg hc]; simp [hc]
theorem col_snoc (l : List UInt8) (c : UInt8) : colN (l ++ [c]) = if c = 10 then 1 else colN l + 1 := by
  unfold colN
  rw [lastIdx_snoc]
  by_cases hc : c = 10
  · rw [if_pos hc, if_pos hc]; simp; omega
  · rw [if_neg hc, if_neg hc]; simp; omega
theorem line_pos (l : List UInt8) : 1 ≤ lineN l ∧ lineN l ≤ l.length + 1 := by
  unfold lineN Lib.countByte
  have := List.count_le_length (a := (10 : UInt8)) (l := l)
  omega
theorem col_pos (l : List UInt8) : 1 ≤ colN l ∧ colN l ≤ l.length + 1 := by
  unfold colN
  have := lastIdx_bounds l
  omega

theorem run_cs (s : ByteArray) (w : World) : (callFunc 48 #[.string s, .int .u8 10]).run Try.prog w = .ok (.value (.int .i64 (Lib.countByte s.data.toList 10 : Nat))) w := by
  rw [run_callFunc_extern Try.func48 (by kernel_rfl) (by kernel_rfl) (by kernel_rfl) (e := Extern.BytealgCount.count) (by kernel_rfl), Lib.run_countString]
  simp [Result.andThen]

set_option maxRecDepth 100000 in
set_option maxHeartbeats 1000000 in
theorem count_calls (s : ByteArray) (w : World) : Calls Try.prog 42 #[.string s, .string ⟨#[10]⟩] w fun e w' => e = .returned (.int .i64 (Lib.countByte s.data.toList 10 : Nat)) ∧ w = w' := by
  have hr := run_cs s
  have h10 : (({ data := #[10] } : ByteArray)[0]'(by decide)).toNat = 10 := rfl
  go_enter Try.func42, Try.ntmps42
  go_wp2
  go_ret
  exact ⟨rfl, rfl⟩

set_option maxRecDepth 100000 in
set_option maxHeartbeats 1000000 in
theorem lastString_calls (s : ByteArray) (hs : s.size ≤ 100000) (w : World) : Calls Try.prog 50 #[.string s, .int .u8 10] w fun e w' => e = .returned (.int .i64 (lastIdx s.data.toList)) ∧ w = w' := by
  have hml := many_le no10 s.data.toList.reverse
  have hrl : s.data.toList.reverse.length = s.size := by rw [List.length_reverse]; rfl
  have HML : RowKit.Hid (many no10 s.data.toList.reverse ≤ s.size) := by rw [hrl] at hml; exact hml
  have HRL := Lib.hid hrl
  clear hml hrl
  go_enter Try.func50, Try.ntmps50
  go_wp2
  go_loop [5] (fun i => ∃ m : Nat, m ≤ s.size ∧ s.size - m ≤ many no10 s.data.toList.reverse ∧ i = .int .i64 ((m : Int) - 1)) (fun i => (intOf i + 1).toNat)
  case atStart => exact ⟨s.size, Nat.le_refl _, by omega, rfl⟩
  case round =>
    obtain ⟨m, hm, hmany, rfl⟩ := hrel
    have HM := Lib.hid hmany
    clear hmany
    cases m with
    | zero =>
      rw [show (((0 : Nat) : Int) - 1) = -1 by decide]
      go_wp2
      go_ret
      refine ⟨?_, rfl⟩
      have h1 := HM.out
      have h2 := HML.out
      have : lastIdx s.data.toList = -1 := by
        have e : (s.data.toList.length : Int) = s.size := rfl
        unfold lastIdx
        rw [e]; omega
      rw [this]; rfl
    | succ k =>
      rw [show (((k + 1 : Nat) : Int) - 1) = (k : Int) by omega]
      have hlt : k < s.size := hm
      have hin : (k : Int) < s.size := by omega
      have hj : s.size - (k + 1) < s.data.toList.reverse.length := by rw [HRL.out]; omega
      have hat := many_at no10 s.data.toList.reverse (s.size - (k + 1)) HM.out hj
      have hget : s.data.toList.reverse[s.size - (k + 1)] = s[k]'hlt := by
        rw [List.getElem_reverse]
        have e : s.data.toList.length - 1 - (s.size - (k + 1)) = k := by
          have : s.data.toList.length = s.size := rfl
          rw [this]; omega
        simp only [e]; rfl
      rw [hget] at hat
      have HAT := Lib.hid hat
      clear hat hget hj
      by_cases hc : s[k]'hlt = 10
      · have hb : (((s[k]'hlt).toNat : Int) == 10) = true := by rw [hc]; rfl
        have HC := Lib.hid hc
        clear hc
        go_wp2
        go_ret
        refine ⟨?_, rfl⟩
        have h1 := HAT.out.2 (by rw [HC.out]; rfl)
        have : lastIdx s.data.toList = (k : Int) := by
          have e : (s.data.toList.length : Int) = s.size := rfl
          unfold lastIdx
          rw [e, ← h1]; omega
        rw [this]; rfl
      · have hb : (((s[k]'hlt).toNat : Int) == 10) = false := by
          have : (s[k]'hlt).toNat ≠ 10 := fun h => hc (UInt8.toNat_inj.1 h)
          simp; omega
        have HC := Lib.hid hc
        clear hc
        go_wp2
        go_round
        case rel => exact ⟨k, by omega, by have := HAT.out.1 (by simp [no10, HC.out]); omega, rfl⟩
        case measure => simp [intOf]

set_option maxRecDepth 100000 in
theorem last_calls (s : ByteArray) (hs : s.size ≤ 100000) (w : World) : Calls Try.prog 43 #[.string s, .int .u8 10] w fun e w' => e = .returned (.int .i64 (lastIdx s.data.toList)) ∧ w = w' := by
  go_enter Try.func43, Try.ntmps43
  go_wp2_with (go_at_call 50; refine (lastString_calls s hs _).mono ?_; rintro e w' ⟨rfl, rfl⟩)
  go_ret
  exact ⟨rfl, rfl⟩

theorem take_toList (s : ByteArray) (k : Nat) : (s.extract 0 k).data.toList = s.data.toList.take k := by
  rw [ByteArray.data_extract, Array.toList_extract, List.extract_eq_take_drop]; simp

set_option maxRecDepth 100000 in
set_option maxHeartbeats 1000000 in
/-- Line, at a place k that is the smaller of 'at' and the length. -/
theorem line_calls (s : ByteArray) (at_ : Int) (k : Nat) (hs : s.size ≤ 100000) (h0 : 0 ≤ at_) (hk : (at_ ≤ s.size ∧ at_ = k) ∨ ((s.size : Int) < at_ ∧ k = s.size)) (w : World) :
    Calls Try.prog 28 #[.string s, .int .i64 at_] w fun e w' => e = .returned (.tuple #[.int .i64 (lineN (s.data.toList.take k)), .int .i64 (colN (s.data.toList.take k))]) ∧ w = w' := by
  have hkl : k ≤ s.size := by omega
  have hz : (s.extract 0 k).size = k := by simp only [ByteArray.size_extract]; omega
  have hc := count_calls (s.extract 0 k)
  have hl := last_calls (s.extract 0 k) (by omega)
  rw [take_toList] at hc hl
  have hlen : (s.data.toList.take k).length = k := by rw [List.length_take]; have : s.data.toList.length = s.size := rfl; omega
  have hb := lastIdx_bounds (s.data.toList.take k)
  have hcb := List.count_le_length (a := (10 : UInt8)) (l := s.data.toList.take k)
  rw [hlen] at hb hcb
  have e1 : lineN (s.data.toList.take k) = 1 + (Lib.countByte (s.data.toList.take k) 10 : Nat) := rfl
  have e2 : colN (s.data.toList.take k) = (k : Int) - lastIdx (s.data.toList.take k) := by unfold colN; rw [hlen]
  rw [e1, e2]
  clear e1 e2 hlen
  have hcb' : Lib.countByte (s.data.toList.take k) 10 ≤ k := hcb
  clear hcb
  generalize Lib.countByte (s.data.toList.take k) 10 = n at hc hcb' ⊢
  generalize lastIdx (s.data.toList.take k) = i at hl hb ⊢
  by_cases hk0 : k = 0
  · subst hk0
    have he : s.extract 0 0 = ByteArray.empty := by simp
    rw [he] at hc hl
    have HC := Lib.hid hc
    have HL := Lib.hid hl
    clear hc hl he hz
    rcases hk with ⟨h1, rfl⟩ | ⟨h1, h2⟩
    · go_enter Try.func28, Try.ntmps28
      go_wp2_with (first | (go_at_call 42; refine (HC.out _).mono ?_; rintro e w' ⟨rfl, rfl⟩) | (go_at_call 43; refine (HL.out _).mono ?_; rintro e w' ⟨rfl, rfl⟩))
      go_ret2
      exact ⟨by rw [show (((0 : Nat) : Int) - i) = -i by omega]; rfl, rfl⟩
    · have hs0 : s = ByteArray.empty := by
        apply ByteArray.ext
        apply Array.eq_empty_of_size_eq_zero
        exact h2.symm
      subst hs0
      have h1' : (0 : Int) < at_ := by simpa using h1
      clear h1 h2
      go_enter Try.func28, Try.ntmps28
      go_wp2_with (first | (go_at_call 42; refine (HC.out _).mono ?_; rintro e w' ⟨rfl, rfl⟩) | (go_at_call 43; refine (HL.out _).mono ?_; rintro e w' ⟨rfl, rfl⟩))
      go_ret2
      exact ⟨by rw [show (((0 : Nat) : Int) - i) = -i by omega]; rfl, rfl⟩
  · have hkp : 0 < k := by omega
    have HC := Lib.hid hc
    have HL := Lib.hid hl
    clear hc hl
    rcases hk with ⟨h1, rfl⟩ | ⟨h1, rfl⟩
    · go_enter Try.func28, Try.ntmps28
      go_wp2_with (first | (go_at_call 42; refine (HC.out _).mono ?_; rintro e w' ⟨rfl, rfl⟩) | (go_at_call 43; refine (HL.out _).mono ?_; rintro e w' ⟨rfl, rfl⟩))
      go_ret2
      exact ⟨rfl, rfl⟩
    · have he : s.extract 0 s.size = s := by simp
      rw [he] at HC HL
      clear he hz
      go_enter Try.func28, Try.ntmps28
      go_wp2_with (first | (go_at_call 42; refine (HC.out _).mono ?_; rintro e w' ⟨rfl, rfl⟩) | (go_at_call 43; refine (HL.out _).mono ?_; rintro e w' ⟨rfl, rfl⟩))
      go_ret2
      exact ⟨rfl, rfl⟩
end Go.Proofs.Ytjnoffgclibfaaa
