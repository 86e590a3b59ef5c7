/- wire.Pack: its contract. -/
import Derived.Test.YtiibknlpeodejaaDoorTwo
set_option linter.unusedSimpArgs false
set_option linter.unusedVariables false
namespace Go.Proofs.YtiibknlpeodejaaDoor
open Go.Lx Go.RowKit

/-- What Pack adds, text by text. -/
def packFrom : List UInt8 → List ByteArray → Option (List UInt8)
  | acc, [] => some acc
  | acc, s :: r => if 20000 < s.size then none else packFrom (acc ++ twoB s.size ++ s.data.toList) r
def packO (ss : List ByteArray) : Option (List UInt8) := if 255 < ss.length then none else packFrom [lowB ss.length] ss
def packOut : Option (List UInt8) → Ending
  | some l => .returned (.tuple #[.string ⟨l.toArray⟩, .int .i64 0])
  | none => .returned (.tuple #[.string ⟨#[]⟩, .int .i64 21])
theorem packFrom_drop {ss : List ByteArray} {k : Nat} (hk : k < ss.length) (acc : List UInt8) : packFrom acc (ss.drop k) = if 20000 < ss[k].size then none else packFrom (acc ++ twoB ss[k].size ++ ss[k].data.toList) (ss.drop (k + 1)) := by
  rw [List.drop_eq_getElem_cons hk]; rfl
theorem pack_len {acc : List UInt8} {k : Nat} {s : ByteArray} (h : acc.length ≤ 1 + k * 20002) (hs : ¬ 20000 < s.size) : (acc ++ twoB s.size ++ s.data.toList).length ≤ 1 + (k + 1) * 20002 := by
  have e : s.data.toList.length = s.size := by rw [Array.length_toList]; rfl
  rw [List.length_append, List.length_append, e]
  have : (twoB s.size).length = 2 := rfl
  omega
section
variable {w0 : World}
set_option maxRecDepth 100000 in
set_option maxHeartbeats 2000000 in
theorem pack_any (ss : List ByteArray) {p : Option Addr} {c : Nat} (hn : ss.length ≤ 100000) (hp : RowArg w0 p (ss.map .string)) :
    Calls Tryd.prog 12 #[.slice p ss.length c] w0 fun e w => e = packOut (packO ss) ∧ Under w0 w := by
  have HP := Lib.hid hp
  have hO : packO ss = if 255 < ss.length then none else packFrom [lowB ss.length] ss := rfl
  clear hp
  by_cases h255 : 255 < ss.length
  · rw [if_pos h255] at hO
    have HO := Lib.hid hO
    have h' : (255 : Int) < (ss.length : Int) := by omega
    clear hO h255
    go_enter Tryd.func12, Tryd.ntmps12
    go_wp2
    go_ret2
    exact ⟨by rw [HO.out]; rfl, Under.refl _⟩
  rw [if_neg h255] at hO
  have HO := Lib.hid hO
  have h' : ¬ (255 : Int) < (ss.length : Int) := by omega
  have e1 : IntKind.u8.wrap (ss.length : Int) = ((lowB ss.length).toNat : Int) := by rw [lowB_val]; simp [IntKind.wrap, IntKind.bits, IntKind.signed]
  have H1 := Lib.hid (writeByte_u (lowB ss.length) (Bld.new w0) (by simp))
  have h0 : (0 : Int) ≤ (ss.length : Int) := by omega
  clear hO
  generalize hL : lowB ss.length = L at *
  clear hL
  go_enter Tryd.func12, Tryd.ntmps12
  go_wp2_with fail
  refine H1.out.mono ?_
  rintro e w1 ⟨rfl, hb⟩
  have HB := Lib.hid hb
  clear hb H1
  go_wp2
  go_loopw [16] (fun i wr => ∃ k acc, k ≤ ss.length ∧ i = .int .i64 (k : Nat) ∧ acc.length ≤ 1 + k * 20002 ∧ packO ss = packFrom acc (ss.drop k) ∧ Bld w0 w0.heap.size acc wr) (fun i _ => ss.length - (intOf i).toNat)
  case atStart => exact ⟨0, [L], Nat.zero_le _, rfl, by simp, by rw [HO.out]; simp, by simpa using HB.out⟩
  case round =>
    obtain ⟨k, acc, hk, rfl, hacc, hN, hB⟩ := hrel
    have HN := Lib.hid hN
    have HBk := Lib.hid hB
    have HA := Lib.hid hacc
    clear hN hB hacc
    by_cases hlt : k < ss.length
    · have hd := packFrom_drop hlt acc
      obtain ⟨b, off, rfl, hb, hcs⟩ := HP.out (fun e => by rw [List.map_eq_nil_iff] at e; rw [e] at hlt; simp at hlt)
      have cc := hcs k (.string ss[k]) (by simp [List.getElem?_eq_getElem hlt])
      rw [← under_cell HBk.out.under hb] at cc
      have hb' := Nat.lt_of_lt_of_le hb HBk.out.under.size
      have HD := Lib.hid hd
      clear hd hcs
      generalize ss[k] = s at *
      by_cases hs : 20000 < s.size
      · have hs' : (20000 : Int) < (s.size : Int) := by omega
        have HS := Lib.hid hs
        clear hs
        go_wp2
        go_ret2
        exact ⟨by rw [HN.out, HD.out, if_pos HS.out]; rfl, HBk.out.under⟩
      · have hs' : ¬ (20000 : Int) < (s.size : Int) := by omega
        have HS := Lib.hid hs
        have H2 := Lib.hid (two_any s.size (by omega) HBk.out (by have := HA.out; omega))
        have H3 := Lib.hid (fun w1 (h1 : Bld w0 w0.heap.size (acc ++ twoB s.size) w1) => writeString_u s h1 (by have := HA.out; simp [twoB]; omega) (by omega))
        clear hs
        go_wp2_with fail
        refine H2.out.mono ?_
        rintro e w2 ⟨rfl, hb2⟩
        have H3 := Lib.hid (H3.out w2 hb2)
        clear hb2
        go_wp2_with fail
        refine H3.out.mono ?_
        rintro e w3 ⟨rfl, hb3⟩
        have HB3 := Lib.hid hb3
        clear hb3
        go_wp2
        go_roundw
        case rel => exact ⟨k + 1, _, by omega, by go_num, pack_len HA.out HS.out, by rw [HN.out, HD.out, if_neg HS.out], HB3.out⟩
        case measure => simp [intOf]; omega
    · obtain rfl : k = ss.length := by omega
      have H4 := Lib.hid (string_u HBk.out)
      go_wp2_with fail
      refine H4.out.mono ?_
      rintro e w4 ⟨rfl, hU4⟩
      have HU4 := Lib.hid hU4
      clear hU4
      go_wp2
      go_ret2
      exact ⟨by rw [HN.out, List.drop_length]; rfl, HU4.out⟩
end
end Go.Proofs.YtiibknlpeodejaaDoor
