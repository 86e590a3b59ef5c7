/- replay.Digest: its contract. -/
import Derived.Test.YtiibknlpeodejaaDoorExport
import Derived.Lib.ConvBytes
set_option linter.unusedSimpArgs false
set_option linter.unusedVariables false
namespace Go.Proofs.YtiibknlpeodejaaDoor
open Go.Lx Go.RowKit

/-- One byte of the digest. -/
def fnvStep (n c : Int) : Int := bits BinOp.xor IntKind.u32 n (c % 4294967296) * 16777619 % 4294967296
/-- The digest of bytes. -/
def fnv : Int → List UInt8 → Int
  | n, [] => n
  | n, x :: r => fnv (fnvStep n (x.toNat : Int)) r
theorem fnv_drop {l : List UInt8} {k : Nat} (hk : k < l.length) (n : Int) : fnv n (l.drop k) = fnv (fnvStep n ((l[k].toNat : Nat) : Int)) (l.drop (k + 1)) := by
  rw [List.drop_eq_getElem_cons hk]; rfl
theorem packFrom_len : ∀ (ss : List ByteArray) (acc l : List UInt8), packFrom acc ss = some l → l.length ≤ acc.length + ss.length * 20002
  | [], acc, l, h => by cases h; simp
  | s :: r, acc, l, h => by
    unfold packFrom at h
    split at h
    · cases h
    · rename_i hs
      have := packFrom_len r _ l h
      have e : s.data.toList.length = s.size := by rw [Array.length_toList]; rfl
      rw [List.length_append, List.length_append, e] at this
      have h2 : (twoB s.size).length = 2 := rfl
      rw [List.length_cons, Nat.add_mul]
      omega
theorem packB_size (ss : List ByteArray) : (packB (packO ss)).size ≤ 5200000 := by
  unfold packO
  split
  · simp [packB, ByteArray.size]
  · cases h : packFrom [lowB ss.length] ss with
    | none => simp [packB, ByteArray.size]
    | some l =>
      have := packFrom_len ss _ l h
      simp [packB, ByteArray.size] at *
      omega
theorem expB_size (ds : List Dc) : (expB ds).size ≤ 5200000 := by
  unfold expB
  split
  · exact packB_size _
  · simp [ByteArray.size]
/-- The digest that is answered. -/
def digE (ds : List Dc) : Int := if expE ds = 0 then fnv 2166136261 (expB ds).data.toList else 0
/-- What is held between two bytes. -/
def FnRel (w0 : World) (l : List UInt8) (v i : Value) (wr : World) : Prop := ∃ (k : Nat) (n : Int), k ≤ l.length ∧ i = .int .i64 (k : Int) ∧ v = .int .u32 n ∧ fnv 2166136261 l = fnv n (l.drop k) ∧ Under w0 wr
section
variable {w0 : World} {ds : List Dc} {p : Option Addr} {c : Nat}
set_option maxRecDepth 100000 in
set_option maxHeartbeats 2000000 in
theorem digest_any (hn : ds.length ≤ 100000) (hds : ∀ d ∈ ds, FairD d) (hp : RowsV 8 EntRow w0 p ds) (hS : ShapesAt 1 w0) (hF : FieldsAt 0 w0) :
    Calls Tryd.prog 7 #[.slice p ds.length c] w0 fun e w => e = .returned (.tuple #[.int .u32 (digE ds), .int .i64 (expE ds)]) ∧ Under w0 w := by
  have HE := Lib.hid (export_any (c := c) hn hds hp hS hF)
  clear hp hS hF hds
  by_cases hx : expE ds = 0
  · have HO : RowKit.Hid (digE ds = fnv 2166136261 (expB ds).data.toList) := Lib.hid (if_pos hx)
    have hb : ((expB ds).size : Int) ≤ 5200000 := by have := expB_size ds; omega
    rw [hx] at HE
    have HX := Lib.hid hx
    clear hx
    generalize expB ds = B at *
    go_enter Tryd.func7, Tryd.ntmps7
    go_wp2_with fail
    refine HE.out.mono ?_
    rintro e w1 ⟨rfl, hU1⟩
    have HU1 := Lib.hid hU1
    clear hU1
    have hcv := Lib.run_convert_string_bytes (P := Tryd.prog) w1 9 49 5 B Tryd.underlying9 Tryd.underlying49 Tryd.underlying5
    obtain ⟨w2, hw2⟩ : ∃ w, w = Lib.bytesWorld w1 5 B := ⟨_, rfl⟩
    rw [← hw2] at hcv
    have hU2 : Under w1 w2 := by
      rw [hw2]
      exact ⟨rfl, rfl, by rw [Lib.bytesWorld_size]; omega, fun b hb => Lib.bytesWorld_at_old _ _ _ _ hb⟩
    have hlt2 : w1.heap.size < w2.heap.size := by rw [hw2, Lib.bytesWorld_size]; omega
    have hcell : ∀ j, j < B.size → w2.cell? ⟨w1.heap.size, j, none⟩ = some (.int .u8 (B.data.toList.getD j 0).toNat) := fun j hj => by rw [hw2]; exact Lib.bytesWorld_cell _ _ _ _ hj
    generalize grownCap w1 B.size 0 5 = cp at *
    have HU2 := Lib.hid (HU1.out.trans hU2)
    have HC := Lib.hid hcell
    have hB0 : (0 : Int) ≤ (B.size : Int) := by omega
    clear hU2 hcell hw2
    go_wp2
    clear hcv
    have HLen := Lib.hid (show B.data.toList.length = B.size by rw [Array.length_toList]; rfl)
    go_loopw [6, 20] (fun v i wr => FnRel w2 B.data.toList v i wr) (fun _ i _ => B.size - (intOf i).toNat)
    case atStart => exact ⟨0, _, Nat.zero_le _, rfl, rfl, rfl, Under.refl _⟩
    case round =>
      obtain ⟨k, n, hk, rfl, rfl, hN, hU⟩ := hrel
      rw [HLen.out] at hk
      by_cases hlt : k < B.size
      · have cc := HC.out k hlt
        rw [← under_cell hU hlt2] at cc
        have hb' := Nat.lt_of_lt_of_le hlt2 hU.size
        have hk' : k < B.data.toList.length := by rw [HLen.out]; exact hlt
        have hg : B.data.toList.getD k 0 = B.data.toList[k] := by rw [List.getD_eq_getElem?_getD, List.getElem?_eq_getElem hk']; rfl
        have HD := Lib.hid (fnv_drop hk' n)
        rw [hg] at cc
        have HN := Lib.hid hN
        have HU := Lib.hid hU
        clear hg hN hU
        generalize B.data.toList[k] = x at *
        go_wp2
        go_roundw
        case rel => exact ⟨k + 1, fnvStep n (x.toNat : Int), by rw [HLen.out]; omega, by go_num, rfl, by rw [HN.out, HD.out], HU.out⟩
        case measure => simp [intOf]; omega
      · obtain rfl : k = B.size := by omega
        rw [← HLen.out, List.drop_length] at hN
        have HN := Lib.hid (HO.out.trans hN)
        have HU := Lib.hid hU
        clear hN hU
        go_wp2
        go_ret2
        exact ⟨by rw [HN.out, HX.out]; rfl, HU2.out.trans HU.out⟩
  · have HO : RowKit.Hid (digE ds = 0) := Lib.hid (if_neg hx)
    have hx' : (expE ds == 0) = false := by simpa using hx
    clear hx
    generalize expE ds = ee at *
    go_enter Tryd.func7, Tryd.ntmps7
    go_wp2_with fail
    refine HE.out.mono ?_
    rintro e w1 ⟨rfl, hU1⟩
    have HU1 := Lib.hid hU1
    clear hU1
    go_wp2
    go_ret2
    exact ⟨by rw [HO.out]; rfl, HU1.out⟩
end
end Go.Proofs.YtiibknlpeodejaaDoor
