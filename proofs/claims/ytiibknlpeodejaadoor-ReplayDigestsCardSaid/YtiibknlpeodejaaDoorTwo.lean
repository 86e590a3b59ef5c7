/- wire.two: its contract. -/
import Derived.Test.YtiibknlpeodejaaDoorShelfD
import Derived.Test.YtiibknlpeodejaaDoorTName
set_option linter.unusedSimpArgs false
set_option linter.unusedVariables false
namespace Go.Proofs.YtiibknlpeodejaaDoor
open Go.Lx Go.RowKit

/-- The low byte of a number. -/
def lowB (n : Nat) : UInt8 := UInt8.ofNat n
/-- Two bytes for a length. -/
def twoB (n : Nat) : List UInt8 := [lowB n, lowB (n / 256)]
theorem lowB_val (n : Nat) : ((lowB n).toNat : Int) = ((n % 256 : Nat) : Int) := by simp [lowB]
set_option maxRecDepth 100000 in
set_option maxHeartbeats 1000000 in
theorem two_any {W w : World} {b : Nat} {l : List UInt8} (n : Nat) (hn : n ≤ 1000000) (h : Bld W b l w) (hl : l.length ≤ 9000000) :
    Calls Tryd.prog 17 #[.pointer (some ⟨b, 0, none⟩), .int .i64 n] w fun e w' => e = .returned (.tuple #[]) ∧ Bld W b (l ++ twoB n) w' := by
  have e1 : IntKind.u8.wrap (n : Int) = ((lowB n).toNat : Int) := by rw [lowB_val]; simp [IntKind.wrap, IntKind.bits, IntKind.signed]
  have e2 : IntKind.u8.wrap ((n : Int) / 256) = ((lowB (n / 256)).toNat : Int) := by rw [lowB_val]; simp [IntKind.wrap, IntKind.bits, IntKind.signed]
  have H1 := Lib.hid (writeByte_u (lowB n) h (by omega))
  have H2 := Lib.hid (fun w1 (h1 : Bld W b (l ++ [lowB n]) w1) => writeByte_u (lowB (n / 256)) h1 (by simp; omega))
  go_enter Tryd.func17, Tryd.ntmps17
  go_wp2_with fail
  refine H1.out.mono ?_
  rintro e w1 ⟨rfl, h1⟩
  have H2 := Lib.hid (H2.out w1 h1)
  clear h1
  go_wp2_with fail
  refine H2.out.mono ?_
  rintro e w2 ⟨rfl, h2⟩
  have H := Lib.hid h2
  clear h2
  go_wp2
  go_end0
  exact ⟨rfl, by simpa [twoB] using H.out⟩
end Go.Proofs.YtiibknlpeodejaaDoor
