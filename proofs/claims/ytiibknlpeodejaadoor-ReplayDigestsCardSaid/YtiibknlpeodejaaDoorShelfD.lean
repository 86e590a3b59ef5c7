/- strings.Builder: the shelf's contracts at this program. Printed by shelfd.py. -/
import Derived.Shelf.Strings.Builder1
import Derived.Test.YtiibknlpeodejaaDoorProg
import Derived.Test.YtiibknlpeodejaaDoorLxM
import Derived.Lib.Hide
set_option linter.unusedSimpArgs false
set_option linter.unusedVariables false
namespace Go.Proofs.YtiibknlpeodejaaDoor
open Go.Shelf Go.RowKit Go.Lx
def shelfRen : Go.Shelf.Ren := ⟨fun | 167 => 16 | 166 => 18 | 169 => 19 | 240 => 23 | 276 => 32 | n => n, fun | 72 => 58 | 70 => 56 | 37 => 49 | 75 => 60 | 76 => 63 | 127 => 70 | 164 => 80 | 5 => 5 | 20 => 20 | 3 => 3 | 4 => 4 | 9 => 9 | 80 => 65 | n => n, fun n => n⟩
theorem shelf240 : Go.Proofs.Lays.n240 Tryd.prog shelfRen := {
  mixed := by kernel_rfl
  f240 := Tryd.func23.trans (congrArg some (by kernel_rfl))
  f276 := Tryd.func32.trans (congrArg some (by kernel_rfl))
  t0 := Tryd.underlying0
  a0 := Tryd.isAgg0
  z0 := Tryd.sizeOf0
  v0 := Tryd.zeroValue0
  t4 := Tryd.underlying4
  a4 := Tryd.isAgg4
  z4 := Tryd.sizeOf4
  v4 := Tryd.zeroValue4
  t9 := Tryd.underlying9
  a9 := Tryd.isAgg9
  z9 := Tryd.sizeOf9
  v9 := Tryd.zeroValue9
  t20 := Tryd.underlying20
  a20 := Tryd.isAgg20
  z20 := Tryd.sizeOf20
  v20 := Tryd.zeroValue20
  t70 := Tryd.underlying56
  a70 := Tryd.isAgg56
  z70 := Tryd.sizeOf56
  v70 := Tryd.zeroValue56
  t72 := Tryd.underlying58
  a72 := Tryd.isAgg58
  z72 := Tryd.sizeOf58
  v72 := Tryd.zeroValue58
  t164 := Tryd.underlying80
  a164 := Tryd.isAgg80
  z164 := Tryd.sizeOf80
  v164 := Tryd.zeroValue80
  }
theorem shelf167 : Go.Proofs.Lays.n167 Tryd.prog shelfRen := {
  mixed := by kernel_rfl
  f167 := Tryd.func16.trans (congrArg some (by kernel_rfl))
  f240 := Tryd.func23.trans (congrArg some (by kernel_rfl))
  f276 := Tryd.func32.trans (congrArg some (by kernel_rfl))
  t0 := Tryd.underlying0
  a0 := Tryd.isAgg0
  z0 := Tryd.sizeOf0
  v0 := Tryd.zeroValue0
  t4 := Tryd.underlying4
  a4 := Tryd.isAgg4
  z4 := Tryd.sizeOf4
  v4 := Tryd.zeroValue4
  t5 := Tryd.underlying5
  a5 := Tryd.isAgg5
  z5 := Tryd.sizeOf5
  v5 := Tryd.zeroValue5
  t9 := Tryd.underlying9
  a9 := Tryd.isAgg9
  z9 := Tryd.sizeOf9
  v9 := Tryd.zeroValue9
  t20 := Tryd.underlying20
  a20 := Tryd.isAgg20
  z20 := Tryd.sizeOf20
  v20 := Tryd.zeroValue20
  t37 := Tryd.underlying49
  a37 := Tryd.isAgg49
  z37 := Tryd.sizeOf49
  v37 := Tryd.zeroValue49
  t70 := Tryd.underlying56
  a70 := Tryd.isAgg56
  z70 := Tryd.sizeOf56
  v70 := Tryd.zeroValue56
  t72 := Tryd.underlying58
  a72 := Tryd.isAgg58
  z72 := Tryd.sizeOf58
  v72 := Tryd.zeroValue58
  t75 := Tryd.underlying60
  a75 := Tryd.isAgg60
  z75 := Tryd.sizeOf60
  v75 := Tryd.zeroValue60
  t164 := Tryd.underlying80
  a164 := Tryd.isAgg80
  z164 := Tryd.sizeOf80
  v164 := Tryd.zeroValue80
  }
theorem shelf166 : Go.Proofs.Lays.n166 Tryd.prog shelfRen := {
  mixed := by kernel_rfl
  f166 := Tryd.func18.trans (congrArg some (by kernel_rfl))
  f240 := Tryd.func23.trans (congrArg some (by kernel_rfl))
  f276 := Tryd.func32.trans (congrArg some (by kernel_rfl))
  t0 := Tryd.underlying0
  a0 := Tryd.isAgg0
  z0 := Tryd.sizeOf0
  v0 := Tryd.zeroValue0
  t3 := Tryd.underlying3
  a3 := Tryd.isAgg3
  z3 := Tryd.sizeOf3
  v3 := Tryd.zeroValue3
  t4 := Tryd.underlying4
  a4 := Tryd.isAgg4
  z4 := Tryd.sizeOf4
  v4 := Tryd.zeroValue4
  t9 := Tryd.underlying9
  a9 := Tryd.isAgg9
  z9 := Tryd.sizeOf9
  v9 := Tryd.zeroValue9
  t20 := Tryd.underlying20
  a20 := Tryd.isAgg20
  z20 := Tryd.sizeOf20
  v20 := Tryd.zeroValue20
  t37 := Tryd.underlying49
  a37 := Tryd.isAgg49
  z37 := Tryd.sizeOf49
  v37 := Tryd.zeroValue49
  t70 := Tryd.underlying56
  a70 := Tryd.isAgg56
  z70 := Tryd.sizeOf56
  v70 := Tryd.zeroValue56
  t72 := Tryd.underlying58
  a72 := Tryd.isAgg58
  z72 := Tryd.sizeOf58
  v72 := Tryd.zeroValue58
  t75 := Tryd.underlying60
  a75 := Tryd.isAgg60
  z75 := Tryd.sizeOf60
  v75 := Tryd.zeroValue60
  t164 := Tryd.underlying80
  a164 := Tryd.isAgg80
  z164 := Tryd.sizeOf80
  v164 := Tryd.zeroValue80
  }
theorem shelf169 : Go.Proofs.Lays.n169 Tryd.prog shelfRen := {
  mixed := by kernel_rfl
  f169 := Tryd.func19.trans (congrArg some (by kernel_rfl))
  t0 := Tryd.underlying0
  a0 := Tryd.isAgg0
  z0 := Tryd.sizeOf0
  v0 := Tryd.zeroValue0
  t3 := Tryd.underlying3
  a3 := Tryd.isAgg3
  z3 := Tryd.sizeOf3
  v3 := Tryd.zeroValue3
  t9 := Tryd.underlying9
  a9 := Tryd.isAgg9
  z9 := Tryd.sizeOf9
  v9 := Tryd.zeroValue9
  t37 := Tryd.underlying49
  a37 := Tryd.isAgg49
  z37 := Tryd.sizeOf49
  v37 := Tryd.zeroValue49
  t70 := Tryd.underlying56
  a70 := Tryd.isAgg56
  z70 := Tryd.sizeOf56
  v70 := Tryd.zeroValue56
  t72 := Tryd.underlying58
  a72 := Tryd.isAgg58
  z72 := Tryd.sizeOf58
  v72 := Tryd.zeroValue58
  t127 := Tryd.underlying70
  a127 := Tryd.isAgg70
  z127 := Tryd.sizeOf70
  v127 := Tryd.zeroValue70
  }
theorem shelfX : Builder.Extra Tryd.prog shelfRen := {
  sizeBuilder := by kernel_rfl
  liesBuilder := by kernel_rfl
  t5 := Tryd.underlying5
  a5 := Tryd.isAgg5
  z5 := Tryd.sizeOf5
  v5 := Tryd.zeroValue5
  infoByte := by kernel_rfl
  cellsByte := by kernel_rfl
  sizeByte := by kernel_rfl
  neB5 := by decide }
theorem writeByte_any (B b : Nat) (bs : List Value) (c : Int) (w : World) (h : Lib.IsBuilder 58 5 B b bs w) (hlen : bs.length + 1 ≤ 140737488355328) (hBw : B ≤ w.heap.size) :
    Calls Tryd.prog 16 #[.pointer (some ⟨b, 0, none⟩), .int .u8 c] w fun e w' => e = .returned .nilIface ∧ (Lib.BuilderAt 58 5 B b (.pointer (some ⟨b, 0, none⟩)) (bs ++ [.int .u8 c]) w' ∧ Below B w w') := Any.Builder_WriteByte shelf167 shelfX B b bs c w h hlen hBw
/-- A builder that holds these bytes, made behind W. -/
structure Bld (W : World) (b : Nat) (l : List UInt8) (w : World) : Prop where
  is : Lib.IsBuilder 58 5 W.heap.size b (Lib.byteCells l) w
  under : Under W w
theorem under_below2 {W w w' : World} (hU : Under W w) (h : Below W.heap.size w w') : Under W w' :=
  ⟨h.os.trans hU.os, h.output.trans hU.output, Nat.le_trans hU.size h.size, fun b hb => (h.block b hb).trans (hU.low b hb)⟩
theorem Bld.new (W : World) : Bld W W.heap.size [] (W.alloc (.cells #[.pointer none, .slice none 0 0] 58)) :=
  ⟨Lib.fresh_isBuilder _ _ W, under_alloc (Under.refl W) _⟩
theorem writeByte_u {W w : World} {b : Nat} {l : List UInt8} (x : UInt8) (h : Bld W b l w) (hl : l.length ≤ 10000000) :
    Calls Tryd.prog 16 #[.pointer (some ⟨b, 0, none⟩), .int .u8 x.toNat] w fun e w' => e = .returned .nilIface ∧ Bld W b (l ++ [x]) w' := by
  refine (writeByte_any W.heap.size b (Lib.byteCells l) x.toNat w h.is (by simp [Lib.byteCells]; omega) h.under.size).mono ?_
  rintro e w' ⟨rfl, hb, hB⟩
  exact ⟨rfl, ⟨.inr (by simpa [Lib.byteCells] using hb), under_below2 h.under hB⟩⟩
theorem writeString_u {W w : World} {b : Nat} {l : List UInt8} (s : ByteArray) (h : Bld W b l w) (hl : l.length ≤ 1000000000) (hs : s.size ≤ 10000000) :
    Calls Tryd.prog 18 #[.pointer (some ⟨b, 0, none⟩), .string s] w fun e w' => e = .returned (.tuple #[.int .i64 s.size, .nilIface]) ∧ Bld W b (l ++ s.data.toList) w' := by
  refine (Any.Builder_WriteString shelf166 shelfX W.heap.size b (Lib.byteCells l) s w h.is (by simp [Lib.byteCells]; omega) h.under.size).mono ?_
  rintro e w' ⟨rfl, hb, hB⟩
  exact ⟨rfl, ⟨.inr (by have e : Lib.byteCells (l ++ s.data.toList) = Lib.byteCells l ++ Lib.strCells s := (by simp [Lib.byteCells, Lib.strCells]); rw [e]; exact hb), under_below2 h.under hB⟩⟩
theorem string_u {W w : World} {b : Nat} {l : List UInt8} (h : Bld W b l w) :
    Calls Tryd.prog 19 #[.pointer (some ⟨b, 0, none⟩)] w fun e w' => e = .returned (.string ⟨l.toArray⟩) ∧ Under W w' := by
  refine (Any.Builder_String_any shelf169 shelfX W.heap.size b l w h.is h.under.size).mono ?_
  rintro e w' ⟨rfl, hB⟩
  exact ⟨rfl, under_below2 h.under hB⟩
end Go.Proofs.YtiibknlpeodejaaDoor
