/- strings.Builder's writers, with the frame that reaches above the builder. -/
import Derived.Test.YtiibknlpeodejaaDoorTwo
import Derived.Shelf.Strings.BuilderK
set_option linter.unusedSimpArgs false
set_option linter.unusedVariables false
namespace Go.Proofs.YtiibknlpeodejaaDoor
open Go.Lx Go.RowKit

/-- A builder that holds these bytes, made behind W: in the form with a frame. -/
structure BldK (W : World) (b : Nat) (l : List UInt8) (w : World) : Prop where
  is : Lib.IsBuilderF 58 5 W.heap.size b (Lib.byteCells l) w
  under : Under W w
/-- What a writer keeps: a block that is neither the builder's nor a row of bytes. -/
def KeepsBox (b : Nat) (w w' : World) : Prop := ∀ x t cs, t ≠ 5 → x ≠ b → BoxAt w x t cs → BoxAt w' x t cs
theorem KeepsBox.of {b : Nat} {w w' : World} (h : Lib.OthersKept 5 (some b) w w') : KeepsBox b w w' :=
  fun x t cs ht hx hb => h x _ hb (by simpa using hx) (fun c fz e => ht (by cases e; rfl))
theorem KeepsBox.trans {b : Nat} {w w1 w2 : World} (h : KeepsBox b w w1) (k : KeepsBox b w1 w2) : KeepsBox b w w2 := fun x t cs ht hx hb => k x t cs ht hx (h x t cs ht hx hb)
section
variable {W w : World} {b : Nat} {l : List UInt8}
theorem BldK.of (h : Bld W b l w) : BldK W b l w := ⟨Lib.IsBuilderF.of h.is, h.under⟩
theorem BldK.alloc (h : BldK W b l w) (o : Obj) : BldK W b l (w.alloc o) := ⟨h.is.alloc o, under_alloc h.under o⟩
theorem BldK.lt (h : BldK W b l w) : b < w.heap.size := by
  rcases h.is with h | h
  · obtain ⟨_, v, hb, _⟩ := h; exact (Array.getElem?_eq_some_iff.1 hb).1
  · obtain ⟨_, v, hb, _⟩ := h; exact (Array.getElem?_eq_some_iff.1 hb).1
theorem writeByte_k (x : UInt8) (h : BldK W b l w) (hl : l.length ≤ 100000000) :
    Calls Tryd.prog 16 #[.pointer (some ⟨b, 0, none⟩), .int .u8 x.toNat] w fun e w' => e = .returned .nilIface ∧ BldK W b (l ++ [x]) w' ∧ KeepsBox b w w' ∧ w.heap.size ≤ w'.heap.size := by
  refine (Any.Builder_WriteByte_k shelf167 shelfX W.heap.size b (Lib.byteCells l) x.toNat w h.is (by simp [Lib.byteCells]; omega) h.under.size).mono ?_
  rintro e w' ⟨rfl, hb, hB, hK⟩
  exact ⟨rfl, ⟨.inr (by have e : Lib.byteCells (l ++ [x]) = Lib.byteCells l ++ [.int .u8 x.toNat] := (by simp [Lib.byteCells]); rw [e]; exact hb), under_below2 h.under hB⟩, .of hK, hB.size⟩
theorem writeString_k (s : ByteArray) (h : BldK W b l w) (hl : l.length ≤ 1000000000) (hs : s.size ≤ 10000000) :
    Calls Tryd.prog 18 #[.pointer (some ⟨b, 0, none⟩), .string s] w fun e w' => e = .returned (.tuple #[.int .i64 s.size, .nilIface]) ∧ BldK W b (l ++ s.data.toList) w' ∧ KeepsBox b w w' ∧ w.heap.size ≤ w'.heap.size := by
  refine (Any.Builder_WriteString_k shelf166 shelfX W.heap.size b (Lib.byteCells l) s w h.is (by simp [Lib.byteCells]; omega) h.under.size).mono ?_
  rintro e w' ⟨rfl, hb, hB, hK⟩
  exact ⟨rfl, ⟨.inr (by have e : Lib.byteCells (l ++ s.data.toList) = Lib.byteCells l ++ Lib.strCells s := (by simp [Lib.byteCells, Lib.strCells]); rw [e]; exact hb), under_below2 h.under hB⟩, .of hK, hB.size⟩
theorem string_k (h : BldK W b l w) (h0 : l ≠ []) :
    Calls Tryd.prog 19 #[.pointer (some ⟨b, 0, none⟩)] w fun e w' => e = .returned (.string ⟨l.toArray⟩) ∧ Under W w' := by
  refine (Any.Builder_String_k shelf169 shelfX W.heap.size b l w h.is h0).mono ?_
  rintro e w' ⟨rfl, _, hB, _⟩
  exact ⟨rfl, under_below2 h.under hB⟩
end
end Go.Proofs.YtiibknlpeodejaaDoor
