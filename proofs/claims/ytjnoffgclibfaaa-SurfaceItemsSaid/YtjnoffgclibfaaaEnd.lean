/- What the ends of proofs of laws need. -/
import Derived.Test.YtjnoffgclibfaaaShown
import Derived.Test.YtjnoffgclibfaaaRows
import Derived.Conc.LeavingOf
import Derived.ChangeAlike
import Derived.ChangeMaps5
set_option linter.unusedSimpArgs false
set_option linter.unusedVariables false
namespace Go.Proofs.Ytjnoffgclibfaaa
open Go.ChangeShapes Go.WideShapes Go.ChangeAt Go.RowKit Go.Conc Go.Lx

theorem Try.own : ownKnob Try.prog.godebug = none := by kernel_rfl
theorem Try.laidOut : laidOutB Try.prog = true := by kernel_rfl

/-- What is left of the world, on the tape that was there. -/
theorem below_of {W w : World} (h : Under W w) (d : Nat) : Below W.heap.size W (re w W.tape d) := ⟨h.os, rfl, h.output, h.size, fun b hb => h.low b hb⟩
theorem shut_bool {H : Type} {enc : TypeId × Value → H} {W : World} {base : Nat} {sp : Nat → Bool} {held : Bool} (b : Bool) : DataW.Trod enc Try.prog W base sp held 4 (.bool b) (.lit (.bool b)) [] := ⟨1, by simp [DataW.trod, Value.cells, Try.underlying4]⟩
end Go.Proofs.Ytjnoffgclibfaaa
