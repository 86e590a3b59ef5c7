/- What the row lists, as the walks want it. -/
import Derived.Test.YtiibknlpeodejaaDoorLawD
import Derived.Test.YtiibknlpeodejaaDoorRows
import Derived.Test.YtiibknlpeodejaaDoorLxM
import Derived.ProofKit
import Derived.LaidMore
import Derived.OpenShut
import Derived.ChangeAlike
import Derived.Stop.Joined
set_option linter.unusedSimpArgs false
set_option linter.unusedVariables false
namespace Go.Proofs.YtiibknlpeodejaaDoor
open Go.ChangeShapes Go.WideShapes Go.ChangeAt Go.WideMaps Go.WideElems Go.RowKit Go.Lx

theorem Tryd.own : ownKnob Tryd.prog.godebug = none := by kernel_rfl
theorem Tryd.laidOut : laidOutB Tryd.prog = true := by kernel_rfl
theorem gShapes : Tryd.prog.globalNamed "cornice/term.shapes" = some 1 := by kernel_rfl
theorem gFields : Tryd.prog.globalNamed "cornice/wire.fields" = some 0 := by kernel_rfl
theorem tShapes : (Tryd.prog.globals[1]?).map (·.type) = some 124 := by kernel_rfl
theorem tFields : (Tryd.prog.globals[0]?).map (·.type) = some 87 := by kernel_rfl
/-- What the row lists. -/
def laidL {H : Type} : List (String × DataW H) := [("cornice/term.shapes", Rows.laid_cornice_term_shapes), ("cornice/wire.fields", Rows.laid_cornice_wire_fields)]
theorem shapes_eq {H : Type} : (Rows.laid_cornice_term_shapes : DataW H) = .agg ((List.range 30).map shapeD) := by kernel_rfl
/-- The list of fields. -/
def fieldsL : List Nat := (List.range 256).map fun k => if k < 30 then fieldsN k else 0
theorem fields_eq {H : Type} : (Rows.laid_cornice_wire_fields : DataW H) = .agg (fieldsL.map fun (n : Nat) => .lit (.int .u8 (n : Int))) := by kernel_rfl
theorem door_met (os : Os) (args : Array Value) : laidMetH Tryd.prog laidL ((World.doorLaid Tryd.prog 400 os).forCall (fun _ _ => 0) ⟨#[], args, []⟩).memory :=
  laidMetH_of_parts3 (fuel := 8) (laidMet_of_run' 8 (by kernel_rfl) (by kernel_rfl)) (by kernel_rfl) (by kernel_rfl)
end Go.Proofs.YtiibknlpeodejaaDoor
