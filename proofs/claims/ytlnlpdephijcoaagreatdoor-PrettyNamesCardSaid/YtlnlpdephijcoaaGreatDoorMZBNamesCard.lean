/- PrettyNames: the tied card: for every input the law's function returns true; what the tables of powers of ten, of math/bits and term.shapes, and strconv's two errors read as when the call begins is tied to the program's text. -/
import Derived.Test.YtlnlpdephijcoaaGreatDoorCards
import Derived.Test.YtlnlpdephijcoaaGreatDoorTie
import Derived.Test.YtlnlpdephijcoaaGreatDoorM46
set_option linter.unusedSimpArgs false
set_option linter.unusedVariables false
namespace Go.Proofs.YtlnlpdephijcoaaGreatDoor
open Go Go.Lx
theorem prettyNamesCard_holds : Rows.PrettyNamesCardSaid :=
 wT .later [.data, .data, .data, .widerDeep, .sentinel, .sentinel] true (true, "388d9a794cdb69e461f12721a6df21baf5e88e6d6860fa38f6a6183049f26b3f") true true
   prettyNames_holds (by kernel_rfl) prettyNames_row_tie rfl ⟨rfl, rfl⟩ (by kernel_rfl) rfl
   (fun f fn hf hfn => by
     obtain rfl : f = 6 := Option.some.inj ((show Tryz.prog.funcNamed "cornice/cornicelaw09.PrettyNames" = some 6 by kernel_rfl).symm.trans hf) |>.symm; obtain rfl : fn = Tryz.f6 := (Option.some.inj (Tryz.func6.symm.trans hfn)).symm; exact ⟨by kernel_rfl, fun j t ht => by
       rw[Tryz.params6]at ht;have hm:t∈[30,22]:=by simpa using Array.mem_of_getElem? ht
       have hall:([30,22].all fun u => !Tryz.prog.wantsStandIn u)=true:=by kernel_rfl
       exact(show Tryz.prog.wantsStandIn t=false by simpa using List.all_eq_true.1 hall t (by simpa using hm))⟩)
   (by kernel_rfl)
end Go.Proofs.YtlnlpdephijcoaaGreatDoor
#print axioms Go.Proofs.YtlnlpdephijcoaaGreatDoor.prettyNamesCard_holds
