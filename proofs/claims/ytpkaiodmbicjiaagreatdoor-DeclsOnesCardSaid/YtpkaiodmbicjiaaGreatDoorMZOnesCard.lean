/- DeclsOnes, the tied card: for every input the law's function returns true; the listed variables are tied to the text. -/
import Derived.Test.YtpkaiodmbicjiaaGreatDoorCards
import Derived.Test.YtpkaiodmbicjiaaGreatDoorTie
import Derived.Test.YtpkaiodmbicjiaaGreatDoorM20
import Derived.Test.YtpkaiodmbicjiaaGreatDoorM00
set_option linter.unusedSimpArgs false
set_option linter.unusedVariables false
namespace Go.Proofs.YtpkaiodmbicjiaaGreatDoor
open Go.Proofs.Tryz
open Go Go.Lx
theorem declsOnesCard_holds : Rows.DeclsOnesCardSaid :=
 oBA .later [.data, .data, .data, .widerDeep, .sentinel, .sentinel] true (true, "2dbe4a3c657f3854e0758be8b1c37a85533e03db2d3695697928e11e40930402") true true
   declsOnes_holds (by kernel_rfl) declsOnes_row_tie rfl ⟨rfl, rfl⟩ (by kernel_rfl) rfl
   (λf fn hf hfn=>by
     obtain rfl : f = 3 := Option.some.inj ((show Tryz.prog.funcNamed "cornice/cornicelaw10.DeclsOnes" = some 3 by kernel_rfl).symm.trans hf) |>.symm; obtain rfl : fn = Tryz.f3 := (Option.some.inj (Tryz.func3.symm.trans hfn)).symm; exact ⟨by kernel_rfl, fun j t ht => by
       rw[params3]at ht;have hm:t∈[22,23]:=by simpa using Array.mem_of_getElem? ht
       have hall:([22,23].all λu => !prog.wantsStandIn u)=true:=by kernel_rfl
       exact(show prog.wantsStandIn t=false by simpa using List.all_eq_true.1 hall t (by simpa using hm))⟩)
   (by kernel_rfl)
end Go.Proofs.YtpkaiodmbicjiaaGreatDoor
#print axioms Go.Proofs.YtpkaiodmbicjiaaGreatDoor.declsOnesCard_holds
