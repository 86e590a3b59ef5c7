/- DeclsSpoilt: the tied card: for every input the law's function returns true; what the tables of powers of ten, of math/bits and term.shapes, and strconv's two errors read as when the call begins is tied to the program's text. -/
import Derived.Test.YtggjbblgoddnjaaGreatDoorCards
import Derived.Test.YtggjbblgoddnjaaGreatDoorTie
import Derived.Test.YtggjbblgoddnjaaGreatDoorM20
import Derived.Test.YtggjbblgoddnjaaGreatDoorM00
set_option linter.unusedSimpArgs false
set_option linter.unusedVariables false
namespace Go.Proofs.YtggjbblgoddnjaaGreatDoor
open Go Go.Lx
theorem declsSpoiltCard_holds : Rows.DeclsSpoiltCardSaid :=
 kU .later [.data, .data, .data, .widerDeep, .sentinel, .sentinel, .data] true (true, "3954c8bd12652e12fefdb0ed110d5fb9802f0059f6f3f45edd2b6f9e17cf8d93") true true
   declsSpoilt_holds (by kernel_rfl) declsSpoilt_row_tie rfl ⟨rfl, rfl⟩ (by kernel_rfl) rfl
   (fun f fn hf hfn => by
     obtain rfl : f = 7 := Option.some.inj ((show Tryz.prog.funcNamed "cornice/cornicelaw10.DeclsSpoilt" = some 7 by kernel_rfl).symm.trans hf) |>.symm; obtain rfl : fn = Tryz.f7 := (Option.some.inj (Tryz.func7.symm.trans hfn)).symm; exact ⟨by kernel_rfl, fun j t ht => by
       rw[Tryz.params7]at ht;have hm:t∈[33,33,78,9]:=by simpa using Array.mem_of_getElem? ht
       have hall:([33,33,78,9].all fun u => !Tryz.prog.wantsStandIn u)=true:=by kernel_rfl
       exact(show Tryz.prog.wantsStandIn t=false by simpa using List.all_eq_true.1 hall t (by simpa using hm))⟩)
   (by kernel_rfl)
end Go.Proofs.YtggjbblgoddnjaaGreatDoor
#print axioms Go.Proofs.YtggjbblgoddnjaaGreatDoor.declsSpoiltCard_holds
