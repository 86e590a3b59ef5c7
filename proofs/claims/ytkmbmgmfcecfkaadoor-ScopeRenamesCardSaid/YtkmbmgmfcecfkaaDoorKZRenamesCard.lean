/- ScopeRenames: the tied card: for every input the law's function returns true; what the tables of powers of ten, of math/bits and term.shapes, and strconv's two errors read as when the call begins is tied to the program's text. -/
import Derived.Test.YtkmbmgmfcecfkaaDoorCards
import Derived.Test.YtkmbmgmfcecfkaaDoorTie
import Derived.Test.YtkmbmgmfcecfkaaDoorK43
set_option linter.unusedSimpArgs false
set_option linter.unusedVariables false
namespace Go.Proofs.YtkmbmgmfcecfkaaDoor
open Go Go.Lx
theorem scopeRenamesCard_holds : Rows.ScopeRenamesCardSaid :=
  holds_tied_goes .later [.data, .data, .data, .widerDeep, .sentinel, .sentinel] true (true, "20af386b1569fba494de6f068aa981e8eb535de60879033a3acd2ad7c02c4b11") true true
    scopeRenames_holds (by kernel_rfl) scopeRenames_row_tie rfl ⟨rfl, rfl⟩ (by kernel_rfl) rfl
    (fun f fn hf hfn => by
      obtain rfl : f = 3 := Option.some.inj ((show Tryd.prog.funcNamed "cornice/cornicelaw08.ScopeRenames" = some 3 by kernel_rfl).symm.trans hf) |>.symm
      obtain rfl : fn = Tryd.f3 := (Option.some.inj (Tryd.func3.symm.trans hfn)).symm
      exact ⟨by kernel_rfl, fun j t ht => by
        rw [Tryd.params3] at ht
        have hm : t ∈ [9, 9, 5] := by simpa using Array.mem_of_getElem? ht
        have hall : ([9, 9, 5].all fun u => !Tryd.prog.wantsStandIn u) = true := by kernel_rfl
        exact (show Tryd.prog.wantsStandIn t = false by simpa using List.all_eq_true.1 hall t (by simpa using hm))⟩)
    (by kernel_rfl)
end Go.Proofs.YtkmbmgmfcecfkaaDoor
#print axioms Go.Proofs.YtkmbmgmfcecfkaaDoor.scopeRenamesCard_holds
