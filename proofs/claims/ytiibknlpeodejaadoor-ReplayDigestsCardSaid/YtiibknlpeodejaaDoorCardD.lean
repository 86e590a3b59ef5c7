/- ReplayDigests: the tied card: for every slice of declarations the law's function returns true; what term.shapes and wire.fields read as when the call begins is tied to the program's text. -/
import Derived.Test.YtiibknlpeodejaaDoorProofD
import Derived.Test.YtiibknlpeodejaaDoorCards
import Derived.Test.YtiibknlpeodejaaDoorTie
import Derived.SevenTiedAt
set_option linter.unusedSimpArgs false
set_option linter.unusedVariables false
namespace Go.Proofs.YtiibknlpeodejaaDoor
open Go

theorem replayDigestsCard_holds : Rows.ReplayDigestsCardSaid :=
  Claim7.holds_tied_plain_at .later [] [.widerDeep, .data] true (true, "00280b578ea55265ce140d904cd1d1d9ab3b5922f22242c867cec56c8eebd0f3") false
    replayDigests_holds (fun _ h => by cases h) (by kernel_rfl) (fun _ h => by cases h) replayDigests_row_tie rfl ⟨rfl, rfl⟩ (by kernel_rfl) rfl
    (fun f fn hf hfn => by
      obtain rfl : f = 3 := Option.some.inj ((show Tryd.prog.funcNamed "cornice/cornicelaw21.ReplayDigests" = some 3 by kernel_rfl).symm.trans hf) |>.symm
      obtain rfl : fn = Tryd.f3 := (Option.some.inj (Tryd.func3.symm.trans hfn)).symm
      exact ⟨by kernel_rfl, fun j t ht => by
        rw [Tryd.params3] at ht
        have hm : t ∈ [22] := by simpa using Array.mem_of_getElem? ht
        have hall : ([22].all fun u => !Tryd.prog.wantsStandIn u) = true := by kernel_rfl
        exact (show Tryd.prog.wantsStandIn t = false by simpa using List.all_eq_true.1 hall t hm)⟩)
    (by kernel_rfl)
#print axioms replayDigestsCard_holds
end Go.Proofs.YtiibknlpeodejaaDoor
