/-
  DERIVED. GIVEN WITH THE SEED: THE CARDS: each row of YtiibknlpeodejaaDoorRows.lean that lists a variable, with what it lists TIED to the program's text (the seventh form; the later family's looks); each row that meets fmt, with fmt's text TOLD by the authors' own Lean function (tested against real Go, not proved from fmt's source: count such statements apart). THE CARD IS WHAT COUNTS. Prove the row's statement (the work); the ties are given (YtiibknlpeodejaaDoorTie.lean); close each card by the builder's one call (the guide's Derived/Test/ToyasCard.lean, 'card_holds'). Laid BY PROGRAM, IN A SANDBOX (cutbox-door.mjs). By AI agents, Wed Nov 11 2026. No macro, syntax, notation, axiom, sorry.
-/
import Derived.Test.YtiibknlpeodejaaDoorRows
import GoSem.ClaimSeven
namespace Go.Proofs.YtiibknlpeodejaaDoor
namespace Rows

/-- THE TIED CARD OF 'cornicelaw21.ReplayDigests'. -/
def replayDigestsCard : Claim7 := { stood := { row := replayDigestsRow, standIns := [], harness := (true, "00280b578ea55265ce140d904cd1d1d9ab3b5922f22242c867cec56c8eebd0f3"), looks := false }, kinds := [], alts := [], laidByText := true, laidKinds := [.widerDeep, .data], laidTests := true, laidLooks := .later }
def ReplayDigestsCardSaid : Prop := Claim7.holds Tryd.pinned (.plain (OpenSpec.ofChange replayDigestsSpec)) replayDigestsCard

/-- THE SECOND FORM's CARD OF 'cornicelaw21.ReplayDigests'. -/
def replayDigestsUptoCard : Claim7 := { stood := { row := replayDigestsUptoRow, standIns := [], harness := (true, "00280b578ea55265ce140d904cd1d1d9ab3b5922f22242c867cec56c8eebd0f3"), looks := false }, kinds := [], alts := [], laidByText := true, laidKinds := [.widerDeep, .data], laidTests := true, laidLooks := .later }
def ReplayDigestsUptoCardSaid : Prop := Claim7.holds Tryd.pinned (.plain (OpenSpec.upto replayDigestsSpec)) replayDigestsUptoCard
end Rows
end Go.Proofs.YtiibknlpeodejaaDoor
