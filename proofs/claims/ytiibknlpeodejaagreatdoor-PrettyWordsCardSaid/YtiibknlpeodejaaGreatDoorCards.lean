/-
  DERIVED. GIVEN WITH THE SEED: THE CARDS: each row of YtiibknlpeodejaaGreatDoorRows.lean that lists a variable, with what it lists TIED to the program's text (the seventh form; the later family's looks); each row that meets fmt, with fmt's text TOLD by the authors' own Lean function (tested against real Go, not proved from fmt's source: count such statements apart). THE CARD IS WHAT COUNTS. Prove the row's statement (the work); the ties are given (YtiibknlpeodejaaGreatDoorTie.lean); close each card by the builder's one call (the guide's Derived/Test/ToyasCard.lean, 'card_holds'). Laid BY PROGRAM, IN A SANDBOX (cutbox-door.mjs). By AI agents, Wed Nov 11 2026. No macro, syntax, notation, axiom, sorry.
-/
import Derived.Test.YtiibknlpeodejaaGreatDoorRows
import GoSem.ClaimSeven
namespace Go.Proofs.YtiibknlpeodejaaGreatDoor
namespace Rows

/-- THE TIED CARD OF 'cornicelaw09.PrettyPrints'. -/
def prettyPrintsCard : Claim7 := { stood := { row := prettyPrintsRow, standIns := [], harness := (true, "f63c51c33eaaa49eae7c0898da481f3b79da578ebcde69639b6156d7e9bdef70"), looks := false }, kinds := [], alts := [], laidByText := true, laidKinds := [.data, .data, .data, .widerDeep], laidTests := true, laidLooks := .later }
def PrettyPrintsCardSaid : Prop := Claim7.holds Tryz.pinned (.plain (OpenSpec.ofChange prettyPrintsSpec)) prettyPrintsCard

/-- THE TIED CARD OF 'cornicelaw09.PrettyWords'. -/
def prettyWordsCard : Claim7 := { stood := { row := prettyWordsRow, standIns := [], harness := (true, "f63c51c33eaaa49eae7c0898da481f3b79da578ebcde69639b6156d7e9bdef70"), looks := false }, kinds := [], alts := [], laidByText := true, laidKinds := [.data, .data, .data, .widerDeep], laidTests := true, laidLooks := .later }
def PrettyWordsCardSaid : Prop := Claim7.holds Tryz.pinned (.plain (OpenSpec.ofChange prettyWordsSpec)) prettyWordsCard

/-- THE TIED CARD OF 'cornicelaw09.PrettySame'. -/
def prettySameCard : Claim7 := { stood := { row := prettySameRow, standIns := [], harness := (true, "f63c51c33eaaa49eae7c0898da481f3b79da578ebcde69639b6156d7e9bdef70"), looks := false }, kinds := [], alts := [], laidByText := true, laidKinds := [.data, .data, .data, .widerDeep], laidTests := true, laidLooks := .later }
def PrettySameCardSaid : Prop := Claim7.holds Tryz.pinned (.plain (OpenSpec.ofChange prettySameSpec)) prettySameCard

/-- THE SECOND FORM's CARD OF 'cornicelaw09.PrettyPrints'. -/
def prettyPrintsUptoCard : Claim7 := { stood := { row := prettyPrintsUptoRow, standIns := [], harness := (true, "f63c51c33eaaa49eae7c0898da481f3b79da578ebcde69639b6156d7e9bdef70"), looks := false }, kinds := [], alts := [], laidByText := true, laidKinds := [.data, .data, .data, .widerDeep], laidTests := true, laidLooks := .later }
def PrettyPrintsUptoCardSaid : Prop := Claim7.holds Tryz.pinned (.plain (OpenSpec.upto prettyPrintsSpec)) prettyPrintsUptoCard

/-- THE SECOND FORM's CARD OF 'cornicelaw09.PrettyWords'. -/
def prettyWordsUptoCard : Claim7 := { stood := { row := prettyWordsUptoRow, standIns := [], harness := (true, "f63c51c33eaaa49eae7c0898da481f3b79da578ebcde69639b6156d7e9bdef70"), looks := false }, kinds := [], alts := [], laidByText := true, laidKinds := [.data, .data, .data, .widerDeep], laidTests := true, laidLooks := .later }
def PrettyWordsUptoCardSaid : Prop := Claim7.holds Tryz.pinned (.plain (OpenSpec.upto prettyWordsSpec)) prettyWordsUptoCard

/-- THE SECOND FORM's CARD OF 'cornicelaw09.PrettySame'. -/
def prettySameUptoCard : Claim7 := { stood := { row := prettySameUptoRow, standIns := [], harness := (true, "f63c51c33eaaa49eae7c0898da481f3b79da578ebcde69639b6156d7e9bdef70"), looks := false }, kinds := [], alts := [], laidByText := true, laidKinds := [.data, .data, .data, .widerDeep], laidTests := true, laidLooks := .later }
def PrettySameUptoCardSaid : Prop := Claim7.holds Tryz.pinned (.plain (OpenSpec.upto prettySameSpec)) prettySameUptoCard
end Rows
end Go.Proofs.YtiibknlpeodejaaGreatDoor
