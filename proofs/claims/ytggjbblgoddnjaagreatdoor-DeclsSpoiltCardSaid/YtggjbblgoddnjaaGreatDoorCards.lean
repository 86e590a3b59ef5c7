/-
  DERIVED. GIVEN WITH THE SEED: THE CARDS: each row of YtggjbblgoddnjaaGreatDoorRows.lean that lists a variable, with what it lists TIED to the program's text (the seventh form; the later family's looks); each row that meets fmt, with fmt's text TOLD by the authors' own Lean function (tested against real Go, not proved from fmt's source: count such statements apart). THE CARD IS WHAT COUNTS. Prove the row's statement (the work); the ties are given (YtggjbblgoddnjaaGreatDoorTie.lean); close each card by the builder's one call (the guide's Derived/Test/ToyasCard.lean, 'card_holds'). Laid BY PROGRAM, IN A SANDBOX (cutbox-door.mjs). By AI agents, Wed Nov 11 2026. No macro, syntax, notation, axiom, sorry.
-/
import Derived.Test.YtggjbblgoddnjaaGreatDoorRows
import GoSem.ClaimSeven
namespace Go.Proofs.YtggjbblgoddnjaaGreatDoor
namespace Rows

/-- THE TIED CARD OF 'cornicelaw10.DeclsOnes'. -/
def declsOnesCard : Claim7 := { stood := { row := declsOnesRow, standIns := [], harness := (true, "3954c8bd12652e12fefdb0ed110d5fb9802f0059f6f3f45edd2b6f9e17cf8d93"), looks := true }, kinds := [], alts := [], goes := true, laidByText := true, laidKinds := [.data, .data, .data, .widerDeep, .sentinel, .sentinel], laidTests := true, laidLooks := .later }
def DeclsOnesCardSaid : Prop := Claim7.holds Tryz.pinned (.plain (OpenSpec.ofChange declsOnesSpec)) declsOnesCard

/-- THE TIED CARD OF 'cornicelaw10.DeclsTells'. -/
def declsTellsCard : Claim7 := { stood := { row := declsTellsRow, standIns := [], harness := (true, "3954c8bd12652e12fefdb0ed110d5fb9802f0059f6f3f45edd2b6f9e17cf8d93"), looks := true }, kinds := [], alts := [], goes := true, laidByText := true, laidKinds := [.data, .data, .data, .widerDeep, .sentinel, .sentinel], laidTests := true, laidLooks := .later }
def DeclsTellsCardSaid : Prop := Claim7.holds Tryz.pinned (.plain (OpenSpec.ofChange declsTellsSpec)) declsTellsCard

/-- THE TIED CARD OF 'cornicelaw10.DeclsBuilds'. -/
def declsBuildsCard : Claim7 := { stood := { row := declsBuildsRow, standIns := [], harness := (true, "3954c8bd12652e12fefdb0ed110d5fb9802f0059f6f3f45edd2b6f9e17cf8d93"), looks := true }, kinds := [], alts := [], goes := true, laidByText := true, laidKinds := [.data, .data, .data, .widerDeep, .sentinel, .sentinel], laidTests := true, laidLooks := .later }
def DeclsBuildsCardSaid : Prop := Claim7.holds Tryz.pinned (.plain (OpenSpec.ofChange declsBuildsSpec)) declsBuildsCard

/-- THE TIED CARD OF 'cornicelaw10.DeclsEncodes'. -/
def declsEncodesCard : Claim7 := { stood := { row := declsEncodesRow, standIns := [], harness := (true, "3954c8bd12652e12fefdb0ed110d5fb9802f0059f6f3f45edd2b6f9e17cf8d93"), looks := true }, kinds := [], alts := [], goes := true, laidByText := true, laidKinds := [.data, .data, .data, .widerDeep, .sentinel, .sentinel, .data], laidTests := true, laidLooks := .later }
def DeclsEncodesCardSaid : Prop := Claim7.holds Tryz.pinned (.plain (OpenSpec.ofChange declsEncodesSpec)) declsEncodesCard

/-- THE TIED CARD OF 'cornicelaw10.DeclsSpoilt'. -/
def declsSpoiltCard : Claim7 := { stood := { row := declsSpoiltRow, standIns := [], harness := (true, "3954c8bd12652e12fefdb0ed110d5fb9802f0059f6f3f45edd2b6f9e17cf8d93"), looks := true }, kinds := [], alts := [], goes := true, laidByText := true, laidKinds := [.data, .data, .data, .widerDeep, .sentinel, .sentinel, .data], laidTests := true, laidLooks := .later }
def DeclsSpoiltCardSaid : Prop := Claim7.holds Tryz.pinned (.plain (OpenSpec.ofChange declsSpoiltSpec)) declsSpoiltCard

/-- THE SECOND FORM's CARD OF 'cornicelaw10.DeclsOnes'. -/
def declsOnesUptoCard : Claim7 := { stood := { row := declsOnesUptoRow, standIns := [], harness := (true, "3954c8bd12652e12fefdb0ed110d5fb9802f0059f6f3f45edd2b6f9e17cf8d93"), looks := true }, kinds := [], alts := [], goes := true, laidByText := true, laidKinds := [.data, .data, .data, .widerDeep, .sentinel, .sentinel], laidTests := true, laidLooks := .later }
def DeclsOnesUptoCardSaid : Prop := Claim7.holds Tryz.pinned (.plain (OpenSpec.upto declsOnesSpec)) declsOnesUptoCard

/-- THE SECOND FORM's CARD OF 'cornicelaw10.DeclsTells'. -/
def declsTellsUptoCard : Claim7 := { stood := { row := declsTellsUptoRow, standIns := [], harness := (true, "3954c8bd12652e12fefdb0ed110d5fb9802f0059f6f3f45edd2b6f9e17cf8d93"), looks := true }, kinds := [], alts := [], goes := true, laidByText := true, laidKinds := [.data, .data, .data, .widerDeep, .sentinel, .sentinel], laidTests := true, laidLooks := .later }
def DeclsTellsUptoCardSaid : Prop := Claim7.holds Tryz.pinned (.plain (OpenSpec.upto declsTellsSpec)) declsTellsUptoCard

/-- THE SECOND FORM's CARD OF 'cornicelaw10.DeclsBuilds'. -/
def declsBuildsUptoCard : Claim7 := { stood := { row := declsBuildsUptoRow, standIns := [], harness := (true, "3954c8bd12652e12fefdb0ed110d5fb9802f0059f6f3f45edd2b6f9e17cf8d93"), looks := true }, kinds := [], alts := [], goes := true, laidByText := true, laidKinds := [.data, .data, .data, .widerDeep, .sentinel, .sentinel], laidTests := true, laidLooks := .later }
def DeclsBuildsUptoCardSaid : Prop := Claim7.holds Tryz.pinned (.plain (OpenSpec.upto declsBuildsSpec)) declsBuildsUptoCard

/-- THE SECOND FORM's CARD OF 'cornicelaw10.DeclsEncodes'. -/
def declsEncodesUptoCard : Claim7 := { stood := { row := declsEncodesUptoRow, standIns := [], harness := (true, "3954c8bd12652e12fefdb0ed110d5fb9802f0059f6f3f45edd2b6f9e17cf8d93"), looks := true }, kinds := [], alts := [], goes := true, laidByText := true, laidKinds := [.data, .data, .data, .widerDeep, .sentinel, .sentinel, .data], laidTests := true, laidLooks := .later }
def DeclsEncodesUptoCardSaid : Prop := Claim7.holds Tryz.pinned (.plain (OpenSpec.upto declsEncodesSpec)) declsEncodesUptoCard

/-- THE SECOND FORM's CARD OF 'cornicelaw10.DeclsSpoilt'. -/
def declsSpoiltUptoCard : Claim7 := { stood := { row := declsSpoiltUptoRow, standIns := [], harness := (true, "3954c8bd12652e12fefdb0ed110d5fb9802f0059f6f3f45edd2b6f9e17cf8d93"), looks := true }, kinds := [], alts := [], goes := true, laidByText := true, laidKinds := [.data, .data, .data, .widerDeep, .sentinel, .sentinel, .data], laidTests := true, laidLooks := .later }
def DeclsSpoiltUptoCardSaid : Prop := Claim7.holds Tryz.pinned (.plain (OpenSpec.upto declsSpoiltSpec)) declsSpoiltUptoCard
end Rows
end Go.Proofs.YtggjbblgoddnjaaGreatDoor
