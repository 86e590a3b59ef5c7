/-
  DERIVED. GIVEN WITH THE SEED: THE CARDS: each row of YtpkaiodmbicjiaaGreatDoorRows.lean that lists a variable, with what it lists TIED to the program's text (the seventh form; the later family's looks); each row that meets fmt, with fmt's text TOLD by the authors' own Lean function (tested against real Go, not proved from fmt's source: count such statements apart). THE CARD IS WHAT COUNTS. Prove the row's statement (the work); the ties are given (YtpkaiodmbicjiaaGreatDoorTie.lean); close each card by the builder's one call (the guide's Derived/Test/ToyasCard.lean, 'card_holds'). Laid BY PROGRAM, IN A SANDBOX (cutbox-door.mjs). By AI agents, Wed Nov 11 2026. No macro, syntax, notation, axiom, sorry.
-/
import Derived.Test.YtpkaiodmbicjiaaGreatDoorRows
import GoSem.ClaimSeven
namespace Go.Proofs.YtpkaiodmbicjiaaGreatDoor
namespace Rows

/-- THE TIED CARD OF 'cornicelaw10.DeclsOnes'. -/
def declsOnesCard : Claim7 := { stood := { row := declsOnesRow, standIns := [], harness := (true, "2dbe4a3c657f3854e0758be8b1c37a85533e03db2d3695697928e11e40930402"), looks := true }, kinds := [], alts := [], goes := true, laidByText := true, laidKinds := [.data, .data, .data, .widerDeep, .sentinel, .sentinel], laidTests := true, laidLooks := .later }
def DeclsOnesCardSaid : Prop := Claim7.holds Tryz.pinned (.plain (OpenSpec.ofChange declsOnesSpec)) declsOnesCard

/-- THE SECOND FORM's CARD OF 'cornicelaw10.DeclsOnes'. -/
def declsOnesUptoCard : Claim7 := { stood := { row := declsOnesUptoRow, standIns := [], harness := (true, "2dbe4a3c657f3854e0758be8b1c37a85533e03db2d3695697928e11e40930402"), looks := true }, kinds := [], alts := [], goes := true, laidByText := true, laidKinds := [.data, .data, .data, .widerDeep, .sentinel, .sentinel], laidTests := true, laidLooks := .later }
def DeclsOnesUptoCardSaid : Prop := Claim7.holds Tryz.pinned (.plain (OpenSpec.upto declsOnesSpec)) declsOnesUptoCard
end Rows
end Go.Proofs.YtpkaiodmbicjiaaGreatDoor
