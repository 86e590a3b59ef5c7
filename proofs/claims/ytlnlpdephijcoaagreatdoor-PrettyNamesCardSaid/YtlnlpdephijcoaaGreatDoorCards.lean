/-
  DERIVED. GIVEN WITH THE SEED: THE CARDS: each row of YtlnlpdephijcoaaGreatDoorRows.lean that lists a variable, with what it lists TIED to the program's text (the seventh form; the later family's looks); each row that meets fmt, with fmt's text TOLD by the authors' own Lean function (tested against real Go, not proved from fmt's source: count such statements apart). THE CARD IS WHAT COUNTS. Prove the row's statement (the work); the ties are given (YtlnlpdephijcoaaGreatDoorTie.lean); close each card by the builder's one call (the guide's Derived/Test/ToyasCard.lean, 'card_holds'). Laid BY PROGRAM, IN A SANDBOX (cutbox-door.mjs). By AI agents, Wed Nov 11 2026. No macro, syntax, notation, axiom, sorry.
-/
import Derived.Test.YtlnlpdephijcoaaGreatDoorRows
import GoSem.ClaimSeven
namespace Go.Proofs.YtlnlpdephijcoaaGreatDoor
namespace Rows

/-- THE TIED CARD OF 'cornicelaw08.ScopeTerms'. -/
def scopeTermsCard : Claim7 := { stood := { row := scopeTermsRow, standIns := [], harness := (true, "388d9a794cdb69e461f12721a6df21baf5e88e6d6860fa38f6a6183049f26b3f"), looks := true }, kinds := [], alts := [], goes := true, laidByText := true, laidKinds := [.data, .data, .data, .widerDeep, .sentinel, .sentinel], laidTests := true, laidLooks := .later }
def ScopeTermsCardSaid : Prop := Claim7.holds Tryz.pinned (.plain (OpenSpec.ofChange scopeTermsSpec)) scopeTermsCard

/-- THE TIED CARD OF 'cornicelaw08.ScopeWrong'. -/
def scopeWrongCard : Claim7 := { stood := { row := scopeWrongRow, standIns := [], harness := (true, "388d9a794cdb69e461f12721a6df21baf5e88e6d6860fa38f6a6183049f26b3f"), looks := true }, kinds := [], alts := [], goes := true, laidByText := true, laidKinds := [.data, .data, .data, .widerDeep, .sentinel, .sentinel], laidTests := true, laidLooks := .later }
def ScopeWrongCardSaid : Prop := Claim7.holds Tryz.pinned (.plain (OpenSpec.ofChange scopeWrongSpec)) scopeWrongCard

/-- THE TIED CARD OF 'cornicelaw09.PrettyBack'. -/
def prettyBackCard : Claim7 := { stood := { row := prettyBackRow, standIns := [], harness := (true, "388d9a794cdb69e461f12721a6df21baf5e88e6d6860fa38f6a6183049f26b3f"), looks := true }, kinds := [], alts := [], goes := true, laidByText := true, laidKinds := [.data, .data, .data, .widerDeep, .sentinel, .sentinel], laidTests := true, laidLooks := .later }
def PrettyBackCardSaid : Prop := Claim7.holds Tryz.pinned (.plain (OpenSpec.ofChange prettyBackSpec)) prettyBackCard

/-- THE TIED CARD OF 'cornicelaw09.PrettyNames'. -/
def prettyNamesCard : Claim7 := { stood := { row := prettyNamesRow, standIns := [], harness := (true, "388d9a794cdb69e461f12721a6df21baf5e88e6d6860fa38f6a6183049f26b3f"), looks := true }, kinds := [], alts := [], goes := true, laidByText := true, laidKinds := [.data, .data, .data, .widerDeep, .sentinel, .sentinel], laidTests := true, laidLooks := .later }
def PrettyNamesCardSaid : Prop := Claim7.holds Tryz.pinned (.plain (OpenSpec.ofChange prettyNamesSpec)) prettyNamesCard

/-- THE SECOND FORM's CARD OF 'cornicelaw08.ScopeTerms'. -/
def scopeTermsUptoCard : Claim7 := { stood := { row := scopeTermsUptoRow, standIns := [], harness := (true, "388d9a794cdb69e461f12721a6df21baf5e88e6d6860fa38f6a6183049f26b3f"), looks := true }, kinds := [], alts := [], goes := true, laidByText := true, laidKinds := [.data, .data, .data, .widerDeep, .sentinel, .sentinel], laidTests := true, laidLooks := .later }
def ScopeTermsUptoCardSaid : Prop := Claim7.holds Tryz.pinned (.plain (OpenSpec.upto scopeTermsSpec)) scopeTermsUptoCard

/-- THE SECOND FORM's CARD OF 'cornicelaw08.ScopeWrong'. -/
def scopeWrongUptoCard : Claim7 := { stood := { row := scopeWrongUptoRow, standIns := [], harness := (true, "388d9a794cdb69e461f12721a6df21baf5e88e6d6860fa38f6a6183049f26b3f"), looks := true }, kinds := [], alts := [], goes := true, laidByText := true, laidKinds := [.data, .data, .data, .widerDeep, .sentinel, .sentinel], laidTests := true, laidLooks := .later }
def ScopeWrongUptoCardSaid : Prop := Claim7.holds Tryz.pinned (.plain (OpenSpec.upto scopeWrongSpec)) scopeWrongUptoCard

/-- THE SECOND FORM's CARD OF 'cornicelaw09.PrettyBack'. -/
def prettyBackUptoCard : Claim7 := { stood := { row := prettyBackUptoRow, standIns := [], harness := (true, "388d9a794cdb69e461f12721a6df21baf5e88e6d6860fa38f6a6183049f26b3f"), looks := true }, kinds := [], alts := [], goes := true, laidByText := true, laidKinds := [.data, .data, .data, .widerDeep, .sentinel, .sentinel], laidTests := true, laidLooks := .later }
def PrettyBackUptoCardSaid : Prop := Claim7.holds Tryz.pinned (.plain (OpenSpec.upto prettyBackSpec)) prettyBackUptoCard

/-- THE SECOND FORM's CARD OF 'cornicelaw09.PrettyNames'. -/
def prettyNamesUptoCard : Claim7 := { stood := { row := prettyNamesUptoRow, standIns := [], harness := (true, "388d9a794cdb69e461f12721a6df21baf5e88e6d6860fa38f6a6183049f26b3f"), looks := true }, kinds := [], alts := [], goes := true, laidByText := true, laidKinds := [.data, .data, .data, .widerDeep, .sentinel, .sentinel], laidTests := true, laidLooks := .later }
def PrettyNamesUptoCardSaid : Prop := Claim7.holds Tryz.pinned (.plain (OpenSpec.upto prettyNamesSpec)) prettyNamesUptoCard
end Rows
end Go.Proofs.YtlnlpdephijcoaaGreatDoor
