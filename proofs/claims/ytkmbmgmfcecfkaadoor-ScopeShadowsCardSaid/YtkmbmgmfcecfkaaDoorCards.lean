/-
  DERIVED. GIVEN WITH THE SEED: THE CARDS: each row of YtkmbmgmfcecfkaaDoorRows.lean that lists a variable, with what it lists TIED to the program's text (the seventh form; the later family's looks); each row that meets fmt, with fmt's text TOLD by the authors' own Lean function (tested against real Go, not proved from fmt's source: count such statements apart). THE CARD IS WHAT COUNTS. Prove the row's statement (the work); the ties are given (YtkmbmgmfcecfkaaDoorTie.lean); close each card by the builder's one call (the guide's Derived/Test/ToyasCard.lean, 'card_holds'). Laid BY PROGRAM, IN A SANDBOX (cutbox-door.mjs). By AI agents, Wed Nov 11 2026. No macro, syntax, notation, axiom, sorry.
-/
import Derived.Test.YtkmbmgmfcecfkaaDoorRows
import GoSem.ClaimSeven
namespace Go.Proofs.YtkmbmgmfcecfkaaDoor
namespace Rows

/-- THE TIED CARD OF 'cornicelaw08.ScopeRenames'. -/
def scopeRenamesCard : Claim7 := { stood := { row := scopeRenamesRow, standIns := [], harness := (true, "20af386b1569fba494de6f068aa981e8eb535de60879033a3acd2ad7c02c4b11"), looks := true }, kinds := [], alts := [], goes := true, laidByText := true, laidKinds := [.data, .data, .data, .widerDeep, .sentinel, .sentinel], laidTests := true, laidLooks := .later }
def ScopeRenamesCardSaid : Prop := Claim7.holds Tryd.pinned (.plain (OpenSpec.ofChange scopeRenamesSpec)) scopeRenamesCard

/-- THE TIED CARD OF 'cornicelaw08.ScopeShadows'. -/
def scopeShadowsCard : Claim7 := { stood := { row := scopeShadowsRow, standIns := [], harness := (true, "20af386b1569fba494de6f068aa981e8eb535de60879033a3acd2ad7c02c4b11"), looks := true }, kinds := [], alts := [], goes := true, laidByText := true, laidKinds := [.data, .data, .data, .widerDeep, .sentinel, .sentinel], laidTests := true, laidLooks := .later }
def ScopeShadowsCardSaid : Prop := Claim7.holds Tryd.pinned (.plain (OpenSpec.ofChange scopeShadowsSpec)) scopeShadowsCard

/-- THE SECOND FORM's CARD OF 'cornicelaw08.ScopeRenames'. -/
def scopeRenamesUptoCard : Claim7 := { stood := { row := scopeRenamesUptoRow, standIns := [], harness := (true, "20af386b1569fba494de6f068aa981e8eb535de60879033a3acd2ad7c02c4b11"), looks := true }, kinds := [], alts := [], goes := true, laidByText := true, laidKinds := [.data, .data, .data, .widerDeep, .sentinel, .sentinel], laidTests := true, laidLooks := .later }
def ScopeRenamesUptoCardSaid : Prop := Claim7.holds Tryd.pinned (.plain (OpenSpec.upto scopeRenamesSpec)) scopeRenamesUptoCard

/-- THE SECOND FORM's CARD OF 'cornicelaw08.ScopeShadows'. -/
def scopeShadowsUptoCard : Claim7 := { stood := { row := scopeShadowsUptoRow, standIns := [], harness := (true, "20af386b1569fba494de6f068aa981e8eb535de60879033a3acd2ad7c02c4b11"), looks := true }, kinds := [], alts := [], goes := true, laidByText := true, laidKinds := [.data, .data, .data, .widerDeep, .sentinel, .sentinel], laidTests := true, laidLooks := .later }
def ScopeShadowsUptoCardSaid : Prop := Claim7.holds Tryd.pinned (.plain (OpenSpec.upto scopeShadowsSpec)) scopeShadowsUptoCard
end Rows
end Go.Proofs.YtkmbmgmfcecfkaaDoor
