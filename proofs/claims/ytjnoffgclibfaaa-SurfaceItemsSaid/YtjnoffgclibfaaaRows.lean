/-
  No cell of these rows narrows 'for every input' (looked for: loops, veiled, ifaces, maps, wideKeys, modest, calm, conditions, laid).
  DERIVED. THE GIVEN ROWS OF THIS SEAT. 10 by the template 'for every input the law returns true; each argument reads behind the call as it read before'; 0 by the template 'total and deterministic' (their statements: YtjnoffgclibfaaaTotals.lean).
  GIVEN WITH THE SEED: the statements are not yours to turn. If you find one false, say at which input.
  Laid BY PROGRAM, IN A SANDBOX (cutbox-rows.mjs): the forced cells as the released guide's own fill.sh prints them over the translation 33f39debb1aace9f… (all of the seat's roots in one cut). By AI agents, Wed Nov 11 2026. No macro, syntax, notation, axiom, sorry.
-/
import Derived.Test.YtjnoffgclibfaaaChecked
import GoSem.Claim
import GoSem.ClaimJoined
import GoSem.ClaimMapViews
import Derived.JoinedTies
import Derived.KernelRfl
namespace Go.Proofs.Ytjnoffgclibfaaa
/- THE CELL 'sum', in the pinned program and in every row, IS THE sha256 OF THE DUMP (.gsa) THAT YtjnoffgclibfaaaProg.lean LOADS. Nothing in Lean hashes anything: it is a label: what it is worth is what the hold of that sum in a sandbox is worth. -/
noncomputable def Try.pinned : Pinned := { name := "ytjnoffgclibfaaa", sum := "33f39debb1aace9f96250ae931654133cad40d01529f77c2b93d198770684cef", checked := Try.checked }
namespace Rows
def none {H : Type} : Left H := { results := [], args := [] }

/-- 'cornicelaw06.LexerPlaces': WHATEVER THE INPUT: true; the input reads as it did. -/
def lexerPlacesSpec : ChangeSpec := { name := "lexerPlaces", fn := fun _ => fun
  | [d] => { results := [.lit (.bool true)], args := [d] }
  | _ => none }
def lexerPlacesRow : OpenClaim := { program := "ytjnoffgclibfaaa", sum := "33f39debb1aace9f96250ae931654133cad40d01529f77c2b93d198770684cef", func := "cornice/cornicelaw06.LexerPlaces", spec := "lexerPlaces", inPlace := ["internal/bytealg.IndexByteString"], unfollowed := true, recurses := true, leaving := true, apart := false }
def LexerPlacesSaid : Prop := lexerPlacesRow.holds Try.pinned (OpenSpec.ofChange lexerPlacesSpec)

/-- ITS FALSE NEIGHBOUR: 'it returns false'. Refute it at one input. -/
def lexerPlacesWrong : ChangeSpec := { name := "lexerPlaces", fn := fun _ => fun
  | [d] => { results := [.lit (.bool false)], args := [d] }
  | _ => none }
def LexerPlacesWrongFalsely : Prop := lexerPlacesRow.holds Try.pinned (OpenSpec.ofChange lexerPlacesWrong)

/-- 'cornicelaw06.LexerCuts': WHATEVER THE INPUT: true; the input reads as it did. -/
def lexerCutsSpec : ChangeSpec := { name := "lexerCuts", fn := fun _ => fun
  | [d1, d2] => { results := [.lit (.bool true)], args := [d1, d2] }
  | _ => none }
def lexerCutsRow : OpenClaim := { program := "ytjnoffgclibfaaa", sum := "33f39debb1aace9f96250ae931654133cad40d01529f77c2b93d198770684cef", func := "cornice/cornicelaw06.LexerCuts", spec := "lexerCuts", inPlace := ["internal/bytealg.IndexByteString"], unfollowed := true, recurses := true, leaving := true, apart := false }
def LexerCutsSaid : Prop := lexerCutsRow.holds Try.pinned (OpenSpec.ofChange lexerCutsSpec)

/-- ITS FALSE NEIGHBOUR: 'it returns false'. Refute it at one input. -/
def lexerCutsWrong : ChangeSpec := { name := "lexerCuts", fn := fun _ => fun
  | [d1, d2] => { results := [.lit (.bool false)], args := [d1, d2] }
  | _ => none }
def LexerCutsWrongFalsely : Prop := lexerCutsRow.holds Try.pinned (OpenSpec.ofChange lexerCutsWrong)

/-- 'cornicelaw06.LexerWords': WHATEVER THE INPUT: true; the input reads as it did. -/
def lexerWordsSpec : ChangeSpec := { name := "lexerWords", fn := fun _ => fun
  | [d1, d2, d3] => { results := [.lit (.bool true)], args := [d1, d2, d3] }
  | _ => none }
def lexerWordsRow : OpenClaim := { program := "ytjnoffgclibfaaa", sum := "33f39debb1aace9f96250ae931654133cad40d01529f77c2b93d198770684cef", func := "cornice/cornicelaw06.LexerWords", spec := "lexerWords", inPlace := ["internal/bytealg.IndexByteString"], unfollowed := true, recurses := true, leaving := true, apart := false }
def LexerWordsSaid : Prop := lexerWordsRow.holds Try.pinned (OpenSpec.ofChange lexerWordsSpec)

/-- ITS FALSE NEIGHBOUR: 'it returns false'. Refute it at one input. -/
def lexerWordsWrong : ChangeSpec := { name := "lexerWords", fn := fun _ => fun
  | [d1, d2, d3] => { results := [.lit (.bool false)], args := [d1, d2, d3] }
  | _ => none }
def LexerWordsWrongFalsely : Prop := lexerWordsRow.holds Try.pinned (OpenSpec.ofChange lexerWordsWrong)

/-- 'cornicelaw07.SurfaceReads': WHATEVER THE INPUT: true; the input reads as it did. -/
def surfaceReadsSpec : ChangeSpec := { name := "surfaceReads", fn := fun _ => fun
  | [d] => { results := [.lit (.bool true)], args := [d] }
  | _ => none }
def surfaceReadsRow : OpenClaim := { program := "ytjnoffgclibfaaa", sum := "33f39debb1aace9f96250ae931654133cad40d01529f77c2b93d198770684cef", func := "cornice/cornicelaw07.SurfaceReads", spec := "surfaceReads", inPlace := ["internal/bytealg.IndexByteString"], unfollowed := true, recurses := true, leaving := true, apart := false }
def SurfaceReadsSaid : Prop := surfaceReadsRow.holds Try.pinned (OpenSpec.ofChange surfaceReadsSpec)

/-- ITS FALSE NEIGHBOUR: 'it returns false'. Refute it at one input. -/
def surfaceReadsWrong : ChangeSpec := { name := "surfaceReads", fn := fun _ => fun
  | [d] => { results := [.lit (.bool false)], args := [d] }
  | _ => none }
def SurfaceReadsWrongFalsely : Prop := surfaceReadsRow.holds Try.pinned (OpenSpec.ofChange surfaceReadsWrong)

/-- 'cornicelaw07.SurfaceParses': WHATEVER THE INPUT: true; the input reads as it did. -/
def surfaceParsesSpec : ChangeSpec := { name := "surfaceParses", fn := fun _ => fun
  | [d] => { results := [.lit (.bool true)], args := [d] }
  | _ => none }
def surfaceParsesRow : OpenClaim := { program := "ytjnoffgclibfaaa", sum := "33f39debb1aace9f96250ae931654133cad40d01529f77c2b93d198770684cef", func := "cornice/cornicelaw07.SurfaceParses", spec := "surfaceParses", inPlace := ["internal/bytealg.IndexByteString"], unfollowed := true, recurses := true, leaving := true, apart := false }
def SurfaceParsesSaid : Prop := surfaceParsesRow.holds Try.pinned (OpenSpec.ofChange surfaceParsesSpec)

/-- ITS FALSE NEIGHBOUR: 'it returns false'. Refute it at one input. -/
def surfaceParsesWrong : ChangeSpec := { name := "surfaceParses", fn := fun _ => fun
  | [d] => { results := [.lit (.bool false)], args := [d] }
  | _ => none }
def SurfaceParsesWrongFalsely : Prop := surfaceParsesRow.holds Try.pinned (OpenSpec.ofChange surfaceParsesWrong)

/-- 'cornicelaw07.SurfaceDeep': WHATEVER THE INPUT: true; the input reads as it did. -/
def surfaceDeepSpec : ChangeSpec := { name := "surfaceDeep", fn := fun _ => fun
  | [d1, d2] => { results := [.lit (.bool true)], args := [d1, d2] }
  | _ => none }
def surfaceDeepRow : OpenClaim := { program := "ytjnoffgclibfaaa", sum := "33f39debb1aace9f96250ae931654133cad40d01529f77c2b93d198770684cef", func := "cornice/cornicelaw07.SurfaceDeep", spec := "surfaceDeep", inPlace := ["internal/bytealg.IndexByteString"], unfollowed := true, recurses := true, leaving := true, apart := false }
def SurfaceDeepSaid : Prop := surfaceDeepRow.holds Try.pinned (OpenSpec.ofChange surfaceDeepSpec)

/-- ITS FALSE NEIGHBOUR: 'it returns false'. Refute it at one input. -/
def surfaceDeepWrong : ChangeSpec := { name := "surfaceDeep", fn := fun _ => fun
  | [d1, d2] => { results := [.lit (.bool false)], args := [d1, d2] }
  | _ => none }
def SurfaceDeepWrongFalsely : Prop := surfaceDeepRow.holds Try.pinned (OpenSpec.ofChange surfaceDeepWrong)

/-- 'cornicelaw07.SurfaceJoins': WHATEVER THE INPUT: true; the input reads as it did. -/
def surfaceJoinsSpec : ChangeSpec := { name := "surfaceJoins", fn := fun _ => fun
  | [d1, d2] => { results := [.lit (.bool true)], args := [d1, d2] }
  | _ => none }
def surfaceJoinsRow : OpenClaim := { program := "ytjnoffgclibfaaa", sum := "33f39debb1aace9f96250ae931654133cad40d01529f77c2b93d198770684cef", func := "cornice/cornicelaw07.SurfaceJoins", spec := "surfaceJoins", inPlace := ["internal/bytealg.IndexByteString"], unfollowed := true, recurses := true, leaving := true, apart := false }
def SurfaceJoinsSaid : Prop := surfaceJoinsRow.holds Try.pinned (OpenSpec.ofChange surfaceJoinsSpec)

/-- ITS FALSE NEIGHBOUR: 'it returns false'. Refute it at one input. -/
def surfaceJoinsWrong : ChangeSpec := { name := "surfaceJoins", fn := fun _ => fun
  | [d1, d2] => { results := [.lit (.bool false)], args := [d1, d2] }
  | _ => none }
def SurfaceJoinsWrongFalsely : Prop := surfaceJoinsRow.holds Try.pinned (OpenSpec.ofChange surfaceJoinsWrong)

/-- 'cornicelaw06.LexerTokens': WHATEVER THE INPUT: true; the input reads as it did. -/
def lexerTokensSpec : ChangeSpec := { name := "lexerTokens", fn := fun _ => fun
  | [d1, d2, d3] => { results := [.lit (.bool true)], args := [d1, d2, d3] }
  | _ => none }
def lexerTokensRow : OpenClaim := { program := "ytjnoffgclibfaaa", sum := "33f39debb1aace9f96250ae931654133cad40d01529f77c2b93d198770684cef", func := "cornice/cornicelaw06.LexerTokens", spec := "lexerTokens", inPlace := ["internal/bytealg.IndexByteString", "internal/bytealg.CountString", "internal/bytealg.IndexString"], unfollowed := true, recurses := true, named := ["internal/bytealg.MaxLen"], leaving := true, apart := false }
def LexerTokensSaid : Prop := lexerTokensRow.holds Try.pinned (OpenSpec.ofChange lexerTokensSpec)

/-- ITS FALSE NEIGHBOUR: 'it returns false'. Refute it at one input. -/
def lexerTokensWrong : ChangeSpec := { name := "lexerTokens", fn := fun _ => fun
  | [d1, d2, d3] => { results := [.lit (.bool false)], args := [d1, d2, d3] }
  | _ => none }
def LexerTokensWrongFalsely : Prop := lexerTokensRow.holds Try.pinned (OpenSpec.ofChange lexerTokensWrong)

/-- 'cornicelaw06.LexerLines': WHATEVER THE INPUT: true; the input reads as it did. -/
def lexerLinesSpec : ChangeSpec := { name := "lexerLines", fn := fun _ => fun
  | [d1, d2] => { results := [.lit (.bool true)], args := [d1, d2] }
  | _ => none }
def lexerLinesRow : OpenClaim := { program := "ytjnoffgclibfaaa", sum := "33f39debb1aace9f96250ae931654133cad40d01529f77c2b93d198770684cef", func := "cornice/cornicelaw06.LexerLines", spec := "lexerLines", inPlace := ["internal/bytealg.IndexByteString", "internal/bytealg.CountString", "internal/bytealg.IndexString"], unfollowed := true, recurses := true, named := ["internal/bytealg.MaxLen"], leaving := true, apart := false }
def LexerLinesSaid : Prop := lexerLinesRow.holds Try.pinned (OpenSpec.ofChange lexerLinesSpec)

/-- ITS FALSE NEIGHBOUR: 'it returns false'. Refute it at one input. -/
def lexerLinesWrong : ChangeSpec := { name := "lexerLines", fn := fun _ => fun
  | [d1, d2] => { results := [.lit (.bool false)], args := [d1, d2] }
  | _ => none }
def LexerLinesWrongFalsely : Prop := lexerLinesRow.holds Try.pinned (OpenSpec.ofChange lexerLinesWrong)

/-- 'cornicelaw07.SurfaceItems': WHATEVER THE INPUT: true; the input reads as it did. -/
def surfaceItemsSpec : ChangeSpec := { name := "surfaceItems", fn := fun _ => fun
  | [d] => { results := [.lit (.bool true)], args := [d] }
  | _ => none }
def surfaceItemsRow : OpenClaim := { program := "ytjnoffgclibfaaa", sum := "33f39debb1aace9f96250ae931654133cad40d01529f77c2b93d198770684cef", func := "cornice/cornicelaw07.SurfaceItems", spec := "surfaceItems", inPlace := ["internal/bytealg.IndexByteString", "internal/abi.NoEscape", "internal/bytealg.MakeNoZero"], unfollowed := true, recurses := true, leaving := true, apart := false }
def SurfaceItemsSaid : Prop := surfaceItemsRow.holds Try.pinned (OpenSpec.ofChange surfaceItemsSpec)

/-- ITS FALSE NEIGHBOUR: 'it returns false'. Refute it at one input. -/
def surfaceItemsWrong : ChangeSpec := { name := "surfaceItems", fn := fun _ => fun
  | [d] => { results := [.lit (.bool false)], args := [d] }
  | _ => none }
def SurfaceItemsWrongFalsely : Prop := surfaceItemsRow.holds Try.pinned (OpenSpec.ofChange surfaceItemsWrong)

/- THE SECOND FORM. 'bulk': how many values and letters a reading holds, each counted each time it is reached (what is shared counts as often as it is met; a slice's spare places count too). A statement '..UptoSaid' is the law's where the arguments, and the package variables that the reading takes, are together of bulk at most 1048576: NARROWER than '..Said'. Prove '..Said' where nothing that the law and all that it calls make is longer than what came in: it says more and counts as full. Else prove '..UptoSaid'. A law counts once. -/
mutual
def uptoBulk {H : Type} : DataW H → Nat
  | .lit (.string bytes) => bytes.length + 1
  | .lit _ => 1
  | .nil => 1
  | .ptr d => uptoBulk d + 1
  | .slice elems spare => uptoBulkAll elems + uptoBulkAll spare + 1
  | .agg parts => uptoBulkAll parts + 1
  | .iface _ d => uptoBulk d + 1
  | .map entries => uptoBulkEntries entries + 1
  | .held _ => 1
def uptoBulkAll {H : Type} : List (DataW H) → Nat
  | [] => 0
  | d :: r => uptoBulk d + uptoBulkAll r
def uptoBulkEntries {H : Type} : List (Lit × DataW H) → Nat
  | [] => 0
  | x :: r => uptoBulkEntry x + uptoBulkEntries r
def uptoBulkEntry {H : Type} : Lit × DataW H → Nat
  | (.string bytes, d) => bytes.length + uptoBulk d + 1
  | (_, d) => uptoBulk d + 1
 end
def uptoSmall : (H : Type) → List (DataW H) → Bool := fun _ ds => decide (uptoBulkAll ds ≤ 1048576)
def OpenSpec.upto (s : _root_.Go.ChangeSpec) : _root_.Go.OpenSpec := { _root_.Go.OpenSpec.ofChange s with cond := some uptoSmall }

/-- 'cornicelaw06.LexerPlaces', WHERE WHAT IT READS IS OF BULK AT MOST 1048576: true; the input reads as it did. -/
def lexerPlacesUptoRow : OpenClaim := { program := "ytjnoffgclibfaaa", sum := "33f39debb1aace9f96250ae931654133cad40d01529f77c2b93d198770684cef", func := "cornice/cornicelaw06.LexerPlaces", spec := "lexerPlaces", inPlace := ["internal/bytealg.IndexByteString"], unfollowed := true, recurses := true, leaving := true, apart := false, narrowed := true }
def LexerPlacesUptoSaid : Prop := lexerPlacesUptoRow.holds Try.pinned (OpenSpec.upto lexerPlacesSpec)

/-- 'cornicelaw06.LexerCuts', WHERE WHAT IT READS IS OF BULK AT MOST 1048576: true; the input reads as it did. -/
def lexerCutsUptoRow : OpenClaim := { program := "ytjnoffgclibfaaa", sum := "33f39debb1aace9f96250ae931654133cad40d01529f77c2b93d198770684cef", func := "cornice/cornicelaw06.LexerCuts", spec := "lexerCuts", inPlace := ["internal/bytealg.IndexByteString"], unfollowed := true, recurses := true, leaving := true, apart := false, narrowed := true }
def LexerCutsUptoSaid : Prop := lexerCutsUptoRow.holds Try.pinned (OpenSpec.upto lexerCutsSpec)

/-- 'cornicelaw06.LexerWords', WHERE WHAT IT READS IS OF BULK AT MOST 1048576: true; the input reads as it did. -/
def lexerWordsUptoRow : OpenClaim := { program := "ytjnoffgclibfaaa", sum := "33f39debb1aace9f96250ae931654133cad40d01529f77c2b93d198770684cef", func := "cornice/cornicelaw06.LexerWords", spec := "lexerWords", inPlace := ["internal/bytealg.IndexByteString"], unfollowed := true, recurses := true, leaving := true, apart := false, narrowed := true }
def LexerWordsUptoSaid : Prop := lexerWordsUptoRow.holds Try.pinned (OpenSpec.upto lexerWordsSpec)

/-- 'cornicelaw07.SurfaceReads', WHERE WHAT IT READS IS OF BULK AT MOST 1048576: true; the input reads as it did. -/
def surfaceReadsUptoRow : OpenClaim := { program := "ytjnoffgclibfaaa", sum := "33f39debb1aace9f96250ae931654133cad40d01529f77c2b93d198770684cef", func := "cornice/cornicelaw07.SurfaceReads", spec := "surfaceReads", inPlace := ["internal/bytealg.IndexByteString"], unfollowed := true, recurses := true, leaving := true, apart := false, narrowed := true }
def SurfaceReadsUptoSaid : Prop := surfaceReadsUptoRow.holds Try.pinned (OpenSpec.upto surfaceReadsSpec)

/-- 'cornicelaw07.SurfaceParses', WHERE WHAT IT READS IS OF BULK AT MOST 1048576: true; the input reads as it did. -/
def surfaceParsesUptoRow : OpenClaim := { program := "ytjnoffgclibfaaa", sum := "33f39debb1aace9f96250ae931654133cad40d01529f77c2b93d198770684cef", func := "cornice/cornicelaw07.SurfaceParses", spec := "surfaceParses", inPlace := ["internal/bytealg.IndexByteString"], unfollowed := true, recurses := true, leaving := true, apart := false, narrowed := true }
def SurfaceParsesUptoSaid : Prop := surfaceParsesUptoRow.holds Try.pinned (OpenSpec.upto surfaceParsesSpec)

/-- 'cornicelaw07.SurfaceDeep', WHERE WHAT IT READS IS OF BULK AT MOST 1048576: true; the input reads as it did. -/
def surfaceDeepUptoRow : OpenClaim := { program := "ytjnoffgclibfaaa", sum := "33f39debb1aace9f96250ae931654133cad40d01529f77c2b93d198770684cef", func := "cornice/cornicelaw07.SurfaceDeep", spec := "surfaceDeep", inPlace := ["internal/bytealg.IndexByteString"], unfollowed := true, recurses := true, leaving := true, apart := false, narrowed := true }
def SurfaceDeepUptoSaid : Prop := surfaceDeepUptoRow.holds Try.pinned (OpenSpec.upto surfaceDeepSpec)

/-- 'cornicelaw07.SurfaceJoins', WHERE WHAT IT READS IS OF BULK AT MOST 1048576: true; the input reads as it did. -/
def surfaceJoinsUptoRow : OpenClaim := { program := "ytjnoffgclibfaaa", sum := "33f39debb1aace9f96250ae931654133cad40d01529f77c2b93d198770684cef", func := "cornice/cornicelaw07.SurfaceJoins", spec := "surfaceJoins", inPlace := ["internal/bytealg.IndexByteString"], unfollowed := true, recurses := true, leaving := true, apart := false, narrowed := true }
def SurfaceJoinsUptoSaid : Prop := surfaceJoinsUptoRow.holds Try.pinned (OpenSpec.upto surfaceJoinsSpec)

/-- 'cornicelaw06.LexerTokens', WHERE WHAT IT READS IS OF BULK AT MOST 1048576: true; the input reads as it did. -/
def lexerTokensUptoRow : OpenClaim := { program := "ytjnoffgclibfaaa", sum := "33f39debb1aace9f96250ae931654133cad40d01529f77c2b93d198770684cef", func := "cornice/cornicelaw06.LexerTokens", spec := "lexerTokens", inPlace := ["internal/bytealg.IndexByteString", "internal/bytealg.CountString", "internal/bytealg.IndexString"], unfollowed := true, recurses := true, named := ["internal/bytealg.MaxLen"], leaving := true, apart := false, narrowed := true }
def LexerTokensUptoSaid : Prop := lexerTokensUptoRow.holds Try.pinned (OpenSpec.upto lexerTokensSpec)

/-- 'cornicelaw06.LexerLines', WHERE WHAT IT READS IS OF BULK AT MOST 1048576: true; the input reads as it did. -/
def lexerLinesUptoRow : OpenClaim := { program := "ytjnoffgclibfaaa", sum := "33f39debb1aace9f96250ae931654133cad40d01529f77c2b93d198770684cef", func := "cornice/cornicelaw06.LexerLines", spec := "lexerLines", inPlace := ["internal/bytealg.IndexByteString", "internal/bytealg.CountString", "internal/bytealg.IndexString"], unfollowed := true, recurses := true, named := ["internal/bytealg.MaxLen"], leaving := true, apart := false, narrowed := true }
def LexerLinesUptoSaid : Prop := lexerLinesUptoRow.holds Try.pinned (OpenSpec.upto lexerLinesSpec)

/-- 'cornicelaw07.SurfaceItems', WHERE WHAT IT READS IS OF BULK AT MOST 1048576: true; the input reads as it did. -/
def surfaceItemsUptoRow : OpenClaim := { program := "ytjnoffgclibfaaa", sum := "33f39debb1aace9f96250ae931654133cad40d01529f77c2b93d198770684cef", func := "cornice/cornicelaw07.SurfaceItems", spec := "surfaceItems", inPlace := ["internal/bytealg.IndexByteString", "internal/abi.NoEscape", "internal/bytealg.MakeNoZero"], unfollowed := true, recurses := true, leaving := true, apart := false, narrowed := true }
def SurfaceItemsUptoSaid : Prop := surfaceItemsUptoRow.holds Try.pinned (OpenSpec.upto surfaceItemsSpec)

end Rows
end Go.Proofs.Ytjnoffgclibfaaa
