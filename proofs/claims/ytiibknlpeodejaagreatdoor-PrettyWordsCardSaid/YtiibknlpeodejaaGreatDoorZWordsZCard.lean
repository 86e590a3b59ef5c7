/- PrettyWords: the tied card: for every input the law's function returns true; what the tables of powers of ten, of math/bits and term.shapes read as when the call begins is tied to the program's text. -/
import Derived.Test.YtiibknlpeodejaaGreatDoorCards
import Derived.Test.YtiibknlpeodejaaGreatDoorTie
import Derived.SevenTiedAt
import Derived.Test.YtiibknlpeodejaaGreatDoorQ7
set_option linter.unusedSimpArgs false
set_option linter.unusedVariables false
/- PrettyWords: for every input the law's function returns true, and the arguments read as they did; the tables of powers of ten, of math/bits and term.shapes read as the program's text lays them (the card ties them). -/
namespace Go.Proofs.YtiibknlpeodejaaGreatDoor
open Go.ChangeShapes Go.WideShapes Go.ChangeAt Go.WideMaps Go.WideElems Go.RowKit Go.Lx Go.Deep

set_option maxRecDepth 100000 in
theorem liftedPrettyWords (os : Os) (started : os.Started) (H : Type) (enc : TypeId × Value → H) :
    ReturnsInHanded {} Tryz.checked os 4 .any (fun w args => (Rows.prettyWordsSpec.pre enc Tryz.prog Tryz.f4 [] false w args ∧ laidMetH Tryz.prog laidL w) ∧ sizedMet enc Tryz.prog Tryz.f4 (OpenSpec.ofChange Rows.prettyWordsSpec) false w args)
      (Rows.prettyWordsSpec.post enc Tryz.prog Tryz.f4 false true false false) := by
  refine returnsInHanded_of_change_and (C := Tryz.checked) (X := fun w _ => laidMetH Tryz.prog laidL w) (fun _ _ _ hh h => h.of_heap hh) Tryz.own started (by kernel_rfl) Tryz.func4
    (ChangeSpec.witness_shaped (enc := enc) (C := Tryz.checked) (os := os) (X := fun w _ => laidMetH Tryz.prog laidL w) false (World.doorLaid Tryz.prog 400 os) #[.slice none 0 0, .slice none 0 0] 8 rfl (World.shaped_of_RefB (by kernel_rfl) (by kernel_rfl)) (by kernel_rfl) (by kernel_rfl) (by kernel_rfl) (door_met os _)) ?_
  intro W base args ds gs before hval0 hW _ _ hL _
  have hval : ∀ (j : Nat) t v, Tryz.f4.params[j]? = some t → args[j]? = some v → Value.okWide Tryz.prog W .any base t v := hval0
  have hW' := hW
  obtain ⟨p, q, hA0, hV, rfl, _, _⟩ := hW
  have hA : DataW.TrodAll enc Tryz.prog W 0 (fun _ => true) true Tryz.f4.params.toList args.toList ds p := hA0
  rw [Tryz.params4] at hA hval
  have hlt := hA.lt
  obtain ⟨v0, v1, d0, d1, p0, p1, rfl, rfl, rfl, h0, h1⟩ := trodAll_two hA
  obtain ⟨rfl, rfl⟩ := trodVars_none hV
  have g0 := h0
  obtain ⟨a0, b0, c0, rfl⟩ := okWide_slice Tryz.underlying22 (hval 0 22 v0 rfl rfl)
  obtain ⟨fuel0, hf0⟩ := g0
  obtain ⟨u0, l0, hcs0, ha0⟩ := openT hf0
  simp only [Value.cells, List.cons.injEq, and_true] at hcs0
  obtain rfl := hcs0
  have g1 := h1
  obtain ⟨a1, b1, c1, rfl⟩ := okWide_slice Tryz.underlying23 (hval 1 23 v1 rfl rfl)
  obtain ⟨fuel1, hf1⟩ := g1
  obtain ⟨u1, l1, hcs1, ha1⟩ := openS hf1
  simp only [Value.cells, List.cons.injEq, and_true] at hcs1
  obtain rfl := hcs1
  have hB := of_laid hL
  refine (words_law l0 l1  hB ha0 ha1).mono ?_
  rintro e W' ⟨rfl, hU⟩
  refine ⟨_, rfl, ChangeSpec.post_alike (W'' := { W' with tape := W.tape }) ?_ ⟨rfl, rfl, rfl⟩⟩
  have hb := below_ofZ hU
  refine ⟨_, _, _, [], p0 ++ p1, [], hW', ?_, ?_, rfl, hb.frame _, fun h => by cases h⟩
  · exact trodAll_mk1 (shut_boolZ true)
  · exact trodAll_mk2 (staysZ (by kernel_rfl) (by decide +kernel) hU _ (fun x hx => hlt x (by simp [hx])) h0) (staysZ (by kernel_rfl) (by decide +kernel) hU _ (fun x hx => hlt x (by simp [hx])) h1)
theorem prettyWords_holds : Rows.PrettyWordsSaid :=
  OpenClaim.holds_of_wide 4 Tryz.f4 rfl rfl rfl rfl rfl rfl rfl ⟨rfl, rfl, rfl, rfl, rfl⟩ rfl rfl rfl rfl rfl (by kernel_rfl) Tryz.func4 (by kernel_rfl)
    (of_decide_eq_true (by kernel_rfl)) (by unfold Func.isWrapper; first | (rw [if_pos (by decide +kernel)]; kernel_rfl) | (rw [if_neg (by decide +kernel)]; exact ⟨rfl, rfl⟩))
    (fun os started H enc _ => liftedPrettyWords os started H enc)
end Go.Proofs.YtiibknlpeodejaaGreatDoor

/- PrettyWords: the tied card: for every input the law's function returns true; what the tables of powers of ten, of math/bits and term.shapes read as when the call begins is tied to the program's text. -/
namespace Go.Proofs.YtiibknlpeodejaaGreatDoor
open Go

theorem prettyWordsCard_holds : Rows.PrettyWordsCardSaid :=
  Claim7.holds_tied_plain_at .later [] [.data, .data, .data, .widerDeep] true (true, "f63c51c33eaaa49eae7c0898da481f3b79da578ebcde69639b6156d7e9bdef70") false
    prettyWords_holds (fun _ h => by cases h) (by kernel_rfl) (fun _ h => by cases h) prettyWords_row_tie rfl ⟨rfl, rfl⟩ (by kernel_rfl) rfl
    (fun f fn hf hfn => by
      obtain rfl : f = 4 := Option.some.inj ((show Tryz.prog.funcNamed "cornice/cornicelaw09.PrettyWords" = some 4 by kernel_rfl).symm.trans hf) |>.symm
      obtain rfl : fn = Tryz.f4 := (Option.some.inj (Tryz.func4.symm.trans hfn)).symm
      exact ⟨by kernel_rfl, fun j t ht => by
        rw [Tryz.params4] at ht
        have hm : t ∈ [22, 23] := by simpa using Array.mem_of_getElem? ht
        have hall : ([22, 23].all fun u => !Tryz.prog.wantsStandIn u) = true := by kernel_rfl
        exact (show Tryz.prog.wantsStandIn t = false by simpa using List.all_eq_true.1 hall t (by simpa using hm))⟩)
    (by kernel_rfl)
end Go.Proofs.YtiibknlpeodejaaGreatDoor
#print axioms Go.Proofs.YtiibknlpeodejaaGreatDoor.prettyWordsCard_holds
