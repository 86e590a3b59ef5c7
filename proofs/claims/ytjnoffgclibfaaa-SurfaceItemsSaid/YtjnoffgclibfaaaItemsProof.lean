/- SurfaceItems: for every slice of Sx the law's function returns true, on every schedule, without a race, the other goroutines only leaving; no condition. -/
import Derived.Test.YtjnoffgclibfaaaOpenSx
import Derived.Test.YtjnoffgclibfaaaItemsLaw
set_option linter.unusedSimpArgs false
set_option linter.unusedVariables false
namespace Go.Proofs.Ytjnoffgclibfaaa
open Go.ChangeShapes Go.WideShapes Go.ChangeAt Go.RowKit Go.Conc Go.Lx

set_option maxRecDepth 100000 in
theorem items_lifted (os : Os) (started : os.Started) (H : Type) (enc : TypeId × Value → H) :
    ReturnsInLeavingWide {} Try.checked os 12 .any (Rows.surfaceItemsSpec.pre6 enc Try.prog Try.f12 Rows.surfaceItemsRow.domain false) (Rows.surfaceItemsSpec.post enc Try.prog Try.f12 false true false false) := by
  refine returnsInLeavingWide_of_change_sized (C := Try.checked) Try.own started Try.func12
    (ChangeSpec.witness6 (enc := enc) (C := Try.checked) false ⟨#[], #[.slice none 0 0], []⟩ 8 (by kernel_rfl) (by kernel_rfl) (by kernel_rfl) (by kernel_rfl)) ?_
  intro W base args ds gs before hval0 hW _ _ _
  have hval : ∀ (j : Nat) t v, Try.f12.params[j]? = some t → args[j]? = some v → Value.okWide Try.prog W .any base t v := hval0
  have hW' := hW
  obtain ⟨p, q, hA0, hV, rfl, _, _⟩ := hW
  have hA : DataW.TrodAll enc Try.prog W 0 (fun _ => true) true Try.f12.params.toList args.toList ds p := hA0
  rw [Try.params12] at hA hval
  have hlt := hA.lt
  obtain ⟨v0, d0, rfl, rfl, h0⟩ := trodAll_one hA
  obtain ⟨rfl, rfl⟩ := trodVars_none hV
  obtain ⟨pv, len, capv, rfl⟩ := okWide_slice Try.underlying36 (hval 0 36 v0 rfl rfl)
  have h0' := h0
  obtain ⟨fuel, hf⟩ := h0'
  obtain ⟨pa, ca, la, hcs, hca, hza, ha⟩ := openSx Try.underlying36 Try.underlying57 (by kernel_rfl) (by kernel_rfl) Try.underlying3 Try.underlying3 Try.underlying9 hf
  simp only [Value.cells, List.cons.injEq, and_true, Value.slice.injEq] at hcs
  obtain ⟨rfl, rfl, rfl⟩ := hcs
  refine good_of_callsG (P := Try.prog) Try.func12 rfl rfl (by kernel_rfl) ((items_all la W hca ha).mono ?_)
  rintro v w ⟨rfl, hU⟩ τ d
  refine ChangeSpec.post_alike (W'' := re w W.tape d) ?_ ⟨rfl, rfl, rfl⟩
  have hb := below_of hU d
  refine ⟨_, _, _, [], p, [], hW', ?_, ?_, rfl, hb.frame _, fun h => by cases h⟩
  · exact trodAll_mk1 (shut_bool true)
  · exact trodAll_mk1 (stays (by kernel_rfl) (by decide +kernel) hU d hlt h0)

-- THE ROW
theorem surfaceItems_holds : Rows.SurfaceItemsSaid :=
  OpenClaim.holds_of_wide_leaving 12 Try.f12 rfl rfl rfl rfl rfl rfl rfl ⟨rfl, rfl, rfl, rfl, rfl⟩ rfl rfl rfl rfl rfl (by kernel_rfl) Try.func12 (by kernel_rfl)
    (of_decide_eq_true (by kernel_rfl)) (by unfold Func.isWrapper; first | (rw [if_pos (by decide +kernel)]; kernel_rfl) | (rw [if_neg (by decide +kernel)]; exact ⟨rfl, rfl⟩))
    (fun os started H enc _ => items_lifted os started H enc)

#print axioms surfaceItems_holds
end Go.Proofs.Ytjnoffgclibfaaa
