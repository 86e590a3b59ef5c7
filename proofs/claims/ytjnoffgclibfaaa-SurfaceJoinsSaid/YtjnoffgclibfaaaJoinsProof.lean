/- SurfaceJoins: for every two slices of Sx the law's function returns true, on every schedule, without a race, the other goroutines only leaving; no condition. -/
import Derived.Test.YtjnoffgclibfaaaOpenSx
set_option linter.unusedSimpArgs false
set_option linter.unusedVariables false
namespace Go.Proofs.Ytjnoffgclibfaaa
open Go.ChangeShapes Go.WideShapes Go.ChangeAt Go.RowKit Go.Conc Go.Lx

set_option maxRecDepth 100000 in
theorem joins_lifted (os : Os) (started : os.Started) (H : Type) (enc : TypeId × Value → H) :
    ReturnsInLeavingWide {} Try.checked os 9 .any (Rows.surfaceJoinsSpec.pre6 enc Try.prog Try.f9 Rows.surfaceJoinsRow.domain false) (Rows.surfaceJoinsSpec.post enc Try.prog Try.f9 false true false false) := by
  refine returnsInLeavingWide_of_change_sized (C := Try.checked) Try.own started Try.func9
    (ChangeSpec.witness6 (enc := enc) (C := Try.checked) false ⟨#[], #[.slice none 0 0, .slice none 0 0], []⟩ 8 (by kernel_rfl) (by kernel_rfl) (by kernel_rfl) (by kernel_rfl)) ?_
  intro W base args ds gs before hval0 hW _ _ _
  have hval : ∀ (j : Nat) t v, Try.f9.params[j]? = some t → args[j]? = some v → Value.okWide Try.prog W .any base t v := hval0
  have hW' := hW
  obtain ⟨p, q, hA0, hV, rfl, _, _⟩ := hW
  have hA : DataW.TrodAll enc Try.prog W 0 (fun _ => true) true Try.f9.params.toList args.toList ds p := hA0
  rw [Try.params9] at hA hval
  have hlt := hA.lt
  obtain ⟨v0, v1, d0, d1, p0, p1, rfl, rfl, rfl, h0, h1⟩ := trodAll_two hA
  obtain ⟨rfl, rfl⟩ := trodVars_none hV
  obtain ⟨pv, len, capv, rfl⟩ := okWide_slice Try.underlying36 (hval 0 36 v0 rfl rfl)
  obtain ⟨pu, lenu, capu, rfl⟩ := okWide_slice Try.underlying36 (hval 1 36 v1 rfl rfl)
  have h0' := h0
  have h1' := h1
  obtain ⟨fuel, hf⟩ := h0'
  obtain ⟨fuel1, hf1⟩ := h1'
  obtain ⟨pa, ca, la, hcs, hca, hza, ha⟩ := openSx Try.underlying36 Try.underlying57 (by kernel_rfl) (by kernel_rfl) Try.underlying3 Try.underlying3 Try.underlying9 hf
  obtain ⟨pb, cb, lb, hcs1, hcb, hzb, hb⟩ := openSx Try.underlying36 Try.underlying57 (by kernel_rfl) (by kernel_rfl) Try.underlying3 Try.underlying3 Try.underlying9 hf1
  simp only [Value.cells, List.cons.injEq, and_true, Value.slice.injEq] at hcs hcs1
  obtain ⟨rfl, rfl, rfl⟩ := hcs
  obtain ⟨rfl, rfl, rfl⟩ := hcs1
  refine good_of_callsG (P := Try.prog) Try.func9 rfl rfl (by kernel_rfl) ((joins_all la lb W hca hcb hza hzb ha hb).mono ?_)
  rintro v w ⟨rfl, hU⟩ τ d
  refine ChangeSpec.post_alike (W'' := re w W.tape d) ?_ ⟨rfl, rfl, rfl⟩
  have hb := below_of hU d
  refine ⟨_, _, _, [], p0 ++ p1, [], hW', ?_, ?_, rfl, hb.frame _, fun h => by cases h⟩
  · exact trodAll_mk1 (shut_bool true)
  · exact trodAll_mk2 (stays (by kernel_rfl) (by decide +kernel) hU d (fun p hp => hlt p (List.mem_append_left _ hp)) h0) (stays (by kernel_rfl) (by decide +kernel) hU d (fun p hp => hlt p (List.mem_append_right _ hp)) h1)

-- THE ROW
theorem surfaceJoins_holds : Rows.SurfaceJoinsSaid :=
  OpenClaim.holds_of_wide_leaving 9 Try.f9 rfl rfl rfl rfl rfl rfl rfl ⟨rfl, rfl, rfl, rfl, rfl⟩ rfl rfl rfl rfl rfl (by kernel_rfl) Try.func9 (by kernel_rfl)
    (of_decide_eq_true (by kernel_rfl)) (by unfold Func.isWrapper; first | (rw [if_pos (by decide +kernel)]; kernel_rfl) | (rw [if_neg (by decide +kernel)]; exact ⟨rfl, rfl⟩))
    (fun os started H enc _ => joins_lifted os started H enc)

#print axioms surfaceJoins_holds
end Go.Proofs.Ytjnoffgclibfaaa
