/- SurfaceDeep: for every pair of numbers the law's function returns true, on every schedule, without a race, the other goroutines only leaving; no condition. -/
import Derived.Test.YtjnoffgclibfaaaDeep2
import Derived.Test.YtjnoffgclibfaaaEnd
namespace Go.Proofs.Ytjnoffgclibfaaa
open Go.ChangeShapes Go.WideShapes Go.ChangeAt Go.RowKit Go.Conc Go.Lx

set_option maxRecDepth 100000 in
theorem deep_lifted (os : Os) (started : os.Started) (H : Type) (enc : TypeId × Value → H) :
    ReturnsInLeavingWide {} Try.checked os 8 .any (Rows.surfaceDeepSpec.pre6 enc Try.prog Try.f8 Rows.surfaceDeepRow.domain false) (Rows.surfaceDeepSpec.post enc Try.prog Try.f8 false true false false) := by
  refine returnsInLeavingWide_of_change_sized (C := Try.checked) Try.own started Try.func8
    (ChangeSpec.witness6 (enc := enc) (C := Try.checked) false ⟨#[], #[.int .u8 0, .int .u8 0], []⟩ 8 (by kernel_rfl) (by kernel_rfl) (by kernel_rfl) (by kernel_rfl)) ?_
  intro W base args ds gs before hval0 hW _ _ _
  have hval : ∀ (j : Nat) t v, Try.f8.params[j]? = some t → args[j]? = some v → Value.okWide Try.prog W .any base t v := hval0
  have hW' := hW
  obtain ⟨p, q, hA0, hV, rfl, _, _⟩ := hW
  have hA : DataW.TrodAll enc Try.prog W 0 (fun _ => true) true Try.f8.params.toList args.toList ds p := hA0
  rw [Try.params8] at hA hval
  obtain ⟨v0, v1, d0, d1, p0, p1, rfl, rfl, rfl, h0, h1⟩ := trodAll_two hA
  obtain ⟨rfl, rfl⟩ := trodVars_none hV
  obtain ⟨s, rfl, rfl, rfl, hs⟩ := open_int Try.underlying5 (hval 0 5 v0 rfl rfl) h0
  obtain ⟨x, rfl, rfl, rfl, hx⟩ := open_int Try.underlying5 (hval 1 5 v1 rfl rfl) h1
  have hx' := hx
  have hs' := hs
  simp only [Lit.wf, IntKind.min, IntKind.max, IntKind.signed, IntKind.bits, Bool.and_eq_true] at hx' hs'
  refine good_of_callsG (P := Try.prog) Try.func8 rfl rfl (by kernel_rfl) ((deep_all s x (by simpa using hs'.1) (by simpa using hs'.2) (by simpa using hx'.1) (by simpa using hx'.2) W).mono ?_)
  rintro v w ⟨rfl, hU⟩ τ d
  refine ChangeSpec.post_alike (W'' := re w W.tape d) ?_ ⟨rfl, rfl, rfl⟩
  have hb := below_of hU d
  refine ⟨_, _, _, [], [] ++ [], [], hW', ?_, ?_, rfl, hb.frame _, fun h => by cases h⟩
  · exact trodAll_mk1 (shut_bool true)
  · exact trodAll_mk2 (shut_int Try.underlying5 hs) (shut_int Try.underlying5 hx)

-- THE ROW
theorem surfaceDeep_holds : Rows.SurfaceDeepSaid :=
  OpenClaim.holds_of_wide_leaving 8 Try.f8 rfl rfl rfl rfl rfl rfl rfl ⟨rfl, rfl, rfl, rfl, rfl⟩ rfl rfl rfl rfl rfl (by kernel_rfl) Try.func8 (by kernel_rfl)
    (of_decide_eq_true (by kernel_rfl)) (by unfold Func.isWrapper; first | (rw [if_pos (by decide +kernel)]; kernel_rfl) | (rw [if_neg (by decide +kernel)]; exact ⟨rfl, rfl⟩))
    (fun os started H enc _ => deep_lifted os started H enc)

#print axioms surfaceDeep_holds
end Go.Proofs.Ytjnoffgclibfaaa
