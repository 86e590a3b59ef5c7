/- LexerWords: for every text and every two bytes the law's function returns true, on every schedule, without a race, the other goroutines only leaving; no condition. -/
import Derived.Test.YtjnoffgclibfaaaWords4
import Derived.Test.YtjnoffgclibfaaaRows
import Derived.Conc.LeavingOf
import Derived.ChangeAlike
import Derived.ChangeMaps5
namespace Go.Proofs.Ytjnoffgclibfaaa
open Go.ChangeShapes Go.WideShapes Go.ChangeAt Go.RowKit Go.Conc Go.Lx
open Go.ChangeMaps (open_string shut_string)

theorem Try.own : ownKnob Try.prog.godebug = none := by kernel_rfl
theorem Try.laidOut : laidOutB Try.prog = true := by kernel_rfl

/-- What is left of the world, on the tape that was there. -/
theorem below_of {W w : World} (h : Under W w) (d : Nat) : Below W.heap.size W (re w W.tape d) := ⟨h.os, rfl, h.output, h.size, fun b hb => h.low b hb⟩

theorem shut_bool {H : Type} {enc : TypeId × Value → H} {W : World} {base : Nat} {sp : Nat → Bool} {held : Bool} (b : Bool) : DataW.Trod enc Try.prog W base sp held 4 (.bool b) (.lit (.bool b)) [] := ⟨1, by simp [DataW.trod, Value.cells, Try.underlying4]⟩

set_option maxRecDepth 100000 in
theorem words_lifted (os : Os) (started : os.Started) (H : Type) (enc : TypeId × Value → H) :
    ReturnsInLeavingWide {} Try.checked os 5 .any (Rows.lexerWordsSpec.pre6 enc Try.prog Try.f5 Rows.lexerWordsRow.domain false) (Rows.lexerWordsSpec.post enc Try.prog Try.f5 false true false false) := by
  refine returnsInLeavingWide_of_change_sized (C := Try.checked) Try.own started Try.func5
    (ChangeSpec.witness6 (enc := enc) (C := Try.checked) false ⟨#[], #[.string ⟨#[]⟩, .int .u8 0, .int .u8 0], []⟩ 8 (by kernel_rfl) (by kernel_rfl) (by kernel_rfl) (by kernel_rfl)) ?_
  intro W base args ds gs before hval0 hW _ _ _
  have hval : ∀ (j : Nat) t v, Try.f5.params[j]? = some t → args[j]? = some v → Value.okWide Try.prog W .any base t v := hval0
  have hW' := hW
  obtain ⟨p, q, hA0, hV, rfl, _, _⟩ := hW
  have hA : DataW.TrodAll enc Try.prog W 0 (fun _ => true) true Try.f5.params.toList args.toList ds p := hA0
  rw [Try.params5] at hA hval
  obtain ⟨v0, v1, v2, d0, d1, d2, p0, p1, p2, rfl, rfl, rfl, h0, h1, h2⟩ := trodAll_three hA
  obtain ⟨rfl, rfl⟩ := trodVars_none hV
  obtain ⟨s, rfl, rfl, rfl, hs⟩ := open_string Try.underlying9 (hval 0 9 v0 rfl rfl) h0
  obtain ⟨x, rfl, rfl, rfl, hx⟩ := open_int Try.underlying5 (hval 1 5 v1 rfl rfl) h1
  obtain ⟨y, rfl, rfl, rfl, hy⟩ := open_int Try.underlying5 (hval 2 5 v2 rfl rfl) h2
  have hx' := hx
  have hy' := hy
  simp only [Lit.wf, IntKind.min, IntKind.max, IntKind.signed, IntKind.bits, Bool.and_eq_true, decide_eq_true_eq] at hx' hy'
  refine good_of_callsG (P := Try.prog) Try.func5 rfl rfl (by kernel_rfl) ((words_all s x y (by simpa using hx'.1) (by simpa using hx'.2) (by simpa using hy'.1) (by simpa using hy'.2) W).mono ?_)
  rintro v w ⟨rfl, hU⟩ τ d
  refine ChangeSpec.post_alike (W'' := re w W.tape d) ?_ ⟨rfl, rfl, rfl⟩
  have hb := below_of hU d
  refine ⟨_, _, _, [], [] ++ ([] ++ []), [], hW', ?_, ?_, rfl, hb.frame _, fun h => by cases h⟩
  · exact trodAll_mk1 (shut_bool true)
  · exact trodAll_mk3 (shut_string Try.underlying9 hs) (shut_int Try.underlying5 hx) (shut_int Try.underlying5 hy)

-- THE ROW
theorem lexerWords_holds : Rows.LexerWordsSaid :=
  OpenClaim.holds_of_wide_leaving 5 Try.f5 rfl rfl rfl rfl rfl rfl rfl ⟨rfl, rfl, rfl, rfl, rfl⟩ rfl rfl rfl rfl rfl (by kernel_rfl) Try.func5 (by kernel_rfl)
    (of_decide_eq_true (by kernel_rfl)) (by unfold Func.isWrapper; first | (rw [if_pos (by decide +kernel)]; kernel_rfl) | (rw [if_neg (by decide +kernel)]; exact ⟨rfl, rfl⟩))
    (fun os started H enc _ => words_lifted os started H enc)

#print axioms lexerWords_holds
end Go.Proofs.Ytjnoffgclibfaaa
