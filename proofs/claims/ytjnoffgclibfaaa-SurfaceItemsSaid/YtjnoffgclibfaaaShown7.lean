/- 'shown' of layer 7. -/
import Derived.Test.YtjnoffgclibfaaaRead
set_option linter.unusedSimpArgs false
set_option linter.unusedVariables false
namespace Go.Proofs.Ytjnoffgclibfaaa
open Go.Conc Go.Lx Go.RowKit

theorem lexes_pa : Lexes ⟨#[40, 97, 41]⟩ [⟨2, 0, ⟨#[40]⟩⟩, ⟨1, 1, ⟨#[97]⟩⟩, ⟨3, 2, ⟨#[41]⟩⟩] := by
  refine ⟨by decide, ⟨_, .token (s := ⟨#[40, 97, 41]⟩) (k := 0) (i := 2) (m := 1) (by decide) ⟨by decide, by decide, by decide⟩ (by decide) (by decide) (by decide)
    (.token (s := ⟨#[40, 97, 41]⟩) (k := 1) (i := 0) (m := 1) (by decide) ⟨by decide, by decide, by decide⟩ (by decide) (by decide) (by decide)
    (.token (s := ⟨#[40, 97, 41]⟩) (k := 2) (i := 3) (m := 1) (by decide) ⟨by decide, by decide, by decide⟩ (by decide) (by decide) (by decide) .done)), ?_⟩, by decide⟩
  rfl

set_option maxRecDepth 100000 in
set_option maxHeartbeats 1000000 in
theorem shown7_calls (W : World) : CallsG Try.prog 17 #[] W (TrueU W) := by
  have hR := read_calls lexes_pa (by intro t ht; simp at ht; rcases ht with rfl | rfl | rfl <;> simp) W
  have e : parseGo ([⟨2, 0, ⟨#[40]⟩⟩, ⟨1, 1, ⟨#[97]⟩⟩, ⟨3, 2, ⟨#[41]⟩⟩].map Tok.p) [] [] ⟨0, 0, ⟨#[]⟩⟩ = .ok [⟨0, 1, ⟨#[97]⟩⟩, ⟨1, 0, ⟨#[]⟩⟩] := rfl
  rw [e] at hR
  clear e
  refine callsG_of_wpG tame Try.func17 rfl ?_ TrueU.re
  simp only [Try.ntmps17, List.size_toArray, List.length_cons, List.length_nil, Nat.reduceAdd, Nat.reduceSub, Array.replicate_succ, Array.replicate_zero, List.push_toArray, List.append_toArray, List.nil_append, List.cons_append]
  refine wpG_seq tame (wpG_lone tame fun τ d => ?_)
  go_wp2
  refine wpG_re ?_ τ d
  refine wpG_seq tame (wpG_region tame ?_)
  refine opsG_call (i := 0) (rest := List.range' 1 7) tame rfl (by rfl) (run_call_fn (vs := #[.string ⟨#[40, 97, 41]⟩]) rfl Try.func18 (by kernel_rfl) rfl (by simp [Act.eval])) hR ?_
  rintro v w1 ⟨hU1, vr, rfl, hown⟩
  obtain ⟨g, cap, rfl, hg, _, hgl, _, _⟩ := row_block hown (by decide)
  have hc := row_cell hown hg (j := 3) rfl
  clear hown hR hg
  refine opsG_split tame 1 7 0 (by decide) fun τ d => ?_
  simp only [List.drop_succ_cons, List.drop_zero, List.take_succ_cons, List.take_zero, List.length_cons, List.length_nil, Nat.zero_add, Nat.reduceAdd]
  walk_nrm
  go_wp2
  refine opsG_nil tame ?_
  simp only [Exit.then]
  refine wpG_re ?_ τ d
  refine wpG_lone tame fun τ d => ?_
  have hc' : (re w1 τ d).cell? ⟨g, 3, none⟩ = some (.int .i64 1) := hc
  clear hc
  go_wp2
  exact bodyG_tmp rfl rfl ⟨rfl, hU1.re _ _⟩
end Go.Proofs.Ytjnoffgclibfaaa
