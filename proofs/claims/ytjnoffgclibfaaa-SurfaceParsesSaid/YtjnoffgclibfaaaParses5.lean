/- SurfaceParses: its contract. -/
import Derived.Test.YtjnoffgclibfaaaParses4
set_option linter.unusedSimpArgs false
set_option linter.unusedVariables false
namespace Go.Proofs.Ytjnoffgclibfaaa
open Go.Conc Go.Lx Go.RowKit


theorem row_new0' (W w : World) (hU : Under W w) (e : TypeId) : (w.alloc (.cells #[] e)).ownsRow W.heap.size e 3 (.slice (some ⟨w.heap.size, 0, none⟩) 0 0) 0 [] := row_new0 w _ e 3 hU.size
set_option maxRecDepth 100000 in
set_option maxHeartbeats 2000000 in
theorem parses_all (toks : List PTok) {p : Option Addr} {cap : Nat} (W : World) (hp : TokArg W p toks) (hmx : toks.length ≤ maxLen) :
    CallsG Try.prog 7 #[.slice p toks.length cap] W (TrueU W) := by
  refine callsG_of_wpG tame Try.func7 rfl ?_ TrueU.re
  simp only [Try.ntmps7, List.size_toArray, List.length_cons, List.length_nil, Nat.reduceAdd, Nat.reduceSub, Array.replicate_succ, Array.replicate_zero, List.push_toArray, List.append_toArray, List.nil_append, List.cons_append]
  refine wpG_seq tame (wpG_lone tame fun τ d => ?_)
  go_wp2
  refine wpG_re ?_ τ d
  by_cases h1 : (300 : Int) < toks.length
  · refine wpG_seq tame ?_
    refine wpG_seq tame (wpG_lone tame fun τ d => ?_)
    go_wp2
    refine wpG_re ?_ τ d
    refine wpG_cond tame (t := true) rfl ?_
    simp only [if_true]
    refine wpG_seq tame (wpG_region tame ?_)
    refine opsG_call (i := 0) (rest := List.range' 1 1) tame rfl (by rfl) (run_call_fn (vs := #[]) rfl Try.func17 (by kernel_rfl) rfl (by simp)) (shown7_calls W) ?_
    rintro v w1 ⟨rfl, hU1⟩
    refine opsG_split tame 1 1 0 (by decide) fun τ d => ?_
    simp only [List.drop_succ_cons, List.drop_zero, List.take_succ_cons, List.take_zero]
    walk_nrm
    go_wp2
    refine opsG_nil tame ?_
    simp only [Exit.then]
    refine wpG_lone tame fun τ d => ?_
    go_wp2
    exact bodyG_tmp rfl rfl ⟨rfl, hU1.re _ _⟩
  · refine wpG_seq tame (wpG_seq tame ?_)
    refine wpG_split tame 4 (by decide) fun τ d => ?_
    simp only [List.take_succ_cons, List.take_zero]
    go_wp2
    refine opsG_re ?_ τ d
    refine opsG_call (i := 4) (rest := List.range' 5 2) tame rfl (by rfl) (run_call_fn (vs := #[]) rfl Try.func17 (by kernel_rfl) rfl (by simp)) (shown7_calls _) ?_
    rintro v w1 ⟨rfl, hU1⟩
    refine opsG_split tame 5 2 0 (by decide) fun τ d => ?_
    simp only [List.drop_succ_cons, List.drop_zero, List.take_succ_cons, List.take_zero]
    walk_nrm
    go_wp2
    refine opsG_nil tame ?_
    simp only [Exit.then]
    refine wpG_re ?_ τ d
    refine wpG_cond tame (t := false) rfl ?_
    simp only [Bool.false_eq_true, if_false]
    refine wpG_lone tame fun τ d => ?_
    go_wp2
    refine wpG_re ?_ τ d
    refine wpG_seq tame (wpG_lone tame fun τ d => ?_)
    go_wp2
    have hO := row_new0' W (re w1 τ d) (hU1.re τ d) 44
    have hU2 := under_alloc (hU1.re τ d) (.cells #[] 44)
    revert hO hU2
    generalize (re w1 τ d).alloc (.cells #[] 44) = w2
    intro hO hU2
    refine wpG_seq tame (wpG_seq tame (wpG_lone tame fun τ d => ?_))
    go_wp2
    refine wpG_re ?_ τ d
    refine wpG_block tame (wpG_mono (Q := PQ W (.slice p toks.length cap) toks) (ps_loop toks (by omega) hp _ _ ⟨_, _, pframe_ex (F := psFrame (.slice p toks.length cap) 0 _) (by rfl), hO, hU2⟩) ?_)
    rintro e a w3 (⟨rfl, ⟨vt, J, rfl, hown, hU⟩, hg⟩ | ⟨rfl, h⟩)
    · exact wpG_lone tame fun τ d => ps_rest toks (by omega) hp hg J _ (own_re hown τ d) (hU.re τ d)
    · exact h
end Go.Proofs.Ytjnoffgclibfaaa
