/- SurfaceJoins: its contract. -/
import Derived.Test.YtjnoffgclibfaaaJoins2
set_option linter.unusedSimpArgs false
set_option linter.unusedVariables false
namespace Go.Proofs.Ytjnoffgclibfaaa
open Go.Conc Go.Lx Go.RowKit


set_option maxRecDepth 100000 in
set_option maxHeartbeats 2000000 in
theorem joins_all (ra rb : List Sx) {pa pb : Option Addr} {ca cb : Nat} (W : World) (hca : ra.length ≤ ca) (hcb : rb.length ≤ cb) (hza : pa = none → ca = 0) (hzb : pb = none → cb = 0) (ha : SxArg W pa ra) (hb : SxArg W pb rb) :
    CallsG Try.prog 9 #[.slice pa ra.length ca, .slice pb rb.length cb] W (TrueU W) := by
  refine callsG_of_wpG tame Try.func9 rfl ?_ TrueU.re
  have HA := Lib.hid ha
  have HB := Lib.hid hb
  have HZA := Lib.hid hza
  have HZB := Lib.hid hzb
  clear ha hb hza hzb
  simp only [Try.ntmps9, List.size_toArray, List.length_cons, List.length_nil, Nat.reduceAdd, Nat.reduceSub, Array.replicate_succ, Array.replicate_zero, List.push_toArray, List.append_toArray, List.nil_append, List.cons_append]
  refine wpG_seq tame (wpG_lone tame fun τ d => ?_)
  go_wp2
  refine wpG_re ?_ τ d
  refine wpG_seq tame (wpG_seq tame ?_)
  refine wpG_split tame 7 (by decide) fun τ d => ?_
  simp only [List.take_succ_cons, List.take_zero]
  go_wp2_with fail
  refine (heavy_any (w0 := re W τ d) (cap := ca) ra (HA.out.under ((under_refl W).re τ d))).mono ?_
  rintro e w1 ⟨hU1, h1⟩
  have HU1 := Lib.hid (((under_refl W).re τ d).trans hU1)
  clear hU1
  rcases h1 with rfl | ⟨rfl, hla, _⟩
  · have HU2 := HU1
    go_wp2
    refine opsG_split tame 7 3 0 (by decide) fun τ d => ?_
    simp only [List.drop_succ_cons, List.drop_zero, List.take_succ_cons, List.take_zero]
    walk_nrm
    go_wp2
    refine opsG_nil tame ?_
    simp only [Exit.then]
    refine wpG_re ?_ τ d
    refine wpG_cond tame (t := true) rfl ?_
    simp only [if_true]
    refine wpG_seq tame (wpG_region tame ?_)
    refine opsG_call (i := 0) (rest := List.range' 1 1) tame rfl (by rfl) (run_call_fn (vs := #[]) rfl Try.func17 (by kernel_rfl) rfl (by simp)) (shown7_calls _) ?_
    rintro v w3 ⟨rfl, hU3⟩
    refine opsG_split tame 1 1 0 (by decide) fun τ d => ?_
    simp only [List.drop_succ_cons, List.drop_zero, List.take_succ_cons, List.take_zero]
    walk_nrm
    go_wp2
    refine opsG_nil tame ?_
    simp only [Exit.then]
    refine wpG_lone tame fun τ d => ?_
    go_wp2
    exact bodyG_tmp rfl rfl ⟨rfl, (HU2.out.trans hU3).re _ _⟩
  go_wp2_with fail
  refine (heavy_any (w0 := w1) (cap := cb) rb (HB.out.under HU1.out)).mono ?_
  rintro e w2 ⟨hU2, h2⟩
  have HU2 := Lib.hid (HU1.out.trans hU2)
  clear hU2 HU1
  rcases h2 with rfl | ⟨rfl, hlb, _⟩
  · go_wp2
    refine opsG_split tame 7 3 0 (by decide) fun τ d => ?_
    simp only [List.drop_succ_cons, List.drop_zero, List.take_succ_cons, List.take_zero]
    walk_nrm
    go_wp2
    refine opsG_nil tame ?_
    simp only [Exit.then]
    refine wpG_re ?_ τ d
    refine wpG_cond tame (t := true) rfl ?_
    simp only [if_true]
    refine wpG_seq tame (wpG_region tame ?_)
    refine opsG_call (i := 0) (rest := List.range' 1 1) tame rfl (by rfl) (run_call_fn (vs := #[]) rfl Try.func17 (by kernel_rfl) rfl (by simp)) (shown7_calls _) ?_
    rintro v w3 ⟨rfl, hU3⟩
    refine opsG_split tame 1 1 0 (by decide) fun τ d => ?_
    simp only [List.drop_succ_cons, List.drop_zero, List.take_succ_cons, List.take_zero]
    walk_nrm
    go_wp2
    refine opsG_nil tame ?_
    simp only [Exit.then]
    refine wpG_lone tame fun τ d => ?_
    go_wp2
    exact bodyG_tmp rfl rfl ⟨rfl, (HU2.out.trans hU3).re _ _⟩
  go_wp2
  refine opsG_call (i := 7) (rest := List.range' 8 2) tame rfl (by rfl) (run_call_fn (vs := #[]) rfl Try.func17 (by kernel_rfl) rfl (by simp)) (shown7_calls _) ?_
  rintro v w3 ⟨rfl, hU3⟩
  have HU3 := Lib.hid (HU2.out.trans hU3)
  clear hU3 HU2
  refine opsG_split tame 8 2 0 (by decide) fun τ d => ?_
  simp only [List.drop_succ_cons, List.drop_zero, List.take_succ_cons, List.take_zero]
  walk_nrm
  go_wp2
  refine opsG_nil tame ?_
  simp only [Exit.then]
  refine wpG_re ?_ τ d
  refine wpG_cond tame (t := false) rfl ?_
  simp only [Bool.false_eq_true, if_false]
  refine wpG_lone tame fun τ d => ?_
  go_wp2
  refine wpG_re ?_ τ d
  refine wpG_fr (F := jnFrame0 (.slice pa ra.length ca) (.slice pb rb.length cb)) (by rfl) fun J => ?_
  exact wpG_lone tame fun τ d => jn_rest ra rb hla hlb hca hcb HZA.out HZB.out HA.out HB.out J _ (HU3.out.re τ d)
end Go.Proofs.Ytjnoffgclibfaaa
