/- 'shown' of layer 6: that a word is one. -/
import Derived.Test.YtjnoffgclibfaaaLex2
import Derived.Test.YtjnoffgclibfaaaTame
import Derived.Tactics
set_option linter.unusedSimpArgs false
set_option linter.unusedVariables false
namespace Go.Proofs.Ytjnoffgclibfaaa
open Go.Conc Go.Lx

/-- The end of a body whose result lies in a slot. -/
theorem bodyG_tmp {P : Program} {fn : Func} {t : Tmp} {Post : Value → World → Prop} {a : Act} {w : World} (h : fn.results = #[.tmp t]) (hd : a.defers = []) (hp : Post (a.tmps.getD t undef) w) : bodyPostG P fn Post .ret a w :=
  ⟨hd, _, fun _ _ => results_tmp h _ P _, hp⟩

/-- A text's tokens. -/
structure Lexes (s : ByteArray) (all : List Tok) : Prop where
  size : s.size ≤ 20000
  scans : ∃ acts, Scans s 0 acts ∧ sends acts = all.map itemV
  len : all.length ≤ 1000000

theorem Lexes.calls {s : ByteArray} {all : List Tok} (h : Lexes s all) (W : World) : CallsG Try.prog 14 #[.string s] W (LexPost W all) := by
  obtain ⟨acts, h1, h2⟩ := h.scans
  exact lex_calls tame s h.size acts h1 all h2 h.len W

theorem lexes_a : Lexes ⟨#[97]⟩ [⟨1, 0, ⟨#[97]⟩⟩] := by
  have hf : First 0 97 := ⟨by decide, by decide, fun j hj => absurd hj (by omega)⟩
  exact ⟨by decide, ⟨_, .token (s := ⟨#[97]⟩) (k := 0) (i := 0) (m := 1) (by decide) hf (by decide) (by decide) (by decide) .done, rfl⟩, by decide⟩

def TrueU (W : World) (v : Value) (w : World) : Prop := v = .bool true ∧ Under W w
theorem TrueU.re {W : World} (v : Value) (w : World) (τ : Nat → Question → Nat) (d : Nat) (h : TrueU W v w) : TrueU W v (re w τ d) := ⟨h.1, h.2.re τ d⟩

theorem run_call_fn {P : Program} {a : Act} {o : Oper} {f : FuncId} {fn : Func} {args : Array Operand} {ats : Array TypeId} {vs : Array Value} (hop : o.op = .call { callee := .value (.func f), args, argTypes := ats }) (hf : P.funcs[f]? = some fn)
    (hname : (fn.name == "runtime.NumGoroutine") = false) (hb : fn.body.isNone = false) (hv : args.map a.eval = vs) (w : World) : (execOp a.eval o).run P w = .ok (.enter f vs) w := by
  have h1 : ¬ fn.name = "runtime.NumGoroutine" := by simpa using hname
  have h2 : ¬ fn.body = none := by cases hx : fn.body <;> simp_all
  have e : a.eval (.func f) = .func (.func f) #[] #[] := rfl
  unfold execOp
  simp [hop, resolve, Deferred.ofValue, invoke, callFunc, hf, h1, h2, e, hv]

set_option maxRecDepth 100000 in
theorem word_lone (c : UInt8) (hc : (c = 97)) (w : World) : Calls Try.prog 32 #[.int .u8 c.toNat] w fun e w' => e = .returned (.bool true) ∧ w = w' := by
  subst hc
  go_enter Try.func32, Try.ntmps32
  go_wp2
  go_ret
  exact ⟨rfl, rfl⟩

set_option maxRecDepth 100000 in
set_option maxHeartbeats 1000000 in
theorem shown_calls (W : World) : CallsG Try.prog 13 #[] W (TrueU W) := by
  refine callsG_of_wpG tame Try.func13 rfl ?_ TrueU.re
  simp only [Try.ntmps13, List.size_toArray, List.length_cons, List.length_nil, Nat.reduceAdd, Nat.reduceSub, Array.replicate_succ, Array.replicate_zero, List.push_toArray, List.append_toArray, List.nil_append, List.cons_append]
  refine wpG_seq tame (wpG_lone tame fun τ d => ?_)
  go_wp2
  refine wpG_re ?_ τ d
  refine wpG_seq tame (wpG_region tame ?_)
  simp only [List.size_toArray, List.length_cons, List.length_nil, Nat.reduceAdd, Nat.zero_add, List.range, List.range.loop]
  refine opsG_call tame rfl (by rfl) (run_call_fn rfl Try.func14 (by kernel_rfl) rfl (by simp [Act.eval])) (lexes_a.calls W) ?_
  rintro v w ⟨l, rfl, hown, hU⟩
  refine opsG_upto tame [1, 2, 3, 4, 5, 6, 7] [] fun τ d => ?_
  refine .inl (.inl (.inl (.inl (.inl (.inl (.inl ?_))))))
  refine opsG_nil tame ?_
  simp only [Exit.then]
  refine wpG_re ?_ τ d
  walk_nrm
  rcases hown.2 with ⟨_, h0⟩ | ⟨g, cap, cur, rfl, _⟩
  · cases h0
  refine wpG_lone tame fun τ d => ?_
  clear hown
  simp only [List.length_cons, List.length_nil, Nat.zero_add]
  go_wp2_with (go_at_call 32; refine (word_lone 97 rfl _).mono ?_; rintro e w' ⟨rfl, rfl⟩)
  exact bodyG_tmp rfl rfl ⟨rfl, hU.re τ d⟩
end Go.Proofs.Ytjnoffgclibfaaa
