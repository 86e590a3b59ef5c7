/- In company: the functions that the rules of the lexer call. -/
import Derived.Test.YtjnoffgclibfaaaChecked
import Derived.Test.YtjnoffgclibfaaaLxE
import Derived.KernelRfl
import Derived.WalkKit
import Derived.Lib.Bytealg
import Derived.Laws.Externs
set_option linter.unusedSimpArgs false
set_option linter.unusedVariables false
namespace Go.Proofs.Ytjnoffgclibfaaa
open Go.Conc Go.Lx

def lowB (c : UInt8) : Int := bits BinOp.or IntKind.u8 (c.toNat : Int) 32
def wordB (c : UInt8) : Bool := decide (97 ≤ lowB c) && decide (lowB c ≤ 122) || decide ((48 : Int) ≤ (c.toNat : Int)) && decide ((c.toNat : Int) ≤ 57) || (c.toNat : Int) == 95

section
variable {main : Bool} {d : Deal} {T : TypeId → Prop} {o : Option Nat} {L : List (Nat × Obj)}

set_option maxRecDepth 100000 in
theorem one_c (s : Value) (w : World) (hF : Holds d T o L w) : CallsC Try.prog main (Rely d T o) (Lx.Does d T o) 55 #[s] 100 w fun v w' => v = .int .i64 1 ∧ Holds d T o L w' := by
  co_apply Go.Lx.CallsC.more
  · co_apply callsC_of_wpC Try.func55 (by rfl) rfl
    simp only [Try.ntmps55, List.size_toArray, List.length_cons, List.length_nil, Nat.reduceAdd, Nat.reduceSub, Array.replicate_succ, Array.replicate_zero, List.push_toArray, List.append_toArray, List.nil_append, List.cons_append]
    repeat (first | co_reg terms | co_op Holds.rely hF (co_quiet terms) | (co_apply opsC_unwanted terms rfl (by rfl); try walk_nrm) | (co_ctl terms; try co_then))
    exact ⟨rfl, _, resultsC_tmp (by rfl) _, by simp, hF⟩
  · decide

set_option maxRecDepth 100000 in
theorem line_c (c : UInt8) (w : World) (hF : Holds d T o L w) : CallsC Try.prog main (Rely d T o) (Lx.Does d T o) 56 #[.int .u8 c.toNat] 100 w fun v w' => v = .bool ((c.toNat : Int) != 10) ∧ Holds d T o L w' := by
  co_apply Go.Lx.CallsC.more
  · co_apply callsC_of_wpC Try.func56 (by rfl) rfl
    simp only [Try.ntmps56, List.size_toArray, List.length_cons, List.length_nil, Nat.reduceAdd, Nat.reduceSub, Array.replicate_succ, Array.replicate_zero, List.push_toArray, List.append_toArray, List.nil_append, List.cons_append]
    repeat (first | co_reg terms | co_op Holds.rely hF (co_quiet terms) | (co_apply opsC_unwanted terms rfl (by rfl); try walk_nrm) | (co_ctl terms; try co_then))
    exact ⟨rfl, _, resultsC_tmp (by rfl) _, by simp, hF⟩
  · decide

set_option maxRecDepth 100000 in
set_option maxHeartbeats 2000000 in
theorem word_c (c : UInt8) (w : World) (hF : Holds d T o L w) : CallsC Try.prog main (Rely d T o) (Lx.Does d T o) 32 #[.int .u8 c.toNat] 100 w fun v w' => v = .bool (wordB c) ∧ Holds d T o L w' := by
  by_cases h1 : 97 ≤ bits BinOp.or IntKind.u8 (c.toNat : Int) 32 <;> by_cases h2 : bits BinOp.or IntKind.u8 (c.toNat : Int) 32 ≤ 122 <;> by_cases h3 : (48 : Int) ≤ (c.toNat : Int) <;> by_cases h4 : (c.toNat : Int) ≤ 57
  all_goals
    co_apply Go.Lx.CallsC.more
    · co_apply callsC_of_wpC Try.func32 (by rfl) rfl
      simp only [Try.ntmps32, List.size_toArray, List.length_cons, List.length_nil, Nat.reduceAdd, Nat.reduceSub, Array.replicate_succ, Array.replicate_zero, List.push_toArray, List.append_toArray, List.nil_append, List.cons_append]
      repeat (first | co_reg terms | co_op Holds.rely hF (co_quiet terms) | (co_apply opsC_unwanted terms rfl (by rfl); try walk_nrm) | (co_ctl terms; try co_then))
      refine ⟨rfl, _, resultsC_tmp (by rfl) _, ?_, hF⟩
      simp only [wordB, lowB, h1, h2, h3, h4, decide_true, decide_false, Bool.and_true, Bool.and_false, Bool.or_true, Bool.or_false, Bool.true_or, Bool.false_or, Bool.true_and, Bool.false_and]
      rfl
    · decide
end
end Go.Proofs.Ytjnoffgclibfaaa
