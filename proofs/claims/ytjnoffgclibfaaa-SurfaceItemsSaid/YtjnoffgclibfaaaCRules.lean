/- In company: 'is', 'while', and the rules of the lexer. -/
import Derived.Test.YtjnoffgclibfaaaCWhile
set_option linter.unusedSimpArgs false
set_option linter.unusedVariables false
namespace Go.Proofs.Ytjnoffgclibfaaa
open Go.Conc Go.Lx

section
variable {main : Bool} {d : Deal} {T : TypeId → Prop} {o : Option Nat} {L : List (Nat × Obj)}

set_option maxRecDepth 100000 in
theorem is_c (hT : T 9) (s : ByteArray) (w : World) (hF : Holds d T o L w) :
    CallsC Try.prog main (Rely d T o) (Lx.Does d T o) 53 #[.string s] 30 w fun v w' => ∃ b, v = .func (.func 61) #[] #[.pointer (some ⟨b, 0, none⟩)] ∧ Holds d T o ((b, Obj.cells #[.string s] 9 (0, 0)) :: L) w' := by
  co_apply Go.Lx.CallsC.more
  · co_apply callsC_of_wpC Try.func53 (by rfl) rfl
    simp only [Try.ntmps53, List.size_toArray, List.length_cons, List.length_nil, Nat.reduceAdd, Nat.reduceSub, Array.replicate_succ, Array.replicate_zero, List.push_toArray, List.append_toArray, List.nil_append, List.cons_append]
    co_apply wpC_seq terms
    co_reg terms
    co_opw Holds.rely hF (skip) (refine ⟨Turn.alloc hT hF.box, ?_⟩; co_evs (skip))
    replace hF := hF.cons #[.string s] hT
    repeat (first | co_reg terms | co_op Holds.rely hF (co_quiet terms) | (co_apply opsC_unwanted terms rfl (by rfl); try walk_nrm) | (co_ctl terms; try co_then))
    exact ⟨rfl, _, resultsC_tmp (by rfl) _, _, by simp, hF⟩
  · decide

set_option maxRecDepth 100000 in
theorem while_c (hT : T 34) (f : FuncId) (caps : Array Value) (w : World) (hF : Holds d T o L w) :
    CallsC Try.prog main (Rely d T o) (Lx.Does d T o) 54 #[.func (.func f) #[] caps] 30 w fun v w' => ∃ b, v = .func (.func 63) #[] #[.pointer (some ⟨b, 0, none⟩)] ∧ Holds d T o ((b, Obj.cells #[.func (.func f) #[] caps] 34 (0, 0)) :: L) w' := by
  co_apply Go.Lx.CallsC.more
  · co_apply callsC_of_wpC Try.func54 (by rfl) rfl
    simp only [Try.ntmps54, List.size_toArray, List.length_cons, List.length_nil, Nat.reduceAdd, Nat.reduceSub, Array.replicate_succ, Array.replicate_zero, List.push_toArray, List.append_toArray, List.nil_append, List.cons_append]
    co_apply wpC_seq terms
    co_reg terms
    co_opw Holds.rely hF (skip) (refine ⟨Turn.alloc hT hF.box, ?_⟩; co_evs (skip))
    replace hF := hF.cons #[.func (.func f) #[] caps] hT
    repeat (first | co_reg terms | co_op Holds.rely hF (co_quiet terms) | (co_apply opsC_unwanted terms rfl (by rfl); try walk_nrm) | (co_ctl terms; try co_then))
    exact ⟨rfl, _, resultsC_tmp (by rfl) _, _, by simp, hF⟩
  · decide

def bytes (l : List UInt8) : ByteArray := ⟨l.toArray⟩

/-- The blocks that the rules lie in. -/
def ruleCells (b1 b2 b3 b4 b5 b6 b7 : Nat) : Array Value :=
  #[.func (.func 32) #[] #[], .func (.func 63) #[] #[.pointer (some ⟨b2, 0, none⟩)], .int .i64 1,
    .func (.func 61) #[] #[.pointer (some ⟨b1, 0, none⟩)], .func (.func 63) #[] #[.pointer (some ⟨b3, 0, none⟩)], .int .i64 0,
    .func (.func 61) #[] #[.pointer (some ⟨b4, 0, none⟩)], .func (.func 55) #[] #[], .int .i64 2,
    .func (.func 61) #[] #[.pointer (some ⟨b5, 0, none⟩)], .func (.func 55) #[] #[], .int .i64 3,
    .func (.func 61) #[] #[.pointer (some ⟨b6, 0, none⟩)], .func (.func 63) #[] #[.pointer (some ⟨b7, 0, none⟩)], .int .i64 0]
def ruleList (b0 b1 b2 b3 b4 b5 b6 b7 : Nat) (L : List (Nat × Obj)) : List (Nat × Obj) :=
  (b0, Obj.cells (ruleCells b1 b2 b3 b4 b5 b6 b7) 95 (0, 0)) ::
  (b7, Obj.cells #[.func (.func 56) #[] #[]] 34 (0, 0)) ::
  (b6, Obj.cells #[.string ⟨#[59]⟩] 9 (0, 0)) ::
  (b5, Obj.cells #[.string ⟨#[41]⟩] 9 (0, 0)) ::
  (b4, Obj.cells #[.string ⟨#[40]⟩] 9 (0, 0)) ::
  (b3, Obj.cells #[.func (.func 61) #[] #[.pointer (some ⟨b1, 0, none⟩)]] 34 (0, 0)) ::
  (b2, Obj.cells #[.func (.func 32) #[] #[]] 34 (0, 0)) ::
  (b1, Obj.cells #[.string ⟨#[9, 10, 13, 32]⟩] 9 (0, 0)) :: L

set_option maxRecDepth 100000 in
set_option maxHeartbeats 2000000 in
theorem rules_c (hT9 : T 9) (hT34 : T 34) (hT95 : T 95) (w : World) (hF : Holds d T o L w) :
    CallsC Try.prog main (Rely d T o) (Lx.Does d T o) 46 #[] 1000 w fun v w' => ∃ b0 b1 b2 b3 b4 b5 b6 b7, v = .slice (some ⟨b0, 0, none⟩) 5 5 ∧ Holds d T o (ruleList b0 b1 b2 b3 b4 b5 b6 b7 L) w' := by
  co_apply Go.Lx.CallsC.more
  · co_apply callsC_of_wpC Try.func46 (by rfl) rfl
    simp only [Try.ntmps46, List.size_toArray, List.length_cons, List.length_nil, Nat.reduceAdd, Nat.reduceSub, Array.replicate_succ, Array.replicate_zero, List.push_toArray, List.append_toArray, List.nil_append, List.cons_append]
    co_stmt terms Holds.rely hF (co_quiet terms)
    co_apply wpC_seq terms
    co_reg terms
    co_apply opsC_callA terms rfl (by rfl) rfl (is_c hT9 _ _ hF) (by simp [Act.eval]; rfl)
    clear hF
    rintro v w ⟨b1, rfl, hF⟩
    try walk_nrm
    co_op Holds.rely hF (co_quiet terms)
    co_apply opsC_nil terms
    co_then
    co_apply wpC_seq terms
    co_reg terms
    co_apply opsC_callA terms rfl (by rfl) rfl (while_c hT34 _ _ _ hF) (by simp [Act.eval]; exact ⟨rfl, rfl⟩)
    clear hF
    rintro v w ⟨b2, rfl, hF⟩
    try walk_nrm
    co_op Holds.rely hF (co_quiet terms)
    co_op Holds.rely hF (co_quiet terms)
    co_op Holds.rely hF (co_quiet terms)
    co_apply opsC_callA terms rfl (by rfl) rfl (while_c hT34 _ _ _ hF) (by simp [Act.eval]; exact ⟨rfl, rfl⟩)
    clear hF
    rintro v w ⟨b3, rfl, hF⟩
    try walk_nrm
    co_op Holds.rely hF (co_quiet terms)
    co_apply opsC_callA terms rfl (by rfl) rfl (is_c hT9 _ _ hF) (by simp [Act.eval]; rfl)
    clear hF
    rintro v w ⟨b4, rfl, hF⟩
    try walk_nrm
    co_op Holds.rely hF (co_quiet terms)
    co_apply opsC_callA terms rfl (by rfl) rfl (is_c hT9 _ _ hF) (by simp [Act.eval]; rfl)
    clear hF
    rintro v w ⟨b5, rfl, hF⟩
    try walk_nrm
    co_op Holds.rely hF (co_quiet terms)
    co_apply opsC_callA terms rfl (by rfl) rfl (is_c hT9 _ _ hF) (by simp [Act.eval]; rfl)
    clear hF
    rintro v w ⟨b6, rfl, hF⟩
    try walk_nrm
    co_apply opsC_callA terms rfl (by rfl) rfl (while_c hT34 _ _ _ hF) (by simp [Act.eval]; exact ⟨rfl, rfl⟩)
    clear hF
    rintro v w ⟨b7, rfl, hF⟩
    try walk_nrm
    co_op Holds.rely hF (co_quiet terms)
    co_opw Holds.rely hF (skip) (refine ⟨Turn.alloc hT95 hF.box, ?_⟩; co_evs (skip))
    replace hF := hF.cons (ruleCells b1 b2 b3 b4 b5 b6 b7) hT95
    repeat (first | co_reg terms | co_op Holds.rely hF (co_quiet terms) | (co_apply opsC_unwanted terms rfl (by rfl); try walk_nrm) | (co_ctl terms; try co_then))
    exact ⟨rfl, _, resultsC_tmp (by rfl) _, _, _, _, _, _, _, _, _, by simp, hF⟩
  · decide
end
end Go.Proofs.Ytjnoffgclibfaaa
