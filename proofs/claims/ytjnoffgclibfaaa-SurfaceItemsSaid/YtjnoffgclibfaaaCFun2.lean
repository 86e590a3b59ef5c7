/- In company: strings.IndexByte, and the function that 'is' makes. -/
import Derived.Test.YtjnoffgclibfaaaCFun
import Derived.Conc.AtomicLaws
set_option linter.unusedSimpArgs false
set_option linter.unusedVariables false
namespace Go.Proofs.Ytjnoffgclibfaaa
open Go.Conc Go.Lx

section
variable {main : Bool} {d : Deal} {T : TypeId → Prop} {o : Option Nat} {L : List (Nat × Obj)}

theorem run_ibs (s : ByteArray) (c : UInt8) (w : World) : (callFunc 70 #[.string s, .int .u8 c.toNat]).run Try.prog w = .ok (.value (.int .i64 (Lib.indexByte s.data.toList c))) w := by
  rw [run_callFunc_extern Try.func70 (by kernel_rfl) (by kernel_rfl) (by kernel_rfl) (e := Extern.BytealgIndexByte.indexByte) (by kernel_rfl), Lib.run_indexByteString]
  simp [Result.andThen]

theorem ev_ibs (s : ByteArray) (c : UInt8) (w : World) (es : Array Event) : (callFunc 70 #[.string s, .int .u8 c.toNat]).events Try.prog w es = es.push ⟨.mark (.extern 70), false, true⟩ := by
  rw [events_callFunc_extern Try.func70 (by kernel_rfl) (by kernel_rfl) (by kernel_rfl) (e := Extern.BytealgIndexByte.indexByte) (by kernel_rfl)]
  have e : Extern.BytealgIndexByte.indexByte #[.string s, .int .u8 c.toNat] = (match (List.range s.size).find? (fun i => s[i]! == (c.toNat : Int).toNat.toUInt8) with | some i => pure (goInt i) | none => pure (goInt (-1))) := rfl
  rw [e]
  split <;> rfl

set_option maxRecDepth 100000 in
theorem slib_c (s : ByteArray) (c : UInt8) (w : World) (hF : Holds d T o L w) : CallsC Try.prog main (Rely d T o) (Lx.Does d T o) 64 #[.string s, .int .u8 c.toNat] 20 w fun v w' => v = .int .i64 (Lib.indexByte s.data.toList c) ∧ Holds d T o L w' := by
  have hr := run_ibs s c
  have hv := ev_ibs s c
  co_apply Go.Lx.CallsC.more
  · co_apply callsC_of_wpC Try.func64 (by rfl) rfl
    simp only [Try.ntmps64, List.size_toArray, List.length_cons, List.length_nil, Nat.reduceAdd, Nat.reduceSub, Array.replicate_succ, Array.replicate_zero, List.push_toArray, List.append_toArray, List.nil_append, List.cons_append]
    co_stmt terms Holds.rely hF (co_quiet terms)
    co_apply wpC_seq terms
    co_reg terms
    co_op Holds.rely hF (co_quiet terms)
    co_op Holds.rely hF (co_quiet terms)
    co_opw Holds.rely hF (skip) (refine Does.reads fun e he => ?_; have hm := mem_listed he; simp [go_sem, hv] at hm; subst hm; exact evOk_extern _ _ _)
    repeat (first | co_reg terms | co_op Holds.rely hF (co_quiet terms) | (co_apply opsC_unwanted terms rfl (by rfl); try walk_nrm) | (co_ctl terms; try co_then))
    exact ⟨rfl, _, resultsC_tmp (by rfl) _, by simp, hF⟩
  · decide

set_option maxRecDepth 100000 in
theorem sib_c (s : ByteArray) (c : UInt8) (w : World) (hF : Holds d T o L w) : CallsC Try.prog main (Rely d T o) (Lx.Does d T o) 62 #[.string s, .int .u8 c.toNat] 50 w fun v w' => v = .int .i64 (Lib.indexByte s.data.toList c) ∧ Holds d T o L w' := by
  co_apply Go.Lx.CallsC.more
  · co_apply callsC_of_wpC Try.func62 (by rfl) rfl
    simp only [Try.ntmps62, List.size_toArray, List.length_cons, List.length_nil, Nat.reduceAdd, Nat.reduceSub, Array.replicate_succ, Array.replicate_zero, List.push_toArray, List.append_toArray, List.nil_append, List.cons_append]
    co_stmt terms Holds.rely hF (co_quiet terms)
    co_apply wpC_seq terms
    co_reg terms
    co_op Holds.rely hF (co_quiet terms)
    co_op Holds.rely hF (co_quiet terms)
    co_apply opsC_callA terms rfl (by rfl) rfl (slib_c s c _ hF) (by simp [Act.eval])
    clear hF
    rintro v w ⟨rfl, hF⟩
    try walk_nrm
    repeat (first | co_reg terms | co_op Holds.rely hF (co_quiet terms) | (co_apply opsC_unwanted terms rfl (by rfl); try walk_nrm) | (co_ctl terms; try co_then))
    exact ⟨rfl, _, resultsC_tmp (by rfl) _, by simp, hF⟩
  · decide

set_option maxRecDepth 100000 in
/-- is$1, over a variable that holds s. -/
theorem is1_c {b : Nat} {s : ByteArray} (hb : (b, Obj.cells #[.string s] 9 (0, 0)) ∈ L) (c : UInt8) (w : World) (hF : Holds d T o L w) :
    CallsC Try.prog main (Rely d T o) (Lx.Does d T o) 61 #[.int .u8 c.toNat, .pointer (some ⟨b, 0, none⟩)] 100 w fun v w' => v = .bool (decide (0 ≤ Lib.indexByte s.data.toList c)) ∧ Holds d T o L w' := by
  co_apply Go.Lx.CallsC.more
  · co_apply callsC_of_wpC Try.func61 (by rfl) rfl
    simp only [Try.ntmps61, List.size_toArray, List.length_cons, List.length_nil, Nat.reduceAdd, Nat.reduceSub, Array.replicate_succ, Array.replicate_zero, List.push_toArray, List.append_toArray, List.nil_append, List.cons_append]
    co_stmt terms Holds.rely hF (co_quiet terms)
    co_apply wpC_seq terms
    co_reg terms
    co_opw Holds.rely hF (have hc : _ = some (Value.string s) := hF.cell hb 0) (refine Does.reads ?_; co_evs (exact hF.read hb _ _))
    clear hc
    co_op Holds.rely hF (co_quiet terms)
    co_apply opsC_callA terms rfl (by rfl) rfl (sib_c s c _ hF) (by simp [Act.eval])
    clear hF
    rintro v w ⟨rfl, hF⟩
    try walk_nrm
    repeat (first | co_reg terms | co_op Holds.rely hF (co_quiet terms) | (co_apply opsC_unwanted terms rfl (by rfl); try walk_nrm) | (co_ctl terms; try co_then))
    exact ⟨rfl, _, resultsC_tmp (by rfl) _, by simp, hF⟩
  · decide
end
end Go.Proofs.Ytjnoffgclibfaaa
