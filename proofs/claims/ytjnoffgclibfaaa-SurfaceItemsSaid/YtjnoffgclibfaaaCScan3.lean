/- In company: scan, the select and what stands behind it. -/
import Derived.Test.YtjnoffgclibfaaaCScan2
set_option linter.unusedSimpArgs false
set_option linter.unusedVariables false
namespace Go.Proofs.Ytjnoffgclibfaaa
open Go.Conc Go.Lx

/-- The zero item, and the zero struct. -/
def zItem : Value := .agg (itemCells 0 0 ⟨#[]⟩ 0)
def zQuit : Value := .agg #[]

section
variable {d : Deal} {T : TypeId → Prop} {L : List (Nat × Obj)} {b0 xb : Nat} {df : List Deferred} {b : Frame} {kk : List Item} {cs : List Frame}

set_option maxRecDepth 100000 in
/-- The select. -/
theorem sel_step (s : ByteArray) (c q k : Nat) (v : Value) (J : Nat → Value) (hbk : b.kind ≠ .early) (w : World) :
    stepG Try.prog false (G (b.at ⟨selFrame s c q b0 k xb v J, df⟩ (.inRegion selOps [0, 1, 2, 3] :: kk)) cs) w =
      .comm (G (b.at ⟨selFrame s c q b0 k xb v J, df⟩ (.inRegion selOps [0, 1, 2, 3] :: kk)) cs) #[scase c v zItem, rcase q zQuit] true .select w #[] := by
  have ho : selOps[0]? = some { dst := some 69, op := .select #[{ chan := .tmp 66, send := some (.tmp 67), elem := 74 }, { chan := .tmp 68, send := none, elem := 96 }] true, type := 0, pos := "lexer.go:81", after := #[], guard := none } := by rfl
  have he1 : (⟨selFrame s c q b0 k xb v J, df⟩ : Act).eval (.tmp 66) = .chan (some c) := rfl
  have he2 : (⟨selFrame s c q b0 k xb v J, df⟩ : Act).eval (.tmp 67) = v := rfl
  have he3 : (⟨selFrame s c q b0 k xb v J, df⟩ : Act).eval (.tmp 68) = .chan (some q) := rfl
  have hr : (execOp (⟨selFrame s c q b0 k xb v J, df⟩ : Act).eval { dst := some 69, op := .select #[{ chan := .tmp 66, send := some (.tmp 67), elem := 74 }, { chan := .tmp 68, send := none, elem := 96 }] true, type := 0, pos := "lexer.go:81", after := #[], guard := none }).run Try.prog w = .ok (.comm #[scase c v zItem, rcase q zQuit] true .select) w := by
    unfold execOp
    simp [scase, rcase, he1, he2, he3, zItem, itemCells, zQuit]
  have hl : (execOp (⟨selFrame s c q b0 k xb v J, df⟩ : Act).eval { dst := some 69, op := .select #[{ chan := .tmp 66, send := some (.tmp 67), elem := 74 }, { chan := .tmp 68, send := none, elem := 96 }] true, type := 0, pos := "lexer.go:81", after := #[], guard := none }).events Try.prog w #[] = #[] := by
    unfold execOp
    simp
  rw [stepG_comm ho (by rfl) hbk hr, listed_nil hl]

/-- What the select leaves. -/
theorem sel_done (s : ByteArray) (c q k : Nat) (v : Value) (J : Nat → Value) :
    (G (b.at ⟨selFrame s c q b0 k xb v J, df⟩ (.inRegion selOps [0, 1, 2, 3] :: kk)) cs).finishComm Try.prog #[scase c v zItem, rcase q zQuit] .select 0 undef false =
      G (b.at ⟨(selFrame s c q b0 k xb v J).setIfInBounds 69 (.tuple #[.int .i64 0, .bool false, zQuit]), df⟩ (.inRegion selOps [1, 2, 3] :: kk)) cs := by
  have ho : selOps[0]? = some { dst := some 69, op := .select #[{ chan := .tmp 66, send := some (.tmp 67), elem := 74 }, { chan := .tmp 68, send := none, elem := 96 }] true, type := 0, pos := "lexer.go:81", after := #[], guard := none } := by rfl
  have hr : commResult #[scase c v zItem, rcase q zQuit] .select 0 undef false = .tuple #[.int .i64 0, .bool false, zQuit] := by
    simp [commResult, scase, rcase, goInt, Array.zipIdx, Array.filter]
  simp only [Goroutine.finishComm, G, hr, Frame.finish_at, ho]
  rfl

set_option maxRecDepth 100000 in
set_option maxHeartbeats 4000000 in
theorem sel_post (s : ByteArray) (c q k : Nat) (v : Value) (J : Nat → Value) (w : World) (hF : Holds d T (some xb) L w) :
    OpsC Try.prog false (Rely d T (some xb)) (Lx.Does d T (some xb)) 37 selOps [1, 2, 3] 10
      (Exit.then (fun a' w' => ∃ J', a' = ⟨(itemFrame s c q b0 k xb J').setIfInBounds 71 (.bool true), df⟩ ∧ Holds d T (some xb) L w') (fun _ _ _ => False))
      ⟨(selFrame s c q b0 k xb v J).setIfInBounds 69 (.tuple #[.int .i64 0, .bool false, zQuit]), df⟩ w := by
  have he : selOps = opsOf (fstOf (sndOf (fstOf scanSend))) := rfl
  rw [he]
  clear he
  unfold scanSend scanMore scanRest scanItem scanRound scanText
  simp only [Try.f37, Option.getD_some, fstOf, sndOf, inOf, opsOf, itemFrame, selFrame, List.setIfInBounds_toArray, List.set_cons_succ, List.set_cons_zero]
  co_apply opsC_more
  · co_op Holds.rely hF (co_quiet terms)
    co_op Holds.rely hF (co_quiet terms)
    co_op Holds.rely hF (co_quiet terms)
    co_apply opsC_nil terms
    co_then
    exact frame_ex (by rfl) hF
  · decide

set_option maxRecDepth 100000 in
set_option maxHeartbeats 4000000 in
theorem sel_block (s : ByteArray) (c q k : Nat) (J : Nat → Value) (w : World) (hF : Holds d T (some xb) L w) :
    Code.wpC Try.prog false (Rely d T (some xb)) (Lx.Does d T (some xb)) 37 (sndOf (sndOf (fstOf scanSend))) 100
      (Exit.then (fun a' w' => ∃ J', a' = ⟨itemFrame s c q b0 k xb J', df⟩ ∧ Holds d T (some xb) L w') (fun _ _ _ => False)) ⟨(itemFrame s c q b0 k xb J).setIfInBounds 71 (.bool true), df⟩ w := by
  unfold scanSend scanMore scanRest scanItem scanRound scanText
  simp only [Try.f37, Option.getD_some, fstOf, sndOf, inOf, itemFrame, List.setIfInBounds_toArray, List.set_cons_succ, List.set_cons_zero]
  co_apply wpC_more
  · co_apply wpC_block terms
    co_apply wpC_cond (t := true) terms rfl
    simp only [if_true]
    co_ctl terms
    co_then
    exact frame_ex (by rfl) hF
  · decide

set_option maxRecDepth 100000 in
set_option maxHeartbeats 4000000 in
/-- The round's end behind a token. -/
theorem round_end (s x : ByteArray) (c q k k1 : Nat) (kd : Int) (J : Nat → Value) (w : World) (hF : Holds d T (some xb) ((xb, Obj.cells (itemCells kd k1 x 0) 74 (0, 0)) :: L) w) :
    Code.wpC Try.prog false (Rely d T (some xb)) (Lx.Does d T (some xb)) 37 (sndOf scanSend) 100
      (Exit.then (fun a' w' => ∃ J', a' = ⟨itemFrame s c q b0 k xb J', df⟩ ∧ Holds d T (some xb) ((xb, Obj.cells (itemCells kd k1 x 0) 74 (0, 0)) :: L) w') (fun _ _ _ => False)) ⟨itemFrame s c q b0 k xb J, df⟩ w := by
  have hm : (xb, Obj.cells (itemCells kd k1 x 0) 74 (0, 0)) ∈ (xb, Obj.cells (itemCells kd k1 x 0) 74 (0, 0)) :: L := List.mem_cons_self
  unfold scanSend scanMore scanRest scanItem scanRound scanText
  simp only [Try.f37, Option.getD_some, sndOf, inOf, itemFrame]
  co_apply wpC_more
  · co_apply wpC_seq terms
    co_reg terms
    co_op Holds.rely hF (co_quiet terms)
    co_opw Holds.rely hF (have hc : _ = some (Value.int .i64 0) := hF.cell hm 3) (refine Does.reads ?_; co_evs (exact hF.read hm _ _))
    clear hc
    co_op Holds.rely hF (co_quiet terms)
    co_apply opsC_nil terms
    co_then
    co_apply wpC_cond (t := false) terms rfl
    simp only [Bool.false_eq_true, if_false]
    co_ctl terms
    co_then
    exact frame_ex (by rfl) hF
  · decide

theorem item_head (s : ByteArray) (c q k : Nat) (J : Nat → Value) : itemFrame s c q b0 k xb J = headFrame s c q b0 k (fun n => (itemFrame s c q b0 k xb J).getD n undef) := by rfl
end
end Go.Proofs.Ytjnoffgclibfaaa
