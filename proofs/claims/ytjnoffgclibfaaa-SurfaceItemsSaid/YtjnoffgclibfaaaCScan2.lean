/- In company: scan, piece by piece (behind the box). -/
import Derived.Test.YtjnoffgclibfaaaCScan
set_option linter.unusedSimpArgs false
set_option linter.unusedVariables false
namespace Go.Proofs.Ytjnoffgclibfaaa
open Go.Conc Go.Lx

def itemFrame (s : ByteArray) (c q b0 k xb : Nat) (J : Nat → Value) : Array Value :=
  #[.string s, .chan (some c), .chan (some q), J 3, J 4, J 5, .slice (some ⟨b0, 0, none⟩) 5 5, .int .i64 (k : Int), .pointer (some ⟨xb, 0, none⟩), J 9, J 10, J 11, J 12, J 13, J 14, J 15, J 16, J 17, J 18, J 19, J 20, J 21, J 22, J 23, J 24, J 25, J 26, J 27, J 28, J 29, J 30, J 31, J 32, J 33, J 34, J 35, J 36, J 37, J 38, J 39, J 40, J 41, J 42, J 43, J 44, J 45, J 46, J 47, J 48, J 49, J 50, J 51, J 52, J 53, J 54, J 55, J 56, J 57, J 58, J 59, J 60, J 61, J 62, J 63, J 64, J 65, J 66, J 67, J 68, J 69, J 70, J 71, J 72, J 73, J 74, J 75]
def itemCells (kd : Int) (k : Nat) (x : ByteArray) (e : Int) : Array Value := #[.int .i64 kd, .int .i64 (k : Int), .string x, .int .i64 e]

section
variable {d : Deal} {T : TypeId → Prop} {L : List (Nat × Obj)} {b0 xb : Nat} {df : List Deferred}

set_option maxRecDepth 100000 in
set_option maxHeartbeats 4000000 in
/-- The box is filled. -/
theorem box_store (s : ByteArray) (c q k : Nat) (J : Nat → Value) (hxL : ∀ p ∈ L, p.1 ≠ xb) (w : World) (hF : Holds d T (some xb) ((xb, Obj.cells (itemCells 0 0 ⟨#[]⟩ 0) 74 (0, 0)) :: L) w) :
    OpsC Try.prog false (Rely d T (some xb)) (Lx.Does d T (some xb)) 37 boxOps [4] 10
      (Exit.then (fun a' w' => ∃ J', a' = ⟨itemFrame s c q b0 k xb J', df⟩ ∧ Holds d T (some xb) ((xb, Obj.cells (itemCells 0 k ⟨#[]⟩ 60) 74 (0, 0)) :: L) w') (fun _ _ _ => False))
      ⟨(boxFrame s c q b0 k J).setIfInBounds 8 (.pointer (some ⟨xb, 0, none⟩)), df⟩ w := by
  have hf : (boxFrame s c q b0 k J).setIfInBounds 8 (.pointer (some ⟨xb, 0, none⟩)) = #[.string s, .chan (some c), .chan (some q), J 3, J 4, J 5, .slice (some ⟨b0, 0, none⟩) 5 5, .int .i64 (k : Int), .pointer (some ⟨xb, 0, none⟩), J 9, J 10, J 11, J 12, J 13, J 14, J 15, J 16, J 17, J 18, J 19, .agg #[.int .i64 0, .int .i64 (k : Int), .string ⟨#[]⟩, .int .i64 60], J 21, J 22, J 23, J 24, J 25, J 26, J 27, J 28, J 29, J 30, J 31, J 32, J 33, J 34, J 35, J 36, J 37, J 38, J 39, J 40, J 41, J 42, J 43, J 44, J 45, J 46, J 47, J 48, J 49, J 50, J 51, J 52, J 53, J 54, J 55, J 56, J 57, J 58, J 59, J 60, J 61, J 62, J 63, J 64, J 65, J 66, J 67, J 68, J 69, J 70, J 71, J 72, J 73, J 74, J 75] := rfl
  rw [hf]
  clear hf
  have he : boxOps = opsOf (fstOf scanItem) := rfl
  rw [he]
  clear he
  unfold scanItem scanRound scanText
  simp only [Try.f37, Option.getD_some, fstOf, sndOf, inOf, opsOf, itemFrame]
  co_apply opsC_more
  · co_opw Holds.rely hF (have hm : (xb, Obj.cells (itemCells 0 0 ⟨#[]⟩ 0) 74 (0, 0)) ∈ (xb, Obj.cells (itemCells 0 0 ⟨#[]⟩ 0) 74 (0, 0)) :: L := List.mem_cons_self; have hc0 : _ = some _ := hF.cell hm 0; have hc1 : _ = some _ := hF.cell hm 1; have hc2 : _ = some _ := hF.cell hm 2; have hc3 : _ = some _ := hF.cell hm 3; have hf0 := hF.frozen hm 0; have hf1 := hF.frozen hm 1; have hf2 := hF.frozen hm 2; have hf3 := hF.frozen hm 3) (have ho := hF.boxOwn; have ht := Turn.set4 ho (hF.lt hm) hF.big (.int .i64 0) (.int .i64 (k : Int)) (.string ⟨#[]⟩) (.int .i64 60); refine ⟨ht, ?_⟩; have ho2 := ht.own_fwd (hF.lt hm) ho; clear ht ho; have es := ev_store_str Try.prog; intro e he; have hm := mem_listed he; simp [go_sem, *] at hm; rcases hm with rfl | rfl | rfl | rfl <;> exact evOk_cell ho2 _ _ _)
    replace hF := hF.set4 hxL (.int .i64 0) (.int .i64 (k : Int)) (.string ⟨#[]⟩) (.int .i64 60)
    co_apply opsC_nil terms
    co_then
    exact frame_ex (by rfl) hF
  · decide

theorem scanRest_eq : scanRest = .seq (.seq (fstOf scanFind) (.block 2 (.loop findRound))) (.seq (fstOf scanMore) (.seq scanTest scanSend)) := by rfl
theorem scanSend_eq : scanSend = .seq (.seq (fstOf (fstOf scanSend)) (.seq (.region 17 selOps false) (sndOf (sndOf (fstOf scanSend))))) (sndOf scanSend) := by rfl

set_option maxRecDepth 100000 in
set_option maxHeartbeats 4000000 in
/-- Ahead of the look for a rule. -/
theorem find_pre (s : ByteArray) (c q k : Nat) (J : Nat → Value) (w : World) (hF : Holds d T (some xb) L w) :
    Code.wpC Try.prog false (Rely d T (some xb)) (Lx.Does d T (some xb)) 37 (fstOf scanFind) 100
      (Exit.then (fun a' w' => ∃ J', a' = ⟨scanFrame s c q b0 k xb 0 J', df⟩ ∧ Holds d T (some xb) L w') (fun _ _ _ => False)) ⟨itemFrame s c q b0 k xb J, df⟩ w := by
  unfold scanFind scanItem scanRound scanText
  simp only [Try.f37, Option.getD_some, fstOf, sndOf, inOf, itemFrame, scanFrame]
  co_apply wpC_more
  · co_reg terms
    repeat (first | co_reg terms | co_op Holds.rely hF (co_quiet terms) | (co_apply opsC_unwanted terms rfl (by rfl); try walk_nrm) | (co_ctl terms; try co_then))
    exact frame_ex (by rfl) hF
  · decide

set_option maxRecDepth 100000 in
set_option maxHeartbeats 4000000 in
/-- The place moves on. -/
theorem at_on (s x : ByteArray) (c q k m : Nat) (kd e i : Int) (J : Nat → Value) (hx : RowKit.Hid (x.size = m)) (hkm : k + m ≤ 1000000) (w : World) (hF : Holds d T (some xb) ((xb, Obj.cells (itemCells kd k x e) 74 (0, 0)) :: L) w) :
    Code.wpC Try.prog false (Rely d T (some xb)) (Lx.Does d T (some xb)) 37 (fstOf scanMore) 100
      (Exit.then (fun a' w' => ∃ J', a' = ⟨itemFrame s c q b0 (k + m) xb J', df⟩ ∧ Holds d T (some xb) ((xb, Obj.cells (itemCells kd k x e) 74 (0, 0)) :: L) w') (fun _ _ _ => False)) ⟨scanFrame s c q b0 k xb i J, df⟩ w := by
  have hm : (xb, Obj.cells (itemCells kd k x e) 74 (0, 0)) ∈ (xb, Obj.cells (itemCells kd k x e) 74 (0, 0)) :: L := List.mem_cons_self
  unfold scanMore scanRest scanItem scanRound scanText
  simp only [Try.f37, Option.getD_some, fstOf, sndOf, inOf, itemFrame, scanFrame]
  co_apply wpC_more
  · co_reg terms
    co_op Holds.rely hF (co_quiet terms)
    co_op Holds.rely hF (co_quiet terms)
    co_op Holds.rely hF (co_quiet terms)
    co_opw Holds.rely hF (have hc : _ = some (Value.string x) := hF.cell hm 2) (refine Does.reads ?_; co_evs (exact hF.read hm _ _))
    clear hc
    co_opw Holds.rely hF (skip) (rw [listed_nil (by simp [go_sem, ev_len_string _ _ _ Try.underlying9])]; exact Terms.idle terms _)
    co_op Holds.rely hF (co_quiet terms)
    co_op Holds.rely hF (co_quiet terms)
    co_apply opsC_nil terms
    co_then
    have hwr : IntKind.i64.wrap ((k : Int) + (x.size : Int)) = ((k + m : Nat) : Int) := by rw [hx.out, IntWalk.i64_in _ (by omega)]; omega
    rw [hwr]
    exact frame_ex (by rfl) hF
  · decide

set_option maxRecDepth 100000 in
set_option maxHeartbeats 4000000 in
/-- What is left out. -/
theorem test_blank (s x : ByteArray) (c q k k1 : Nat) (J : Nat → Value) (w : World) (hF : Holds d T (some xb) ((xb, Obj.cells (itemCells 0 k1 x 0) 74 (0, 0)) :: L) w) :
    Code.wpC Try.prog false (Rely d T (some xb)) (Lx.Does d T (some xb)) 37 scanTest 100
      (Exit.then (fun _ _ => False) (fun e a' w' => e = .exit 1 ∧ ∃ J', a' = ⟨itemFrame s c q b0 k xb J', df⟩ ∧ Holds d T (some xb) ((xb, Obj.cells (itemCells 0 k1 x 0) 74 (0, 0)) :: L) w')) ⟨itemFrame s c q b0 k xb J, df⟩ w := by
  have hm : (xb, Obj.cells (itemCells 0 k1 x 0) 74 (0, 0)) ∈ (xb, Obj.cells (itemCells 0 k1 x 0) 74 (0, 0)) :: L := List.mem_cons_self
  unfold scanTest scanMore scanRest scanItem scanRound scanText
  simp only [Try.f37, Option.getD_some, fstOf, sndOf, inOf, itemFrame]
  co_apply wpC_more
  · co_apply wpC_seq terms
    co_reg terms
    co_op Holds.rely hF (co_quiet terms)
    co_op Holds.rely hF (co_quiet terms)
    co_opw Holds.rely hF (have hc : _ = some (Value.int .i64 0) := hF.cell hm 0) (refine Does.reads ?_; co_evs (exact hF.read hm _ _))
    clear hc
    co_op Holds.rely hF (co_quiet terms)
    co_op Holds.rely hF (co_quiet terms)
    co_op Holds.rely hF (co_quiet terms)
    co_opw Holds.rely hF (have hc : _ = some (Value.int .i64 0) := hF.cell hm 3) (refine Does.reads ?_; co_evs (exact hF.read hm _ _))
    clear hc
    co_op Holds.rely hF (co_quiet terms)
    co_op Holds.rely hF (co_quiet terms)
    co_apply opsC_nil terms
    co_then
    co_apply wpC_cond (t := true) terms rfl
    simp only [if_true]
    co_ctl terms
    co_then
    exact ⟨trivial, frame_ex (by rfl) hF⟩
  · decide

set_option maxRecDepth 100000 in
set_option maxHeartbeats 4000000 in
/-- A token. -/
theorem test_token (s x : ByteArray) (c q k k1 : Nat) (kd : Int) (hkd : (kd == 0) = false) (J : Nat → Value) (w : World) (hF : Holds d T (some xb) ((xb, Obj.cells (itemCells kd k1 x 0) 74 (0, 0)) :: L) w) :
    Code.wpC Try.prog false (Rely d T (some xb)) (Lx.Does d T (some xb)) 37 scanTest 100
      (Exit.then (fun a' w' => ∃ J', a' = ⟨itemFrame s c q b0 k xb J', df⟩ ∧ Holds d T (some xb) ((xb, Obj.cells (itemCells kd k1 x 0) 74 (0, 0)) :: L) w') (fun _ _ _ => False)) ⟨itemFrame s c q b0 k xb J, df⟩ w := by
  have hm : (xb, Obj.cells (itemCells kd k1 x 0) 74 (0, 0)) ∈ (xb, Obj.cells (itemCells kd k1 x 0) 74 (0, 0)) :: L := List.mem_cons_self
  unfold scanTest scanMore scanRest scanItem scanRound scanText
  simp only [Try.f37, Option.getD_some, fstOf, sndOf, inOf, itemFrame]
  co_apply wpC_more
  · co_apply wpC_seq terms
    co_reg terms
    co_op Holds.rely hF (co_quiet terms)
    co_op Holds.rely hF (co_quiet terms)
    co_opw Holds.rely hF (have hc : _ = some (Value.int .i64 kd) := hF.cell hm 0) (refine Does.reads ?_; co_evs (exact hF.read hm _ _))
    clear hc
    co_op Holds.rely hF (co_quiet terms)
    co_op Holds.rely hF (co_quiet terms)
    (co_apply opsC_unwanted terms rfl (by rfl); try walk_nrm)
    (co_apply opsC_unwanted terms rfl (by rfl); try walk_nrm)
    (co_apply opsC_unwanted terms rfl (by rfl); try walk_nrm)
    co_op Holds.rely hF (co_quiet terms)
    co_apply opsC_nil terms
    co_then
    co_apply wpC_cond (t := false) terms rfl
    simp only [Bool.false_eq_true, if_false]
    co_ctl terms
    co_then
    exact frame_ex (by rfl) hF
  · decide

/-- The frame at the select. -/
def selFrame (s : ByteArray) (c q b0 k xb : Nat) (v : Value) (J : Nat → Value) : Array Value :=
  #[.string s, .chan (some c), .chan (some q), J 3, J 4, J 5, .slice (some ⟨b0, 0, none⟩) 5 5, .int .i64 (k : Int), .pointer (some ⟨xb, 0, none⟩), J 9, J 10, J 11, J 12, J 13, J 14, J 15, J 16, J 17, J 18, J 19, J 20, J 21, J 22, J 23, J 24, J 25, J 26, J 27, J 28, J 29, J 30, J 31, J 32, J 33, J 34, J 35, J 36, J 37, J 38, J 39, J 40, J 41, J 42, J 43, J 44, J 45, J 46, J 47, J 48, J 49, J 50, J 51, J 52, J 53, J 54, J 55, J 56, J 57, J 58, J 59, J 60, J 61, J 62, J 63, J 64, J 65, .chan (some c), v, .chan (some q), J 69, J 70, J 71, J 72, J 73, J 74, J 75]

set_option maxRecDepth 100000 in
set_option maxHeartbeats 4000000 in
/-- Ahead of the select. -/
theorem sel_pre (s x : ByteArray) (c q k k1 : Nat) (kd e : Int) (J : Nat → Value) (w : World) (hF : Holds d T (some xb) ((xb, Obj.cells (itemCells kd k1 x e) 74 (0, 0)) :: L) w) :
    Code.wpC Try.prog false (Rely d T (some xb)) (Lx.Does d T (some xb)) 37 (fstOf (fstOf scanSend)) 100
      (Exit.then (fun a' w' => ∃ J', a' = ⟨selFrame s c q b0 k xb (.agg (itemCells kd k1 x e)) J', df⟩ ∧ Holds d T (some xb) ((xb, Obj.cells (itemCells kd k1 x e) 74 (0, 0)) :: L) w') (fun _ _ _ => False)) ⟨itemFrame s c q b0 k xb J, df⟩ w := by
  have hm : (xb, Obj.cells (itemCells kd k1 x e) 74 (0, 0)) ∈ (xb, Obj.cells (itemCells kd k1 x e) 74 (0, 0)) :: L := List.mem_cons_self
  unfold scanSend scanMore scanRest scanItem scanRound scanText
  simp only [Try.f37, Option.getD_some, fstOf, sndOf, inOf, itemFrame, selFrame]
  co_apply wpC_more
  · co_apply wpC_seq terms
    co_apply wpC_seq terms
    co_reg terms
    co_op Holds.rely hF (co_quiet terms)
    co_apply opsC_nil terms
    co_then
    co_reg terms
    co_opw Holds.rely hF (have hc0 : _ = some (Value.int .i64 kd) := hF.cell hm 0; have hc1 : _ = some (Value.int .i64 (k1 : Int)) := hF.cell hm 1; have hc2 : _ = some (Value.string x) := hF.cell hm 2; have hc3 : _ = some (Value.int .i64 e) := hF.cell hm 3) (refine Does.reads ?_; intro e he; have hm := mem_listed he; simp [go_sem, *] at hm; rcases hm with rfl | rfl | rfl | rfl <;> exact hF.read hm _ _)
    clear hc0 hc1 hc2 hc3
    co_apply opsC_nil terms
    co_then
    co_reg terms
    co_op Holds.rely hF (co_quiet terms)
    co_apply opsC_nil terms
    co_then
    exact frame_ex (by rfl) hF
  · decide
end
end Go.Proofs.Ytjnoffgclibfaaa
