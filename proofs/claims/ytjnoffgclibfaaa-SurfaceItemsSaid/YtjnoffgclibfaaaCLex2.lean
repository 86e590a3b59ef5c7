/- In company: the loop of Lex, behind the variable. -/
import Derived.Test.YtjnoffgclibfaaaCLex
set_option linter.unusedSimpArgs false
set_option linter.unusedVariables false
namespace Go.Proofs.Ytjnoffgclibfaaa
open Go.Conc Go.Lx

theorem t0_token : T0 31 := rfl
theorem Try.info31 : (Try.prog.info? 31).map (fun i => (i.zero, i.size, i.bytes)) = some (some (.agg #[.int .i64 0, .int .i64 0, .string ⟨#[]⟩]), 3, 32) := by kernel_rfl

section
variable {d : Deal} {o : Option Nat} {L : List (Nat × Obj)} {w0 : World} {v : Value} {n xb : Nat} {xs : List Value} {df : List Deferred}

set_option maxRecDepth 100000 in
set_option maxHeartbeats 4000000 in
/-- The variable is filled. -/
theorem x_store (s x : ByteArray) (c q k : Nat) (kd e : Int) (J : Nat → Value) (hv : v.ownBlock ≠ some xb) (w : World) (hF : MX d [(xb, Obj.cells (itemCells 0 0 ⟨#[]⟩ 0) 74 (0, 0))] w0 v n xs (some xb) w) :
    OpsC Try.prog true (Rely d T0 (some xb)) (Lx.Does d T0 (some xb)) 14 xOps [2] 10
      (Exit.then (fun a' w' => ∃ J', a' = ⟨xFrame s c q v xb J', df⟩ ∧ MX d [(xb, Obj.cells (itemCells kd k x e) 74 (0, 0))] w0 v n xs (some xb) w') (fun _ _ _ => False))
      ⟨(gotFrame s c q v (.agg (itemCells kd k x e)) J).setIfInBounds 8 (.pointer (some ⟨xb, 0, none⟩)), df⟩ w := by
  have he : xOps = opsOf (fstOf lexItem) := rfl
  rw [he]
  clear he
  unfold lexItem lexRound lexLoop lexAfter lexWork lexText
  simp only [Try.f14, Option.getD_some, fstOf, sndOf, inOf, opsOf, gotFrame, xFrame, itemCells, List.setIfInBounds_toArray, List.set_cons_succ, List.set_cons_zero] at hF ⊢
  co_apply opsC_more
  · co_opw MH.rely hF (have hm : (xb, Obj.cells #[.int .i64 0, .int .i64 ((0 : Nat) : Int), .string ⟨#[]⟩, .int .i64 0] 74 (0, 0)) ∈ [(xb, Obj.cells #[.int .i64 0, .int .i64 ((0 : Nat) : Int), .string ⟨#[]⟩, .int .i64 0] 74 (0, 0))] := List.mem_cons_self; have hc0 : _ = some _ := hF.holds.cell hm 0; have hc1 : _ = some _ := hF.holds.cell hm 1; have hc2 : _ = some _ := hF.holds.cell hm 2; have hc3 : _ = some _ := hF.holds.cell hm 3; have hf0 := hF.holds.frozen hm 0; have hf1 := hF.holds.frozen hm 1; have hf2 := hF.holds.frozen hm 2; have hf3 := hF.holds.frozen hm 3) (have ho := hF.holds.boxOwn; have ht := Turn.set4 ho (hF.holds.lt hm) hF.holds.big (.int .i64 kd) (.int .i64 (k : Int)) (.string x) (.int .i64 e); refine ⟨ht, ?_⟩; have ho2 := ht.own_fwd (hF.holds.lt hm) ho; clear ht ho; have es := ev_store_str Try.prog; intro e he; have hm := mem_listed he; simp [go_sem, *] at hm; rcases hm with rfl | rfl | rfl | rfl <;> exact evOk_cell ho2 _ _ _)
    replace hF := hF.set4 hv (.int .i64 kd) (.int .i64 (k : Int)) (.string x) (.int .i64 e)
    co_apply opsC_nil terms
    co_then
    exact frame_ex (by rfl) hF
  · decide

set_option maxRecDepth 100000 in
set_option maxHeartbeats 4000000 in
/-- It is no error. -/
theorem x_test (s x : ByteArray) (c q k : Nat) (kd : Int) (J : Nat → Value) (w : World) (hF : MX d [(xb, Obj.cells (itemCells kd k x 0) 74 (0, 0))] w0 v n xs (some xb) w) :
    Code.wpC Try.prog true (Rely d T0 (some xb)) (Lx.Does d T0 (some xb)) 14 (fstOf (sndOf lexItem)) 100
      (Exit.then (fun a' w' => ∃ J', a' = ⟨xFrame s c q v xb J', df⟩ ∧ MX d [(xb, Obj.cells (itemCells kd k x 0) 74 (0, 0))] w0 v n xs (some xb) w') (fun _ _ _ => False))
      ⟨xFrame s c q v xb J, df⟩ w := by
  have hm : (xb, Obj.cells (itemCells kd k x 0) 74 (0, 0)) ∈ [(xb, Obj.cells (itemCells kd k x 0) 74 (0, 0))] := List.mem_cons_self
  unfold lexItem lexRound lexLoop lexAfter lexWork lexText
  simp only [Try.f14, Option.getD_some, fstOf, sndOf, inOf, xFrame]
  co_apply wpC_more
  · co_apply wpC_seq terms
    co_reg terms
    co_op MH.rely hF (co_quiet terms)
    co_opw MH.rely hF (have hc : _ = some (Value.int .i64 0) := hF.holds.cell hm 3) (refine Does.reads ?_; co_evs (exact hF.holds.read hm _ _))
    clear hc
    co_op MH.rely hF (co_quiet terms)
    co_apply opsC_nil terms
    co_then
    co_apply wpC_cond (t := false) terms rfl
    simp only [Bool.false_eq_true, if_false]
    co_ctl terms
    co_then
    exact frame_ex (by rfl) hF
  · decide

set_option maxRecDepth 100000 in
set_option maxHeartbeats 4000000 in
/-- The token is laid behind the others. -/
theorem x_append (s x : ByteArray) (c q k : Nat) (kd : Int) (J : Nat → Value) (hn : n ≤ 1000000) (w : World) (hF : MX d [(xb, Obj.cells (itemCells kd k x 0) 74 (0, 0))] w0 v n xs (some xb) w) :
    Code.wpC Try.prog true (Rely d T0 (some xb)) (Lx.Does d T0 (some xb)) 14 (sndOf (sndOf lexItem)) 100
      (Exit.then (fun a' w' => ∃ v', (∃ J', a' = ⟨lexFrame s c q v' J', df⟩ ∧ MX d [] w0 v' (n + 1) (xs ++ [.int .i64 kd, .int .i64 (k : Int), .string x]) (some xb) w')) (fun _ _ _ => False))
      ⟨xFrame s c q v xb J, df⟩ w := by
  have hm : (xb, Obj.cells (itemCells kd k x 0) 74 (0, 0)) ∈ [(xb, Obj.cells (itemCells kd k x 0) 74 (0, 0))] := List.mem_cons_self
  obtain ⟨i0, hi, hz⟩ := Option.map_eq_some_iff.1 Try.info31
  simp only [Prod.mk.injEq] at hz
  obtain ⟨hz0, hz1, hz2⟩ := hz
  have HI := Lib.hid hi
  have HZ0 := Lib.hid hz0
  have HZ1 := Lib.hid hz1
  have HZ2 := Lib.hid hz2
  clear hi hz0 hz1 hz2
  unfold lexItem lexRound lexLoop lexAfter lexWork lexText
  simp only [Try.f14, Option.getD_some, fstOf, sndOf, inOf, xFrame, lexFrame]
  co_apply wpC_more
  · co_reg terms
    co_op MH.rely hF (co_quiet terms)
    co_op MH.rely hF (co_quiet terms)
    co_opw MH.rely hF (have hc0 : _ = some (Value.int .i64 kd) := hF.holds.cell hm 0; have hc1 : _ = some (Value.int .i64 (k : Int)) := hF.holds.cell hm 1; have hc2 : _ = some (Value.string x) := hF.holds.cell hm 2) (refine Does.reads ?_; intro e he; have hm := mem_listed he; simp [go_sem, *] at hm; rcases hm with rfl | rfl | rfl <;> exact hF.holds.read hm _ _)
    clear hc0 hc1 hc2
    co_opw MH.rely hF (skip) (refine ⟨Turn.alloc t0_token hF.holds.box, ?_⟩; co_evs (skip))
    have hBn := hF.holds.big
    replace hF := hF.cons #[.int .i64 kd, .int .i64 (k : Int), .string x] t0_token
    revert hBn hF
    generalize Array.size (World.heap _) = nb
    intro hBn hF
    co_apply opsC_cons_k rfl (by rfl)
    intro w1 hR K hK
    replace hF := MH.rely hF hR
    clear hR
    have hmn : (nb, Obj.cells #[.int .i64 kd, .int .i64 (k : Int), .string x] 31 (0, 0)) ∈ (nb, Obj.cells #[.int .i64 kd, .int .i64 (k : Int), .string x] 31 (0, 0)) :: [(xb, Obj.cells (itemCells kd k x 0) 74 (0, 0))] := List.mem_cons_self
    have hnews : ∀ j u, [Value.int .i64 kd, .int .i64 (k : Int), .string x][j]? = some u → w1.cell? ((⟨nb, 0, none⟩ : Addr).add j) = some u := by
      intro j u hu
      rw [add_at, hF.holds.cell hmn j]
      simpa using hu
    have h1 : ∀ u ∈ [Value.int .i64 kd, .int .i64 (k : Int), .string x], u.oneCell' = true := by
      intro u hu
      simp only [List.mem_cons, List.not_mem_nil, or_false] at hu
      rcases hu with rfl | rfl | rfl <;> rfl
    have hmx : n + 1 ≤ maxLen := by simp only [maxLen]; omega
    have hby : (n + 1) * 32 ≤ 140737488355328 := by omega
    obtain ⟨v', w', hr, hown', hg, ht⟩ := append_turn (P := Try.prog) (d := d) (T := T0) (o := some xb) w1 23 23 31 i0 _ 3 32 Try.underlying23 HI.out HZ0.out HZ1.out HZ2.out rfl (by decide) v n xs hF.own ⟨nb, 0, none⟩ 1 1 [.int .i64 kd, .int .i64 (k : Int), .string x] (by decide) rfl hnews h1 hmx hby t0_token hF.holds.big hF.holds.box
    have hev := events_append_where (P := Try.prog) w1 d.B 23 23 31 i0 _ 3 32 Try.underlying23 HI.out HZ0.out HZ1.out HZ2.out v n xs hF.own ⟨nb, 0, none⟩ 1 1 [.int .i64 kd, .int .i64 (k : Int), .string x] rfl hnews h1 hmx hby
    refine uponK_append (.tmp 30) (.tmp 33) 23 rfl rfl rfl hr (hK _ _ ⟨⟨ht, ?_⟩, ?_⟩)
    · intro e he
      have hm := mem_listed he
      rw [events_append_op (.tmp 30) (.tmp 33) 23 rfl rfl rfl] at hm
      rcases hev e hm with ⟨ad, hl, hcase⟩ | ⟨m, rfl, hneu⟩
      · rcases hcase with ⟨_, hb⟩ | hb
        · have hb : ad.block = nb := hb
          exact evOk_loc hl (hb ▸ ht.own_fwd (hF.holds.lt hmn) (hF.holds.mine hmn hBn t0_token))
        · obtain ⟨h1, h2⟩ := own_of_row (o := some xb) t0_token hF.own hb.symm
          exact evOk_loc hl (ht.own_fwd h2 h1)
      · exact evOk_mark hneu
    replace hF : MX d [] w0 v' (n + 1) (xs ++ [.int .i64 kd, .int .i64 (k : Int), .string x]) (some xb) w' :=
      ⟨⟨by simp, by simp, Nat.le_trans hF.holds.big ht.size, fun b hb => Nat.lt_of_lt_of_le (hF.holds.box b hb) ht.size⟩, hown', hF.low.turn ht hF.holds.big hF.boxB, t0_token, hF.boxB⟩
    clear hK K hnews h1 hr hown' hg ht hev hmn hBn
    try walk_nrm
    co_op MH.rely hF (co_quiet terms)
    co_apply opsC_nil terms
    co_then
    exact ⟨v', frame_ex (by rfl) hF⟩
  · decide
end
end Go.Proofs.Ytjnoffgclibfaaa
