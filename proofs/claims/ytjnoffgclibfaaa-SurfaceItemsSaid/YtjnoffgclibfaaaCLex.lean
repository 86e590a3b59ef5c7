/- In company: the loop of Lex, piece by piece. -/
import Derived.Test.YtjnoffgclibfaaaCScan4
import Derived.Test.YtjnoffgclibfaaaLxE
set_option linter.unusedSimpArgs false
set_option linter.unusedVariables false
namespace Go.Proofs.Ytjnoffgclibfaaa
open Go.Conc Go.Lx

noncomputable def lexText : Code := Try.f14.body.getD .skip
/-- What stands behind the test of the length. -/
noncomputable def lexWork : Code := sndOf (sndOf lexText)
/-- The go statement's region, and what stands behind it. -/
noncomputable def goOps : Array Oper := opsOf (fstOf (sndOf (sndOf lexWork)))
noncomputable def lexAfter : Code := sndOf (sndOf (sndOf lexWork))
noncomputable def lexLoop : Code := fstOf (sndOf lexAfter)
noncomputable def lexEnd : Code := sndOf (sndOf lexAfter)
noncomputable def lexRound : Code := inOf (inOf (sndOf lexLoop))
noncomputable def rcvOps : Array Oper := opsOf (fstOf lexRound)
noncomputable def lexItem : Code := inOf (sndOf (sndOf lexRound))
noncomputable def xOps : Array Oper := opsOf (fstOf lexItem)

theorem lexRound_eq : lexRound = .seq (.region 8 rcvOps false) (.seq (fstOf (sndOf lexRound)) (.block 1 (.seq (.region 9 xOps false) (.seq (fstOf (sndOf lexItem)) (sndOf (sndOf lexItem)))))) := by rfl
theorem lexAfter_eq : lexAfter = .seq (fstOf lexAfter) (.seq (.seq (fstOf lexLoop) (.block 0 (.loop lexRound))) lexEnd) := by rfl

def lexFrame (s : ByteArray) (c q : Nat) (v : Value) (J : Nat → Value) : Array Value :=
  #[.string s, J 1, J 2, J 3, J 4, .chan (some c), .chan (some q), v, J 8, J 9, J 10, J 11, J 12, J 13, J 14, J 15, J 16, J 17, .chan (some c), J 19, J 20, J 21, J 22, J 23, J 24, J 25, J 26, J 27, J 28, J 29, J 30, J 31, J 32, J 33, J 34, J 35]
/-- An item is there. -/
def gotFrame (s : ByteArray) (c q : Nat) (v x : Value) (J : Nat → Value) : Array Value :=
  #[.string s, J 1, J 2, J 3, J 4, .chan (some c), .chan (some q), v, J 8, J 9, J 10, J 11, J 12, J 13, J 14, J 15, J 16, J 17, .chan (some c), J 19, J 20, x, J 22, J 23, J 24, J 25, J 26, J 27, J 28, J 29, J 30, J 31, J 32, J 33, J 34, J 35]
/-- It lies in its variable. -/
def xFrame (s : ByteArray) (c q : Nat) (v : Value) (xb : Nat) (J : Nat → Value) : Array Value :=
  #[.string s, J 1, J 2, J 3, J 4, .chan (some c), .chan (some q), v, .pointer (some ⟨xb, 0, none⟩), J 9, J 10, J 11, J 12, J 13, J 14, J 15, J 16, J 17, .chan (some c), J 19, J 20, J 21, J 22, J 23, J 24, J 25, J 26, J 27, J 28, J 29, J 30, J 31, J 32, J 33, J 34, J 35]

section
variable {d : Deal} {o : Option Nat} {L : List (Nat × Obj)} {w0 : World} {v : Value} {n : Nat} {xs : List Value} {df : List Deferred} {b : Frame} {kk : List Item} {cs : List Frame} {Stop : Goroutine → World → Prop}

abbrev MX (d : Deal) (L : List (Nat × Obj)) (w0 : World) (v : Value) (n : Nat) (xs : List Value) (o : Option Nat) (w : World) : Prop := MH d T0 31 3 L w0 v n xs o w

set_option maxRecDepth 100000 in
/-- The receive. -/
theorem rcv_step (s : ByteArray) (c q : Nat) (J : Nat → Value) (hbk : b.kind ≠ .early) (w : World) :
    stepG Try.prog true (G (b.at ⟨lexFrame s c q v J, df⟩ (.inRegion rcvOps [0, 1] :: kk)) cs) w =
      .comm (G (b.at ⟨lexFrame s c q v J, df⟩ (.inRegion rcvOps [0, 1] :: kk)) cs) #[rcase c zItem] true (.recv true) w #[] := by
  have ho : rcvOps[0]? = some { dst := some 19, op := .recv 70 (.tmp 18) true, type := 0, pos := "lexer.go:101", after := #[], guard := none } := by rfl
  have he1 : (⟨lexFrame s c q v J, df⟩ : Act).eval (.tmp 18) = .chan (some c) := rfl
  have hr : (execOp (⟨lexFrame s c q v J, df⟩ : Act).eval { dst := some 19, op := .recv 70 (.tmp 18) true, type := 0, pos := "lexer.go:101", after := #[], guard := none }).run Try.prog w = .ok (.comm #[rcase c zItem] true (.recv true)) w := by
    unfold execOp
    simp [rcase, he1, zItem, itemCells]
  have hl : (execOp (⟨lexFrame s c q v J, df⟩ : Act).eval { dst := some 19, op := .recv 70 (.tmp 18) true, type := 0, pos := "lexer.go:101", after := #[], guard := none }).events Try.prog w #[] = #[] := by
    unfold execOp
    simp
  rw [stepG_comm ho (by rfl) hbk hr, listed_nil hl]

/-- What it leaves. -/
theorem rcv_done (s : ByteArray) (c q : Nat) (x : Value) (ok : Bool) (J : Nat → Value) :
    (G (b.at ⟨lexFrame s c q v J, df⟩ (.inRegion rcvOps [0, 1] :: kk)) cs).finishComm Try.prog #[rcase c zItem] (.recv true) 0 x ok =
      G (b.at ⟨(lexFrame s c q v J).setIfInBounds 19 (.tuple #[x, .bool ok]), df⟩ (.inRegion rcvOps [1] :: kk)) cs := by
  have ho : (rcvOps[0]?).bind (·.dst) = some 19 := by rfl
  have hr : commResult #[rcase c zItem] (.recv true) 0 x ok = .tuple #[x, .bool ok] := by rfl
  simp only [Goroutine.finishComm, G, hr, Frame.finish_at, ho]
  rfl

set_option maxRecDepth 100000 in
set_option maxHeartbeats 4000000 in
theorem rcv_post (s : ByteArray) (c q : Nat) (x : Value) (J : Nat → Value) (w : World) (hF : MX d L w0 v n xs o w) :
    OpsC Try.prog true (Rely d T0 o) (Lx.Does d T0 o) 14 rcvOps [1] 10
      (Exit.then (fun a' w' => ∃ J', a' = ⟨((lexFrame s c q v J').setIfInBounds 19 (.tuple #[x, .bool true])).setIfInBounds 20 (.bool true), df⟩ ∧ MX d L w0 v n xs o w') (fun _ _ _ => False))
      ⟨(lexFrame s c q v J).setIfInBounds 19 (.tuple #[x, .bool true]), df⟩ w := by
  have he : rcvOps = opsOf (fstOf lexRound) := rfl
  rw [he]
  clear he
  unfold lexRound lexLoop lexAfter lexWork lexText
  simp only [Try.f14, Option.getD_some, fstOf, sndOf, inOf, opsOf, lexFrame, List.setIfInBounds_toArray, List.set_cons_succ, List.set_cons_zero]
  co_apply opsC_more
  · co_op MH.rely hF (co_quiet terms)
    co_apply opsC_nil terms
    co_then
    exact frame_ex (by rfl) hF
  · decide

set_option maxRecDepth 100000 in
set_option maxHeartbeats 4000000 in
theorem rcv_test (s : ByteArray) (c q : Nat) (x : Value) (J : Nat → Value) (w : World) (hF : MX d L w0 v n xs o w) :
    Code.wpC Try.prog true (Rely d T0 o) (Lx.Does d T0 o) 14 (fstOf (sndOf lexRound)) 100
      (Exit.then (fun a' w' => ∃ J', a' = ⟨(lexFrame s c q v J').setIfInBounds 19 (.tuple #[x, .bool true]), df⟩ ∧ MX d L w0 v n xs o w') (fun _ _ _ => False))
      ⟨((lexFrame s c q v J).setIfInBounds 19 (.tuple #[x, .bool true])).setIfInBounds 20 (.bool true), df⟩ w := by
  unfold lexRound lexLoop lexAfter lexWork lexText
  simp only [Try.f14, Option.getD_some, fstOf, sndOf, inOf, lexFrame, List.setIfInBounds_toArray, List.set_cons_succ, List.set_cons_zero]
  co_apply wpC_more
  · skip
    co_apply wpC_cond (t := true) terms rfl
    simp only [if_true]
    co_ctl terms
    co_then
    exact frame_ex (by rfl) hF
  · decide


set_option maxRecDepth 100000 in
set_option maxHeartbeats 4000000 in
/-- From the receive to the variable. -/
theorem to_x (s : ByteArray) (c q : Nat) (x : Value) (J : Nat → Value) (hbf : b.fn = 14) (hbk : b.kind ≠ .early) (w : World) (hF : MX d L w0 v n xs o w)
    (hS : ∀ J w₁, MX d L w0 v n xs o w₁ → Stop (G (b.at ⟨gotFrame s c q v x J, df⟩ (.inRegion xOps [1, 2] :: .code (.seq (fstOf (sndOf lexItem)) (sndOf (sndOf lexItem))) :: .inBlock 1 :: kk)) cs) w₁) :
    Goes Try.prog true (Rely d T0 o) (Lx.Does d T0 o) Stop 200 (G (b.at ⟨(lexFrame s c q v J).setIfInBounds 19 (.tuple #[x, .bool true]), df⟩ (.inRegion rcvOps [1] :: .code (.seq (fstOf (sndOf lexRound)) (.block 1 (.seq (.region 9 xOps false) (.seq (fstOf (sndOf lexItem)) (sndOf (sndOf lexItem)))))) :: kk)) cs) w := by
  refine Goes.mono (goes_ops (m := 150) (rcv_post s c q x J w hF) hbf hbk ?_) (by decide)
  rintro e a' w' h
  cases e with
  | normal =>
    clear hF
    obtain ⟨J', rfl, hF⟩ := h
    refine Goes.mono (goes_seq terms (goes_code (m := 10) (rcv_test s c q x J' w' hF) hbf hbk ?_)) (by decide)
    rintro e a' w' h
    cases e with
    | normal =>
      clear hF
      obtain ⟨J', rfl, hF⟩ := h
      refine Goes.mono (n := 1 + 1 + 1 + 1) (n' := 10) (goes_block terms (goes_seq terms (goes_region terms ?_))) (by decide)
      have he : xOps = opsOf (fstOf lexItem) := rfl
      rw [he] at hS ⊢
      generalize hg : Code.seq (fstOf (sndOf lexItem)) (sndOf (sndOf lexItem)) = rest at hS ⊢
      clear hg he
      unfold lexItem lexRound lexLoop lexAfter lexWork lexText at hS ⊢
      simp only [Try.f14, Option.getD_some, fstOf, sndOf, inOf, opsOf, lexFrame, List.setIfInBounds_toArray, List.set_cons_succ, List.set_cons_zero, List.size_toArray, List.length_cons, List.length_nil, Nat.reduceAdd, Nat.zero_add, List.range, List.range.loop] at hS ⊢
      co_apply goes_op rfl (by rfl) hbk
      intro _ hR K hK
      replace hF := MH.rely hF hR
      clear hR
      go_simp
      refine hK _ _ ⟨?_, ?_⟩
      · co_quiet terms
      clear hK K
      try walk_nrm
      exact goes_stop fun w₁ hR => stop_ex hS (by rfl) w₁ (MH.rely hF hR)
    | _ => exact h.elim
  | _ => exact h.elim

/-- The variable is made. -/
theorem x_step (s : ByteArray) (c q : Nat) (x : Value) (J : Nat → Value) (hbk : b.kind ≠ .early) (w : World) :
    ∃ es, stepG Try.prog true (G (b.at ⟨gotFrame s c q v x J, df⟩ (.inRegion xOps [1, 2] :: kk)) cs) w =
      .go (G (b.at ⟨(gotFrame s c q v x J).setIfInBounds 8 (.pointer (some ⟨w.heap.size, 0, none⟩)), df⟩ (.inRegion xOps [2] :: kk)) cs) (w.alloc (.cells (itemCells 0 0 ⟨#[]⟩ 0) 74 (0, 0))) es ∧ ∀ e ∈ es, EvOk d T0 (some w.heap.size) (w.alloc (.cells (itemCells 0 0 ⟨#[]⟩ 0) 74 (0, 0))) e := by
  have ho : xOps[1]? = some { dst := some 8, op := .alloc 74, type := 0, pos := "lexer.go:101", after := #[], guard := none } := by rfl
  refine ⟨_, stepG_value ho (by rfl) hbk (v := .pointer (some ⟨w.heap.size, 0, none⟩)) ?_, ?_⟩
  · refine run_ok_of fun K hK => ?_
    go_simp
    exact hK
  · rw [listed_nil (by simp [go_sem])]
    simp
end
end Go.Proofs.Ytjnoffgclibfaaa
