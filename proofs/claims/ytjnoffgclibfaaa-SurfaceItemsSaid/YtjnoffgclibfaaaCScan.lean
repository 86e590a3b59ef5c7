/- In company: scan, piece by piece. -/
import Derived.Test.YtjnoffgclibfaaaCFind
import Derived.Test.YtjnoffgclibfaaaLxE
set_option linter.unusedSimpArgs false
set_option linter.unusedVariables false
namespace Go.Proofs.Ytjnoffgclibfaaa
open Go.Conc Go.Lx

/-- What stands behind the box. -/
noncomputable def scanRest : Code := sndOf scanItem
noncomputable def opsOf : Code → Array Oper
  | .region _ ops _ => ops
  | _ => #[]
noncomputable def boxOps : Array Oper := opsOf (fstOf scanItem)
/-- What stands behind the look for a rule. -/
noncomputable def scanMore : Code := sndOf scanRest
noncomputable def scanTest : Code := fstOf (sndOf scanMore)
noncomputable def scanSend : Code := sndOf (sndOf scanMore)
noncomputable def selOps : Array Oper := opsOf (fstOf (sndOf (fstOf scanSend)))

/-- The frame at a round's head. -/
def headFrame (s : ByteArray) (c q b0 k : Nat) (J : Nat → Value) : Array Value :=
  #[.string s, .chan (some c), .chan (some q), J 3, J 4, J 5, .slice (some ⟨b0, 0, none⟩) 5 5, .int .i64 (k : Int), J 8, J 9, J 10, J 11, J 12, J 13, J 14, J 15, J 16, J 17, J 18, J 19, J 20, J 21, J 22, J 23, J 24, J 25, J 26, J 27, J 28, J 29, J 30, J 31, J 32, J 33, J 34, J 35, J 36, J 37, J 38, J 39, J 40, J 41, J 42, J 43, J 44, J 45, J 46, J 47, J 48, J 49, J 50, J 51, J 52, J 53, J 54, J 55, J 56, J 57, J 58, J 59, J 60, J 61, J 62, J 63, J 64, J 65, J 66, J 67, J 68, J 69, J 70, J 71, J 72, J 73, J 74, J 75]
def boxFrame (s : ByteArray) (c q b0 k : Nat) (J : Nat → Value) : Array Value :=
  #[.string s, .chan (some c), .chan (some q), J 3, J 4, J 5, .slice (some ⟨b0, 0, none⟩) 5 5, .int .i64 (k : Int), J 8, J 9, J 10, J 11, J 12, J 13, J 14, J 15, J 16, J 17, J 18, J 19, .agg #[.int .i64 0, .int .i64 (k : Int), .string ⟨#[]⟩, .int .i64 60], J 21, J 22, J 23, J 24, J 25, J 26, J 27, J 28, J 29, J 30, J 31, J 32, J 33, J 34, J 35, J 36, J 37, J 38, J 39, J 40, J 41, J 42, J 43, J 44, J 45, J 46, J 47, J 48, J 49, J 50, J 51, J 52, J 53, J 54, J 55, J 56, J 57, J 58, J 59, J 60, J 61, J 62, J 63, J 64, J 65, J 66, J 67, J 68, J 69, J 70, J 71, J 72, J 73, J 74, J 75]

theorem scanRound_eq : scanRound = .seq (fstOf scanRound) (.block 1 (.seq (.region 4 boxOps false) scanRest)) := by
  rfl

section
variable {d : Deal} {T : TypeId → Prop} {o : Option Nat} {L : List (Nat × Obj)} {b0 xb : Nat} {df : List Deferred}

set_option maxRecDepth 100000 in
set_option maxHeartbeats 4000000 in
theorem head_in (s : ByteArray) (c q k : Nat) (J : Nat → Value) (hk : k < s.size) (w : World) (hF : Holds d T o L w) :
    Code.wpC Try.prog false (Rely d T o) (Lx.Does d T o) 37 (fstOf scanRound) 100
      (Exit.then (fun a' w' => ∃ J', a' = ⟨headFrame s c q b0 k J', df⟩ ∧ Holds d T o L w') (fun _ _ _ => False)) ⟨headFrame s c q b0 k J, df⟩ w := by
  have hin : (k : Int) < s.size := by omega
  have hdk : decide ((k : Int) < s.size) = true := by simp; omega
  unfold scanRound scanText
  simp only [Try.f37, Option.getD_some, fstOf, sndOf, inOf, headFrame]
  co_apply wpC_more
  · co_apply wpC_seq terms
    co_reg terms
    co_op Holds.rely hF (co_quiet terms)
    co_op Holds.rely hF (co_quiet terms)
    co_opw Holds.rely hF (skip) (rw [listed_nil (by simp [go_sem, ev_len_string _ _ _ Try.underlying9])]; exact Terms.idle terms _)
    co_op Holds.rely hF (co_quiet terms)
    co_apply opsC_nil terms
    co_then
    co_apply wpC_cond (t := true) terms rfl
    simp only [if_true]
    co_ctl terms
    co_then
    exact frame_ex (by rfl) hF
  · decide

set_option maxRecDepth 100000 in
set_option maxHeartbeats 4000000 in
theorem head_out (s : ByteArray) (c q k : Nat) (J : Nat → Value) (hk : k = s.size) (w : World) (hF : Holds d T o L w) :
    Code.wpC Try.prog false (Rely d T o) (Lx.Does d T o) 37 (fstOf scanRound) 100
      (Exit.then (fun _ _ => False) (fun e a' w' => e = .exit 0 ∧ ∃ J', a' = ⟨headFrame s c q b0 k J', df⟩ ∧ Holds d T o L w')) ⟨headFrame s c q b0 k J, df⟩ w := by
  subst hk
  unfold scanRound scanText
  simp only [Try.f37, Option.getD_some, fstOf, sndOf, inOf, headFrame]
  co_apply wpC_more
  · co_apply wpC_seq terms
    co_reg terms
    co_op Holds.rely hF (co_quiet terms)
    co_op Holds.rely hF (co_quiet terms)
    co_opw Holds.rely hF (skip) (rw [listed_nil (by simp [go_sem, ev_len_string _ _ _ Try.underlying9])]; exact Terms.idle terms _)
    co_op Holds.rely hF (co_quiet terms)
    co_apply opsC_nil terms
    co_then
    co_apply wpC_cond (t := false) terms rfl
    simp only [Bool.false_eq_true, if_false]
    co_ctl terms
    co_then
    exact ⟨trivial, frame_ex (by rfl) hF⟩
  · decide
end

section
variable {d : Deal} {T : TypeId → Prop} {o : Option Nat} {L : List (Nat × Obj)} {b0 xb : Nat} {df : List Deferred} {b : Frame} {kk : List Item} {cs : List Frame} {Stop : Goroutine → World → Prop}

theorem run_ok_of {r : Result Next} {v : Value} {w : World} (h : ∀ K : Result Next → Prop, K (.ok (.value v) w) → K r) : r = .ok (.value v) w := h (· = .ok (.value v) w) rfl

theorem stop_ex {A : Array Value} {F : (Nat → Value) → Array Value} {Pr : World → Prop} {k : List Item} {cs : List Frame} (hS : ∀ J w₁, Pr w₁ → Stop (G (b.at ⟨F J, df⟩ k) cs) w₁) (h : A = F fun n => A.getD n undef) (w₁ : World) (hp : Pr w₁) :
    Stop (G (b.at ⟨A, df⟩ k) cs) w₁ := by
  have := hS (fun n => A.getD n undef) w₁ hp
  rw [← h] at this
  exact this


set_option maxRecDepth 100000 in
set_option maxHeartbeats 4000000 in
/-- From a round's head to the box. -/
theorem to_box (s : ByteArray) (c q k : Nat) (J : Nat → Value) (hk : k < s.size) (hbf : b.fn = 37) (hbk : b.kind ≠ .early) (w : World) (hF : Holds d T o L w)
    (hS : ∀ J w₁, Holds d T o L w₁ → Stop (G (b.at ⟨boxFrame s c q b0 k J, df⟩ (.inRegion boxOps [3, 4] :: .code scanRest :: .inBlock 1 :: kk)) cs) w₁) :
    Goes Try.prog false (Rely d T o) (Lx.Does d T o) Stop 120 (G (b.at ⟨headFrame s c q b0 k J, df⟩ (.code scanRound :: kk)) cs) w := by
  rw [scanRound_eq]
  refine Goes.mono (goes_seq terms (goes_code (m := 10) (head_in s c q k J hk w hF) hbf hbk ?_)) (by decide)
  rintro e a' w' h
  cases e with
  | normal =>
    clear hF
    obtain ⟨J', rfl, hF⟩ := h
    refine Goes.mono (n := 3 + 1 + 1 + 1) (n' := 10) (goes_block terms (goes_seq terms (goes_region terms ?_))) (by decide)
    have he : boxOps = opsOf (fstOf scanItem) := rfl
    rw [he] at hS ⊢
    unfold scanItem scanRound scanText at hS ⊢
    simp only [Try.f37, Option.getD_some, fstOf, sndOf, inOf, opsOf, headFrame, List.size_toArray, List.length_cons, List.length_nil, Nat.reduceAdd, Nat.zero_add, List.range, List.range.loop] at hS ⊢
    co_apply goes_op rfl (by rfl) hbk
    intro _ hR K hK
    replace hF := Holds.rely hF hR
    clear hR
    go_simp
    refine hK _ _ ⟨?_, ?_⟩
    · co_quiet terms
    clear hK K
    try walk_nrm
    co_apply goes_op rfl (by rfl) hbk
    intro _ hR K hK
    replace hF := Holds.rely hF hR
    clear hR
    go_simp
    refine hK _ _ ⟨?_, ?_⟩
    · co_quiet terms
    clear hK K
    try walk_nrm
    co_apply goes_op rfl (by rfl) hbk
    intro _ hR K hK
    replace hF := Holds.rely hF hR
    clear hR
    go_simp
    refine hK _ _ ⟨?_, ?_⟩
    · co_quiet terms
    clear hK K
    try walk_nrm
    exact goes_stop fun w₁ hR => stop_ex hS (by rfl) w₁ (Holds.rely hF hR)
  | _ => exact h.elim

/-- The box is made. -/
theorem box_step (s : ByteArray) (c q k : Nat) (J : Nat → Value) (hbk : b.kind ≠ .early) (w : World) :
    ∃ es, stepG Try.prog false (G (b.at ⟨boxFrame s c q b0 k J, df⟩ (.inRegion boxOps [3, 4] :: kk)) cs) w =
      .go (G (b.at ⟨(boxFrame s c q b0 k J).setIfInBounds 8 (.pointer (some ⟨w.heap.size, 0, none⟩)), df⟩ (.inRegion boxOps [4] :: kk)) cs) (w.alloc (.cells #[.int .i64 0, .int .i64 0, .string ⟨#[]⟩, .int .i64 0] 74 (0, 0))) es ∧ ∀ e ∈ es, EvOk d T (some w.heap.size) (w.alloc (.cells #[.int .i64 0, .int .i64 0, .string ⟨#[]⟩, .int .i64 0] 74 (0, 0))) e := by
  have ho : boxOps[3]? = some { dst := some 8, op := .alloc 74, type := 0, pos := "lexer.go:69", after := #[], guard := none } := by rfl
  refine ⟨_, stepG_value ho (by rfl) hbk (v := .pointer (some ⟨w.heap.size, 0, none⟩)) ?_, ?_⟩
  · refine run_ok_of fun K hK => ?_
    go_simp
    exact hK
  · rw [listed_nil (by simp [go_sem])]
    simp
end
end Go.Proofs.Ytjnoffgclibfaaa
