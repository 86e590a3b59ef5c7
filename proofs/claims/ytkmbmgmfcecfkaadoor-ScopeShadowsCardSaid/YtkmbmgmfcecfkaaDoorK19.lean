/- Part 19 of what the proof rests on. -/
import Derived.Test.YtkmbmgmfcecfkaaDoorK11
import Derived.Test.YtkmbmgmfcecfkaaDoorK18
set_option linter.unusedSimpArgs false
set_option linter.unusedVariables false
namespace Go.Proofs.YtkmbmgmfcecfkaaDoor
open Go.Conc Go.Lx
section
variable {d : Deal} {T : TypeId → Prop} {o : Option Nat} {b0 b1 b2 b3 b4 b5 b6 b7 xb : Nat} {df : List Deferred}
theorem wish_is (L : List (Nat × Obj)) (b : Nat) (l : List UInt8) (hb : (b, Obj.cells #[.string ⟨l.toArray⟩] 9 (0, 0)) ∈ L) : Wish false d T o L 54 #[.pointer (some ⟨b, 0, none⟩)] (inB l) :=
  fun c w hF => is1_c (s := ⟨l.toArray⟩) hb c w hF
theorem far_while (L : List (Nat × Obj)) (b : Nat) {f : FuncId} {caps : Array Value} {p : UInt8 → Bool} (hW : Wish false d T o L f caps p) (hb : (b, Obj.cells #[.func (.func f) #[] caps] 36 (0, 0)) ∈ L) :
    GoesFar d T o L 56 #[.pointer (some ⟨b, 0, none⟩)] (many p) :=
  fun s w hs hF => while1_c hW hb s hs w hF
theorem far_one (L : List (Nat × Obj)) : GoesFar d T o L 47 #[] (fun _ => 1) :=
  fun s w _ hF => Go.Lx.CallsC.more (one_c (.string s) w hF) (by omega)
structure Rule (d : Deal) (T : TypeId → Prop) (o : Option Nat) (b0 b1 b2 b3 b4 b5 b6 b7 i : Nat) (f g : FuncId) (caps gcaps : Array Value) : Prop where
  r0 : (ruleCells b1 b2 b3 b4 b5 b6 b7)[i * 3]? = some (.func (.func f) #[] caps)
  r1 : (ruleCells b1 b2 b3 b4 b5 b6 b7)[i * 3 + 1]? = some (.func (.func g) #[] gcaps)
  r2 : (ruleCells b1 b2 b3 b4 b5 b6 b7)[i * 3 + 2]? = some (.int .i64 (kindN i))
  wish : ∀ L, (∀ p ∈ ruleList b0 b1 b2 b3 b4 b5 b6 b7 [], p ∈ L) → Wish false d T o L f caps (begB i)
  far : ∀ L, (∀ p ∈ ruleList b0 b1 b2 b3 b4 b5 b6 b7 [], p ∈ L) → GoesFar d T o L g gcaps (goN i)
theorem rule_of (d : Deal) (T : TypeId → Prop) (o : Option Nat) (b0 b1 b2 b3 b4 b5 b6 b7 i : Nat) (hi : i < 5) : ∃ f g caps gcaps, Rule d T o b0 b1 b2 b3 b4 b5 b6 b7 i f g caps gcaps := by
  have hword : ∀ L, Wish false d T o L 45 #[] wordB := fun L c w hF => word_c c w hF
  have hline : ∀ L, Wish false d T o L 48 #[] (fun c => (c.toNat : Int) != 10) := fun L c w hF => line_c c w hF
  match i, hi with
  | 0, _ => exact ⟨_, _, _, _, rfl, rfl, rfl, fun L _ => hword L, fun L hL => far_while L b2 (hword L) (hL _ (by simp [ruleList]))⟩
  | 1, _ => exact ⟨_, _, _, _, rfl, rfl, rfl, fun L hL => wish_is L b1 _ (hL _ (by simp [ruleList])), fun L hL => far_while L b3 (wish_is L b1 _ (hL _ (by simp [ruleList]))) (hL _ (by simp [ruleList]))⟩
  | 2, _ => exact ⟨_, _, _, _, rfl, rfl, rfl, fun L hL => wish_is L b4 _ (hL _ (by simp [ruleList])), fun L hL => far_one L⟩
  | 3, _ => exact ⟨_, _, _, _, rfl, rfl, rfl, fun L hL => wish_is L b5 _ (hL _ (by simp [ruleList])), fun L hL => far_one L⟩
  | 4, _ => exact ⟨_, _, _, _, rfl, rfl, rfl, fun L hL => wish_is L b6 _ (hL _ (by simp [ruleList])), fun L hL => far_while L b7 (hline L) (hL _ (by simp [ruleList]))⟩
def First (i : Nat) (c : UInt8) : Prop := i < 5 ∧ begB i c = true ∧ ∀ j, j < i → begB j c = false
def slot23 (a : Act) : Nat := match a.tmps.getD 23 undef with | .int _ n => (5 - n).toNat | _ => 0
theorem slot23_of (s : ByteArray) (c q k : Nat) (i : Nat) (J : Nat → Value) : slot23 ⟨scanFrame s c q b0 k xb i J, df⟩ = 5 - i := by
  have : (scanFrame s c q b0 k xb i J).getD 23 undef = .int .i64 i := rfl
  simp only [slot23, this]
  omega
theorem find_loop {x : Array Value} (s : ByteArray) (c q k i0 m : Nat) (J : Nat → Value) (hk : k < s.size) (hs : s.size ≤ 1000000) (hT95 : T 95) (hxs : x.size = 4)
    (hf : First i0 (s[k]'hk)) (hme : goN i0 (s.data.toList.drop k) = m) (hmn : k + m ≤ s.size) (hxL : ∀ p ∈ ruleList b0 b1 b2 b3 b4 b5 b6 b7 [], p.1 ≠ xb)
    (w : World) (hF : Holds d T (some xb) ((xb, Obj.cells x 71 (0, 0)) :: ruleList b0 b1 b2 b3 b4 b5 b6 b7 []) w) :
    Code.wpC Tryd.prog false (Rely d T (some xb)) (Lx.Does d T (some xb)) 23 (.block 2 (.loop findRound)) 10000000000000
      (Exit.then (fun a' w' => ∃ J', a' = ⟨scanFrame s c q b0 k xb i0 J', df⟩ ∧
        Holds d T (some xb) ((xb, Obj.cells #[.int .i64 (kindN i0), .int .i64 (k : Int), .string (s.extract k (k + m)), .int .i64 0] 71 (0, 0)) :: ruleList b0 b1 b2 b3 b4 b5 b6 b7 []) w') (fun _ _ _ => False)) ⟨scanFrame s c q b0 k xb 0 J, df⟩ w := by
  obtain ⟨h5, hy, hn⟩ := hf
  have hmem : (b0, Obj.cells (ruleCells b1 b2 b3 b4 b5 b6 b7) 95 (0, 0)) ∈ ruleList b0 b1 b2 b3 b4 b5 b6 b7 [] := by simp [ruleList]
  have hsub : ∀ (b : Nat) (y : Obj), ∀ p ∈ ruleList b0 b1 b2 b3 b4 b5 b6 b7 [], p ∈ (b, y) :: (xb, Obj.cells x 71 (0, 0)) :: ruleList b0 b1 b2 b3 b4 b5 b6 b7 [] := fun b y p hp => List.mem_cons_of_mem _ (List.mem_cons_of_mem _ hp)
  refine wpC_more (wpC_block terms (wpC_loop terms (fun a w => ∃ i J, i ≤ i0 ∧ a = ⟨scanFrame s c q b0 k xb (i : Nat) J, df⟩ ∧ Holds d T (some xb) ((xb, Obj.cells x 71 (0, 0)) :: ruleList b0 b1 b2 b3 b4 b5 b6 b7 []) w) (fun a _ => slot23 a) 1000000000000 5 ⟨0, J, Nat.zero_le _, rfl, hF⟩ ?_ ?_)) (by decide)
  · have := slot23_of (df := df) (b0 := b0) (xb := xb) s c q k 0 J
    exact Nat.le_of_eq this
  · rintro a w ⟨i, J, hi, rfl, hF⟩
    rcases Nat.lt_or_ge i i0 with hlt | hge
    · obtain ⟨f, g, caps, gcaps, hr⟩ := rule_of d T (some xb) b0 b1 b2 b3 b4 b5 b6 b7 i (by omega)
      refine wpC_more (wpC_mono (find_no (p := begB i) s c q k i J hk (by omega) hT95 (List.mem_cons_of_mem _ hmem) hr.r0 hr.r1 hr.r2 (fun b y => hr.wish _ (hsub b y)) (hn i hlt) w hF) ?_) (by decide)
      rintro e a' w' h
      cases e with
      | normal =>
        obtain ⟨J', rfl, hF'⟩ := h
        refine ⟨⟨i + 1, J', hlt, rfl, hF'⟩, ?_⟩
        show slot23 _ < slot23 _
        rw [slot23_of, slot23_of]
        omega
      | _ => exact h.elim
    · obtain rfl : i = i0 := by omega
      obtain ⟨f, g, caps, gcaps, hr⟩ := rule_of d T (some xb) b0 b1 b2 b3 b4 b5 b6 b7 i h5
      refine wpC_mono (find_yes (p := begB i) s c q k i J hk hs h5 hT95 hxs hmem hxL hr.r0 hr.r1 hr.r2 (fun b y => hr.wish _ (hsub b y)) (fun b y => hr.far _ (hsub b y)) hy (Lib.hid hme) hmn w hF) ?_
      rintro e a' w' h
      cases e with
      | normal => exact h.elim
      | exit id =>
        obtain ⟨he, J', rfl, hF'⟩ := h
        cases he
        exact ⟨J', rfl, hF'⟩
      | ret => cases h.1
      | goto l => cases h.1
      | panic ch => cases h.1
      | outgrown => cases h.1
end
end Go.Proofs.YtkmbmgmfcecfkaaDoor
namespace Go.Proofs.YtkmbmgmfcecfkaaDoor
open Go.Conc Go.Lx
noncomputable def scanRest : Code := sndOf scanItem
noncomputable def opsOf : Code → Array Oper
  | .region _ ops _ => ops
  | _ => #[]
noncomputable def boxOps : Array Oper := opsOf (fstOf scanItem)
noncomputable def scanMore : Code := sndOf scanRest
noncomputable def scanTest : Code := fstOf (sndOf scanMore)
noncomputable def scanSend : Code := sndOf (sndOf scanMore)
noncomputable def selOps : Array Oper := opsOf (fstOf (sndOf (fstOf scanSend)))
def headFrame (s : ByteArray) (c q b0 k : Nat) (J : Nat → Value) : Array Value :=
  #[.string s, .chan (some c), .chan (some q), J 3, J 4, J 5, .slice (some ⟨b0, 0, none⟩) 5 5, .int .i64 (k : Int), J 8, J 9, J 10, J 11, J 12, J 13, J 14, J 15, J 16, J 17, J 18, J 19, J 20, J 21, J 22, J 23, J 24, J 25, J 26, J 27, J 28, J 29, J 30, J 31, J 32, J 33, J 34, J 35, J 36, J 37, J 38, J 39, J 40, J 41, J 42, J 43, J 44, J 45, J 46, J 47, J 48, J 49, J 50, J 51, J 52, J 53, J 54, J 55, J 56, J 57, J 58, J 59, J 60, J 61, J 62, J 63, J 64, J 65, J 66, J 67, J 68, J 69, J 70, J 71, J 72, J 73, J 74, J 75]
def boxFrame (s : ByteArray) (c q b0 k : Nat) (J : Nat → Value) : Array Value :=
  #[.string s, .chan (some c), .chan (some q), J 3, J 4, J 5, .slice (some ⟨b0, 0, none⟩) 5 5, .int .i64 (k : Int), J 8, J 9, J 10, J 11, J 12, J 13, J 14, J 15, J 16, J 17, J 18, J 19, .agg #[.int .i64 0, .int .i64 (k : Int), .string ⟨#[]⟩, .int .i64 60], J 21, J 22, J 23, J 24, J 25, J 26, J 27, J 28, J 29, J 30, J 31, J 32, J 33, J 34, J 35, J 36, J 37, J 38, J 39, J 40, J 41, J 42, J 43, J 44, J 45, J 46, J 47, J 48, J 49, J 50, J 51, J 52, J 53, J 54, J 55, J 56, J 57, J 58, J 59, J 60, J 61, J 62, J 63, J 64, J 65, J 66, J 67, J 68, J 69, J 70, J 71, J 72, J 73, J 74, J 75]
theorem scanRound_eq : scanRound = .seq (fstOf scanRound) (.block 1 (.seq (.region 4 boxOps false) scanRest)) := by
  rfl
section
variable {d : Deal} {T : TypeId → Prop} {o : Option Nat} {L : List (Nat × Obj)} {b0 xb : Nat} {df : List Deferred}
set_option maxRecDepth 100000 in
set_option maxHeartbeats 4000000 in
theorem head_in (s : ByteArray) (c q k : Nat) (J : Nat → Value) (hk : k < s.size) (w : World) (hF : Holds d T o L w) :
    Code.wpC Tryd.prog false (Rely d T o) (Lx.Does d T o) 23 (fstOf scanRound) 100
      (Exit.then (fun a' w' => ∃ J', a' = ⟨headFrame s c q b0 k J', df⟩ ∧ Holds d T o L w') (fun _ _ _ => False)) ⟨headFrame s c q b0 k J, df⟩ w := by
  have hin : (k : Int) < s.size := by omega
  have hdk : decide ((k : Int) < s.size) = true := by simp; omega
  unfold scanRound scanText
  simp only [Tryd.f23, Option.getD_some, fstOf, sndOf, inOf, headFrame]
  co_apply wpC_more
  · co_apply wpC_seq terms
    co_reg terms
    co_op Holds.rely hF (co_quiet terms)
    co_op Holds.rely hF (co_quiet terms)
    co_opw Holds.rely hF (skip) (rw [listed_nil (by simp [go_sem, ev_len_string _ _ _ Tryd.underlying9])]; exact Terms.idle terms _)
    co_op Holds.rely hF (co_quiet terms)
    co_apply opsC_nil terms
    co_then
    co_apply wpC_cond (t := true) terms rfl
    simp only [if_true]
    co_ctl terms
    co_then
    exact frame_ex (by rfl) hF
  · decide
set_option maxRecDepth 100000 in
set_option maxHeartbeats 4000000 in
theorem head_out (s : ByteArray) (c q k : Nat) (J : Nat → Value) (hk : k = s.size) (w : World) (hF : Holds d T o L w) :
    Code.wpC Tryd.prog false (Rely d T o) (Lx.Does d T o) 23 (fstOf scanRound) 100
      (Exit.then (fun _ _ => False) (fun e a' w' => e = .exit 0 ∧ ∃ J', a' = ⟨headFrame s c q b0 k J', df⟩ ∧ Holds d T o L w')) ⟨headFrame s c q b0 k J, df⟩ w := by
  subst hk
  unfold scanRound scanText
  simp only [Tryd.f23, Option.getD_some, fstOf, sndOf, inOf, headFrame]
  co_apply wpC_more
  · co_apply wpC_seq terms
    co_reg terms
    co_op Holds.rely hF (co_quiet terms)
    co_op Holds.rely hF (co_quiet terms)
    co_opw Holds.rely hF (skip) (rw [listed_nil (by simp [go_sem, ev_len_string _ _ _ Tryd.underlying9])]; exact Terms.idle terms _)
    co_op Holds.rely hF (co_quiet terms)
    co_apply opsC_nil terms
    co_then
    co_apply wpC_cond (t := false) terms rfl
    simp only [Bool.false_eq_true, if_false]
    co_ctl terms
    co_then
    exact ⟨trivial, frame_ex (by rfl) hF⟩
  · decide
end
section
variable {d : Deal} {T : TypeId → Prop} {o : Option Nat} {L : List (Nat × Obj)} {b0 xb : Nat} {df : List Deferred} {b : Frame} {kk : List Item} {cs : List Frame} {Stop : Goroutine → World → Prop}
theorem run_ok_of {r : Result Next} {v : Value} {w : World} (h : ∀ K : Result Next → Prop, K (.ok (.value v) w) → K r) : r = .ok (.value v) w := h (· = .ok (.value v) w) rfl
theorem stop_ex {A : Array Value} {F : (Nat → Value) → Array Value} {Pr : World → Prop} {k : List Item} {cs : List Frame} (hS : ∀ J w₁, Pr w₁ → Stop (G (b.at ⟨F J, df⟩ k) cs) w₁) (h : A = F fun n => A.getD n undef) (w₁ : World) (hp : Pr w₁) :
    Stop (G (b.at ⟨A, df⟩ k) cs) w₁ := by
  have := hS (fun n => A.getD n undef) w₁ hp
  rw [← h] at this
  exact this
set_option maxRecDepth 100000 in
set_option maxHeartbeats 4000000 in
theorem to_box (s : ByteArray) (c q k : Nat) (J : Nat → Value) (hk : k < s.size) (hbf : b.fn = 23) (hbk : b.kind ≠ .early) (w : World) (hF : Holds d T o L w)
    (hS : ∀ J w₁, Holds d T o L w₁ → Stop (G (b.at ⟨boxFrame s c q b0 k J, df⟩ (.inRegion boxOps [3, 4] :: .code scanRest :: .inBlock 1 :: kk)) cs) w₁) :
    Goes Tryd.prog false (Rely d T o) (Lx.Does d T o) Stop 120 (G (b.at ⟨headFrame s c q b0 k J, df⟩ (.code scanRound :: kk)) cs) w := by
  rw [scanRound_eq]
  refine Goes.mono (goes_seq terms (goes_code (m := 10) (head_in s c q k J hk w hF) hbf hbk ?_)) (by decide)
  rintro e a' w' h
  cases e with
  | normal =>
    clear hF
    obtain ⟨J', rfl, hF⟩ := h
    refine Goes.mono (n := 3 + 1 + 1 + 1) (n' := 10) (goes_block terms (goes_seq terms (goes_region terms ?_))) (by decide)
    have he : boxOps = opsOf (fstOf scanItem) := rfl
    rw [he] at hS ⊢
    unfold scanItem scanRound scanText at hS ⊢
    simp only [Tryd.f23, Option.getD_some, fstOf, sndOf, inOf, opsOf, headFrame, List.size_toArray, List.length_cons, List.length_nil, Nat.reduceAdd, Nat.zero_add, List.range, List.range.loop] at hS ⊢
    co_apply goes_op rfl (by rfl) hbk
    intro _ hR K hK
    replace hF := Holds.rely hF hR
    clear hR
    go_simp
    refine hK _ _ ⟨?_, ?_⟩
    · co_quiet terms
    clear hK K
    try walk_nrm
    co_apply goes_op rfl (by rfl) hbk
    intro _ hR K hK
    replace hF := Holds.rely hF hR
    clear hR
    go_simp
    refine hK _ _ ⟨?_, ?_⟩
    · co_quiet terms
    clear hK K
    try walk_nrm
    co_apply goes_op rfl (by rfl) hbk
    intro _ hR K hK
    replace hF := Holds.rely hF hR
    clear hR
    go_simp
    refine hK _ _ ⟨?_, ?_⟩
    · co_quiet terms
    clear hK K
    try walk_nrm
    exact goes_stop fun w₁ hR => stop_ex hS (by rfl) w₁ (Holds.rely hF hR)
  | _ => exact h.elim
theorem box_step (s : ByteArray) (c q k : Nat) (J : Nat → Value) (hbk : b.kind ≠ .early) (w : World) :
    ∃ es, stepG Tryd.prog false (G (b.at ⟨boxFrame s c q b0 k J, df⟩ (.inRegion boxOps [3, 4] :: kk)) cs) w =
      .go (G (b.at ⟨(boxFrame s c q b0 k J).setIfInBounds 8 (.pointer (some ⟨w.heap.size, 0, none⟩)), df⟩ (.inRegion boxOps [4] :: kk)) cs) (w.alloc (.cells #[.int .i64 0, .int .i64 0, .string ⟨#[]⟩, .int .i64 0] 71 (0, 0))) es ∧ ∀ e ∈ es, EvOk d T (some w.heap.size) (w.alloc (.cells #[.int .i64 0, .int .i64 0, .string ⟨#[]⟩, .int .i64 0] 71 (0, 0))) e := by
  have ho : boxOps[3]? = some { dst := some 8, op := .alloc 71, type := 0, pos := "lexer.go:69", after := #[], guard := none } := by rfl
  refine ⟨_, stepG_value ho (by rfl) hbk (v := .pointer (some ⟨w.heap.size, 0, none⟩)) ?_, ?_⟩
  · refine run_ok_of fun K hK => ?_
    go_simp
    exact hK
  · rw [listed_nil (by simp [go_sem])]
    simp
end
end Go.Proofs.YtkmbmgmfcecfkaaDoor
namespace Go.Proofs.YtkmbmgmfcecfkaaDoor
open Go.Conc Go.Lx
def itemFrame (s : ByteArray) (c q b0 k xb : Nat) (J : Nat → Value) : Array Value :=
  #[.string s, .chan (some c), .chan (some q), J 3, J 4, J 5, .slice (some ⟨b0, 0, none⟩) 5 5, .int .i64 (k : Int), .pointer (some ⟨xb, 0, none⟩), J 9, J 10, J 11, J 12, J 13, J 14, J 15, J 16, J 17, J 18, J 19, J 20, J 21, J 22, J 23, J 24, J 25, J 26, J 27, J 28, J 29, J 30, J 31, J 32, J 33, J 34, J 35, J 36, J 37, J 38, J 39, J 40, J 41, J 42, J 43, J 44, J 45, J 46, J 47, J 48, J 49, J 50, J 51, J 52, J 53, J 54, J 55, J 56, J 57, J 58, J 59, J 60, J 61, J 62, J 63, J 64, J 65, J 66, J 67, J 68, J 69, J 70, J 71, J 72, J 73, J 74, J 75]
def itemCells (kd : Int) (k : Nat) (x : ByteArray) (e : Int) : Array Value := #[.int .i64 kd, .int .i64 (k : Int), .string x, .int .i64 e]
section
variable {d : Deal} {T : TypeId → Prop} {L : List (Nat × Obj)} {b0 xb : Nat} {df : List Deferred}
set_option maxRecDepth 100000 in
set_option maxHeartbeats 4000000 in
theorem box_store (s : ByteArray) (c q k : Nat) (J : Nat → Value) (hxL : ∀ p ∈ L, p.1 ≠ xb) (w : World) (hF : Holds d T (some xb) ((xb, Obj.cells (itemCells 0 0 ⟨#[]⟩ 0) 71 (0, 0)) :: L) w) :
    OpsC Tryd.prog false (Rely d T (some xb)) (Lx.Does d T (some xb)) 23 boxOps [4] 10
      (Exit.then (fun a' w' => ∃ J', a' = ⟨itemFrame s c q b0 k xb J', df⟩ ∧ Holds d T (some xb) ((xb, Obj.cells (itemCells 0 k ⟨#[]⟩ 60) 71 (0, 0)) :: L) w') (fun _ _ _ => False))
      ⟨(boxFrame s c q b0 k J).setIfInBounds 8 (.pointer (some ⟨xb, 0, none⟩)), df⟩ w := by
  have hf : (boxFrame s c q b0 k J).setIfInBounds 8 (.pointer (some ⟨xb, 0, none⟩)) = #[.string s, .chan (some c), .chan (some q), J 3, J 4, J 5, .slice (some ⟨b0, 0, none⟩) 5 5, .int .i64 (k : Int), .pointer (some ⟨xb, 0, none⟩), J 9, J 10, J 11, J 12, J 13, J 14, J 15, J 16, J 17, J 18, J 19, .agg #[.int .i64 0, .int .i64 (k : Int), .string ⟨#[]⟩, .int .i64 60], J 21, J 22, J 23, J 24, J 25, J 26, J 27, J 28, J 29, J 30, J 31, J 32, J 33, J 34, J 35, J 36, J 37, J 38, J 39, J 40, J 41, J 42, J 43, J 44, J 45, J 46, J 47, J 48, J 49, J 50, J 51, J 52, J 53, J 54, J 55, J 56, J 57, J 58, J 59, J 60, J 61, J 62, J 63, J 64, J 65, J 66, J 67, J 68, J 69, J 70, J 71, J 72, J 73, J 74, J 75] := rfl
  rw [hf]
  clear hf
  have he : boxOps = opsOf (fstOf scanItem) := rfl
  rw [he]
  clear he
  unfold scanItem scanRound scanText
  simp only [Tryd.f23, Option.getD_some, fstOf, sndOf, inOf, opsOf, itemFrame]
  co_apply opsC_more
  · co_opw Holds.rely hF (have hm : (xb, Obj.cells (itemCells 0 0 ⟨#[]⟩ 0) 71 (0, 0)) ∈ (xb, Obj.cells (itemCells 0 0 ⟨#[]⟩ 0) 71 (0, 0)) :: L := List.mem_cons_self; have hc0 : _ = some _ := hF.cell hm 0; have hc1 : _ = some _ := hF.cell hm 1; have hc2 : _ = some _ := hF.cell hm 2; have hc3 : _ = some _ := hF.cell hm 3; have hf0 := hF.frozen hm 0; have hf1 := hF.frozen hm 1; have hf2 := hF.frozen hm 2; have hf3 := hF.frozen hm 3) (have ho := hF.boxOwn; have ht := Turn.set4 ho (hF.lt hm) hF.big (.int .i64 0) (.int .i64 (k : Int)) (.string ⟨#[]⟩) (.int .i64 60); refine ⟨ht, ?_⟩; have ho2 := ht.own_fwd (hF.lt hm) ho; clear ht ho; have es := ev_store_str Tryd.prog; intro e he; have hm := mem_listed he; simp [go_sem, *] at hm; rcases hm with rfl | rfl | rfl | rfl <;> exact evOk_cell ho2 _ _ _)
    replace hF := hF.set4 hxL (.int .i64 0) (.int .i64 (k : Int)) (.string ⟨#[]⟩) (.int .i64 60)
    co_apply opsC_nil terms
    co_then
    exact frame_ex (by rfl) hF
  · decide
theorem scanRest_eq : scanRest = .seq (.seq (fstOf scanFind) (.block 2 (.loop findRound))) (.seq (fstOf scanMore) (.seq scanTest scanSend)) := by rfl
theorem scanSend_eq : scanSend = .seq (.seq (fstOf (fstOf scanSend)) (.seq (.region 17 selOps false) (sndOf (sndOf (fstOf scanSend))))) (sndOf scanSend) := by rfl
set_option maxRecDepth 100000 in
set_option maxHeartbeats 4000000 in
theorem find_pre (s : ByteArray) (c q k : Nat) (J : Nat → Value) (w : World) (hF : Holds d T (some xb) L w) :
    Code.wpC Tryd.prog false (Rely d T (some xb)) (Lx.Does d T (some xb)) 23 (fstOf scanFind) 100
      (Exit.then (fun a' w' => ∃ J', a' = ⟨scanFrame s c q b0 k xb 0 J', df⟩ ∧ Holds d T (some xb) L w') (fun _ _ _ => False)) ⟨itemFrame s c q b0 k xb J, df⟩ w := by
  unfold scanFind scanItem scanRound scanText
  simp only [Tryd.f23, Option.getD_some, fstOf, sndOf, inOf, itemFrame, scanFrame]
  co_apply wpC_more
  · co_reg terms
    repeat (first | co_reg terms | co_op Holds.rely hF (co_quiet terms) | (co_apply opsC_unwanted terms rfl (by rfl); try walk_nrm) | (co_ctl terms; try co_then))
    exact frame_ex (by rfl) hF
  · decide
set_option maxRecDepth 100000 in
set_option maxHeartbeats 4000000 in
theorem at_on (s x : ByteArray) (c q k m : Nat) (kd e i : Int) (J : Nat → Value) (hx : RowKit.Hid (x.size = m)) (hkm : k + m ≤ 1000000) (w : World) (hF : Holds d T (some xb) ((xb, Obj.cells (itemCells kd k x e) 71 (0, 0)) :: L) w) :
    Code.wpC Tryd.prog false (Rely d T (some xb)) (Lx.Does d T (some xb)) 23 (fstOf scanMore) 100
      (Exit.then (fun a' w' => ∃ J', a' = ⟨itemFrame s c q b0 (k + m) xb J', df⟩ ∧ Holds d T (some xb) ((xb, Obj.cells (itemCells kd k x e) 71 (0, 0)) :: L) w') (fun _ _ _ => False)) ⟨scanFrame s c q b0 k xb i J, df⟩ w := by
  have hm : (xb, Obj.cells (itemCells kd k x e) 71 (0, 0)) ∈ (xb, Obj.cells (itemCells kd k x e) 71 (0, 0)) :: L := List.mem_cons_self
  unfold scanMore scanRest scanItem scanRound scanText
  simp only [Tryd.f23, Option.getD_some, fstOf, sndOf, inOf, itemFrame, scanFrame]
  co_apply wpC_more
  · co_reg terms
    co_op Holds.rely hF (co_quiet terms)
    co_op Holds.rely hF (co_quiet terms)
    co_op Holds.rely hF (co_quiet terms)
    co_opw Holds.rely hF (have hc : _ = some (Value.string x) := hF.cell hm 2) (refine Does.reads ?_; co_evs (exact hF.read hm _ _))
    clear hc
    co_opw Holds.rely hF (skip) (rw [listed_nil (by simp [go_sem, ev_len_string _ _ _ Tryd.underlying9])]; exact Terms.idle terms _)
    co_op Holds.rely hF (co_quiet terms)
    co_op Holds.rely hF (co_quiet terms)
    co_apply opsC_nil terms
    co_then
    have hwr : IntKind.i64.wrap ((k : Int) + (x.size : Int)) = ((k + m : Nat) : Int) := by rw [hx.out, IntWalk.i64_in _ (by omega)]; omega
    rw [hwr]
    exact frame_ex (by rfl) hF
  · decide
set_option maxRecDepth 100000 in
set_option maxHeartbeats 4000000 in
theorem test_blank (s x : ByteArray) (c q k k1 : Nat) (J : Nat → Value) (w : World) (hF : Holds d T (some xb) ((xb, Obj.cells (itemCells 0 k1 x 0) 71 (0, 0)) :: L) w) :
    Code.wpC Tryd.prog false (Rely d T (some xb)) (Lx.Does d T (some xb)) 23 scanTest 100
      (Exit.then (fun _ _ => False) (fun e a' w' => e = .exit 1 ∧ ∃ J', a' = ⟨itemFrame s c q b0 k xb J', df⟩ ∧ Holds d T (some xb) ((xb, Obj.cells (itemCells 0 k1 x 0) 71 (0, 0)) :: L) w')) ⟨itemFrame s c q b0 k xb J, df⟩ w := by
  have hm : (xb, Obj.cells (itemCells 0 k1 x 0) 71 (0, 0)) ∈ (xb, Obj.cells (itemCells 0 k1 x 0) 71 (0, 0)) :: L := List.mem_cons_self
  unfold scanTest scanMore scanRest scanItem scanRound scanText
  simp only [Tryd.f23, Option.getD_some, fstOf, sndOf, inOf, itemFrame]
  co_apply wpC_more
  · co_apply wpC_seq terms
    co_reg terms
    co_op Holds.rely hF (co_quiet terms)
    co_op Holds.rely hF (co_quiet terms)
    co_opw Holds.rely hF (have hc : _ = some (Value.int .i64 0) := hF.cell hm 0) (refine Does.reads ?_; co_evs (exact hF.read hm _ _))
    clear hc
    co_op Holds.rely hF (co_quiet terms)
    co_op Holds.rely hF (co_quiet terms)
    co_op Holds.rely hF (co_quiet terms)
    co_opw Holds.rely hF (have hc : _ = some (Value.int .i64 0) := hF.cell hm 3) (refine Does.reads ?_; co_evs (exact hF.read hm _ _))
    clear hc
    co_op Holds.rely hF (co_quiet terms)
    co_op Holds.rely hF (co_quiet terms)
    co_apply opsC_nil terms
    co_then
    co_apply wpC_cond (t := true) terms rfl
    simp only [if_true]
    co_ctl terms
    co_then
    exact ⟨trivial, frame_ex (by rfl) hF⟩
  · decide
set_option maxRecDepth 100000 in
set_option maxHeartbeats 4000000 in
theorem test_token (s x : ByteArray) (c q k k1 : Nat) (kd : Int) (hkd : (kd == 0) = false) (J : Nat → Value) (w : World) (hF : Holds d T (some xb) ((xb, Obj.cells (itemCells kd k1 x 0) 71 (0, 0)) :: L) w) :
    Code.wpC Tryd.prog false (Rely d T (some xb)) (Lx.Does d T (some xb)) 23 scanTest 100
      (Exit.then (fun a' w' => ∃ J', a' = ⟨itemFrame s c q b0 k xb J', df⟩ ∧ Holds d T (some xb) ((xb, Obj.cells (itemCells kd k1 x 0) 71 (0, 0)) :: L) w') (fun _ _ _ => False)) ⟨itemFrame s c q b0 k xb J, df⟩ w := by
  have hm : (xb, Obj.cells (itemCells kd k1 x 0) 71 (0, 0)) ∈ (xb, Obj.cells (itemCells kd k1 x 0) 71 (0, 0)) :: L := List.mem_cons_self
  unfold scanTest scanMore scanRest scanItem scanRound scanText
  simp only [Tryd.f23, Option.getD_some, fstOf, sndOf, inOf, itemFrame]
  co_apply wpC_more
  · co_apply wpC_seq terms
    co_reg terms
    co_op Holds.rely hF (co_quiet terms)
    co_op Holds.rely hF (co_quiet terms)
    co_opw Holds.rely hF (have hc : _ = some (Value.int .i64 kd) := hF.cell hm 0) (refine Does.reads ?_; co_evs (exact hF.read hm _ _))
    clear hc
    co_op Holds.rely hF (co_quiet terms)
    co_op Holds.rely hF (co_quiet terms)
    (co_apply opsC_unwanted terms rfl (by rfl); try walk_nrm)
    (co_apply opsC_unwanted terms rfl (by rfl); try walk_nrm)
    (co_apply opsC_unwanted terms rfl (by rfl); try walk_nrm)
    co_op Holds.rely hF (co_quiet terms)
    co_apply opsC_nil terms
    co_then
    co_apply wpC_cond (t := false) terms rfl
    simp only [Bool.false_eq_true, if_false]
    co_ctl terms
    co_then
    exact frame_ex (by rfl) hF
  · decide
def selFrame (s : ByteArray) (c q b0 k xb : Nat) (v : Value) (J : Nat → Value) : Array Value :=
  #[.string s, .chan (some c), .chan (some q), J 3, J 4, J 5, .slice (some ⟨b0, 0, none⟩) 5 5, .int .i64 (k : Int), .pointer (some ⟨xb, 0, none⟩), J 9, J 10, J 11, J 12, J 13, J 14, J 15, J 16, J 17, J 18, J 19, J 20, J 21, J 22, J 23, J 24, J 25, J 26, J 27, J 28, J 29, J 30, J 31, J 32, J 33, J 34, J 35, J 36, J 37, J 38, J 39, J 40, J 41, J 42, J 43, J 44, J 45, J 46, J 47, J 48, J 49, J 50, J 51, J 52, J 53, J 54, J 55, J 56, J 57, J 58, J 59, J 60, J 61, J 62, J 63, J 64, J 65, .chan (some c), v, .chan (some q), J 69, J 70, J 71, J 72, J 73, J 74, J 75]
set_option maxRecDepth 100000 in
set_option maxHeartbeats 4000000 in
theorem sel_pre (s x : ByteArray) (c q k k1 : Nat) (kd e : Int) (J : Nat → Value) (w : World) (hF : Holds d T (some xb) ((xb, Obj.cells (itemCells kd k1 x e) 71 (0, 0)) :: L) w) :
    Code.wpC Tryd.prog false (Rely d T (some xb)) (Lx.Does d T (some xb)) 23 (fstOf (fstOf scanSend)) 100
      (Exit.then (fun a' w' => ∃ J', a' = ⟨selFrame s c q b0 k xb (.agg (itemCells kd k1 x e)) J', df⟩ ∧ Holds d T (some xb) ((xb, Obj.cells (itemCells kd k1 x e) 71 (0, 0)) :: L) w') (fun _ _ _ => False)) ⟨itemFrame s c q b0 k xb J, df⟩ w := by
  have hm : (xb, Obj.cells (itemCells kd k1 x e) 71 (0, 0)) ∈ (xb, Obj.cells (itemCells kd k1 x e) 71 (0, 0)) :: L := List.mem_cons_self
  unfold scanSend scanMore scanRest scanItem scanRound scanText
  simp only [Tryd.f23, Option.getD_some, fstOf, sndOf, inOf, itemFrame, selFrame]
  co_apply wpC_more
  · co_apply wpC_seq terms
    co_apply wpC_seq terms
    co_reg terms
    co_op Holds.rely hF (co_quiet terms)
    co_apply opsC_nil terms
    co_then
    co_reg terms
    co_opw Holds.rely hF (have hc0 : _ = some (Value.int .i64 kd) := hF.cell hm 0; have hc1 : _ = some (Value.int .i64 (k1 : Int)) := hF.cell hm 1; have hc2 : _ = some (Value.string x) := hF.cell hm 2; have hc3 : _ = some (Value.int .i64 e) := hF.cell hm 3) (refine Does.reads ?_; intro e he; have hm := mem_listed he; simp [go_sem, *] at hm; rcases hm with rfl | rfl | rfl | rfl <;> exact hF.read hm _ _)
    clear hc0 hc1 hc2 hc3
    co_apply opsC_nil terms
    co_then
    co_reg terms
    co_op Holds.rely hF (co_quiet terms)
    co_apply opsC_nil terms
    co_then
    exact frame_ex (by rfl) hF
  · decide
end
end Go.Proofs.YtkmbmgmfcecfkaaDoor
namespace Go.Proofs.YtkmbmgmfcecfkaaDoor
open Go.Conc Go.Lx
def zItem : Value := .agg (itemCells 0 0 ⟨#[]⟩ 0)
def zQuit : Value := .agg #[]
section
variable {d : Deal} {T : TypeId → Prop} {L : List (Nat × Obj)} {b0 xb : Nat} {df : List Deferred} {b : Frame} {kk : List Item} {cs : List Frame}
set_option maxRecDepth 100000 in
theorem sel_step (s : ByteArray) (c q k : Nat) (v : Value) (J : Nat → Value) (hbk : b.kind ≠ .early) (w : World) :
    stepG Tryd.prog false (G (b.at ⟨selFrame s c q b0 k xb v J, df⟩ (.inRegion selOps [0, 1, 2, 3] :: kk)) cs) w =
      .comm (G (b.at ⟨selFrame s c q b0 k xb v J, df⟩ (.inRegion selOps [0, 1, 2, 3] :: kk)) cs) #[scase c v zItem, rcase q zQuit] true .select w #[] := by
  have ho : selOps[0]? = some { dst := some 69, op := .select #[{ chan := .tmp 66, send := some (.tmp 67), elem := 71 }, { chan := .tmp 68, send := none, elem := 96 }] true, type := 0, pos := "lexer.go:81", after := #[], guard := none } := by rfl
  have he1 : (⟨selFrame s c q b0 k xb v J, df⟩ : Act).eval (.tmp 66) = .chan (some c) := rfl
  have he2 : (⟨selFrame s c q b0 k xb v J, df⟩ : Act).eval (.tmp 67) = v := rfl
  have he3 : (⟨selFrame s c q b0 k xb v J, df⟩ : Act).eval (.tmp 68) = .chan (some q) := rfl
  have hr : (execOp (⟨selFrame s c q b0 k xb v J, df⟩ : Act).eval { dst := some 69, op := .select #[{ chan := .tmp 66, send := some (.tmp 67), elem := 71 }, { chan := .tmp 68, send := none, elem := 96 }] true, type := 0, pos := "lexer.go:81", after := #[], guard := none }).run Tryd.prog w = .ok (.comm #[scase c v zItem, rcase q zQuit] true .select) w := by
    unfold execOp
    simp [scase, rcase, he1, he2, he3, zItem, itemCells, zQuit]
  have hl : (execOp (⟨selFrame s c q b0 k xb v J, df⟩ : Act).eval { dst := some 69, op := .select #[{ chan := .tmp 66, send := some (.tmp 67), elem := 71 }, { chan := .tmp 68, send := none, elem := 96 }] true, type := 0, pos := "lexer.go:81", after := #[], guard := none }).events Tryd.prog w #[] = #[] := by
    unfold execOp
    simp
  rw [stepG_comm ho (by rfl) hbk hr, listed_nil hl]
theorem sel_done (s : ByteArray) (c q k : Nat) (v : Value) (J : Nat → Value) :
    (G (b.at ⟨selFrame s c q b0 k xb v J, df⟩ (.inRegion selOps [0, 1, 2, 3] :: kk)) cs).finishComm Tryd.prog #[scase c v zItem, rcase q zQuit] .select 0 undef false =
      G (b.at ⟨(selFrame s c q b0 k xb v J).setIfInBounds 69 (.tuple #[.int .i64 0, .bool false, zQuit]), df⟩ (.inRegion selOps [1, 2, 3] :: kk)) cs := by
  have ho : selOps[0]? = some { dst := some 69, op := .select #[{ chan := .tmp 66, send := some (.tmp 67), elem := 71 }, { chan := .tmp 68, send := none, elem := 96 }] true, type := 0, pos := "lexer.go:81", after := #[], guard := none } := by rfl
  have hr : commResult #[scase c v zItem, rcase q zQuit] .select 0 undef false = .tuple #[.int .i64 0, .bool false, zQuit] := by
    simp [commResult, scase, rcase, goInt, Array.zipIdx, Array.filter]
  simp only [Goroutine.finishComm, G, hr, Frame.finish_at, ho]
  rfl
set_option maxRecDepth 100000 in
set_option maxHeartbeats 4000000 in
theorem sel_post (s : ByteArray) (c q k : Nat) (v : Value) (J : Nat → Value) (w : World) (hF : Holds d T (some xb) L w) :
    OpsC Tryd.prog false (Rely d T (some xb)) (Lx.Does d T (some xb)) 23 selOps [1, 2, 3] 10
      (Exit.then (fun a' w' => ∃ J', a' = ⟨(itemFrame s c q b0 k xb J').setIfInBounds 71 (.bool true), df⟩ ∧ Holds d T (some xb) L w') (fun _ _ _ => False))
      ⟨(selFrame s c q b0 k xb v J).setIfInBounds 69 (.tuple #[.int .i64 0, .bool false, zQuit]), df⟩ w := by
  have he : selOps = opsOf (fstOf (sndOf (fstOf scanSend))) := rfl
  rw [he]
  clear he
  unfold scanSend scanMore scanRest scanItem scanRound scanText
  simp only [Tryd.f23, Option.getD_some, fstOf, sndOf, inOf, opsOf, itemFrame, selFrame, List.setIfInBounds_toArray, List.set_cons_succ, List.set_cons_zero]
  co_apply opsC_more
  · co_op Holds.rely hF (co_quiet terms)
    co_op Holds.rely hF (co_quiet terms)
    co_op Holds.rely hF (co_quiet terms)
    co_apply opsC_nil terms
    co_then
    exact frame_ex (by rfl) hF
  · decide
set_option maxRecDepth 100000 in
set_option maxHeartbeats 4000000 in
theorem sel_block (s : ByteArray) (c q k : Nat) (J : Nat → Value) (w : World) (hF : Holds d T (some xb) L w) :
    Code.wpC Tryd.prog false (Rely d T (some xb)) (Lx.Does d T (some xb)) 23 (sndOf (sndOf (fstOf scanSend))) 100
      (Exit.then (fun a' w' => ∃ J', a' = ⟨itemFrame s c q b0 k xb J', df⟩ ∧ Holds d T (some xb) L w') (fun _ _ _ => False)) ⟨(itemFrame s c q b0 k xb J).setIfInBounds 71 (.bool true), df⟩ w := by
  unfold scanSend scanMore scanRest scanItem scanRound scanText
  simp only [Tryd.f23, Option.getD_some, fstOf, sndOf, inOf, itemFrame, List.setIfInBounds_toArray, List.set_cons_succ, List.set_cons_zero]
  co_apply wpC_more
  · co_apply wpC_block terms
    co_apply wpC_cond (t := true) terms rfl
    simp only [if_true]
    co_ctl terms
    co_then
    exact frame_ex (by rfl) hF
  · decide
set_option maxRecDepth 100000 in
set_option maxHeartbeats 4000000 in
theorem round_end (s x : ByteArray) (c q k k1 : Nat) (kd : Int) (J : Nat → Value) (w : World) (hF : Holds d T (some xb) ((xb, Obj.cells (itemCells kd k1 x 0) 71 (0, 0)) :: L) w) :
    Code.wpC Tryd.prog false (Rely d T (some xb)) (Lx.Does d T (some xb)) 23 (sndOf scanSend) 100
      (Exit.then (fun a' w' => ∃ J', a' = ⟨itemFrame s c q b0 k xb J', df⟩ ∧ Holds d T (some xb) ((xb, Obj.cells (itemCells kd k1 x 0) 71 (0, 0)) :: L) w') (fun _ _ _ => False)) ⟨itemFrame s c q b0 k xb J, df⟩ w := by
  have hm : (xb, Obj.cells (itemCells kd k1 x 0) 71 (0, 0)) ∈ (xb, Obj.cells (itemCells kd k1 x 0) 71 (0, 0)) :: L := List.mem_cons_self
  unfold scanSend scanMore scanRest scanItem scanRound scanText
  simp only [Tryd.f23, Option.getD_some, sndOf, inOf, itemFrame]
  co_apply wpC_more
  · co_apply wpC_seq terms
    co_reg terms
    co_op Holds.rely hF (co_quiet terms)
    co_opw Holds.rely hF (have hc : _ = some (Value.int .i64 0) := hF.cell hm 3) (refine Does.reads ?_; co_evs (exact hF.read hm _ _))
    clear hc
    co_op Holds.rely hF (co_quiet terms)
    co_apply opsC_nil terms
    co_then
    co_apply wpC_cond (t := false) terms rfl
    simp only [Bool.false_eq_true, if_false]
    co_ctl terms
    co_then
    exact frame_ex (by rfl) hF
  · decide
theorem item_head (s : ByteArray) (c q k : Nat) (J : Nat → Value) : itemFrame s c q b0 k xb J = headFrame s c q b0 k (fun n => (itemFrame s c q b0 k xb J).getD n undef) := by rfl
end
end Go.Proofs.YtkmbmgmfcecfkaaDoor
