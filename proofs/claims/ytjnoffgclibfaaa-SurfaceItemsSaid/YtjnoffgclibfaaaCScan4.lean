/- In company: scan, whole. -/
import Derived.Test.YtjnoffgclibfaaaCScan3
set_option linter.unusedSimpArgs false
set_option linter.unusedVariables false
namespace Go.Proofs.Ytjnoffgclibfaaa
open Go.Conc Go.Lx

def T1 (ty : TypeId) : Prop := ty = 9 ∨ ty = 34 ∨ ty = 95
theorem t1_string : T1 9 := .inl rfl
theorem t1_func : T1 34 := .inr (.inl rfl)
theorem t1_rule : T1 95 := .inr (.inr rfl)
def T0 (ty : TypeId) : Prop := ty = 31
noncomputable def shared (B c q : Nat) (Fin : Goroutine → World → Prop) : Shared :=
  { P := Try.prog, d := ⟨B, c⟩, q := q, T0 := T0, T1 := T1, tb := 74, z := zItem, zc := zItem, zq := zQuit, Fin := Fin }

/-- What scan does from a place on, where each byte belongs somewhere. -/
inductive Scans (s : ByteArray) : Nat → List SAct → Prop
  | done : Scans s s.size []
  | blank {k i m : Nat} {acts : List SAct} (hk : k < s.size) (hf : First i (s[k]'hk)) (hkd : kindN i = 0) (hm : goN i (s.data.toList.drop k) = m) (hmn : k + m ≤ s.size) (h : Scans s (k + m) acts) : Scans s k (.box :: acts)
  | token {k i m : Nat} {acts : List SAct} (hk : k < s.size) (hf : First i (s[k]'hk)) (hkd : (kindN i == 0) = false) (hm : goN i (s.data.toList.drop k) = m) (hmn : k + m ≤ s.size) (h : Scans s (k + m) acts) :
      Scans s k (.box :: .send (.agg (itemCells (kindN i) k (s.extract k (k + m)) 0)) :: acts)

theorem extract_size (s : ByteArray) {k m : Nat} (h : k + m ≤ s.size) : (s.extract k (k + m)).size = m := by
  simp only [ByteArray.size_extract]; omega

/-- scan's frame. -/
def bScan : Frame := { (default : Frame) with fn := 37, kind := .deferred }
noncomputable def scanBot : Frame := { (default : Frame) with fn := Try.prog.funcs.size, defers := [], mode := .panicking [goexitEntry] }
noncomputable def scanTodo : List Item := [.inLoop scanRound, .inBlock 0, .inScope (inOf scanText)]
def scanDefers (c : Nat) : List Deferred := [dclose c #[89] 0 #[false]]

section
variable {B c q : Nat} {Fin : Goroutine → World → Prop} {b0 b1 b2 b3 b4 b5 b6 b7 : Nat}

/-- Where scan ends. -/
theorem scan_close (tmps : Array Value) (w : World) : AtClose (shared B c q Fin) (G { bScan.at ⟨tmps, scanDefers c⟩ [] with mode := .returning } [scanBot]) w := by
  refine ⟨rfl, rfl, fun s r tm hc => ⟨_, 2, stepG_dclose hc (by kernel_rfl), ?_⟩⟩
  refine .inr ⟨rfl, G scanBot [], #[], by simp, fun w => ?_, ?_⟩
  · simp [G, stepG, unwind, doReturn, results, Frame.at, bScan, scanBot, shared, Try.func37, Try.f37, seen, GStep.after, goexitEntry]
  refine .inr ⟨rfl, { G scanBot [] with status := .finished }, #[], by simp, fun w => ?_, rfl, rfl⟩
  simp [G, stepG, unwind, scanBot, goexitEntry, Frame.catches, shared]
  rfl

/-- From the filling of the box to the test of what was found. -/
theorem to_test {d : Deal} {T : TypeId → Prop} {df : List Deferred} {b : Frame} {kk : List Item} {cs : List Frame} {Stop : Goroutine → World → Prop} {xb : Nat} (s : ByteArray) (k i m n : Nat) (J : Nat → Value) (hk : k < s.size) (hs : s.size ≤ 100000) (hT : T 95)
    (hf : First i (s[k]'hk)) (hm : goN i (s.data.toList.drop k) = m) (hmn : k + m ≤ s.size) (hxL : ∀ p ∈ ruleList b0 b1 b2 b3 b4 b5 b6 b7 [], p.1 ≠ xb) (hbf : b.fn = 37) (hbk : b.kind ≠ .early) (w : World)
    (hF : Holds d T (some xb) ((xb, Obj.cells (itemCells 0 0 ⟨#[]⟩ 0) 74 (0, 0)) :: ruleList b0 b1 b2 b3 b4 b5 b6 b7 []) w)
    (hc : ∀ J w, Holds d T (some xb) ((xb, Obj.cells (itemCells (kindN i) k (s.extract k (k + m)) 0) 74 (0, 0)) :: ruleList b0 b1 b2 b3 b4 b5 b6 b7 []) w →
      Goes Try.prog false (Rely d T (some xb)) (Lx.Does d T (some xb)) Stop n (G (b.at ⟨itemFrame s c q b0 (k + m) xb J, df⟩ (.code scanTest :: .code scanSend :: .inBlock 1 :: kk)) cs) w) :
    Goes Try.prog false (Rely d T (some xb)) (Lx.Does d T (some xb)) Stop (n + 10000000001000) (G (b.at ⟨(boxFrame s c q b0 k J).setIfInBounds 8 (.pointer (some ⟨xb, 0, none⟩)), df⟩ (.inRegion boxOps [4] :: .code scanRest :: .inBlock 1 :: kk)) cs) w := by
  refine Goes.mono (goes_ops (m := n + 10000000000500) (box_store s c q k J hxL w hF) hbf hbk ?_) (by omega)
  rintro e a' w' h
  cases e with
  | normal =>
    obtain ⟨J', rfl, hF'⟩ := h
    rw [scanRest_eq]
    refine Goes.mono (goes_seq terms (goes_seq terms (goes_code (m := n + 10000000000200) (find_pre s c q k J' w' hF') hbf hbk ?_))) (by omega)
    rintro e a' w' h
    cases e with
    | normal =>
      obtain ⟨J', rfl, hF'⟩ := h
      refine Goes.mono (goes_code (m := n + 150) (find_loop s c q k i m J' hk (by omega) hT rfl hf hm hmn hxL w' hF') hbf hbk ?_) (by omega)
      rintro e a' w' h
      cases e with
      | normal =>
        obtain ⟨J', rfl, hF'⟩ := h
        refine Goes.mono (goes_seq terms (goes_code (m := n + 1) (at_on s (s.extract k (k + m)) c q k m (kindN i) 0 i J' (Lib.hid (extract_size s hmn)) (by omega) w' hF') hbf hbk ?_)) (by omega)
        rintro e a' w' h
        cases e with
        | normal =>
          obtain ⟨J', rfl, hF'⟩ := h
          exact goes_seq terms (hc J' w' hF')
        | _ => exact h.elim
      | _ => exact h.elim
    | _ => exact h.elim
  | _ => exact h.elim

theorem alloc_heap (w : World) (x : Obj) : (w.alloc x).heap = w.heap.push x := by simp [World.alloc, -World.alloc_eq]

abbrev LR (b0 b1 b2 b3 b4 b5 b6 b7 : Nat) : List (Nat × Obj) := ruleList b0 b1 b2 b3 b4 b5 b6 b7 []

/-- From the head on. -/
theorem scan_from (s : ByteArray) (hs : s.size ≤ 100000) (k : Nat) (acts : List SAct) (h : Scans s k acts) :
    ∃ m, ∀ b0 b1 b2 b3 b4 b5 b6 b7 o J w, (∀ p ∈ LR b0 b1 b2 b3 b4 b5 b6 b7, Safely ⟨B, c⟩ T1 none p.1 p.2) → Holds ⟨B, c⟩ T1 o (LR b0 b1 b2 b3 b4 b5 b6 b7) w →
      GoS (shared B c q Fin) acts o m (G (bScan.at ⟨headFrame s c q b0 k J, scanDefers c⟩ (.code scanRound :: scanTodo)) [scanBot]) w := by
  induction h with
  | done =>
    refine ⟨200, fun b0 b1 b2 b3 b4 b5 b6 b7 o J w hlow hF => ?_⟩
    rw [scanRound_eq]
    refine Goes.mono (goes_seq terms (goes_code (m := 10) (head_out s c q s.size J rfl w hF) rfl (by decide) ?_)) (by decide)
    rintro e a' w' h
    cases e with
    | exit id =>
      obtain ⟨he, J', rfl, hF'⟩ := h
      cases he
      refine ⟨[.inScope (inOf scanText)], by simp [exitTo, scanTodo], ?_⟩
      refine Goes.mono (n := 2) (goes_inScope terms (goes_end terms ?_)) (by decide)
      exact fun w₁ _ => scan_close _ w₁
    | normal => exact h.elim
    | _ => cases h.1
  | @blank k i m acts hk hf hkd hm hmn h ih =>
    obtain ⟨m', ih⟩ := ih
    refine ⟨120, fun b0 b1 b2 b3 b4 b5 b6 b7 o J w hlow hF => to_box s c q k J hk rfl (by decide) w hF ?_⟩
    intro J w₁ hF
    obtain ⟨es, hst, hes⟩ := box_step (d := ⟨B, c⟩) (T := T1) (b := bScan) (b0 := b0) (df := scanDefers c) (kk := .code scanRest :: .inBlock 1 :: scanTodo) (cs := [scanBot]) s c q k J (by decide) w₁
    refine ⟨rfl, _, _, es, hst, ⟨rfl, rfl, rfl, _, _, alloc_heap _ _⟩, hes, _, to_test s k i m (m' + 110) J hk hs (.inr (.inr rfl)) hf hm hmn (fun p hp => Nat.ne_of_lt (hF.lt hp)) rfl (by decide) _
      (hF.boxed fun p hp => ?_) fun J w hF => ?_⟩
    · rcases List.mem_cons.1 hp with rfl | hp
      · exact .inl rfl
      · exact .inr ⟨hp, hlow p hp⟩
    · rw [hkd] at hF
      refine Goes.mono (goes_code (m := m' + 1) (test_blank s _ c q _ _ J w hF) rfl (by decide) ?_) (by omega)
      rintro e a' w' h
      cases e with
      | exit id =>
        obtain ⟨he, J', rfl, hF'⟩ := h
        cases he
        refine ⟨scanTodo, by simp [exitTo], ?_⟩
        refine goes_inLoop terms ?_
        rw [item_head]
        exact ih _ _ _ _ _ _ _ _ _ _ _ hlow (hF'.weak fun p hp => List.mem_cons_of_mem _ hp)
      | normal => exact h.elim
      | _ => cases h.1
  | @token k i m acts hk hf hkd hm hmn h ih =>
    obtain ⟨m', ih⟩ := ih
    refine ⟨120, fun b0 b1 b2 b3 b4 b5 b6 b7 o J w hlow hF => to_box s c q k J hk rfl (by decide) w hF ?_⟩
    intro J w₁ hF
    obtain ⟨es, hst, hes⟩ := box_step (d := ⟨B, c⟩) (T := T1) (b := bScan) (b0 := b0) (df := scanDefers c) (kk := .code scanRest :: .inBlock 1 :: scanTodo) (cs := [scanBot]) s c q k J (by decide) w₁
    refine ⟨rfl, _, _, es, hst, ⟨rfl, rfl, rfl, _, _, alloc_heap _ _⟩, hes, _, to_test s k i m 500 J hk hs (.inr (.inr rfl)) hf hm hmn (fun p hp => Nat.ne_of_lt (hF.lt hp)) rfl (by decide) _
      (hF.boxed fun p hp => ?_) fun J w hF => ?_⟩
    · rcases List.mem_cons.1 hp with rfl | hp
      · exact .inl rfl
      · exact .inr ⟨hp, hlow p hp⟩
    · refine Goes.mono (goes_code (m := 300) (test_token s _ c q _ _ _ hkd J w hF) rfl (by decide) ?_) (by omega)
      rintro e a' w' h
      cases e with
      | normal =>
        obtain ⟨J', rfl, hF'⟩ := h
        rw [scanSend_eq]
        refine Goes.mono (goes_seq terms (goes_seq terms (goes_code (m := 10) (sel_pre s _ c q _ _ _ _ J' w' hF') rfl (by decide) ?_))) (by decide)
        rintro e a' w' h
        cases e with
        | normal =>
          obtain ⟨J', rfl, hF'⟩ := h
          refine Goes.mono (n := 2) (goes_seq terms (goes_region terms ?_)) (by decide)
          intro w₂ hR
          have hF2 := hF'.rely hR
          refine ⟨rfl, sel_step (b := bScan) s c q _ _ J' (by decide) w₂, m' + 400, ?_⟩
          show Goes _ _ _ _ _ _ ((G (bScan.at ⟨selFrame s c q b0 _ _ _ J', _⟩ (.inRegion selOps [0, 1, 2, 3] :: _)) [scanBot]).finishComm Try.prog #[scase c _ zItem, rcase q zQuit] .select 0 undef false) _
          rw [sel_done]
          refine Goes.mono (goes_ops (m := m' + 300) (sel_post s c q _ _ J' w₂ hF2) rfl (by decide) ?_) (by omega)
          rintro e a' w' h
          cases e with
          | normal =>
            obtain ⟨J', rfl, hF'⟩ := h
            refine Goes.mono (goes_code (m := m' + 110) (sel_block s c q _ J' w' hF') rfl (by decide) ?_) (by omega)
            rintro e a' w' h
            cases e with
            | normal =>
              obtain ⟨J', rfl, hF'⟩ := h
              refine Goes.mono (goes_code (m := m' + 2) (round_end s _ c q _ _ _ J' w' hF') rfl (by decide) ?_) (by omega)
              rintro e a' w' h
              cases e with
              | normal =>
                obtain ⟨J', rfl, hF'⟩ := h
                refine goes_inBlock terms (goes_inLoop terms ?_)
                rw [item_head]
                exact ih _ _ _ _ _ _ _ _ _ _ _ hlow (hF'.weak fun p hp => List.mem_cons_of_mem _ hp)
              | _ => exact h.elim
            | _ => exact h.elim
          | _ => exact h.elim
        | _ => exact h.elim
      | _ => exact h.elim

noncomputable def ops0 : Array Oper := opsOf (fstOf (inOf scanText))
theorem scanText_eq : scanText = .scope (.seq (.region 0 ops0 false) (.seq (fstOf (sndOf (inOf scanText))) (.seq (.label 0) (.seq (fstOf (sndOf (sndOf (sndOf (inOf scanText))))) (.block 0 (.loop scanRound)))))) := by rfl

def argFrame (s : ByteArray) (c q : Nat) (J : Nat → Value) : Array Value := #[.string s, .chan (some c), .chan (some q), J 3, J 4, J 5, J 6, J 7, J 8, J 9, J 10, J 11, J 12, J 13, J 14, J 15, J 16, J 17, J 18, J 19, J 20, J 21, J 22, J 23, J 24, J 25, J 26, J 27, J 28, J 29, J 30, J 31, J 32, J 33, J 34, J 35, J 36, J 37, J 38, J 39, J 40, J 41, J 42, J 43, J 44, J 45, J 46, J 47, J 48, J 49, J 50, J 51, J 52, J 53, J 54, J 55, J 56, J 57, J 58, J 59, J 60, J 61, J 62, J 63, J 64, J 65, J 66, J 67, J 68, J 69, J 70, J 71, J 72, J 73, J 74, J 75]
def ruleFrame (s : ByteArray) (c q b0 : Nat) (J : Nat → Value) : Array Value := #[.string s, .chan (some c), .chan (some q), J 3, J 4, J 5, .slice (some ⟨b0, 0, none⟩) 5 5, J 7, J 8, J 9, J 10, J 11, J 12, J 13, J 14, J 15, J 16, J 17, J 18, J 19, J 20, J 21, J 22, J 23, J 24, J 25, J 26, J 27, J 28, J 29, J 30, J 31, J 32, J 33, J 34, J 35, J 36, J 37, J 38, J 39, J 40, J 41, J 42, J 43, J 44, J 45, J 46, J 47, J 48, J 49, J 50, J 51, J 52, J 53, J 54, J 55, J 56, J 57, J 58, J 59, J 60, J 61, J 62, J 63, J 64, J 65, J 66, J 67, J 68, J 69, J 70, J 71, J 72, J 73, J 74, J 75]

set_option maxRecDepth 100000 in
set_option maxHeartbeats 4000000 in
/-- The rules are made. -/
theorem start_rules {d : Deal} {o : Option Nat} {df : List Deferred} (s : ByteArray) (J : Nat → Value) (w : World) (hF : Holds d T1 o [] w) :
    Code.wpC Try.prog false (Rely d T1 o) (Lx.Does d T1 o) 37 (fstOf (sndOf (inOf scanText))) 2000
      (Exit.then (fun a' w' => ∃ b0 b1 b2 b3 b4 b5 b6 b7, ∃ J', a' = ⟨ruleFrame s c q b0 J', df⟩ ∧ Holds d T1 o (LR b0 b1 b2 b3 b4 b5 b6 b7) w') (fun _ _ _ => False))
      ⟨argFrame s c q J, df⟩ w := by
  unfold scanText
  simp only [Try.f37, Option.getD_some, fstOf, sndOf, inOf, argFrame, ruleFrame]
  co_apply wpC_more
  · co_reg terms
    co_apply opsC_callA terms rfl (by rfl) rfl (rules_c t1_string t1_func t1_rule _ hF) (by simp)
    rintro v w ⟨b0, b1, b2, b3, b4, b5, b6, b7, rfl, hF⟩
    try walk_nrm
    co_op Holds.rely hF (co_quiet terms)
    co_apply opsC_nil terms
    co_then
    exact ⟨b0, b1, b2, b3, b4, b5, b6, b7, frame_ex (by rfl) hF⟩
  · decide

set_option maxRecDepth 100000 in
theorem start_place {d : Deal} {o : Option Nat} {df : List Deferred} {L : List (Nat × Obj)} (s : ByteArray) (J : Nat → Value) (w : World) (hF : Holds d T1 o L w) :
    Code.wpC Try.prog false (Rely d T1 o) (Lx.Does d T1 o) 37 (fstOf (sndOf (sndOf (sndOf (inOf scanText))))) 20
      (Exit.then (fun a' w' => ∃ J', a' = ⟨headFrame s c q b0 (0 : Nat) J', df⟩ ∧ Holds d T1 o L w') (fun _ _ _ => False))
      ⟨ruleFrame s c q b0 J, df⟩ w := by
  unfold scanText
  simp only [Try.f37, Option.getD_some, fstOf, sndOf, inOf, headFrame, ruleFrame]
  co_apply wpC_more
  · co_reg terms
    co_op Holds.rely hF (co_quiet terms)
    co_apply opsC_nil terms
    co_then
    exact frame_ex (by rfl) hF
  · decide

/-- The call that the goroutine has to make. -/
def scanCall (s : ByteArray) (c q : Nat) : Deferred := { target := .fn (.func 37) #[], args := #[.string s, .chan (some c), .chan (some q)] }

theorem scan_born (s : ByteArray) (w : World) : stepG Try.prog false (born Try.prog (scanCall s c q)) w = .go (G (bScan.at ⟨argFrame s c q (fun _ => undef), []⟩ [.code scanText]) [scanBot]) w #[] := by
  simp [born, scanCall, stepG, unwind, callDeferred, invoke, callFunc, Try.func37, Try.f37, seen, GStep.after, G, Frame.enter, Frame.at, bScan, scanBot, scanText, argFrame]

set_option maxRecDepth 100000 in
/-- SCAN. -/
theorem scan_goes (s : ByteArray) (hs : s.size ≤ 100000) (acts : List SAct) (h : Scans s 0 acts) (w : World) (hF : Holds ⟨B, c⟩ T1 none [] w) :
    ∃ m, GoS (shared B c q Fin) acts none m (born Try.prog (scanCall s c q)) w := by
  obtain ⟨m, hm⟩ := scan_from (B := B) (c := c) (q := q) (Fin := Fin) s hs 0 acts h
  refine ⟨m + 3000, Goes.mono (n := m + 2500 + 1) (Goes.step rfl fun w₁ h₁ => ?_) (by omega)⟩
  show GStep.goes (stepG Try.prog false (born Try.prog (scanCall s c q)) w₁) _
  rw [scan_born]
  refine ⟨Does.idle _, ?_⟩
  replace hF := hF.rely h₁
  rw [scanText_eq]
  refine Goes.mono (n := m + 2300 + 1 + 1 + 1 + 1 + 1) (goes_scope terms (goes_seq terms (goes_region terms ?_))) (by omega)
  have ho0 : ops0[0]? = some { dst := some 12, op := .move (.tmp 1), type := 89, pos := "lexer.go:65", after := #[], guard := none } := by rfl
  have ho1 : ops0[1]? = some { dst := none, op := .defer { callee := .builtin .close, args := #[.tmp 12], argTypes := #[89] }, type := 0, pos := "lexer.go:65", after := #[{ on := 0, ground := .data }], guard := none } := by rfl
  show Goes _ _ _ _ _ _ (G (bScan.at _ (.inRegion ops0 [0, 1] :: _)) _) _
  refine goes_op ho0 (by rfl) (by decide) fun w₂ h₂ K hK => ?_
  replace hF := hF.rely h₂
  have hl0 : listed Try.prog bScan.fn ⟨argFrame s c q (fun _ => undef), []⟩ { dst := some 12, op := .move (.tmp 1), type := 89, pos := "lexer.go:65", after := #[], guard := none } w₂ = #[] := listed_nil rfl
  change uponK _ _ K (Result.ok (Next.value (.chan (some c))) w₂)
  refine hK _ _ ⟨by show Lx.Does _ _ _ _ _ (listed Try.prog bScan.fn _ _ _); rw [hl0]; exact Does.idle _, ?_⟩
  have he12 : (Act.put ⟨argFrame s c q (fun _ => undef), []⟩ (some 12) (.chan (some c))).eval (.tmp 12) = .chan (some c) := rfl
  refine goes_defer terms ho1 (by rfl) (by decide) (dd := dclose c #[89] 0 #[false]) (fun _ => by unfold execOp; simp [resolve, dclose, he12]) (fun _ => by unfold execOp; simp [resolve]) ?_
  have hfr : Act.put ⟨(Act.put ⟨argFrame s c q (fun _ => undef), []⟩ (some 12) (.chan (some c))).tmps, dclose c #[89] 0 #[false] :: []⟩ none undef = ⟨argFrame s c q (fun n => ((argFrame s c q (fun _ => undef)).setIfInBounds 12 (.chan (some c))).getD n undef), scanDefers c⟩ := by rfl
  change Goes Try.prog false _ _ _ _ (G (bScan.at (Act.put ⟨(Act.put ⟨argFrame s c q (fun _ => undef), []⟩ (some 12) (.chan (some c))).tmps, dclose c #[89] 0 #[false] :: []⟩ none undef) (.inRegion ops0 [] :: _)) _) _
  rw [hfr]
  refine Goes.mono (goes_ops (m := m + 2200) (fn := 37) (Q := Exit.then (fun a' w' => a' = ⟨argFrame s c q (fun n => ((argFrame s c q (fun _ => undef)).setIfInBounds 12 (.chan (some c))).getD n undef), scanDefers c⟩ ∧ Holds ⟨B, c⟩ T1 none [] w') (fun _ _ _ => False)) (opsC_nil terms ⟨rfl, hF⟩) rfl (by decide) ?_) (by omega)
  rintro e a' w' h
  cases e with
  | normal =>
    obtain ⟨rfl, hF⟩ := h
    refine Goes.mono (goes_seq terms (goes_code (m := m + 100) (start_rules s _ w' hF) rfl (by decide) ?_)) (by omega)
    rintro e a' w' h
    cases e with
    | normal =>
      obtain ⟨b0, b1, b2, b3, b4, b5, b6, b7, J', rfl, hF⟩ := h
      have hlow := hF.safe
      refine Goes.mono (goes_seq terms (goes_code (m := m + 50) (Q := Exit.then (fun a' w' => a' = ⟨ruleFrame s c q b0 J', scanDefers c⟩ ∧ Holds ⟨B, c⟩ T1 none (LR b0 b1 b2 b3 b4 b5 b6 b7) w') (fun _ _ _ => False)) (wpC_label terms ⟨rfl, hF⟩) rfl (by decide) ?_)) (by omega)
      rintro e a' w' h
      cases e with
      | normal =>
        obtain ⟨rfl, hF⟩ := h
        refine Goes.mono (goes_seq terms (goes_code (m := m + 3) (start_place s J' w' hF) rfl (by decide) ?_)) (by omega)
        rintro e a' w' h
        cases e with
        | normal =>
          obtain ⟨J', rfl, hF⟩ := h
          exact Goes.mono (goes_block terms (goes_loop terms (hm _ _ _ _ _ _ _ _ _ _ _ hlow hF))) (by omega)
        | _ => exact h.elim
      | _ => exact h.elim
    | _ => exact h.elim
  | _ => exact h.elim
end
end Go.Proofs.Ytjnoffgclibfaaa
