/- Part 20 of what the proof rests on. -/
import Derived.Test.YtkmbmgmfcecfkaaDoorK12
import Derived.Test.YtkmbmgmfcecfkaaDoorK19
set_option linter.unusedSimpArgs false
set_option linter.unusedVariables false
namespace Go.Proofs.YtkmbmgmfcecfkaaDoor
open Go.Conc Go.Lx
def T1 (ty : TypeId) : Prop := ty = 9 ∨ ty = 36 ∨ ty = 95
theorem t1_string : T1 9 := .inl rfl
theorem t1_func : T1 36 := .inr (.inl rfl)
theorem t1_rule : T1 95 := .inr (.inr rfl)
def T0 (ty : TypeId) : Prop := ty = 69
noncomputable def shared (B c q : Nat) (Fin : Goroutine → World → Prop) : Shared :=
  { P := Tryd.prog, d := ⟨B, c⟩, q := q, T0 := T0, T1 := T1, tb := 71, z := zItem, zc := zItem, zq := zQuit, Fin := Fin }
inductive Scans (s : ByteArray) : Nat → List SAct → Prop
  | done : Scans s s.size []
  | blank {k i m : Nat} {acts : List SAct} (hk : k < s.size) (hf : First i (s[k]'hk)) (hkd : kindN i = 0) (hm : goN i (s.data.toList.drop k) = m) (hmn : k + m ≤ s.size) (h : Scans s (k + m) acts) : Scans s k (.box :: acts)
  | token {k i m : Nat} {acts : List SAct} (hk : k < s.size) (hf : First i (s[k]'hk)) (hkd : (kindN i == 0) = false) (hm : goN i (s.data.toList.drop k) = m) (hmn : k + m ≤ s.size) (h : Scans s (k + m) acts) :
      Scans s k (.box :: .send (.agg (itemCells (kindN i) k (s.extract k (k + m)) 0)) :: acts)
theorem extract_size (s : ByteArray) {k m : Nat} (h : k + m ≤ s.size) : (s.extract k (k + m)).size = m := by
  simp only [ByteArray.size_extract]; omega
def bScan : Frame := { (default : Frame) with fn := 23, kind := .deferred }
noncomputable def scanBot : Frame := { (default : Frame) with fn := Tryd.prog.funcs.size, defers := [], mode := .panicking [goexitEntry] }
noncomputable def scanTodo : List Item := [.inLoop scanRound, .inBlock 0, .inScope (inOf scanText)]
def scanDefers (c : Nat) : List Deferred := [dclose c #[89] 0 #[false]]
section
variable {B c q : Nat} {Fin : Goroutine → World → Prop} {b0 b1 b2 b3 b4 b5 b6 b7 : Nat}
theorem scan_close (tmps : Array Value) (w : World) : AtClose (shared B c q Fin) (G { bScan.at ⟨tmps, scanDefers c⟩ [] with mode := .returning } [scanBot]) w := by
  refine ⟨rfl, rfl, fun s r tm hc => ⟨_, 2, stepG_dclose hc (by kernel_rfl), ?_⟩⟩
  refine .inr ⟨rfl, G scanBot [], #[], by simp, fun w => ?_, ?_⟩
  · simp [G, stepG, unwind, doReturn, results, Frame.at, bScan, scanBot, shared, Tryd.func23, Tryd.f23, seen, GStep.after, goexitEntry]
  refine .inr ⟨rfl, { G scanBot [] with status := .finished }, #[], by simp, fun w => ?_, rfl, rfl⟩
  simp [G, stepG, unwind, scanBot, goexitEntry, Frame.catches, shared]
  rfl
theorem to_test {d : Deal} {T : TypeId → Prop} {df : List Deferred} {b : Frame} {kk : List Item} {cs : List Frame} {Stop : Goroutine → World → Prop} {xb : Nat} (s : ByteArray) (k i m n : Nat) (J : Nat → Value) (hk : k < s.size) (hs : s.size ≤ 100000) (hT : T 95)
    (hf : First i (s[k]'hk)) (hm : goN i (s.data.toList.drop k) = m) (hmn : k + m ≤ s.size) (hxL : ∀ p ∈ ruleList b0 b1 b2 b3 b4 b5 b6 b7 [], p.1 ≠ xb) (hbf : b.fn = 23) (hbk : b.kind ≠ .early) (w : World)
    (hF : Holds d T (some xb) ((xb, Obj.cells (itemCells 0 0 ⟨#[]⟩ 0) 71 (0, 0)) :: ruleList b0 b1 b2 b3 b4 b5 b6 b7 []) w)
    (hc : ∀ J w, Holds d T (some xb) ((xb, Obj.cells (itemCells (kindN i) k (s.extract k (k + m)) 0) 71 (0, 0)) :: ruleList b0 b1 b2 b3 b4 b5 b6 b7 []) w →
      Goes Tryd.prog false (Rely d T (some xb)) (Lx.Does d T (some xb)) Stop n (G (b.at ⟨itemFrame s c q b0 (k + m) xb J, df⟩ (.code scanTest :: .code scanSend :: .inBlock 1 :: kk)) cs) w) :
    Goes Tryd.prog false (Rely d T (some xb)) (Lx.Does d T (some xb)) Stop (n + 10000000001000) (G (b.at ⟨(boxFrame s c q b0 k J).setIfInBounds 8 (.pointer (some ⟨xb, 0, none⟩)), df⟩ (.inRegion boxOps [4] :: .code scanRest :: .inBlock 1 :: kk)) cs) w := by
  refine Goes.mono (goes_ops (m := n + 10000000000500) (box_store s c q k J hxL w hF) hbf hbk ?_) (by omega)
  rintro e a' w' h
  cases e with
  | normal =>
    obtain ⟨J', rfl, hF'⟩ := h
    rw [scanRest_eq]
    refine Goes.mono (goes_seq terms (goes_seq terms (goes_code (m := n + 10000000000200) (find_pre s c q k J' w' hF') hbf hbk ?_))) (by omega)
    rintro e a' w' h
    cases e with
    | normal =>
      obtain ⟨J', rfl, hF'⟩ := h
      refine Goes.mono (goes_code (m := n + 150) (find_loop s c q k i m J' hk (by omega) hT rfl hf hm hmn hxL w' hF') hbf hbk ?_) (by omega)
      rintro e a' w' h
      cases e with
      | normal =>
        obtain ⟨J', rfl, hF'⟩ := h
        refine Goes.mono (goes_seq terms (goes_code (m := n + 1) (at_on s (s.extract k (k + m)) c q k m (kindN i) 0 i J' (Lib.hid (extract_size s hmn)) (by omega) w' hF') hbf hbk ?_)) (by omega)
        rintro e a' w' h
        cases e with
        | normal =>
          obtain ⟨J', rfl, hF'⟩ := h
          exact goes_seq terms (hc J' w' hF')
        | _ => exact h.elim
      | _ => exact h.elim
    | _ => exact h.elim
  | _ => exact h.elim
abbrev LR (b0 b1 b2 b3 b4 b5 b6 b7 : Nat) : List (Nat × Obj) := ruleList b0 b1 b2 b3 b4 b5 b6 b7 []
theorem scan_from (s : ByteArray) (hs : s.size ≤ 100000) (k : Nat) (acts : List SAct) (h : Scans s k acts) :
    ∃ m, ∀ b0 b1 b2 b3 b4 b5 b6 b7 o J w, (∀ p ∈ LR b0 b1 b2 b3 b4 b5 b6 b7, Safely ⟨B, c⟩ T1 none p.1 p.2) → Holds ⟨B, c⟩ T1 o (LR b0 b1 b2 b3 b4 b5 b6 b7) w →
      GoS (shared B c q Fin) acts o m (G (bScan.at ⟨headFrame s c q b0 k J, scanDefers c⟩ (.code scanRound :: scanTodo)) [scanBot]) w := by
  induction h with
  | done =>
    refine ⟨200, fun b0 b1 b2 b3 b4 b5 b6 b7 o J w hlow hF => ?_⟩
    rw [scanRound_eq]
    refine Goes.mono (goes_seq terms (goes_code (m := 10) (head_out s c q s.size J rfl w hF) rfl (by decide) ?_)) (by decide)
    rintro e a' w' h
    cases e with
    | exit id =>
      obtain ⟨he, J', rfl, hF'⟩ := h
      cases he
      refine ⟨[.inScope (inOf scanText)], by simp [exitTo, scanTodo], ?_⟩
      refine Goes.mono (n := 2) (goes_inScope terms (goes_end terms ?_)) (by decide)
      exact fun w₁ _ => scan_close _ w₁
    | normal => exact h.elim
    | _ => cases h.1
  | @blank k i m acts hk hf hkd hm hmn h ih =>
    obtain ⟨m', ih⟩ := ih
    refine ⟨120, fun b0 b1 b2 b3 b4 b5 b6 b7 o J w hlow hF => to_box s c q k J hk rfl (by decide) w hF ?_⟩
    intro J w₁ hF
    obtain ⟨es, hst, hes⟩ := box_step (d := ⟨B, c⟩) (T := T1) (b := bScan) (b0 := b0) (df := scanDefers c) (kk := .code scanRest :: .inBlock 1 :: scanTodo) (cs := [scanBot]) s c q k J (by decide) w₁
    refine ⟨rfl, _, _, es, hst, ⟨rfl, rfl, rfl, _, _, alloc_heap _ _⟩, hes, _, to_test s k i m (m' + 110) J hk hs (.inr (.inr rfl)) hf hm hmn (fun p hp => Nat.ne_of_lt (hF.lt hp)) rfl (by decide) _
      (hF.boxed fun p hp => ?_) fun J w hF => ?_⟩
    · rcases List.mem_cons.1 hp with rfl | hp
      · exact .inl rfl
      · exact .inr ⟨hp, hlow p hp⟩
    · rw [hkd] at hF
      refine Goes.mono (goes_code (m := m' + 1) (test_blank s _ c q _ _ J w hF) rfl (by decide) ?_) (by omega)
      rintro e a' w' h
      cases e with
      | exit id =>
        obtain ⟨he, J', rfl, hF'⟩ := h
        cases he
        refine ⟨scanTodo, by simp [exitTo], ?_⟩
        refine goes_inLoop terms ?_
        rw [item_head]
        exact ih _ _ _ _ _ _ _ _ _ _ _ hlow (hF'.weak fun p hp => List.mem_cons_of_mem _ hp)
      | normal => exact h.elim
      | _ => cases h.1
  | @token k i m acts hk hf hkd hm hmn h ih =>
    obtain ⟨m', ih⟩ := ih
    refine ⟨120, fun b0 b1 b2 b3 b4 b5 b6 b7 o J w hlow hF => to_box s c q k J hk rfl (by decide) w hF ?_⟩
    intro J w₁ hF
    obtain ⟨es, hst, hes⟩ := box_step (d := ⟨B, c⟩) (T := T1) (b := bScan) (b0 := b0) (df := scanDefers c) (kk := .code scanRest :: .inBlock 1 :: scanTodo) (cs := [scanBot]) s c q k J (by decide) w₁
    refine ⟨rfl, _, _, es, hst, ⟨rfl, rfl, rfl, _, _, alloc_heap _ _⟩, hes, _, to_test s k i m 500 J hk hs (.inr (.inr rfl)) hf hm hmn (fun p hp => Nat.ne_of_lt (hF.lt hp)) rfl (by decide) _
      (hF.boxed fun p hp => ?_) fun J w hF => ?_⟩
    · rcases List.mem_cons.1 hp with rfl | hp
      · exact .inl rfl
      · exact .inr ⟨hp, hlow p hp⟩
    · refine Goes.mono (goes_code (m := 300) (test_token s _ c q _ _ _ hkd J w hF) rfl (by decide) ?_) (by omega)
      rintro e a' w' h
      cases e with
      | normal =>
        obtain ⟨J', rfl, hF'⟩ := h
        rw [scanSend_eq]
        refine Goes.mono (goes_seq terms (goes_seq terms (goes_code (m := 10) (sel_pre s _ c q _ _ _ _ J' w' hF') rfl (by decide) ?_))) (by decide)
        rintro e a' w' h
        cases e with
        | normal =>
          obtain ⟨J', rfl, hF'⟩ := h
          refine Goes.mono (n := 2) (goes_seq terms (goes_region terms ?_)) (by decide)
          intro w₂ hR
          have hF2 := hF'.rely hR
          refine ⟨rfl, sel_step (b := bScan) s c q _ _ J' (by decide) w₂, m' + 400, ?_⟩
          show Goes _ _ _ _ _ _ ((G (bScan.at ⟨selFrame s c q b0 _ _ _ J', _⟩ (.inRegion selOps [0, 1, 2, 3] :: _)) [scanBot]).finishComm Tryd.prog #[scase c _ zItem, rcase q zQuit] .select 0 undef false) _
          rw [sel_done]
          refine Goes.mono (goes_ops (m := m' + 300) (sel_post s c q _ _ J' w₂ hF2) rfl (by decide) ?_) (by omega)
          rintro e a' w' h
          cases e with
          | normal =>
            obtain ⟨J', rfl, hF'⟩ := h
            refine Goes.mono (goes_code (m := m' + 110) (sel_block s c q _ J' w' hF') rfl (by decide) ?_) (by omega)
            rintro e a' w' h
            cases e with
            | normal =>
              obtain ⟨J', rfl, hF'⟩ := h
              refine Goes.mono (goes_code (m := m' + 2) (round_end s _ c q _ _ _ J' w' hF') rfl (by decide) ?_) (by omega)
              rintro e a' w' h
              cases e with
              | normal =>
                obtain ⟨J', rfl, hF'⟩ := h
                refine goes_inBlock terms (goes_inLoop terms ?_)
                rw [item_head]
                exact ih _ _ _ _ _ _ _ _ _ _ _ hlow (hF'.weak fun p hp => List.mem_cons_of_mem _ hp)
              | _ => exact h.elim
            | _ => exact h.elim
          | _ => exact h.elim
        | _ => exact h.elim
      | _ => exact h.elim
noncomputable def ops0 : Array Oper := opsOf (fstOf (inOf scanText))
theorem scanText_eq : scanText = .scope (.seq (.region 0 ops0 false) (.seq (fstOf (sndOf (inOf scanText))) (.seq (.label 0) (.seq (fstOf (sndOf (sndOf (sndOf (inOf scanText))))) (.block 0 (.loop scanRound)))))) := by rfl
def argFrame (s : ByteArray) (c q : Nat) (J : Nat → Value) : Array Value := #[.string s, .chan (some c), .chan (some q), J 3, J 4, J 5, J 6, J 7, J 8, J 9, J 10, J 11, J 12, J 13, J 14, J 15, J 16, J 17, J 18, J 19, J 20, J 21, J 22, J 23, J 24, J 25, J 26, J 27, J 28, J 29, J 30, J 31, J 32, J 33, J 34, J 35, J 36, J 37, J 38, J 39, J 40, J 41, J 42, J 43, J 44, J 45, J 46, J 47, J 48, J 49, J 50, J 51, J 52, J 53, J 54, J 55, J 56, J 57, J 58, J 59, J 60, J 61, J 62, J 63, J 64, J 65, J 66, J 67, J 68, J 69, J 70, J 71, J 72, J 73, J 74, J 75]
def ruleFrame (s : ByteArray) (c q b0 : Nat) (J : Nat → Value) : Array Value := #[.string s, .chan (some c), .chan (some q), J 3, J 4, J 5, .slice (some ⟨b0, 0, none⟩) 5 5, J 7, J 8, J 9, J 10, J 11, J 12, J 13, J 14, J 15, J 16, J 17, J 18, J 19, J 20, J 21, J 22, J 23, J 24, J 25, J 26, J 27, J 28, J 29, J 30, J 31, J 32, J 33, J 34, J 35, J 36, J 37, J 38, J 39, J 40, J 41, J 42, J 43, J 44, J 45, J 46, J 47, J 48, J 49, J 50, J 51, J 52, J 53, J 54, J 55, J 56, J 57, J 58, J 59, J 60, J 61, J 62, J 63, J 64, J 65, J 66, J 67, J 68, J 69, J 70, J 71, J 72, J 73, J 74, J 75]
set_option maxRecDepth 100000 in
set_option maxHeartbeats 4000000 in
theorem start_rules {d : Deal} {o : Option Nat} {df : List Deferred} (s : ByteArray) (J : Nat → Value) (w : World) (hF : Holds d T1 o [] w) :
    Code.wpC Tryd.prog false (Rely d T1 o) (Lx.Does d T1 o) 23 (fstOf (sndOf (inOf scanText))) 2000
      (Exit.then (fun a' w' => ∃ b0 b1 b2 b3 b4 b5 b6 b7, ∃ J', a' = ⟨ruleFrame s c q b0 J', df⟩ ∧ Holds d T1 o (LR b0 b1 b2 b3 b4 b5 b6 b7) w') (fun _ _ _ => False))
      ⟨argFrame s c q J, df⟩ w := by
  unfold scanText
  simp only [Tryd.f23, Option.getD_some, fstOf, sndOf, inOf, argFrame, ruleFrame]
  co_apply wpC_more
  · co_reg terms
    co_apply opsC_callA terms rfl (by rfl) rfl (rules_c t1_string t1_func t1_rule _ hF) (by simp)
    rintro v w ⟨b0, b1, b2, b3, b4, b5, b6, b7, rfl, hF⟩
    try walk_nrm
    co_op Holds.rely hF (co_quiet terms)
    co_apply opsC_nil terms
    co_then
    exact ⟨b0, b1, b2, b3, b4, b5, b6, b7, frame_ex (by rfl) hF⟩
  · decide
set_option maxRecDepth 100000 in
theorem start_place {d : Deal} {o : Option Nat} {df : List Deferred} {L : List (Nat × Obj)} (s : ByteArray) (J : Nat → Value) (w : World) (hF : Holds d T1 o L w) :
    Code.wpC Tryd.prog false (Rely d T1 o) (Lx.Does d T1 o) 23 (fstOf (sndOf (sndOf (sndOf (inOf scanText))))) 20
      (Exit.then (fun a' w' => ∃ J', a' = ⟨headFrame s c q b0 (0 : Nat) J', df⟩ ∧ Holds d T1 o L w') (fun _ _ _ => False))
      ⟨ruleFrame s c q b0 J, df⟩ w := by
  unfold scanText
  simp only [Tryd.f23, Option.getD_some, fstOf, sndOf, inOf, headFrame, ruleFrame]
  co_apply wpC_more
  · co_reg terms
    co_op Holds.rely hF (co_quiet terms)
    co_apply opsC_nil terms
    co_then
    exact frame_ex (by rfl) hF
  · decide
def scanCall (s : ByteArray) (c q : Nat) : Deferred := { target := .fn (.func 23) #[], args := #[.string s, .chan (some c), .chan (some q)] }
theorem scan_born (s : ByteArray) (w : World) : stepG Tryd.prog false (born Tryd.prog (scanCall s c q)) w = .go (G (bScan.at ⟨argFrame s c q (fun _ => undef), []⟩ [.code scanText]) [scanBot]) w #[] := by
  simp [born, scanCall, stepG, unwind, callDeferred, invoke, callFunc, Tryd.func23, Tryd.f23, seen, GStep.after, G, Frame.enter, Frame.at, bScan, scanBot, scanText, argFrame]
set_option maxRecDepth 100000 in
theorem scan_goes (s : ByteArray) (hs : s.size ≤ 100000) (acts : List SAct) (h : Scans s 0 acts) (w : World) (hF : Holds ⟨B, c⟩ T1 none [] w) :
    ∃ m, GoS (shared B c q Fin) acts none m (born Tryd.prog (scanCall s c q)) w := by
  obtain ⟨m, hm⟩ := scan_from (B := B) (c := c) (q := q) (Fin := Fin) s hs 0 acts h
  refine ⟨m + 3000, Goes.mono (n := m + 2500 + 1) (Goes.step rfl fun w₁ h₁ => ?_) (by omega)⟩
  show GStep.goes (stepG Tryd.prog false (born Tryd.prog (scanCall s c q)) w₁) _
  rw [scan_born]
  refine ⟨Does.idle _, ?_⟩
  replace hF := hF.rely h₁
  rw [scanText_eq]
  refine Goes.mono (n := m + 2300 + 1 + 1 + 1 + 1 + 1) (goes_scope terms (goes_seq terms (goes_region terms ?_))) (by omega)
  have ho0 : ops0[0]? = some { dst := some 12, op := .move (.tmp 1), type := 89, pos := "lexer.go:65", after := #[], guard := none } := by rfl
  have ho1 : ops0[1]? = some { dst := none, op := .defer { callee := .builtin .close, args := #[.tmp 12], argTypes := #[89] }, type := 0, pos := "lexer.go:65", after := #[{ on := 0, ground := .data }], guard := none } := by rfl
  show Goes _ _ _ _ _ _ (G (bScan.at _ (.inRegion ops0 [0, 1] :: _)) _) _
  refine goes_op ho0 (by rfl) (by decide) fun w₂ h₂ K hK => ?_
  replace hF := hF.rely h₂
  have hl0 : listed Tryd.prog bScan.fn ⟨argFrame s c q (fun _ => undef), []⟩ { dst := some 12, op := .move (.tmp 1), type := 89, pos := "lexer.go:65", after := #[], guard := none } w₂ = #[] := listed_nil rfl
  change uponK _ _ K (Result.ok (Next.value (.chan (some c))) w₂)
  refine hK _ _ ⟨by show Lx.Does _ _ _ _ _ (listed Tryd.prog bScan.fn _ _ _); rw [hl0]; exact Does.idle _, ?_⟩
  have he12 : (Act.put ⟨argFrame s c q (fun _ => undef), []⟩ (some 12) (.chan (some c))).eval (.tmp 12) = .chan (some c) := rfl
  refine goes_defer terms ho1 (by rfl) (by decide) (dd := dclose c #[89] 0 #[false]) (fun _ => by unfold execOp; simp [resolve, dclose, he12]) (fun _ => by unfold execOp; simp [resolve]) ?_
  have hfr : Act.put ⟨(Act.put ⟨argFrame s c q (fun _ => undef), []⟩ (some 12) (.chan (some c))).tmps, dclose c #[89] 0 #[false] :: []⟩ none undef = ⟨argFrame s c q (fun n => ((argFrame s c q (fun _ => undef)).setIfInBounds 12 (.chan (some c))).getD n undef), scanDefers c⟩ := by rfl
  change Goes Tryd.prog false _ _ _ _ (G (bScan.at (Act.put ⟨(Act.put ⟨argFrame s c q (fun _ => undef), []⟩ (some 12) (.chan (some c))).tmps, dclose c #[89] 0 #[false] :: []⟩ none undef) (.inRegion ops0 [] :: _)) _) _
  rw [hfr]
  refine Goes.mono (goes_ops (m := m + 2200) (fn := 23) (Q := Exit.then (fun a' w' => a' = ⟨argFrame s c q (fun n => ((argFrame s c q (fun _ => undef)).setIfInBounds 12 (.chan (some c))).getD n undef), scanDefers c⟩ ∧ Holds ⟨B, c⟩ T1 none [] w') (fun _ _ _ => False)) (opsC_nil terms ⟨rfl, hF⟩) rfl (by decide) ?_) (by omega)
  rintro e a' w' h
  cases e with
  | normal =>
    obtain ⟨rfl, hF⟩ := h
    refine Goes.mono (goes_seq terms (goes_code (m := m + 100) (start_rules s _ w' hF) rfl (by decide) ?_)) (by omega)
    rintro e a' w' h
    cases e with
    | normal =>
      obtain ⟨b0, b1, b2, b3, b4, b5, b6, b7, J', rfl, hF⟩ := h
      have hlow := hF.safe
      refine Goes.mono (goes_seq terms (goes_code (m := m + 50) (Q := Exit.then (fun a' w' => a' = ⟨ruleFrame s c q b0 J', scanDefers c⟩ ∧ Holds ⟨B, c⟩ T1 none (LR b0 b1 b2 b3 b4 b5 b6 b7) w') (fun _ _ _ => False)) (wpC_label terms ⟨rfl, hF⟩) rfl (by decide) ?_)) (by omega)
      rintro e a' w' h
      cases e with
      | normal =>
        obtain ⟨rfl, hF⟩ := h
        refine Goes.mono (goes_seq terms (goes_code (m := m + 3) (start_place s J' w' hF) rfl (by decide) ?_)) (by omega)
        rintro e a' w' h
        cases e with
        | normal =>
          obtain ⟨J', rfl, hF⟩ := h
          exact Goes.mono (goes_block terms (goes_loop terms (hm _ _ _ _ _ _ _ _ _ _ _ hlow hF))) (by omega)
        | _ => exact h.elim
      | _ => exact h.elim
    | _ => exact h.elim
  | _ => exact h.elim
end
end Go.Proofs.YtkmbmgmfcecfkaaDoor
namespace Go.Proofs.YtkmbmgmfcecfkaaDoor
open Go.Conc Go.Lx
noncomputable def lexText : Code := Tryd.f17.body.getD .skip
noncomputable def lexWork : Code := sndOf (sndOf lexText)
noncomputable def goOps : Array Oper := opsOf (fstOf (sndOf (sndOf lexWork)))
noncomputable def lexAfter : Code := sndOf (sndOf (sndOf lexWork))
noncomputable def lexLoop : Code := fstOf (sndOf lexAfter)
noncomputable def lexEnd : Code := sndOf (sndOf lexAfter)
noncomputable def lexRound : Code := inOf (inOf (sndOf lexLoop))
noncomputable def rcvOps : Array Oper := opsOf (fstOf lexRound)
noncomputable def lexItem : Code := inOf (sndOf (sndOf lexRound))
noncomputable def xOps : Array Oper := opsOf (fstOf lexItem)
theorem lexRound_eq : lexRound = .seq (.region 8 rcvOps false) (.seq (fstOf (sndOf lexRound)) (.block 1 (.seq (.region 9 xOps false) (.seq (fstOf (sndOf lexItem)) (sndOf (sndOf lexItem)))))) := by rfl
theorem lexAfter_eq : lexAfter = .seq (fstOf lexAfter) (.seq (.seq (fstOf lexLoop) (.block 0 (.loop lexRound))) lexEnd) := by rfl
def lexFrame (s : ByteArray) (c q : Nat) (v : Value) (J : Nat → Value) : Array Value :=
  #[.string s, J 1, J 2, J 3, J 4, .chan (some c), .chan (some q), v, J 8, J 9, J 10, J 11, J 12, J 13, J 14, J 15, J 16, J 17, .chan (some c), J 19, J 20, J 21, J 22, J 23, J 24, J 25, J 26, J 27, J 28, J 29, J 30, J 31, J 32, J 33, J 34, J 35]
def gotFrame (s : ByteArray) (c q : Nat) (v x : Value) (J : Nat → Value) : Array Value :=
  #[.string s, J 1, J 2, J 3, J 4, .chan (some c), .chan (some q), v, J 8, J 9, J 10, J 11, J 12, J 13, J 14, J 15, J 16, J 17, .chan (some c), J 19, J 20, x, J 22, J 23, J 24, J 25, J 26, J 27, J 28, J 29, J 30, J 31, J 32, J 33, J 34, J 35]
def xFrame (s : ByteArray) (c q : Nat) (v : Value) (xb : Nat) (J : Nat → Value) : Array Value :=
  #[.string s, J 1, J 2, J 3, J 4, .chan (some c), .chan (some q), v, .pointer (some ⟨xb, 0, none⟩), J 9, J 10, J 11, J 12, J 13, J 14, J 15, J 16, J 17, .chan (some c), J 19, J 20, J 21, J 22, J 23, J 24, J 25, J 26, J 27, J 28, J 29, J 30, J 31, J 32, J 33, J 34, J 35]
section
variable {d : Deal} {o : Option Nat} {L : List (Nat × Obj)} {w0 : World} {v : Value} {n : Nat} {xs : List Value} {df : List Deferred} {b : Frame} {kk : List Item} {cs : List Frame} {Stop : Goroutine → World → Prop}
abbrev MX (d : Deal) (L : List (Nat × Obj)) (w0 : World) (v : Value) (n : Nat) (xs : List Value) (o : Option Nat) (w : World) : Prop := MH d T0 69 3 L w0 v n xs o w
set_option maxRecDepth 100000 in
theorem rcv_step (s : ByteArray) (c q : Nat) (J : Nat → Value) (hbk : b.kind ≠ .early) (w : World) :
    stepG Tryd.prog true (G (b.at ⟨lexFrame s c q v J, df⟩ (.inRegion rcvOps [0, 1] :: kk)) cs) w =
      .comm (G (b.at ⟨lexFrame s c q v J, df⟩ (.inRegion rcvOps [0, 1] :: kk)) cs) #[rcase c zItem] true (.recv true) w #[] := by
  have ho : rcvOps[0]? = some { dst := some 19, op := .recv 65 (.tmp 18) true, type := 0, pos := "lexer.go:101", after := #[], guard := none } := by rfl
  have he1 : (⟨lexFrame s c q v J, df⟩ : Act).eval (.tmp 18) = .chan (some c) := rfl
  have hr : (execOp (⟨lexFrame s c q v J, df⟩ : Act).eval { dst := some 19, op := .recv 65 (.tmp 18) true, type := 0, pos := "lexer.go:101", after := #[], guard := none }).run Tryd.prog w = .ok (.comm #[rcase c zItem] true (.recv true)) w := by
    unfold execOp
    simp [rcase, he1, zItem, itemCells]
  have hl : (execOp (⟨lexFrame s c q v J, df⟩ : Act).eval { dst := some 19, op := .recv 65 (.tmp 18) true, type := 0, pos := "lexer.go:101", after := #[], guard := none }).events Tryd.prog w #[] = #[] := by
    unfold execOp
    simp
  rw [stepG_comm ho (by rfl) hbk hr, listed_nil hl]
theorem rcv_done (s : ByteArray) (c q : Nat) (x : Value) (ok : Bool) (J : Nat → Value) :
    (G (b.at ⟨lexFrame s c q v J, df⟩ (.inRegion rcvOps [0, 1] :: kk)) cs).finishComm Tryd.prog #[rcase c zItem] (.recv true) 0 x ok =
      G (b.at ⟨(lexFrame s c q v J).setIfInBounds 19 (.tuple #[x, .bool ok]), df⟩ (.inRegion rcvOps [1] :: kk)) cs := by
  have ho : (rcvOps[0]?).bind (·.dst) = some 19 := by rfl
  have hr : commResult #[rcase c zItem] (.recv true) 0 x ok = .tuple #[x, .bool ok] := by rfl
  simp only [Goroutine.finishComm, G, hr, Frame.finish_at, ho]
  rfl
set_option maxRecDepth 100000 in
set_option maxHeartbeats 4000000 in
theorem rcv_post (s : ByteArray) (c q : Nat) (x : Value) (J : Nat → Value) (w : World) (hF : MX d L w0 v n xs o w) :
    OpsC Tryd.prog true (Rely d T0 o) (Lx.Does d T0 o) 17 rcvOps [1] 10
      (Exit.then (fun a' w' => ∃ J', a' = ⟨((lexFrame s c q v J').setIfInBounds 19 (.tuple #[x, .bool true])).setIfInBounds 20 (.bool true), df⟩ ∧ MX d L w0 v n xs o w') (fun _ _ _ => False))
      ⟨(lexFrame s c q v J).setIfInBounds 19 (.tuple #[x, .bool true]), df⟩ w := by
  have he : rcvOps = opsOf (fstOf lexRound) := rfl
  rw [he]
  clear he
  unfold lexRound lexLoop lexAfter lexWork lexText
  simp only [Tryd.f17, Option.getD_some, fstOf, sndOf, inOf, opsOf, lexFrame, List.setIfInBounds_toArray, List.set_cons_succ, List.set_cons_zero]
  co_apply opsC_more
  · co_op MH.rely hF (co_quiet terms)
    co_apply opsC_nil terms
    co_then
    exact frame_ex (by rfl) hF
  · decide
set_option maxRecDepth 100000 in
set_option maxHeartbeats 4000000 in
theorem rcv_test (s : ByteArray) (c q : Nat) (x : Value) (J : Nat → Value) (w : World) (hF : MX d L w0 v n xs o w) :
    Code.wpC Tryd.prog true (Rely d T0 o) (Lx.Does d T0 o) 17 (fstOf (sndOf lexRound)) 100
      (Exit.then (fun a' w' => ∃ J', a' = ⟨(lexFrame s c q v J').setIfInBounds 19 (.tuple #[x, .bool true]), df⟩ ∧ MX d L w0 v n xs o w') (fun _ _ _ => False))
      ⟨((lexFrame s c q v J).setIfInBounds 19 (.tuple #[x, .bool true])).setIfInBounds 20 (.bool true), df⟩ w := by
  unfold lexRound lexLoop lexAfter lexWork lexText
  simp only [Tryd.f17, Option.getD_some, fstOf, sndOf, inOf, lexFrame, List.setIfInBounds_toArray, List.set_cons_succ, List.set_cons_zero]
  co_apply wpC_more
  · skip
    co_apply wpC_cond (t := true) terms rfl
    simp only [if_true]
    co_ctl terms
    co_then
    exact frame_ex (by rfl) hF
  · decide
set_option maxRecDepth 100000 in
set_option maxHeartbeats 4000000 in
theorem to_x (s : ByteArray) (c q : Nat) (x : Value) (J : Nat → Value) (hbf : b.fn = 17) (hbk : b.kind ≠ .early) (w : World) (hF : MX d L w0 v n xs o w)
    (hS : ∀ J w₁, MX d L w0 v n xs o w₁ → Stop (G (b.at ⟨gotFrame s c q v x J, df⟩ (.inRegion xOps [1, 2] :: .code (.seq (fstOf (sndOf lexItem)) (sndOf (sndOf lexItem))) :: .inBlock 1 :: kk)) cs) w₁) :
    Goes Tryd.prog true (Rely d T0 o) (Lx.Does d T0 o) Stop 200 (G (b.at ⟨(lexFrame s c q v J).setIfInBounds 19 (.tuple #[x, .bool true]), df⟩ (.inRegion rcvOps [1] :: .code (.seq (fstOf (sndOf lexRound)) (.block 1 (.seq (.region 9 xOps false) (.seq (fstOf (sndOf lexItem)) (sndOf (sndOf lexItem)))))) :: kk)) cs) w := by
  refine Goes.mono (goes_ops (m := 150) (rcv_post s c q x J w hF) hbf hbk ?_) (by decide)
  rintro e a' w' h
  cases e with
  | normal =>
    clear hF
    obtain ⟨J', rfl, hF⟩ := h
    refine Goes.mono (goes_seq terms (goes_code (m := 10) (rcv_test s c q x J' w' hF) hbf hbk ?_)) (by decide)
    rintro e a' w' h
    cases e with
    | normal =>
      clear hF
      obtain ⟨J', rfl, hF⟩ := h
      refine Goes.mono (n := 1 + 1 + 1 + 1) (n' := 10) (goes_block terms (goes_seq terms (goes_region terms ?_))) (by decide)
      have he : xOps = opsOf (fstOf lexItem) := rfl
      rw [he] at hS ⊢
      generalize hg : Code.seq (fstOf (sndOf lexItem)) (sndOf (sndOf lexItem)) = rest at hS ⊢
      clear hg he
      unfold lexItem lexRound lexLoop lexAfter lexWork lexText at hS ⊢
      simp only [Tryd.f17, Option.getD_some, fstOf, sndOf, inOf, opsOf, lexFrame, List.setIfInBounds_toArray, List.set_cons_succ, List.set_cons_zero, List.size_toArray, List.length_cons, List.length_nil, Nat.reduceAdd, Nat.zero_add, List.range, List.range.loop] at hS ⊢
      co_apply goes_op rfl (by rfl) hbk
      intro _ hR K hK
      replace hF := MH.rely hF hR
      clear hR
      go_simp
      refine hK _ _ ⟨?_, ?_⟩
      · co_quiet terms
      clear hK K
      try walk_nrm
      exact goes_stop fun w₁ hR => stop_ex hS (by rfl) w₁ (MH.rely hF hR)
    | _ => exact h.elim
  | _ => exact h.elim
theorem x_step (s : ByteArray) (c q : Nat) (x : Value) (J : Nat → Value) (hbk : b.kind ≠ .early) (w : World) :
    ∃ es, stepG Tryd.prog true (G (b.at ⟨gotFrame s c q v x J, df⟩ (.inRegion xOps [1, 2] :: kk)) cs) w =
      .go (G (b.at ⟨(gotFrame s c q v x J).setIfInBounds 8 (.pointer (some ⟨w.heap.size, 0, none⟩)), df⟩ (.inRegion xOps [2] :: kk)) cs) (w.alloc (.cells (itemCells 0 0 ⟨#[]⟩ 0) 71 (0, 0))) es ∧ ∀ e ∈ es, EvOk d T0 (some w.heap.size) (w.alloc (.cells (itemCells 0 0 ⟨#[]⟩ 0) 71 (0, 0))) e := by
  have ho : xOps[1]? = some { dst := some 8, op := .alloc 71, type := 0, pos := "lexer.go:101", after := #[], guard := none } := by rfl
  refine ⟨_, stepG_value ho (by rfl) hbk (v := .pointer (some ⟨w.heap.size, 0, none⟩)) ?_, ?_⟩
  · refine run_ok_of fun K hK => ?_
    go_simp
    exact hK
  · rw [listed_nil (by simp [go_sem])]
    simp
end
end Go.Proofs.YtkmbmgmfcecfkaaDoor
namespace Go.Proofs.YtkmbmgmfcecfkaaDoor
open Go.Conc Go.Lx
theorem t0_token : T0 69 := rfl
theorem Tryd.info69 : (Tryd.prog.info? 69).map (fun i => (i.zero, i.size, i.bytes)) = some (some (.agg #[.int .i64 0, .int .i64 0, .string ⟨#[]⟩]), 3, 32) := by kernel_rfl
section
variable {d : Deal} {o : Option Nat} {L : List (Nat × Obj)} {w0 : World} {v : Value} {n xb : Nat} {xs : List Value} {df : List Deferred}
set_option maxRecDepth 100000 in
set_option maxHeartbeats 4000000 in
theorem x_store (s x : ByteArray) (c q k : Nat) (kd e : Int) (J : Nat → Value) (hv : v.ownBlock ≠ some xb) (w : World) (hF : MX d [(xb, Obj.cells (itemCells 0 0 ⟨#[]⟩ 0) 71 (0, 0))] w0 v n xs (some xb) w) :
    OpsC Tryd.prog true (Rely d T0 (some xb)) (Lx.Does d T0 (some xb)) 17 xOps [2] 10
      (Exit.then (fun a' w' => ∃ J', a' = ⟨xFrame s c q v xb J', df⟩ ∧ MX d [(xb, Obj.cells (itemCells kd k x e) 71 (0, 0))] w0 v n xs (some xb) w') (fun _ _ _ => False))
      ⟨(gotFrame s c q v (.agg (itemCells kd k x e)) J).setIfInBounds 8 (.pointer (some ⟨xb, 0, none⟩)), df⟩ w := by
  have he : xOps = opsOf (fstOf lexItem) := rfl
  rw [he]
  clear he
  unfold lexItem lexRound lexLoop lexAfter lexWork lexText
  simp only [Tryd.f17, Option.getD_some, fstOf, sndOf, inOf, opsOf, gotFrame, xFrame, itemCells, List.setIfInBounds_toArray, List.set_cons_succ, List.set_cons_zero] at hF ⊢
  co_apply opsC_more
  · co_opw MH.rely hF (have hm : (xb, Obj.cells #[.int .i64 0, .int .i64 ((0 : Nat) : Int), .string ⟨#[]⟩, .int .i64 0] 71 (0, 0)) ∈ [(xb, Obj.cells #[.int .i64 0, .int .i64 ((0 : Nat) : Int), .string ⟨#[]⟩, .int .i64 0] 71 (0, 0))] := List.mem_cons_self; have hc0 : _ = some _ := hF.holds.cell hm 0; have hc1 : _ = some _ := hF.holds.cell hm 1; have hc2 : _ = some _ := hF.holds.cell hm 2; have hc3 : _ = some _ := hF.holds.cell hm 3; have hf0 := hF.holds.frozen hm 0; have hf1 := hF.holds.frozen hm 1; have hf2 := hF.holds.frozen hm 2; have hf3 := hF.holds.frozen hm 3) (have ho := hF.holds.boxOwn; have ht := Turn.set4 ho (hF.holds.lt hm) hF.holds.big (.int .i64 kd) (.int .i64 (k : Int)) (.string x) (.int .i64 e); refine ⟨ht, ?_⟩; have ho2 := ht.own_fwd (hF.holds.lt hm) ho; clear ht ho; have es := ev_store_str Tryd.prog; intro e he; have hm := mem_listed he; simp [go_sem, *] at hm; rcases hm with rfl | rfl | rfl | rfl <;> exact evOk_cell ho2 _ _ _)
    replace hF := hF.set4 hv (.int .i64 kd) (.int .i64 (k : Int)) (.string x) (.int .i64 e)
    co_apply opsC_nil terms
    co_then
    exact frame_ex (by rfl) hF
  · decide
set_option maxRecDepth 100000 in
set_option maxHeartbeats 4000000 in
theorem x_test (s x : ByteArray) (c q k : Nat) (kd : Int) (J : Nat → Value) (w : World) (hF : MX d [(xb, Obj.cells (itemCells kd k x 0) 71 (0, 0))] w0 v n xs (some xb) w) :
    Code.wpC Tryd.prog true (Rely d T0 (some xb)) (Lx.Does d T0 (some xb)) 17 (fstOf (sndOf lexItem)) 100
      (Exit.then (fun a' w' => ∃ J', a' = ⟨xFrame s c q v xb J', df⟩ ∧ MX d [(xb, Obj.cells (itemCells kd k x 0) 71 (0, 0))] w0 v n xs (some xb) w') (fun _ _ _ => False))
      ⟨xFrame s c q v xb J, df⟩ w := by
  have hm : (xb, Obj.cells (itemCells kd k x 0) 71 (0, 0)) ∈ [(xb, Obj.cells (itemCells kd k x 0) 71 (0, 0))] := List.mem_cons_self
  unfold lexItem lexRound lexLoop lexAfter lexWork lexText
  simp only [Tryd.f17, Option.getD_some, fstOf, sndOf, inOf, xFrame]
  co_apply wpC_more
  · co_apply wpC_seq terms
    co_reg terms
    co_op MH.rely hF (co_quiet terms)
    co_opw MH.rely hF (have hc : _ = some (Value.int .i64 0) := hF.holds.cell hm 3) (refine Does.reads ?_; co_evs (exact hF.holds.read hm _ _))
    clear hc
    co_op MH.rely hF (co_quiet terms)
    co_apply opsC_nil terms
    co_then
    co_apply wpC_cond (t := false) terms rfl
    simp only [Bool.false_eq_true, if_false]
    co_ctl terms
    co_then
    exact frame_ex (by rfl) hF
  · decide
set_option maxRecDepth 100000 in
set_option maxHeartbeats 4000000 in
theorem x_append (s x : ByteArray) (c q k : Nat) (kd : Int) (J : Nat → Value) (hn : n ≤ 1000000) (w : World) (hF : MX d [(xb, Obj.cells (itemCells kd k x 0) 71 (0, 0))] w0 v n xs (some xb) w) :
    Code.wpC Tryd.prog true (Rely d T0 (some xb)) (Lx.Does d T0 (some xb)) 17 (sndOf (sndOf lexItem)) 100
      (Exit.then (fun a' w' => ∃ v', (∃ J', a' = ⟨lexFrame s c q v' J', df⟩ ∧ MX d [] w0 v' (n + 1) (xs ++ [.int .i64 kd, .int .i64 (k : Int), .string x]) (some xb) w')) (fun _ _ _ => False))
      ⟨xFrame s c q v xb J, df⟩ w := by
  have hm : (xb, Obj.cells (itemCells kd k x 0) 71 (0, 0)) ∈ [(xb, Obj.cells (itemCells kd k x 0) 71 (0, 0))] := List.mem_cons_self
  obtain ⟨i0, hi, hz⟩ := Option.map_eq_some_iff.1 Tryd.info69
  simp only [Prod.mk.injEq] at hz
  obtain ⟨hz0, hz1, hz2⟩ := hz
  have HI := Lib.hid hi
  have HZ0 := Lib.hid hz0
  have HZ1 := Lib.hid hz1
  have HZ2 := Lib.hid hz2
  clear hi hz0 hz1 hz2
  unfold lexItem lexRound lexLoop lexAfter lexWork lexText
  simp only [Tryd.f17, Option.getD_some, fstOf, sndOf, inOf, xFrame, lexFrame]
  co_apply wpC_more
  · co_reg terms
    co_op MH.rely hF (co_quiet terms)
    co_op MH.rely hF (co_quiet terms)
    co_opw MH.rely hF (have hc0 : _ = some (Value.int .i64 kd) := hF.holds.cell hm 0; have hc1 : _ = some (Value.int .i64 (k : Int)) := hF.holds.cell hm 1; have hc2 : _ = some (Value.string x) := hF.holds.cell hm 2) (refine Does.reads ?_; intro e he; have hm := mem_listed he; simp [go_sem, *] at hm; rcases hm with rfl | rfl | rfl <;> exact hF.holds.read hm _ _)
    clear hc0 hc1 hc2
    co_opw MH.rely hF (skip) (refine ⟨Turn.alloc t0_token hF.holds.box, ?_⟩; co_evs (skip))
    have hBn := hF.holds.big
    replace hF := hF.cons #[.int .i64 kd, .int .i64 (k : Int), .string x] t0_token
    revert hBn hF
    generalize Array.size (World.heap _) = nb
    intro hBn hF
    co_apply opsC_cons_k rfl (by rfl)
    intro w1 hR K hK
    replace hF := MH.rely hF hR
    clear hR
    have hmn : (nb, Obj.cells #[.int .i64 kd, .int .i64 (k : Int), .string x] 69 (0, 0)) ∈ (nb, Obj.cells #[.int .i64 kd, .int .i64 (k : Int), .string x] 69 (0, 0)) :: [(xb, Obj.cells (itemCells kd k x 0) 71 (0, 0))] := List.mem_cons_self
    have hnews : ∀ j u, [Value.int .i64 kd, .int .i64 (k : Int), .string x][j]? = some u → w1.cell? ((⟨nb, 0, none⟩ : Addr).add j) = some u := by
      intro j u hu
      rw [add_at, hF.holds.cell hmn j]
      simpa using hu
    have h1 : ∀ u ∈ [Value.int .i64 kd, .int .i64 (k : Int), .string x], u.oneCell' = true := by
      intro u hu
      simp only [List.mem_cons, List.not_mem_nil, or_false] at hu
      rcases hu with rfl | rfl | rfl <;> rfl
    have hmx : n + 1 ≤ maxLen := by simp only [maxLen]; omega
    have hby : (n + 1) * 32 ≤ 140737488355328 := by omega
    obtain ⟨v', w', hr, hown', hg, ht⟩ := append_turn (P := Tryd.prog) (d := d) (T := T0) (o := some xb) w1 53 53 69 i0 _ 3 32 Tryd.underlying53 HI.out HZ0.out HZ1.out HZ2.out rfl (by decide) v n xs hF.own ⟨nb, 0, none⟩ 1 1 [.int .i64 kd, .int .i64 (k : Int), .string x] (by decide) rfl hnews h1 hmx hby t0_token hF.holds.big hF.holds.box
    have hev := events_append_where (P := Tryd.prog) w1 d.B 53 53 69 i0 _ 3 32 Tryd.underlying53 HI.out HZ0.out HZ1.out HZ2.out v n xs hF.own ⟨nb, 0, none⟩ 1 1 [.int .i64 kd, .int .i64 (k : Int), .string x] rfl hnews h1 hmx hby
    refine uponK_append (.tmp 30) (.tmp 33) 53 rfl rfl rfl hr (hK _ _ ⟨⟨ht, ?_⟩, ?_⟩)
    · intro e he
      have hm := mem_listed he
      rw [events_append_op (.tmp 30) (.tmp 33) 53 rfl rfl rfl] at hm
      rcases hev e hm with ⟨ad, hl, hcase⟩ | ⟨m, rfl, hneu⟩
      · rcases hcase with ⟨_, hb⟩ | hb
        · have hb : ad.block = nb := hb
          exact evOk_loc hl (hb ▸ ht.own_fwd (hF.holds.lt hmn) (hF.holds.mine hmn hBn t0_token))
        · obtain ⟨h1, h2⟩ := own_of_row (o := some xb) t0_token hF.own hb.symm
          exact evOk_loc hl (ht.own_fwd h2 h1)
      · exact evOk_mark hneu
    replace hF : MX d [] w0 v' (n + 1) (xs ++ [.int .i64 kd, .int .i64 (k : Int), .string x]) (some xb) w' :=
      ⟨⟨by simp, by simp, Nat.le_trans hF.holds.big ht.size, fun b hb => Nat.lt_of_lt_of_le (hF.holds.box b hb) ht.size⟩, hown', hF.low.turn ht hF.holds.big hF.boxB, t0_token, hF.boxB⟩
    clear hK K hnews h1 hr hown' hg ht hev hmn hBn
    try walk_nrm
    co_op MH.rely hF (co_quiet terms)
    co_apply opsC_nil terms
    co_then
    exact ⟨v', frame_ex (by rfl) hF⟩
  · decide
end
end Go.Proofs.YtkmbmgmfcecfkaaDoor
