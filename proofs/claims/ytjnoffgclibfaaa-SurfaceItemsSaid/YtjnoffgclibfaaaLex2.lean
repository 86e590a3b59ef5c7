/- Lex: its contract, beside goroutines that only leave, at a text whose bytes all belong somewhere. -/
import Derived.Test.YtjnoffgclibfaaaLex
import Derived.Conc.LoneCalls
set_option linter.unusedSimpArgs false
set_option linter.unusedVariables false
namespace Go.Proofs.Ytjnoffgclibfaaa
open Go.Conc Go.Lx

/-- What lies below is as it was. -/
structure Under (W w : World) : Prop where
  os : w.os = W.os
  output : w.output = W.output
  size : W.heap.size ≤ w.heap.size
  low : ∀ b, b < W.heap.size → w.heap[b]? = W.heap[b]?
theorem Under.re {W w : World} (h : Under W w) (τ : Nat → Question → Nat) (d : Nat) : Under W (re w τ d) := ⟨h.os, h.output, h.size, h.low⟩

/-- What Lex leaves. -/
def LexPost (W : World) (all : List Tok) (r : Value) (w : World) : Prop :=
  ∃ v, r = .tuple #[v, .int .i64 0, .int .i64 0] ∧ w.ownsRow W.heap.size 31 3 v all.length (tokCells all) ∧ Under W w

def endFrame (v : Value) (J : Nat → Value) : Array Value := #[J 0, J 1, v, .int .i64 0, .int .i64 0, J 5, J 6, J 7, J 8, J 9, J 10, J 11, J 12, J 13, J 14, J 15, J 16, J 17, J 18, J 19, J 20, J 21, J 22, J 23, J 24, J 25, J 26, J 27, J 28, J 29, J 30, J 31, J 32, J 33, J 34, J 35]
def lateFrame (s : ByteArray) (c q : Nat) (v : Value) (J : Nat → Value) : Array Value := #[.string s, J 1, J 2, J 3, J 4, .chan (some c), .chan (some q), v, J 8, J 9, J 10, J 11, J 12, J 13, J 14, J 15, J 16, J 17, J 18, J 19, .bool false, J 21, J 22, J 23, J 24, J 25, J 26, J 27, J 28, J 29, J 30, J 31, J 32, J 33, J 34, J 35]

section
variable {s : ByteArray} {c q : Nat} {v : Value}

set_option maxRecDepth 100000 in
theorem end_extract {df : List Deferred} (J : Nat → Value) (w : World) :
    wpOps Try.prog rcvOps (Exit.then (IsF (lateFrame s c q v) df (w = ·)) (fun _ _ _ => False)) [1] ⟨(lexFrame s c q v J).setIfInBounds 19 (.tuple #[zItem, .bool false]), df⟩ w := by
  have he : rcvOps = opsOf (fstOf lexRound) := rfl
  rw [he]
  unfold lexRound lexLoop lexAfter lexWork lexText
  simp only [Try.f14, Option.getD_some, fstOf, sndOf, inOf, opsOf]
  refine .inl ?_
  exact isFa (F := lateFrame s c q v) (df := df) (by rfl) rfl

set_option maxRecDepth 100000 in
theorem end_test {df : List Deferred} (J : Nat → Value) (w : World) :
    (fstOf (sndOf lexRound)).wp Try.prog (fun e a' w' => e = .exit 0 ∧ IsF (lateFrame s c q v) df (w = ·) a' w') ⟨lateFrame s c q v J, df⟩ w := by
  unfold lexRound lexLoop lexAfter lexWork lexText
  simp only [Try.f14, Option.getD_some, fstOf, sndOf, inOf]
  unfold lateFrame
  go_wp2
  exact isFa (F := lateFrame s c q v) (by rfl) rfl

set_option maxRecDepth 100000 in
theorem end_end {df : List Deferred} (J : Nat → Value) (w : World) :
    lexEnd.wp Try.prog (fun e a' w' => e = .ret ∧ IsF (endFrame v) df (w = ·) a' w') ⟨lateFrame s c q v J, df⟩ w := by
  unfold lexEnd lexAfter lexWork lexText
  simp only [Try.f14, Option.getD_some, sndOf]
  unfold lateFrame
  go_wp2
  exact isFa (F := endFrame v) (by rfl) rfl
end

theorem wp_same {c : Code} {Q : Exit → Act → World → Prop} {a : Act} {W w : World} (hw : w.Alike W) (h : ∀ w', w'.Alike W → c.wp Try.prog Q a w') (τ : Nat → Question → Nat) (d : Nat) : c.wp Try.prog Q a (re w τ d) := h _ ⟨hw.1, hw.2.1, hw.2.2⟩

theorem mono_same {F : (Nat → Value) → Array Value} {df : List Deferred} {W w : World} (hw : w.Alike W) : ∀ e a w', Exit.then (IsF F df (w = ·)) (fun _ _ _ => False) e a w' → Exit.then (IsF F df (·.Alike W)) (fun _ _ _ => False) e a w' := by
  intro e a w' h
  cases e with
  | normal => obtain ⟨h1, rfl⟩ := h; exact ⟨h1, hw⟩
  | _ => exact h

theorem ownsRow_base {w : World} {b b' : Nat} {e : TypeId} {size n : Nat} {v : Value} {xs : List Value} (h : w.ownsRow b e size v n xs) (hb : b' ≤ b) : w.ownsRow b' e size v n xs := by
  refine ⟨h.1, ?_⟩
  rcases h.2 with hn | ⟨g, cap, cur, rfl, hg, rest⟩
  · exact .inl hn
  · exact .inr ⟨g, cap, cur, rfl, Nat.le_trans hb hg, rest⟩

/-- The end of Lex. -/
theorem lex_last (T : Tame Try.prog) {s : ByteArray} {W w0 : World} {c q : Nat} {all : List Tok} (hC : Chans W c q w0) (cs : List Frame) (g : Goroutine) (w : World) (h : lexFin s w0.heap.size c q cs w0 all g w) :
    RunG Try.prog (fun g' w' => ∃ r fr, g' = G fr cs ∧ fr.fn = 14 ∧ (∀ τ d, fr.leaving Try.prog (re w' τ d) (.returned r)) ∧ LexPost W all r w') g w := by
  obtain ⟨o, v, J, rfl, hM⟩ := h
  have hsz := hC.size
  have hqlt : q < w0.heap.size := by obtain ⟨_, _, _, hq⟩ := hC.quit; exact (Array.getElem?_eq_some_iff.1 hq).1
  have hq : ∃ s r tm, w.heap[q]? = some (.chan 0 #[] false s r tm) := by
    obtain ⟨s, r, tm, hq⟩ := hC.quit
    exact ⟨s, r, tm, by rw [hM.low.block q hqlt (Ne.symm hC.ne)]; exact hq⟩
  -- the extract
  refine RunG.lone T fun τ d => ?_
  obtain ⟨a1, w1, ⟨⟨J1, rfl⟩, rfl⟩, hs1⟩ := ops_upto (K := IsF (lateFrame s c q v) (lexDefers q) (re w τ d = ·)) [1] [] _ _ (end_extract (s := s) (c := c) (q := q) (v := v) (df := lexDefers q) J (re w τ d)) bLex (.code (.seq (fstOf (sndOf lexRound)) (.block 1 (.seq (.region 9 xOps false) (.seq (fstOf (sndOf lexItem)) (sndOf (sndOf lexItem)))))) :: lexTodo) cs (by decide)
  refine ⟨_, _, hs1, rfl, RunG.re ?_ τ d⟩
  refine RunG.step T (fun w => step_region_end) (RunG.step T (fun w => step_seq) ?_)
  refine wpG_lone T (Q := fun e a' w' => e = .exit 0 ∧ IsF (lateFrame s c q v) (lexDefers q) (·.Alike w) a' w') (fun τ d => wp_mono (end_test (s := s) (c := c) (q := q) (v := v) (df := lexDefers q) J1 (re w τ d)) ?_) bLex _ cs _ (by decide) ?_
  · rintro e a' w' ⟨rfl, h1, rfl⟩
    exact ⟨rfl, h1, rfl, rfl, rfl⟩
  rintro e a' w2 ⟨rfl, ⟨J2, rfl⟩, hA2⟩
  refine ⟨[.code lexEnd], by simp [exitTo, lexTodo], ?_⟩
  refine wpG_lone T (Q := fun e a' w' => e = .ret ∧ IsF (endFrame v) (lexDefers q) (·.Alike w) a' w') (fun τ d => wp_mono (end_end (s := s) (c := c) (q := q) (v := v) (df := lexDefers q) J2 (re w2 τ d)) ?_) bLex _ cs _ (by decide) ?_
  · rintro e a' w' ⟨rfl, h1, rfl⟩
    exact ⟨rfl, h1, hA2.1, hA2.2.1, hA2.2.2⟩
  rintro e a' w3 ⟨rfl, ⟨J3, rfl⟩, hA3⟩
  intro todo
  obtain ⟨s', r', tm', hq3⟩ := hq
  rw [← hA3.1] at hq3
  refine RunG.lone T fun τ d => ⟨G { bLex.at ⟨endFrame v J3, []⟩ todo with mode := .returning } cs, (re w3 τ d).setChan q 0 #[] true s' r' tm', .one ?_, rfl, ?_⟩
  · exact step_solo_go rfl (stepG_dclose (b := bLex) (w := re w3 τ d) (ats := #[71]) (ty := 0) (bs := #[false]) hq3 (by kernel_rfl))
  · refine RunG.stop fun τ' d' => ⟨.tuple #[v, .int .i64 0, .int .i64 0], _, rfl, rfl, fun τ'' d'' => ⟨rfl, rfl, rfl, _, Try.func14, ?_⟩, v, rfl, ?_, ?_⟩
    · show (results Try.f14 (endFrame v J3)).run Try.prog _ = _
      simp [results, Try.f14, endFrame]
    · have ho : w3.ownsRow W.heap.size 31 3 v all.length (tokCells all) := by
        have := ownsRow_base hM.own (b' := W.heap.size) (by show W.heap.size ≤ w0.heap.size; omega)
        unfold World.ownsRow at this ⊢
        rw [hA3.1]; exact this
      refine ⟨ho.1, ?_⟩
      rcases ho.2 with hn | ⟨gg, cap, cur, rfl, hb, hg, rest⟩
      · exact .inl hn
      · refine .inr ⟨gg, cap, cur, rfl, hb, ?_, rest⟩
        have hne : q ≠ gg := by rintro rfl; rw [hq3] at hg; cases hg
        show (w3.setChan q 0 #[] true s' r' tm').heap[gg]? = _
        simp only [World.setChan]
        rw [Array.getElem?_setIfInBounds_ne hne]; exact hg
    · refine ⟨?_, ?_, ?_, fun b hb => ?_⟩
      · show w3.os = W.os
        rw [hA3.2.1, hM.low.os, hC.os]
      · show w3.output = W.output
        rw [hA3.2.2, hM.low.output, hC.output]
      · show W.heap.size ≤ (w3.heap.setIfInBounds q _).size
        have := hM.low.size
        rw [Array.size_setIfInBounds, hA3.1]; omega
      · show (w3.heap.setIfInBounds q _)[b]? = _
        have h1 := hC.ql
        have h2 := hC.cl
        rw [Array.getElem?_setIfInBounds_ne (by omega), hA3.1, hM.low.block b (by show b < w0.heap.size; omega) (by show b ≠ c; omega), hC.low b hb]

theorem lex_start (s : ByteArray) : Frame.enter Try.prog 14 #[.string s] .normal = bLex.at ⟨oneFrame s (fun _ => undef), []⟩ [.code lexText] := by
  have hb : Try.f14.body = some lexText := rfl
  rw [enter_at _ Try.func14 hb]
  simp only [Try.ntmps14, List.size_toArray, List.length_cons, List.length_nil, Nat.reduceAdd, Nat.reduceSub, Array.replicate_succ, Array.replicate_zero, List.push_toArray, List.append_toArray, List.nil_append, List.cons_append]
  rfl

/-- LEX. -/
theorem lex_calls (T : Tame Try.prog) (s : ByteArray) (hs : s.size ≤ 20000) (acts : List SAct) (h : Scans s 0 acts) (all : List Tok) (hsame : sends acts = all.map itemV) (hlen : all.length ≤ 1000000) (W : World) :
    CallsG Try.prog 14 #[.string s] W (LexPost W all) := by
  intro cs
  rw [lex_start, lexText_eq]
  refine RunG.step T (fun w => step_seq) ?_
  refine wpG_lone T (Q := Exit.then (IsF (oneFrame s) [] (·.Alike W)) (fun _ _ _ => False)) (wp_same ⟨rfl, rfl, rfl⟩ fun w' hw' => wp_mono (lex_first s _ w') (mono_same hw')) bLex _ cs _ (by decide) ?_
  rintro e a' w1 h1
  cases e with
  | normal =>
    obtain ⟨⟨J1, rfl⟩, hA1⟩ := h1
    refine RunG.step T (fun w => step_seq) ?_
    refine wpG_lone T (Q := Exit.then (IsF (oneFrame s) [] (·.Alike W)) (fun _ _ _ => False)) (wp_same hA1 fun w' hw' => wp_mono (lex_test s hs _ w') (mono_same hw')) bLex _ cs _ (by decide) ?_
    rintro e a' w2 h2
    cases e with
    | normal =>
      obtain ⟨⟨J2, rfl⟩, hA2⟩ := h2
      rw [lexWork_eq]
      refine RunG.step T (fun w => step_seq) ?_
      refine wpG_lone T (Q := Exit.then (IsC s (fun _ => []) W) (fun _ _ _ => False)) (wp_same hA2 fun w' hw' => wp_mono (lex_chans s _ w') ?_) bLex _ cs _ (by decide) ?_
      · intro e a w'' hh
        cases e with
        | normal =>
          obtain ⟨c, q, hF, hC⟩ := hh
          have hz : w'.heap.size = W.heap.size := by rw [hw'.1]
          exact ⟨c, q, hF, hC.os.trans hw'.2.1, hC.output.trans hw'.2.2, by rw [hC.size, hz], fun b hb => by rw [hC.low b (by omega), hw'.1], hC.ne, by have := hC.cl; omega, by have := hC.ql; omega, hC.chan, hC.quit⟩
        | _ => exact hh
      rintro e a' w3 h3
      cases e with
      | normal =>
        obtain ⟨c, q, ⟨J3, rfl⟩, hC⟩ := h3
        refine RunG.step T (fun w => step_seq) ?_
        refine wpG_lone T (Q := Exit.then (IsF (chanFrame s c q) (lexDefers q) (·.Alike w3)) (fun _ _ _ => False)) (wp_same ⟨rfl, rfl, rfl⟩ fun w' hw' => wp_mono (lex_defer s c q _ w') (mono_same hw')) bLex _ cs _ (by decide) ?_
        rintro e a' w4 h4
        cases e with
        | normal =>
          obtain ⟨⟨J4, rfl⟩, hA4⟩ := h4
          refine RunG.step T (fun w => step_seq) (RunG.step T (fun w => step_region) ?_)
          refine RunG.lone T fun τ d => ?_
          obtain ⟨a5, w5, ⟨⟨J5, rfl⟩, rfl⟩, hs5⟩ := ops_upto (K := IsF (goFrame s c q) (lexDefers q) (re w4 τ d = ·)) [0, 1, 2] [3] _ _ (lex_args s c q J4 (re w4 τ d)) bLex [.code lexAfter] cs (by decide)
          refine ⟨_, _, hs5, rfl, RunG.re ?_ τ d⟩
          refine RunG.trans (RunG.phase (X := shared w3.heap.size c q (lexFin s w3.heap.size c q cs w3 all)) (ms := mActs all) (ss := acts) (fun τ d => lex_atGo (by omega) acts h hsame hlen hC.ne J5 (re w4 τ d) ⟨hA4.2.1, hA4.2.2, by show w3.heap.size ≤ w4.heap.size; rw [hA4.1]; exact Nat.le_refl _, fun b _ _ => by show w4.heap[b]? = _; rw [hA4.1]⟩ (by show _ = w4.heap.size; rw [hA4.1]) (by show ∃ s r tm, w4.heap[c]? = _; rw [hA4.1]; exact hC.chan) (by show ∃ s r tm, w4.heap[q]? = _; rw [hA4.1]; exact hC.quit)) ?_) fun g' w' hf => lex_last T hC cs g' w' hf
          intro hg g' w' hf
          obtain ⟨o, v, J, rfl, _⟩ := hf
          refine ⟨⟨fun i hi => ?_, hg.below, .inl rfl⟩, rfl⟩
          simp only [G, Frame.at, lexTodo, List.mem_cons, List.not_mem_nil, or_false] at hi
          rcases hi with rfl | rfl | rfl | rfl | rfl <;> trivial
        | _ => exact h4.elim
      | _ => exact h3.elim
    | _ => exact h2.elim
  | _ => exact h1.elim
end Go.Proofs.Ytjnoffgclibfaaa
