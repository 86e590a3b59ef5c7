/- Part 5 of what the proof rests on. -/
import Derived.RunT
import Derived.Test.YtkmbmgmfcecfkaaDoorK04
set_option linter.unusedSimpArgs false
set_option linter.unusedVariables false
namespace Go.Lx
variable {P : Program}
theorem good_then {F A : World → GStep} {w w' : World} {c : Nat} (h1 : w'.drawn = w.drawn + c) (h2 : w'.tape = w.tape) (e : F w = A w')
    (e' : ∀ τ d, Agree w.tape w.drawn τ d c → F (re w τ d) = A (re w' τ (d + c))) (hA : Good A w') : Good F w := by
  rcases hA with hA | ⟨hS, c', g1, g2, g3⟩
  · left; rw [e]; exact hA
  · right
    refine ⟨by rw [e]; exact hS, c + c', by rw [e, g1, h1]; omega, by rw [e, g2, h2], fun τ d ha => ?_⟩
    rw [e' τ d ha.left, e, g3 τ (d + c) (by rw [h1, h2]; exact ha.right), Nat.add_assoc]
theorem kept_bal {fn : FuncId} {k : CallKind} {es : Array Event} (hms : ∀ x ∈ es, MS x) (hb : Bal 0 es) : Bal 0 (seen P fn (if k == .early then #[] else es)) := by
  intro x
  split
  · rw [seen_bal P fn ms_empty]; rfl
  · rw [seen_bal P fn hms]; exact hb x
theorem good_endThrow {fr : Frame} {m : String} {w : World} (hf : FrOk fr) : Good (fun v => endThrow fr m v) w := good_go ⟨hf, by simp, (by simp [StOk])⟩ bal0
theorem good_apply {fr : Frame} {cs : List Frame} {dy : Option Dying} {s : Sem Next} (hf : FrOk fr) (hc : ∀ f ∈ cs, FrOk f) (hs : OkN P s) (w : World) : Good (fun w => stepG.apply P true fr cs dy s w) w := by
  obtain ⟨r, es, hr, hms, hb, hn⟩ := run_data hs w
  rcases hn with ⟨h, w', hd, rfl⟩ | ⟨c, h1, h2, h3⟩
  · left
    cases h with
    | stuck x => simp only [stepG.apply, if_true, hr]; exact done_after trivial
    | unsupported u =>
      cases u with
      | noEntry x => simp only [stepG.apply, if_true, hr]; exact done_after trivial
      | _ => cases hd
    | _ => cases hd
  · cases r with
    | ok a w' =>
      have q1 : w'.drawn = w.drawn + c := h1
      have q2 : w'.tape = w.tape := h2
      have hbal := kept_bal (P := P) (fn := fr.fn) (k := fr.kind) hms hb.2
      have hN := hb.1
      cases a with
      | value v =>
        refine good_then (w' := w') q1 q2 (by simp only [stepG.apply, if_true, hr]; rfl) (fun τ d ha => by simp only [stepG.apply, if_true, h3 τ d ha]; rfl) ?_
        exact good_after (fun _ => hbal) (good_go ⟨frOk_finish hf _, hc, (by simp [StOk])⟩ bal0)
      | skip =>
        refine good_then (w' := w') q1 q2 (by simp only [stepG.apply, if_true, hr]; rfl) (fun τ d ha => by simp only [stepG.apply, if_true, h3 τ d ha]; rfl) ?_
        exact good_after (fun _ => hbal) (good_go ⟨frOk_finish hf _, hc, (by simp [StOk])⟩ bal0)
      | enter f args =>
        refine good_then (w' := w') q1 q2 (by simp only [stepG.apply, if_true, hr]; rfl) (fun τ d ha => by simp only [stepG.apply, if_true, h3 τ d ha]; rfl) ?_
        exact good_after (fun _ => hbal) (good_go ⟨frOk_enter _ _ _ _, frs_cons hf hc, (by simp [StOk])⟩ bal0)
      | round l f t a b =>
        refine good_then (w' := w') q1 q2 (by simp only [stepG.apply, if_true, hr]; rfl) (fun τ d ha => by simp only [stepG.apply, if_true, h3 τ d ha]; rfl) ?_
        exact good_after (fun _ => hbal) (good_go ⟨frOk_round _ _ _ _ _ _, frs_cons hf hc, (by simp [StOk])⟩ bal0)
      | «defer» d =>
        refine good_then (w' := w') q1 q2 (by simp only [stepG.apply, if_true, hr]; rfl) (fun τ d ha => by simp only [stepG.apply, if_true, h3 τ d ha]; rfl) ?_
        exact good_after (fun _ => hbal) (good_go ⟨frOk_finish (frOk_defers hf _) _, hc, (by simp [StOk])⟩ bal0)
      | recover =>
        refine good_then (w' := w') q1 q2 (by simp only [stepG.apply, if_true, hr]; rfl) (fun τ d ha => by simp only [stepG.apply, if_true, h3 τ d ha]; rfl) ?_
        refine good_after (fun _ => hbal) ?_
        have hnone : Good (fun v => GStep.go { frame := fr.finish .nilIface, callers := cs, status := .running, dying := dy } v) w' := good_go ⟨frOk_finish hf _, hc, (by simp [StOk])⟩ bal0
        split
        · rename_i v cs' heq
          refine good_go ⟨frOk_finish hf _, ?_, (by simp [StOk])⟩ bal0
          split at heq
          · split at heq
            · exact tryRecover_ok _ _ hc heq
            · exact tryRecoverLoop_ok _ _ hc heq
          · exact tryRecover_ok _ _ hc heq
        · exact hnone
      | spawn d =>
        refine good_then (w' := w') q1 q2 (by simp only [stepG.apply, if_true, hr]; rfl) (fun τ d ha => by simp only [stepG.apply, if_true, h3 τ d ha]; rfl) ?_
        refine good_after (fun _ => hbal) ?_
        split <;> (split <;> first | exact good_endThrow hf | exact .inr ⟨trivial, 0, rfl, rfl, fun _ _ _ => rfl⟩)
      | comm a b sh =>
        refine good_then (w' := w') q1 q2 (by simp only [stepG.apply, if_true, hr]; rfl) (fun τ d ha => by simp only [stepG.apply, if_true, h3 τ d ha]; rfl) ?_
        exact good_after (fun _ => hbal) (.inr ⟨⟨⟨hf, hc, (by simp [StOk])⟩, bal0⟩, 0, rfl, rfl, fun _ _ _ => rfl⟩)
      | coroswitch cc x =>
        cases x with
        | false => exact absurd hN id
        | true =>
          refine good_then (w' := w') q1 q2 (by simp only [stepG.apply, if_true, hr]; rfl) (fun τ d ha => by simp only [stepG.apply, if_true, h3 τ d ha]; rfl) ?_
          exact good_after (fun _ => hbal) (.inr ⟨⟨⟨hf, hc, (by simp [StOk])⟩, bal0⟩, 0, rfl, rfl, fun _ _ _ => rfl⟩)
      | row row args =>
        obtain rfl : row = "runtime.print$piece" := hN
        refine good_then (w' := w') q1 q2 (by simp only [stepG.apply, if_true, hr]; rfl) (fun τ d ha => by simp only [stepG.apply, if_true, h3 τ d ha]; rfl) ?_
        refine good_after (fun _ => hbal) ?_
        split
        · rename_i k heq
          refine good_go ⟨?_, hc, (by simp [StOk])⟩ bal0
          intro i hi
          rcases List.mem_cons.1 hi with rfl | hi
          · rfl
          · exact hf i (by rw [heq]; exact List.mem_cons_of_mem _ hi)
        · exact good_go ⟨frOk_row _ _ _, frs_cons hf hc, (by simp [StOk])⟩ bal0
      | _ => exact absurd hN id
    | halt h w' =>
      have q1 : w'.drawn = w.drawn + c := h1
      have q2 : w'.tape = w.tape := h2
      have hbal : ¬ hushed h → Bal 0 (seen P fr.fn (if fr.kind == .early then #[] else es)) := fun hh => kept_bal hms (hb.2.resolve_left hh)
      have hb0 : Bal 0 (seen P fr.fn (if fr.kind == .early then #[] else #[])) := kept_bal ms_empty bal0
      cases h with
      | panic v =>
        refine good_then (w' := w') q1 q2 (by simp only [stepG.apply, if_true, hr]; rfl) (fun τ d ha => by simp only [stepG.apply, if_true, h3 τ d ha]; rfl) ?_
        exact good_after (fun _ => hbal id) (good_go ⟨frOk_raise hf _, hc, (by simp [StOk])⟩ bal0)
      | goexit =>
        refine good_then (w' := w') q1 q2 (by simp only [stepG.apply, if_true, hr]; rfl) (fun τ d ha => by simp only [stepG.apply, if_true, h3 τ d ha]; rfl) ?_
        exact good_after (fun _ => hbal id) (good_go ⟨frOk_raise hf _, hc, (by simp [StOk])⟩ bal0)
      | blocked =>
        refine good_then (w' := w') q1 q2 (by simp only [stepG.apply, if_true, hr]; rfl) (fun τ d ha => by simp only [stepG.apply, if_true, h3 τ d ha]; rfl) ?_
        exact good_after (fun _ => hb0) (good_go ⟨hf, hc, (by simp [StOk])⟩ bal0)
      | waiting =>
        refine good_then (w' := w') q1 q2 (by simp only [stepG.apply, if_true, hr]; rfl) (fun τ d ha => by simp only [stepG.apply, if_true, h3 τ d ha]; rfl) ?_
        exact good_after (fun _ => hb0) (good_go ⟨hf, hc, (by simp [StOk])⟩ bal0)
      | exit x => left; simp only [stepG.apply, if_true, hr]; exact done_after trivial
      | fatal m => exact absurd hb.1 id
      | throw m =>
        refine good_then (w' := w') q1 q2 (by simp only [stepG.apply, if_true, hr]; rfl) (fun τ d ha => by simp only [stepG.apply, if_true, h3 τ d ha]; rfl) ?_
        exact good_after (fun _ => hbal id) (good_endThrow hf)
      | stuck x => left; simp only [stepG.apply, if_true, hr]; exact done_after trivial
      | unsupported u =>
        cases u with
        | initOrder g =>
          refine good_then (w' := w') q1 q2 (by simp only [stepG.apply, if_true, hr]; rfl) (fun τ d ha => by simp only [stepG.apply, if_true, h3 τ d ha]; rfl) ?_
          exact good_after (fun _ => hb0) (good_early hf hc w')
        | _ => left; simp only [stepG.apply, if_true, hr]; exact done_after trivial
theorem good_doReturn {main : Bool} {fr : Frame} {cs : List Frame} {dy : Option Dying} {v : Value} (hf : FrOk fr) (hc : ∀ f ∈ cs, FrOk f) (w : World) : Good (fun w => doReturn P main fr cs dy v w) w := by
  refine good_still ?_ fun τ d => ?_
  · unfold doReturn
    cases cs with
    | nil =>
      dsimp only
      split
      · exact .inr ⟨⟨hf, by simp, (by simp [StOk])⟩, bal0⟩
      · exact .inl trivial
      · split
        · exact .inr ⟨⟨hf, by simp, (by simp [StOk])⟩, bal0⟩
        · split
          · exact .inr ⟨⟨frOk_enter _ _ _ _, by simp, (by simp [StOk])⟩, bal0⟩
          · exact .inl trivial
    | cons c cs =>
      have h1 := hc c (by simp)
      have h2 := fun f hf => hc f (List.mem_cons_of_mem c hf)
      dsimp only
      split
      · exact .inr ⟨⟨frOk_finish h1 _, h2, (by simp [StOk])⟩, bal0⟩
      · exact .inr ⟨⟨frOk_finish h1 _, h2, (by simp [StOk])⟩, bal0⟩
      · exact .inr ⟨⟨h1, h2, (by simp [StOk])⟩, bal0⟩
      · refine .inr ⟨⟨?_, h2, (by simp [StOk])⟩, bal0⟩
        dsimp only
        split
        · split
          · exact h1
          · exact h1
        · exact h1
  · unfold doReturn
    cases cs with
    | nil =>
      dsimp only
      split
      · rfl
      · rfl
      · split
        · rfl
        · split <;> rfl
    | cons c cs =>
      dsimp only
      split <;> rfl
end Go.Lx
namespace Go.Lx
variable {P : Program}
theorem listed_bal {fn : FuncId} {es : Array Event} (hms : ∀ x ∈ es, MS x) (hb : Bal 0 es) : Bal 0 (seen P fn es) := fun x => by rw [seen_bal P fn hms]; exact hb x
theorem good_ite {c : Prop} [Decidable c] {A B : World → GStep} {w : World} (hA : Good A w) (hB : Good B w) : Good (fun v => if c then A v else B v) w := by
  by_cases h : c
  · simp only [if_pos h]; exact hA
  · simp only [if_neg h]; exact hB
theorem good_callDeferred (T : Tame P) {fr : Frame} {cs : List Frame} {dy : Option Dying} {dd : Deferred} (hf : FrOk fr) (hc : ∀ f ∈ cs, FrOk f) (w : World) : Good (fun w => callDeferred P fr cs dy dd w) w := by
  unfold callDeferred
  refine good_ite (.inl trivial) ?_
  · obtain ⟨r, es, hr, hms, hb, hn⟩ := run_data (ok_invoke T dd.target dd.args) w
    rcases hn with ⟨h, w', hd, rfl⟩ | ⟨c, h1, h2, h3⟩
    · left
      cases h with
      | stuck x => simp only [hr]; exact done_after trivial
      | unsupported u =>
        cases u with
        | noEntry x => simp only [hr]; exact done_after trivial
        | _ => cases hd
      | _ => cases hd
    · cases r with
      | ok a w' =>
        have q1 : w'.drawn = w.drawn + c := h1
        have q2 : w'.tape = w.tape := h2
        have hbal := listed_bal (P := P) (fn := fr.fn) hms hb.2
        have hN := hb.1
        have hcs := frs_cons hf hc
        have go : Good (fun v => GStep.go { frame := fr, callers := cs, status := .running, dying := dy } v) w' := good_go ⟨hf, hc, (by simp [StOk])⟩ bal0
        cases a with
        | enter f args =>
          refine good_then (w' := w') q1 q2 (by simp only [hr]; rfl) (fun τ d ha => by simp only [h3 τ d ha]; rfl) ?_
          exact good_after (fun _ => hbal) (good_go ⟨frOk_enter _ _ _ _, hcs, (by simp [StOk])⟩ bal0)
        | round l f t a b =>
          refine good_then (w' := w') q1 q2 (by simp only [hr]; rfl) (fun τ d ha => by simp only [h3 τ d ha]; rfl) ?_
          exact good_after (fun _ => hbal) (good_go ⟨frOk_round _ _ _ _ _ _, hcs, (by simp [StOk])⟩ bal0)
        | row row args =>
          obtain rfl : row = "runtime.print$piece" := hN
          refine good_then (w' := w') q1 q2 (by simp only [hr]; rfl) (fun τ d ha => by simp only [h3 τ d ha]; rfl) ?_
          exact good_after (fun _ => hbal) (good_go ⟨frOk_row _ _ _, hcs, (by simp [StOk])⟩ bal0)
        | recover =>
          refine good_then (w' := w') q1 q2 (by simp only [hr]; rfl) (fun τ d ha => by simp only [h3 τ d ha]; rfl) ?_
          refine good_after (fun _ => hbal) ?_
          split
          · rename_i heq
            exact good_go ⟨hf, tryRecover_ok _ _ hc heq, (by simp [StOk])⟩ bal0
          · exact go
        | coroswitch cc x =>
          cases x with
          | false => exact absurd hN id
          | true =>
            refine good_then (w' := w') q1 q2 (by simp only [hr]; rfl) (fun τ d ha => by simp only [h3 τ d ha]; rfl) ?_
            exact good_after (fun _ => hbal) (.inr ⟨⟨⟨hf, hc, (by simp [StOk])⟩, bal0⟩, 0, rfl, rfl, fun _ _ _ => rfl⟩)
        | value v =>
          refine good_then (w' := w') q1 q2 (by simp only [hr]; rfl) (fun τ d ha => by simp only [h3 τ d ha]; rfl) ?_
          exact good_after (fun _ => hbal) go
        | skip =>
          refine good_then (w' := w') q1 q2 (by simp only [hr]; rfl) (fun τ d ha => by simp only [h3 τ d ha]; rfl) ?_
          exact good_after (fun _ => hbal) go
        | «defer» d =>
          refine good_then (w' := w') q1 q2 (by simp only [hr]; rfl) (fun τ d ha => by simp only [h3 τ d ha]; rfl) ?_
          exact good_after (fun _ => hbal) go
        | spawn d =>
          refine good_then (w' := w') q1 q2 (by simp only [hr]; rfl) (fun τ d ha => by simp only [h3 τ d ha]; rfl) ?_
          exact good_after (fun _ => hbal) go
        | comm a b sh =>
          refine good_then (w' := w') q1 q2 (by simp only [hr]; rfl) (fun τ d ha => by simp only [h3 τ d ha]; rfl) ?_
          exact good_after (fun _ => hbal) go
        | _ => exact absurd hN id
      | halt h w' =>
        have q1 : w'.drawn = w.drawn + c := h1
        have q2 : w'.tape = w.tape := h2
        have hbal : ¬ hushed h → Bal 0 (seen P fr.fn es) := fun hh => listed_bal hms (hb.2.resolve_left hh)
        have hb0 : Bal 0 (seen P fr.fn #[]) := listed_bal ms_empty bal0
        cases h with
        | panic v =>
          refine good_then (w' := w') q1 q2 (by simp only [hr]; rfl) (fun τ d ha => by simp only [h3 τ d ha]; rfl) ?_
          exact good_after (fun _ => hbal id) (good_go ⟨frOk_raise hf _, hc, (by simp [StOk])⟩ bal0)
        | goexit =>
          refine good_then (w' := w') q1 q2 (by simp only [hr]; rfl) (fun τ d ha => by simp only [h3 τ d ha]; rfl) ?_
          exact good_after (fun _ => hbal id) (good_go ⟨frOk_raise hf _, hc, (by simp [StOk])⟩ bal0)
        | blocked =>
          refine good_then (w' := w') q1 q2 (by simp only [hr]; rfl) (fun τ d ha => by simp only [h3 τ d ha]; rfl) ?_
          exact good_after (fun _ => hb0) (good_go ⟨frOk_defers hf _, hc, (by simp [StOk])⟩ bal0)
        | waiting =>
          refine good_then (w' := w') q1 q2 (by simp only [hr]; rfl) (fun τ d ha => by simp only [h3 τ d ha]; rfl) ?_
          exact good_after (fun _ => hb0) (good_go ⟨frOk_defers hf _, hc, (by simp [StOk])⟩ bal0)
        | throw m =>
          refine good_then (w' := w') q1 q2 (by simp only [hr]; rfl) (fun τ d ha => by simp only [h3 τ d ha]; rfl) ?_
          exact good_after (fun _ => hbal id) (good_endThrow hf)
        | fatal m => exact absurd hb.1 id
        | exit x => left; simp only [hr]; exact done_after trivial
        | stuck x => left; simp only [hr]; exact done_after trivial
        | unsupported u => left; simp only [hr]; exact done_after trivial
end Go.Lx
namespace Go.Lx
variable {P : Program}
theorem run_data1 {α : Type} {φ : α → Prop} {s : Sem α} (hs : Safe P φ 0 s) (w : World) :
    Refused (s.run P w) ∨ ∃ c, (wOf (s.run P w)).drawn = w.drawn + c ∧ (wOf (s.run P w)).tape = w.tape ∧ ∀ τ d, Agree w.tape w.drawn τ d c → s.run P (re w τ d) = reR (s.run P w) τ (d + c) := by
  obtain ⟨r, es, hr, _, _, hn⟩ := run_data hs w
  have e : s.run P w = r := by rw [← Sem.runT_fst P s w #[], hr]
  rw [e]
  rcases hn with h | ⟨c, h1, h2, h3⟩
  · exact .inl h
  · exact .inr ⟨c, h1, h2, fun τ d ha => by rw [← Sem.runT_fst P s (re w τ d) #[], h3 τ d ha]⟩
theorem good_endPrinting {fr : Frame} {v : Value} (hf : FrOk fr) (w : World) : Good (fun w => endPrinting P fr v w) w := by
  unfold endPrinting
  dsimp only
  split
  · exact good_endThrow hf
  · exact .inl trivial
theorem good_unwind (T : Tame P) {main : Bool} {fr : Frame} {cs : List Frame} {dy : Option Dying} (hf : FrOk fr) (hc : ∀ f ∈ cs, FrOk f) (w : World) : Good (fun w => unwind P main fr cs dy w) w := by
  obtain ⟨fn, tmps, todo, defers, mode, kind, ro⟩ := fr
  cases defers with
  | cons d ds =>
    obtain ⟨t, args⟩ := d
    by_cases ht : ∃ b, t = .collected b
    · obtain ⟨b, rfl⟩ := ht
      obtain ⟨r, es, hr, hms, hb, hn⟩ := run_data (φ := fun _ => True) (ok_Instr_takeDeferred (P := P) b) w
      rcases hn with ⟨h, w', hd, rfl⟩ | ⟨c, h1, h2, h3⟩
      · left
        simp only [unwind, hr]; exact done_after trivial
      · cases r with
        | ok a w' =>
          refine good_then (w' := w') (c := c) h1 h2 (by simp only [unwind, hr]; rfl) (fun τ d ha => by simp only [unwind, h3 τ d ha]; rfl) ?_
          exact good_after (fun _ => listed_bal hms hb.2) (good_go ⟨hf, hc, (by simp [StOk])⟩ bal0)
        | halt h w' => left; simp only [unwind, hr]; exact done_after trivial
    · have e : ∀ v, unwind P main ⟨fn, tmps, todo, ⟨t, args⟩ :: ds, mode, kind, ro⟩ cs dy v = callDeferred P ⟨fn, tmps, todo, ds, mode, kind, ro⟩ cs dy ⟨t, args⟩ v := by
        intro v
        cases t <;> first | rfl | exact absurd ⟨_, rfl⟩ ht
      simp only [e]
      exact good_callDeferred T (fr := ⟨fn, tmps, todo, ds, mode, kind, ro⟩) (show FrOk ⟨fn, tmps, todo, ds, mode, kind, ro⟩ from hf) hc w
  | nil =>
    cases mode with
    | run => exact .inl trivial
    | panicking chain =>
      simp only [unwind]
      refine good_ite (.inl trivial) ?_
      cases cs with
      | cons c cs => exact good_go ⟨frOk_raise (hc c (by simp)) _, fun f hf => hc f (List.mem_cons_of_mem _ hf), (by simp [StOk])⟩ bal0
      | nil =>
        cases dy with
        | none =>
          simp only
          refine good_ite (good_go ⟨hf, by simp, (by simp [StOk])⟩ bal0) ?_
          rcases run_data1 (φ := fun _ => True) (ok_reportChain (P := P) chain false) w with ⟨h, w', hd, hr⟩ | ⟨c, h1, h2, h3⟩
          · left
            simp only [hr]
            cases h with
            | stuck x => trivial
            | unsupported u => trivial
            | _ => cases hd
          · cases hr : (reportChain chain false).run P w with
            | ok a w' =>
              rw [hr] at h1 h2
              refine good_then (w' := w') (c := c) h1 h2 (by simp only [hr]; rfl) (fun τ d ha => by simp only [h3 τ d ha, hr]; rfl) ?_
              exact good_go ⟨hf, by simp, (by simp [StOk])⟩ bal0
            | halt h w' =>
              left
              simp only [hr]
              cases h <;> trivial
        | some dd =>
          simp only
          split
          · exact good_endPrinting hf w
          · exact .inl trivial
    | returning =>
      simp only [unwind]
      cases hfn : P.funcs[fn]? with
      | none => exact good_doReturn hf hc w
      | some fnn =>
        simp only
        obtain ⟨r, es, hr, hms, hb, hn⟩ := run_data (φ := fun _ => True) (ok_results (P := P) fnn tmps) w
        rcases hn with ⟨h, w', hd, rfl⟩ | ⟨c, h1, h2, h3⟩
        · left
          simp only [hr]
          refine done_after ?_
          cases h <;> first | trivial | cases hd
        · cases r with
          | ok a w' =>
            refine good_then (w' := w') (c := c) h1 h2 (by simp only [hr]; rfl) (fun τ d ha => by simp only [h3 τ d ha]; rfl) ?_
            exact good_after (fun _ => listed_bal hms hb.2) (good_doReturn hf hc w')
          | halt h w' =>
            left
            simp only [hr]
            refine done_after ?_
            cases h <;> trivial
end Go.Lx
namespace Go.Lx
variable {P : Program}
theorem from_eq {α : Type} {φ : α → Prop} {s : Sem α} {w : World} {x : Result α × Array Event} (hx : s.runT P w #[] = x) (hs : Safe P φ 0 s) :
    (∀ e ∈ x.2, MS e) ∧ BalR φ 0 x.2 x.1 ∧ (Refused x.1 ∨ ∃ c, (wOf x.1).drawn = w.drawn + c ∧ (wOf x.1).tape = w.tape ∧ ∀ τ d, Agree w.tape w.drawn τ d c → s.runT P (re w τ d) #[] = (reR x.1 τ (d + c), x.2)) := by
  obtain ⟨r, es, hr, hms, hb, hn⟩ := run_data hs w
  rw [hx] at hr
  subst hr
  exact ⟨hms, hb, hn⟩
theorem good_of_eq {F : World → GStep} {w : World} (hs : done (F w) ∨ SOk (F w)) (hw : done (F w) ∨ ∃ c, ∀ τ d, Agree w.tape w.drawn τ d c → F (re w τ d) = gre (F w) τ (d + c)) : Good F w := by
  rcases hw with h | ⟨c, h⟩
  · exact .inl h
  · exact good_win c hs h
section
variable {β : Type} {φ : β → Prop} {d : Nat}
theorem s_dis {f : Unit → Sem β} (h : Safe P φ (d + 1) (f ())) : Safe P φ d (mark .disable >>= f) := h
theorem s_ena {f : Unit → Sem β} (h : Safe P φ d (f ())) : Safe P φ (d + 1) (mark .enable >>= f) := ⟨Nat.succ_pos d, h⟩
theorem s_prog {f : Program → Sem β} (h : Safe P φ d (f P)) : Safe P φ d (program >>= f) := h
theorem s_store {a : Addr} {v : Value} {m : Mode} {f : Unit → Sem β} (h : Safe P φ d (f ())) : Safe P φ d (store a v m >>= f) := h
theorem s_block {f : Unit → Sem β} : Safe P φ d ((Sem.halt .blocked : Sem Unit) >>= f) := ⟨trivial, .inr trivial⟩
theorem s_uns {x : String} {f : Unit → Sem β} : Safe P φ d ((unsupported (.noEntry x) : Sem Unit) >>= f) := ⟨trivial, .inr trivial⟩
theorem s_sys {c : Sys} {f : SysRet → Sem β} (h0 : ∃ x, f .wouldBlock = .halt (.unsupported (.noEntry x))) (h : ∀ r, Safe P φ d (f r)) : Safe P φ d (sys c >>= f) :=
  ⟨let ⟨x, hx⟩ := h0; ⟨.unsupported (.noEntry x), trivial, hx⟩, h⟩
theorem s_held {f : Bool → Sem β} (h : ∀ b, Safe P φ d (f b)) : Safe P φ d (Extern.PrintPieces.held >>= f) := by
  show ∀ v, Safe P φ d (Sem.bind _ f)
  intro v
  cases v <;> first | exact h _ | exact ⟨trivial, .inr trivial⟩
end
theorem good_writeOn {fr : Frame} {dd : Dying} {f : Fatal} (hf : FrOk fr) (w : World) : Good (fun w => writeOn P fr dd f w) w := by
  cases hp : f.pieces with
  | nil => left; simp only [writeOn, hp]; trivial
  | cons piece rest =>
    refine good_of_eq ?_ ?_
    · simp only [writeOn, hp]
      generalize hx : Sem.runT P _ w #[] = x
      have D := from_eq (φ := fun _ => True) hx (by
        repeat' (first | (with_reducible exact Ok.pure) | (with_reducible exact ok_unsupported) | (with_reducible exact s_block) | (with_reducible exact s_uns) | (with_reducible refine s_dis ?_) | (with_reducible refine s_held ?_) | (with_reducible refine s_prog ?_) | (with_reducible refine s_store ?_) | (with_reducible refine s_ena ?_) | (with_reducible refine s_sys ?_ ?_) | exact ⟨_, rfl⟩ | intro _ | split))
      obtain ⟨hms, hb, _⟩ := D
      obtain ⟨r, es⟩ := x
      cases r with
      | ok a w' => exact .inr ⟨⟨hf, by simp, (by simp [StOk])⟩, hb.2⟩
      | halt h w' => cases h <;> first | exact .inl trivial | exact .inr ⟨⟨hf, by simp, (by simp [StOk])⟩, bal0⟩
    · simp only [writeOn, hp]
      generalize hx : Sem.runT P _ w #[] = x
      have D := from_eq (φ := fun _ => True) hx (by
        repeat' (first | (with_reducible exact Ok.pure) | (with_reducible exact ok_unsupported) | (with_reducible exact s_block) | (with_reducible exact s_uns) | (with_reducible refine s_dis ?_) | (with_reducible refine s_held ?_) | (with_reducible refine s_prog ?_) | (with_reducible refine s_store ?_) | (with_reducible refine s_ena ?_) | (with_reducible refine s_sys ?_ ?_) | exact ⟨_, rfl⟩ | intro _ | split))
      obtain ⟨_, _, hn⟩ := D
      rcases hn with ⟨h, w', hd, hr⟩ | ⟨c, h1, h2, h3⟩
      · left
        obtain ⟨r, es⟩ := x
        simp only at hr
        subst hr
        cases h <;> first | trivial | cases hd
      · right
        refine ⟨c, fun τ d ha => ?_⟩
        rw [h3 τ d ha]
        obtain ⟨r, es⟩ := x
        cases r with
        | ok a w' => rfl
        | halt h w' => cases h <;> rfl
theorem done_endWith (w : World) (fd : Nat) (t : ByteArray) (o : Outcome) : done (endWith w fd t o) := by
  unfold endWith
  repeat' (first | trivial | split)
theorem good_die (T : Tame P) {fr : Frame} {dd : Dying} (hf : FrOk fr) (w : World) : Good (fun w => die P fr dd w) w := by
  cases hfat : dd.fatal with
  | some f => simp only [die, hfat]; exact good_writeOn hf w
  | none =>
    cases ht : dd.todo with
    | nil =>
      simp only [die, hfat, ht]
      cases hp : printLockHeld P w with
      | true =>
        have hp' : ∀ τ d, printLockHeld P (re w τ d) = true := fun _ _ => hp
        refine good_still ?_ fun τ d => ?_
        · simp only [hp, if_true]; exact .inr ⟨⟨hf, by simp, (by simp [StOk])⟩, bal0⟩
        · simp only [hp, hp', if_true]; rfl
      | false =>
        left
        simp only [hp, Bool.false_eq_true, if_false]
        exact done_endWith _ _ _ _
    | cons x rest =>
      obtain ⟨v, mk⟩ := x
      simp only [die, hfat, ht]
      cases hpt : panicText P false v with
      | text s => exact good_go ⟨hf, by simp, (by simp [StOk])⟩ bal0
      | no u => exact .inl trivial
      | address s =>
        simp only
        rcases run_data1 (φ := fun _ => True) (ok_withAddress (P := P) s) w with ⟨h, w', hd, hr⟩ | ⟨c, h1, h2, h3⟩
        · left; simp only [hr]; trivial
        · cases hr : (withAddress s).run P w with
          | ok a w' =>
            rw [hr] at h1 h2
            refine good_then (w' := w') (c := c) h1 h2 (by simp only [hr]; rfl) (fun τ d ha => by simp only [h3 τ d ha, hr]; rfl) ?_
            exact good_go ⟨hf, by simp, (by simp [StOk])⟩ bal0
          | halt h w' => left; simp only [hr]; trivial
      | call t recv name =>
        simp only
        obtain ⟨r, es, hr, hms, hb, hn⟩ := run_data (ok_invoke T (.fn (.method name) #[]) #[.iface t recv]) w
        rcases hn with ⟨h, w', hd, rfl⟩ | ⟨c, h1, h2, h3⟩
        · left
          simp only [hr]
          refine done_after ?_
          cases h <;> first | trivial | cases hd
        · cases r with
          | ok a w' =>
            cases a with
            | enter f args =>
              refine good_then (w' := w') (c := c) h1 h2 (by simp only [hr]; rfl) (fun τ d ha => by simp only [h3 τ d ha]; rfl) ?_
              exact good_after (fun _ => listed_bal hms hb.2) (good_go ⟨frOk_enter _ _ _ _, by simp, (by simp [StOk])⟩ bal0)
            | value v =>
              cases v with
              | string s =>
                refine good_then (w' := w') (c := c) h1 h2 (by simp only [hr]; rfl) (fun τ d ha => by simp only [h3 τ d ha]; rfl) ?_
                exact good_after (fun _ => listed_bal hms hb.2) (good_go ⟨hf, by simp, (by simp [StOk])⟩ bal0)
              | _ => left; simp only [hr]; exact done_after trivial
            | _ => left; simp only [hr]; exact done_after trivial
          | halt h w' =>
            cases h with
            | panic v =>
              refine good_then (w' := w') (c := c) h1 h2 (by simp only [hr]; rfl) (fun τ d ha => by simp only [h3 τ d ha]; rfl) ?_
              exact good_after (fun _ => listed_bal hms (hb.2.resolve_left id)) (good_endPrinting hf w')
            | _ => left; simp only [hr]; exact done_after trivial
end Go.Lx
