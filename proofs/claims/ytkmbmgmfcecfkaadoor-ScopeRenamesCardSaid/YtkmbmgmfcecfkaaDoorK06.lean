/- Part 6 of what the proof rests on. -/
import Derived.KernelRfl
import Derived.Conc.CrowdComm
import Derived.Conc.Beside
import Derived.Test.YtkmbmgmfcecfkaaDoorK05
set_option linter.unusedSimpArgs false
set_option linter.unusedVariables false
namespace Go.Lx
variable {P : Program}
theorem exitTo_sub : ∀ (k : List Item) (id : Nat) {k' : List Item}, exitTo id k = some k' → ∀ i ∈ k', i ∈ k := by
  intro k
  induction k with
  | nil => intro id k' h; cases h
  | cons a k ih =>
    intro id k' h i hi
    unfold exitTo at h
    split at h
    · rename_i heq
      cases heq
      split at h
      · cases h; exact List.mem_cons_of_mem _ hi
      · exact List.mem_cons_of_mem _ (ih _ h i hi)
    · rename_i heq
      cases heq
      exact List.mem_cons_of_mem _ (ih _ h i hi)
    · rename_i heq; cases heq
theorem gotoIn_ok : ∀ (k : List Item) (l : Nat) {k' : List Item}, (∀ i ∈ k, ItemOk i) → gotoIn l k = some k' → ∀ i ∈ k', ItemOk i := by
  intro k
  induction k with
  | nil => intro l k' _ h; cases h
  | cons a k ih =>
    intro l k' hk h i hi
    have hk2 := fun j hj => hk j (List.mem_cons_of_mem a hj)
    unfold gotoIn at h
    split at h
    · rename_i body k0 heq
      cases heq
      split at h
      · cases h
        rcases List.mem_cons.1 hi with rfl | hi
        · trivial
        · rcases List.mem_cons.1 hi with rfl | hi
          · trivial
          · exact hk2 i hi
      · exact ih _ hk2 h i hi
    · rename_i heq; cases heq
      exact ih _ hk2 h i hi
    · rename_i heq; cases heq
theorem good_leave {main : Bool} {fr : Frame} {cs : List Frame} {dy : Option Dying} (jump : Option Code) (hf : FrOk fr) (hc : ∀ f ∈ cs, FrOk f) (F : World → GStep)
    (h0 : fr.roundOf = none → (∀ v, F v = .go { frame := { fr with mode := .returning }, callers := cs, status := .running, dying := dy } v) ∨ (∀ v, done (F v)))
    (h1 : ∀ l, fr.roundOf = some l → ∀ v, F v = GStep.after (seen P fr.fn ((Instr.endRound l jump).runT P v #[]).2) (match ((Instr.endRound l jump).runT P v #[]).1 with
      | .ok x w => doReturn P main fr cs dy x w
      | .halt _ w => .ended (.stuck "range over a function: no such loop" (fr.pos P)) w)) (w : World) : Good F w := by
  cases hr : fr.roundOf with
  | none =>
    rcases h0 hr with h | h
    · rw [show F = fun v => _ from funext h]
      exact good_go ⟨hf, hc, (by simp [StOk])⟩ bal0
    · exact .inl (h w)
  | some l =>
    have e := h1 l hr
    obtain ⟨r, es, hrun, hms, hb, hn⟩ := run_data (φ := fun _ => True) (ok_Instr_endRound (P := P) l jump) w
    rcases hn with ⟨h, w', hd, rfl⟩ | ⟨c, g1, g2, g3⟩
    · left; rw [e, hrun]; exact done_after trivial
    · cases r with
      | ok a w' =>
        refine good_then (w' := w') (c := c) g1 g2 (by rw [e, hrun]) (fun τ d ha => by rw [e, g3 τ d ha]; rfl) ?_
        exact good_after (fun _ => listed_bal hms hb.2) (good_doReturn hf hc w')
      | halt h w' => left; rw [e, hrun]; exact done_after trivial
theorem good_oper (T : Tame P) {fr : Frame} {cs : List Frame} {dy : Option Dying} (hf : FrOk fr) (hc : ∀ f ∈ cs, FrOk f) (w : World) : Good (fun w => stepG.oper P true fr cs dy w) w := by
  unfold stepG.oper
  split
  · exact .inl trivial
  · split
    · exact good_apply hf hc (Ok.bind (ok_resolve _ _ _) fun _ => Ok.bind (ok_Instr_deferInRound _ _) fun _ => (OkN.pure (P := P) (x := .skip) trivial)) w
    · exact good_apply hf hc (ok_execOp T _ _) w
theorem good_exec (T : Tame P) {main : Bool} {fr : Frame} {cs : List Frame} {dy : Option Dying} (hf : FrOk fr) (hc : ∀ f ∈ cs, FrOk f) (w : World) : Good (fun w => stepG.exec P main true fr cs dy w) w := by
  obtain ⟨fn, tmps, todo, defers, mode, kind, ro⟩ := fr
  have to : ∀ l : List Item, (∀ i ∈ l, ItemOk i) → Good (fun v => GStep.go { frame := ⟨fn, tmps, l, defers, mode, kind, ro⟩, callers := cs, status := .running, dying := dy } v) w :=
    fun l hl => good_go (g := { frame := ⟨fn, tmps, l, defers, mode, kind, ro⟩, callers := cs, status := .running, dying := dy }) ⟨hl, hc, (by simp [StOk])⟩ bal0
  cases todo with
  | nil =>
    refine good_leave (P := P) (dy := dy) (main := main) (fr := ⟨fn, tmps, [], defers, mode, kind, ro⟩) none hf hc _ (fun h => .inl fun v => ?_) (fun l h v => ?_) w
    · cases h; rfl
    · cases h; rfl
  | cons i k =>
    have hk : ∀ j ∈ k, ItemOk j := fun j hj => hf j (List.mem_cons_of_mem _ hj)
    have c1 : ∀ a : Item, ItemOk a → ∀ j ∈ a :: k, ItemOk j := fun a ha j hj => by
      rcases List.mem_cons.1 hj with rfl | hj
      · exact ha
      · exact hk j hj
    have c2 : ∀ a b : Item, ItemOk a → ItemOk b → ∀ j ∈ a :: b :: k, ItemOk j := fun a b ha hb j hj => by
      rcases List.mem_cons.1 hj with rfl | hj
      · exact ha
      · exact c1 b hb j hj
    cases i with
    | code c =>
      cases c with
      | skip => exact to _ hk
      | label l => exact to _ hk
      | seq a b => exact to _ (c2 _ _ trivial trivial)
      | cond c a b =>
        simp only [stepG.exec]
        split
        · exact to _ (c1 _ trivial)
        · exact .inl trivial
      | block id b => exact to _ (c2 _ _ trivial trivial)
      | loop b => exact to _ (c2 _ _ trivial trivial)
      | scope b => exact to _ (c2 _ _ trivial trivial)
      | refuse x => exact .inl trivial
      | ret =>
        refine good_leave (P := P) (dy := dy) (main := main) (fr := ⟨fn, tmps, .code .ret :: k, defers, mode, kind, ro⟩) (some .ret) hf hc _ (fun h => .inl fun v => ?_) (fun l h v => ?_) w
        · cases h; rfl
        · cases h; rfl
      | exit id =>
        simp only [stepG.exec]
        cases he : exitTo id k with
        | some k' => exact to _ fun i hi => hk i (exitTo_sub _ _ he i hi)
        | none =>
          refine good_leave (P := P) (dy := dy) (main := main) (fr := ⟨fn, tmps, .code (.exit id) :: k, defers, mode, kind, ro⟩) (some (.exit id)) hf hc _ (fun h => .inr fun v => ?_) (fun l h v => ?_) w
          · cases h; trivial
          · cases h; rfl
      | goto l =>
        simp only [stepG.exec]
        cases he : gotoIn l k with
        | some k' => exact to _ (gotoIn_ok _ _ hk he)
        | none =>
          refine good_leave (P := P) (dy := dy) (main := main) (fr := ⟨fn, tmps, .code (.goto l) :: k, defers, mode, kind, ro⟩) (some (.goto l)) hf hc _ (fun h => .inr fun v => ?_) (fun l h v => ?_) w
          · cases h; trivial
          · cases h; rfl
      | region id ops draw =>
        cases draw with
        | false => exact to _ (c1 _ trivial)
        | true =>
          have r1 := choose_run (P := P) (q := .order fn id) rfl w
          refine good_win 1 ?_ fun τ d ha => ?_
          · simp only [stepG.exec, Bool.not_true, Bool.false_eq_true, if_false, r1]
            exact .inr ⟨⟨c1 _ trivial, hc, (by simp [StOk])⟩, bal0⟩
          · have r2 := choose_run_re (P := P) (q := .order fn id) rfl (w := w) (τ := τ) (d := d) (c := 0) (by simpa using ha)
            simp only [stepG.exec, Bool.not_true, Bool.false_eq_true, if_false, r1, r2]
            rfl
      | rangeFunc f ps a b =>
        obtain ⟨r, es, hr, hms, hb, hn⟩ := run_data (φ := fun _ => True) (ok_Instr_enterLoop (P := P) fn tmps ps a b ro) w
        rcases hn with ⟨h, w', hd, rfl⟩ | ⟨c, h1, h2, h3⟩
        · left; simp only [stepG.exec, hr]; exact done_after trivial
        · cases r with
          | ok x w' =>
            obtain ⟨l, mk⟩ := x
            refine good_then (w' := w') (c := c) h1 h2 (by simp only [stepG.exec, hr]; rfl) (fun τ d ha => by simp only [stepG.exec, h3 τ d ha]; rfl) ?_
            refine good_after (fun _ => listed_bal hms hb.2) (good_apply ?_ hc (Ok.bind (ok_resolve _ _ _) fun _ => ok_invoke T _ _) w')
            exact c1 _ trivial
          | halt h w' => left; simp only [stepG.exec, hr]; exact done_after trivial
    | inBlock id => exact to _ hk
    | inScope b => exact to _ hk
    | inLoop b => exact to _ (c2 _ _ trivial trivial)
    | inRegion ops l =>
      cases l with
      | nil => exact to _ hk
      | cons j l =>
        simp only [stepG.exec]
        split
        · exact good_oper T hf hc w
        · exact good_go ⟨frOk_finish hf _, hc, (by simp [StOk])⟩ bal0
    | inRangeFunc l => exact .inl trivial
    | endRangeFunc l =>
      obtain ⟨r, es, hr, hms, hb, hn⟩ := run_data (φ := fun _ => True) (ok_Instr_endLoop (P := P) l) w
      rcases hn with ⟨h, w', hd, rfl⟩ | ⟨c, h1, h2, h3⟩
      · left
        simp only [stepG.exec, hr]
        refine done_after ?_
        cases h <;> first | trivial | cases hd
      · cases r with
        | ok x w' =>
          refine good_then (w' := w') (c := c) h1 h2 (by simp only [stepG.exec, hr]; rfl) (fun τ d ha => by simp only [stepG.exec, h3 τ d ha]; rfl) ?_
          refine good_after (fun _ => listed_bal hms hb.2) (good_go ⟨?_, hc, (by simp [StOk])⟩ bal0)
          intro i hi
          rcases List.mem_append.1 hi with hi | hi
          · cases x with
            | none => cases hi
            | some y =>
              simp at hi
              subst hi; trivial
          · exact hk i hi
        | halt h w' =>
          cases h with
          | panic v =>
            refine good_then (w' := w') (c := c) h1 h2 (by simp only [stepG.exec, hr]; rfl) (fun τ d ha => by simp only [stepG.exec, h3 τ d ha]; rfl) ?_
            exact good_after (fun _ => listed_bal hms (hb.2.resolve_left id)) (good_go ⟨frOk_raise hf _, hc, (by simp [StOk])⟩ bal0)
          | _ => left; simp only [stepG.exec, hr]; exact done_after trivial
    | beginRound =>
      refine good_apply hf hc ?_ w
      cases ro with
      | none => exact Ok.bind ok_stuck fun _ => OkN.pure (P := P) (x := .skip) trivial
      | some l => exact Ok.bind (ok_Instr_beginRound l) fun _ => OkN.pure (P := P) (x := .skip) trivial
    | call d b r s => exact absurd (hf (.call d b r s) List.mem_cons_self) id
    | extern r a =>
      obtain rfl : r = "runtime.print$piece" := hf (.extern r a) List.mem_cons_self
      have e : Extern.next "runtime.print$piece" = some (Extern.PrintPieces.piece #[] #[]) := by kernel_rfl
      have e2 : ∀ v, stepG.exec P main true ⟨fn, tmps, .extern "runtime.print$piece" a :: k, defers, mode, kind, ro⟩ cs dy v = stepG.apply P true ⟨fn, tmps, .extern "runtime.print$piece" a :: k, defers, mode, kind, ro⟩ cs dy (Extern.PrintPieces.piece #[] #[] a) v := by
        intro v
        simp only [stepG.exec, e]
        rfl
      rw [show (fun w => stepG.exec P main true ⟨fn, tmps, .extern "runtime.print$piece" a :: k, defers, mode, kind, ro⟩ cs dy w) = _ from funext e2]
      exact good_apply hf hc (ok_piece _ _ _) w
theorem good_stepG (T : Tame P) {main : Bool} {g : Goroutine} (hg : GOk g) (w : World) : Good (fun w => stepG P main g w) w := by
  obtain ⟨fr, cs, st, dy, off⟩ := g
  obtain ⟨hf, hc⟩ := hg
  have hf : FrOk fr := hf
  have hc : ∀ f ∈ cs, FrOk f := hc
  have hrest : Good (fun w => match fr.mode with | .run => stepG.exec P main true fr cs dy w | _ => unwind P main fr cs dy w) w := by
    cases fr.mode with
    | run => exact good_exec T hf hc w
    | returning => exact good_unwind T hf hc w
    | panicking c => exact good_unwind T hf hc w
  cases dy with
  | none =>
    refine cast ?_ hrest
    congr 1
    funext v
    simp only [stepG]
    cases fr.mode <;> rfl
  | some d =>
    obtain ⟨todo, texts, calling, pending, re0, hand, fatal⟩ := d
    cases calling with
    | false => exact good_die T hf w
    | true =>
      refine cast ?_ hrest
      congr 1
      funext v
      simp only [stepG]
      cases fr.mode <;> rfl
end Go.Lx
namespace Go.Lx
open Go.Conc
variable {P : Program}
def OpOk (i : Nat) (op : MemOp) : Prop := op.g = i ∧ op.act.touch? = none ∧ op.act ≠ .mark .disable ∧ op.act ≠ .mark .enable
theorem ways_eq {gs gs2 : Array Goroutine} (h1 : ∀ r b, partners gs r b = []) (h2 : ∀ r b, partners gs2 r b = []) (w : World) (c : CommCase) : ways w gs c = ways w gs2 c := by
  unfold ways
  simp only [h1, h2]
theorem ways_plain {gs : Array Goroutine} (h1 : ∀ r b, partners gs r b = []) (w : World) (c : CommCase) : ∀ x ∈ ways w gs c, x = .buffer ∨ x = .closed ∨ x = .sendClosed := by
  unfold ways
  simp only [h1]
  intro x hx
  repeat' (first | (simp at hx; done) | (simp at hx; subst hx; simp; done) | split at hx)
structure CommTo (P : Program) (rest rest2 : Rest) (gs gs2 : Array Goroutine) (i : Nat) (g : Goroutine) (cases : Array CommCase) (bl : Bool) (sh : CommShape) (w : World) (m : Machine) (ops : Array MemOp) (g' : Goroutine) (w' : World) : Prop where
  here : m = { world := w', gs := gs.setIfInBounds i g', rest }
  there : communicate P rest2 gs2 i g cases bl sh w = (.next { world := w', gs := gs2.setIfInBounds i g', rest := rest2 }, ops)
  ok : GOk g → GOk g'
  mem : ∀ op ∈ ops, OpOk i op
  win : ∃ c, w'.drawn = w.drawn + c ∧ w'.tape = w.tape ∧ ∀ τ d, Agree w.tape w.drawn τ d c → communicate P rest gs i g cases bl sh (re w τ d) = (.next { world := re w' τ (d + c), gs := gs.setIfInBounds i g', rest }, ops)
theorem waitingAt_none {rest : Rest} (ht : rest.timers = #[]) (cases : Array CommCase) (w : World) : waitingAt rest cases w = some w := by
  unfold waitingAt timerAhead
  rw [if_neg]
  simp [ht]
  intro c _
  split <;> simp
theorem from_eq1 {α : Type} {φ : α → Prop} {s : Sem α} {w : World} {x : Result α} (hx : s.run P w = x) (hs : Safe P φ 0 s) :
    (∀ a v, x = .ok a v → φ a) ∧ (Refused x ∨ ∃ c, (wOf x).drawn = w.drawn + c ∧ (wOf x).tape = w.tape ∧ ∀ τ d, Agree w.tape w.drawn τ d c → s.run P (re w τ d) = reR x τ (d + c)) := by
  subst hx
  refine ⟨fun a v e => ?_, run_data1 hs w⟩
  obtain ⟨r, es, hr, _, hb, _⟩ := run_data hs w
  have e' : s.run P w = r := by rw [← Sem.runT_fst P s w #[], hr]
  rw [e', ] at e
  subst e
  exact hb.1
def plainWay (x : Way) : Prop := x = .buffer ∨ x = .closed ∨ x = .sendClosed
theorem getD_plain {l : List Way} (h : ∀ x ∈ l, plainWay x) (b : Nat) : plainWay (l.getD b .closed) := by
  rw [List.getD_eq_getElem?_getD]
  cases hx : l[b]? with
  | none => exact .inr (.inl rfl)
  | some x => exact h x (List.mem_of_getElem? hx)
theorem getD_mem {α : Type} {l : List α} (a : Nat) {d : α} : l.getD a d ∈ l ∨ l.getD a d = d := by
  rw [List.getD_eq_getElem?_getD]
  cases hx : l[a]? with
  | none => exact .inr rfl
  | some x => exact .inl (List.mem_of_getElem? hx)
theorem comm_lone {rest : Rest} {gs : Array Goroutine} {i : Nat} {g : Goroutine} {cases : Array CommCase} {bl : Bool} {sh : CommShape} {w : World} {m : Machine} {ops : Array MemOp}
    (ht : rest.timers = #[]) (h1 : ∀ r b, partners gs r b = []) (h : communicate P rest gs i g cases bl sh w = (.next m, ops)) :
    ∃ g' w', m = { world := w', gs := gs.setIfInBounds i g', rest } ∧ (GOk g → GOk g') ∧ (∀ op ∈ ops, OpOk i op) ∧
      ∃ c, w'.drawn = w.drawn + c ∧ w'.tape = w.tape ∧ ∀ (rest2 : Rest) (gs2 : Array Goroutine) τ d, rest2.timers = #[] → (∀ r b, partners gs2 r b = []) → Agree w.tape w.drawn τ d c →
        communicate P rest2 gs2 i g cases bl sh (re w τ d) = (.next { world := re w' τ (d + c), gs := gs2.setIfInBounds i g', rest := rest2 }, ops) := by
  have hw : ∀ gs2 : Array Goroutine, (∀ r b, partners gs2 r b = []) → ∀ τ d, ways (re w τ d) gs2 = ways w gs := fun gs2 h2 τ d => funext fun c => ways_eq h2 h1 w c
  have hfin : ∀ cs sh k v ok, GOk g → GOk (g.finishComm P cs sh k v ok) := fun cs sh k v ok hg => ⟨frOk_finish hg.top _, hg.below, (by simp [StOk, Goroutine.finishComm])⟩
  have hhp : ∀ τ d, (re w τ d).heap = w.heap := fun _ _ => rfl
  have hL : ∀ e ∈ (cases.zipIdx.toList.map fun x => (x.2, x.1, ways w gs x.1)).filter (fun x => !x.2.2.isEmpty), ∀ x ∈ e.2.2, plainWay x := by
    intro e he x hx
    obtain ⟨y, _, rfl⟩ := List.mem_map.1 (List.mem_filter.1 he).1
    exact ways_plain h1 w _ x hx
  unfold communicate at h
  dsimp only at h
  split at h
  · cases h
  · rename_i hill
    split at h
    · rename_i hemp
      cases bl with
      | true =>
        simp only [if_true, waitingAt_none ht] at h
        cases h
        refine ⟨{ g with status := .blocked, offers := some (cases, sh) }, w, rfl, fun hg => ⟨hg.top, hg.below, (by simp [StOk])⟩, by simp, 0, rfl, rfl, fun rest2 gs2 τ d ht2 h2 _ => ?_⟩
        unfold communicate
        dsimp only
        simp only [hhp, hw gs2 h2]
        rw [if_neg hill, if_pos hemp]
        simp only [if_true, waitingAt_none ht2]
        rfl
      | false =>
        simp only [Bool.false_eq_true, if_false] at h
        cases h
        refine ⟨_, w, rfl, hfin _ _ _ _ _, by simp, 0, rfl, rfl, fun rest2 gs2 τ d ht2 h2 _ => ?_⟩
        unfold communicate
        dsimp only
        simp only [hhp, hw gs2 h2]
        rw [if_neg hill, if_pos hemp]
        simp only [Bool.false_eq_true, if_false]
        rfl
    · rename_i hemp
      generalize hx : Sem.run P _ w = x at h
      have D := from_eq1 (P := P) (φ := fun y : Nat × CommCase × Way => plainWay y.2.2) hx (by
        refine Ok.bind ok_choose fun a => ?_
        refine Ok.bind ok_choose fun b => ?_
        refine ⟨rfl, ?_⟩
        refine getD_plain ?_ _
        intro x hx
        rcases getD_mem a with he | he
        · exact hL _ he x hx
        · rw [he] at hx; cases hx)
      obtain ⟨hpl, hn⟩ := D
      rcases hn with ⟨hh, w', hd, rfl⟩ | ⟨c, q1, q2, q3⟩
      · cases h
      · cases x with
        | halt hh w1 => cases h
        | ok y w1 =>
          obtain ⟨k, c0, wy⟩ := y
          have hp := hpl _ _ rfl
          have r1 : w1.drawn = w.drawn + c := q1
          have r2 : w1.tape = w.tape := q2
          have hh1 : ∀ τ d, (re w1 τ d).heap = w1.heap := fun _ _ => rfl
          simp only at hp
          rcases hp with rfl | rfl | rfl
          · -- a buffer
            simp only [h1] at h
            split at h
            · rename_i hw0; cases hw0
            · rename_i hw0; cases hw0
            · rename_i cap buf cl sent rcvd tm v heq hsend hw0
              cases h
              refine ⟨_, _, rfl, hfin _ _ _ _ _, ?_, c, r1, r2, fun rest2 gs2 τ d ht2 h2 ha => ?_⟩
              · intro op hop
                simp at hop
                rcases hop with rfl | rfl <;> exact ⟨rfl, rfl, by simp, by simp⟩
              · unfold communicate
                dsimp only
                simp only [hhp, hw gs2 h2]
                rw [if_neg hill, if_neg hemp, q3 τ d ha]
                simp only [reR, hh1, heq, hw0]
                rfl
            · rename_i cap buf cl sent rcvd tm heq hsend hw0
              cases h
              refine ⟨_, _, rfl, hfin _ _ _ _ _, ?_, c, r1, r2, fun rest2 gs2 τ d ht2 h2 ha => ?_⟩
              · intro op hop
                simp at hop
                rcases hop with rfl | rfl <;> exact ⟨rfl, rfl, by simp, by simp⟩
              · unfold communicate
                dsimp only
                simp only [hhp, hw gs2 h2]
                rw [if_neg hill, if_neg hemp, q3 τ d ha]
                simp only [reR, hh1, heq, hw0, h2]
                rfl
            · rename_i hw0 _; cases hw0
            · rename_i hw0 _; cases hw0
            · cases h
          · simp only at h
            cases h
            refine ⟨_, w1, rfl, hfin _ _ _ _ _, ?_, c, r1, r2, fun rest2 gs2 τ d ht2 h2 ha => ?_⟩
            · intro op hop
              simp at hop
              subst hop
              exact ⟨rfl, rfl, by simp, by simp⟩
            · unfold communicate
              dsimp only
              simp only [hhp, hw gs2 h2]
              rw [if_neg hill, if_neg hemp, q3 τ d ha]
              simp only [reR]
          · simp only at h
            have hpanic : ∀ (v : World), ∃ x, (runtimePanic (.plain "send on closed channel") : Sem Unit).run P v = .halt (.panic x) v ∧ ∀ v', (runtimePanic (.plain "send on closed channel") : Sem Unit).run P v' = .halt (.panic x) v' := fun v => ⟨_, rfl, fun _ => rfl⟩
            obtain ⟨x, e1, e2⟩ := hpanic w1
            rw [e1] at h
            simp only at h
            cases h
            refine ⟨_, w1, rfl, fun hg => ⟨frOk_raise hg.top _, hg.below, hg.st⟩, by simp, c, r1, r2, fun rest2 gs2 τ d ht2 h2 ha => ?_⟩
            unfold communicate
            dsimp only
            simp only [hhp, hw gs2 h2]
            rw [if_neg hill, if_neg hemp, q3 τ d ha]
            simp only [reR]
            rw [e2]
end Go.Lx
namespace Go.Lx
open Go.Conc
variable {P : Program}
def Awake (gs : Array Goroutine) : Prop := ∀ (j : Nat) (x : Goroutine), 0 < j → gs[j]? = some x → x.status = .running ∨ x.status = .finished
theorem partners_awake {gs : Array Goroutine} (h : Awake gs) (r : Nat) (b : Bool) : partners (gs.setIfInBounds 0 ph) r b = [] := by
  refine partners_nil fun j x hx => ?_
  rcases getElem?_stand gs 0 j x hx with ⟨_, rfl⟩ | ⟨hj, hx⟩
  · rfl
  · refine offersAt_of_not_blocked ?_ _ _
    rcases h j x (by omega) hx with e | e <;> rw [e] <;> simp
theorem woken_awake {gs : Array Goroutine} {g g' : Goroutine} {w' : World} (h : Awake gs) : (gs.map (woken P g g' w')).setIfInBounds 0 g' = gs.setIfInBounds 0 g' := by
  apply Array.ext
  · simp
  · intro j h1 h2
    rcases Nat.eq_zero_or_pos j with rfl | hj
    · simp
    · have hne : 0 ≠ j := by omega
      have h2' : j < gs.size := by simpa using h2
      rw [Array.getElem_setIfInBounds_ne _ hne, Array.getElem_setIfInBounds_ne _ hne, Array.getElem_map]
      · have hs := h j gs[j] hj (Array.getElem?_eq_getElem h2')
        unfold woken
        split
        · exact again_running _ hs
        · rfl
      · simpa using h2'
structure OwnStep (P : Program) (g : Goroutine) (w : World) (g' : Goroutine) (w' : World) : Prop where
  win : ∃ c, w'.drawn = w.drawn + c ∧ w'.tape = w.tape ∧ ∀ τ d, Agree w.tape w.drawn τ d c → step P (solo g (re w τ d)) = .next (solo g' (re w' τ (d + c)))
  beside : ∀ (gs : Array Goroutine) (sl : Option (Nat × Nat)), gs[0]? = some g → Awake gs →
    ∃ ops, runT P (crowd gs w sl) 0 = (.next (crowd (gs.setIfInBounds 0 g') w' sl), ops) ∧ (∀ op ∈ ops, op.g = 0) ∧ ∀ t : Trace, Deaf (t ++ ops) 0 = Deaf t 0
theorem awake_one (g : Goroutine) : Awake #[g] := fun j x hj hx => by
  have : j = 0 := by
    have := (Array.getElem?_eq_some_iff.1 hx).1
    simp at this; omega
  omega
theorem deaf_ops {t : Trace} {ops : Array MemOp} (h : ∀ op ∈ ops, OpOk 0 op) : Deaf (t ++ ops) 0 = Deaf t 0 := by
  obtain ⟨l⟩ := ops
  rw [Deaf_append]
  have : ∀ (l : List MemOp) (d : Nat), (∀ op ∈ l, OpOk 0 op) → l.foldl (deafStep 0) d = d := by
    intro l
    induction l with
    | nil => intro d _; rfl
    | cons x l ih =>
      intro d hl
      have hx := hl x (by simp)
      have e : deafStep 0 d x = d := by
        obtain ⟨_, _, h1, h2⟩ := hx
        unfold deafStep
        split <;> first | rfl | (rename_i hq; rw [hq] at h1; exact absurd rfl h1) | (rename_i hq; rw [hq] at h2; exact absurd rfl h2) | skip
        all_goals (rename_i hq; first | exact absurd hq h1 | exact absurd hq h2)
      simp only [List.foldl_cons, e]
      exact ih d fun op hop => hl op (List.mem_cons_of_mem _ hop)
  exact this l _ fun op hop => h op (by simpa using hop)
theorem deaf_own {t : Trace} {fn : FuncId} {pos : String} {es : Array Event} (h : Bal 0 es) : Deaf (t ++ MemOp.ofEvents 0 fn pos es) 0 = Deaf t 0 := by
  rw [Deaf_own]; exact h _
theorem step_solo {g : Goroutine} {w : World} (hr : g.status = .running) : step P (solo g w) = (runT P (crowd #[g] w none) 0).1 := by
  unfold step
  rw [stepT_solo hr]
  rfl
theorem set_one (g g' : Goroutine) : (#[g] : Array Goroutine).setIfInBounds 0 g' = #[g'] := rfl
theorem runT_coro {gs : Array Goroutine} {g g₂ : Goroutine} {w w1 : World} {cc : Nat} {es : Array Event} {sl : Option (Nat × Nat)} (hgs : gs[0]? = some g) (hs : stepG P true g w = .coroswitch g₂ cc true w1 es) :
    runT P (crowd gs w sl) 0 = ((match w1.heap[cc]? with
      | some (.coro (some h)) => .next (crowd ((gs.setIfInBounds 0 { g₂ with status := .finished }).modify h fun o => { o with status := .running }) { w1 with heap := w1.heap.setIfInBounds cc (.coro none) } sl)
      | some (.coro none) => match endThrow g₂.frame "coroswitch on exited coro" w1 with
        | .go x v _ => .next (crowd (gs.setIfInBounds 0 x) v sl)
        | _ => .ended (.stuck "" "") w1
      | _ => .ended (.stuck "coroswitch: no coroutine" "") w1), MemOp.ofEvents 0 g.frame.fn g.frame.place es) := by
  obtain ⟨hlt, rfl⟩ := Array.getElem?_eq_some_iff.1 hgs
  have hsw := swapAt_of_lt hlt { (default : Goroutine) with status := .finished }
  show runT P { world := w, gs := gs, rest := { timers := #[], alone := none, slice := sl } } 0 = _
  unfold runT
  simp only [hsw, hs, GStep.es, beq_self_eq_true]
  have hset : ∀ x, (gs.set 0 { (default : Goroutine) with status := .finished } hlt).setIfInBounds 0 x = gs.setIfInBounds 0 x := fun x => by
    simp [Array.setIfInBounds, hlt]
  cases hob : w1.heap[cc]? with
  | none => rfl
  | some o =>
    cases o with
    | coro p =>
      cases p with
      | none => simp only [hset, endThrow, dieOf]; rfl
      | some k => simp only [hset, if_true]; rfl
    | _ => rfl
theorem own_step (T : Tame P) {g : Goroutine} {w : World} {m' : Machine} (hg : GOk g) (hr : g.status = .running) (h : step P (solo g w) = .next m') (hsz : m'.gs.size = 1)
    (hst : ∀ x, m'.gs[0]? = some x → x.status = .running) : ∃ g' w', m' = solo g' w' ∧ GOk g' ∧ g'.status = .running ∧ OwnStep P g w g' w' := by
  rw [step_solo hr] at h
  have G := good_stepG T (main := true) hg w
  have h0 : (#[g] : Array Goroutine)[0]? = some g := rfl
  cases hs : stepG P true g w with
  | go g' w' es =>
    rcases G with G | ⟨hS, c, q1, q2, q3⟩
    · simp only [hs] at G; cases G
    · simp only [hs, SOk, gw] at hS q1 q2 q3
      have e := runT_crowd_go (P := P) (sl := none) (i := 0) h0 hs
      rw [e, woken_awake (awake_one g), set_one] at h
      simp only [Stepped.next.injEq] at h
      subst h
      refine ⟨g', w', rfl, hS.1, hst g' rfl, ⟨c, q1, q2, fun τ d ha => ?_⟩, fun gs sl hgs ha => ?_⟩
      · have e2 : stepG P true g (re w τ d) = .go g' (re w' τ (d + c)) es := q3 τ d ha
        rw [step_solo hr, runT_crowd_go (P := P) (sl := none) (i := 0) h0 e2, woken_awake (awake_one g), set_one]
        rfl
      · exact ⟨_, by rw [runT_crowd_go (P := P) (sl := sl) (i := 0) hgs hs, woken_awake ha], fun op hop => by obtain ⟨e, _, rfl⟩ := Conc.mem_ofEvents hop; rfl, fun t => deaf_own hS.2⟩
  | comm g₂ cases bl sh w1 es =>
    rcases G with G | ⟨hS, c, q1, q2, q3⟩
    · simp only [hs] at G; cases G
    · simp only [hs, SOk, gw] at hS q1 q2 q3
      have e := runT_crowd_comm (P := P) (sl := none) (i := 0) h0 hs
      rw [e] at h
      simp only at h
      generalize hx : communicate P (crowd #[g] w none).rest ((#[g] : Array Goroutine).setIfInBounds 0 ph) 0 g₂ cases bl sh w1 = x at h
      obtain ⟨st, ops⟩ := x
      simp only at h
      subst h
      obtain ⟨g', w', hm, hok, hops, c', r1, r2, r3⟩ := comm_lone (by rfl) (partners_awake (awake_one g)) hx
      subst hm
      have hrun : g'.status = .running := hst g' rfl
      refine ⟨g', w', rfl, hok hS.1, hrun, ⟨c + c', by rw [r1, q1]; omega, by rw [r2, q2], fun τ d ha => ?_⟩, fun gs sl hgs haw => ?_⟩
      · have e2 : stepG P true g (re w τ d) = .comm g₂ cases bl sh (re w1 τ (d + c)) es := q3 τ d ha.left
        rw [step_solo hr, runT_crowd_comm (P := P) (sl := none) (i := 0) h0 e2]
        have := r3 (crowd #[g] (re w τ d) none).rest ((#[g] : Array Goroutine).setIfInBounds 0 ph) τ (d + c) rfl (partners_awake (awake_one g)) (by rw [q1, q2]; exact ha.right)
        rw [this, Nat.add_assoc]
        rfl
      · have e3 := r3 (crowd gs w sl).rest (gs.setIfInBounds 0 ph) w1.tape w1.drawn rfl (partners_awake haw) (fun _ _ _ => rfl)
        have e4 : re w1 w1.tape w1.drawn = w1 := rfl
        have e5 : re w' w1.tape (w1.drawn + c') = w' := by rw [← r1, ← r2]; rfl
        rw [e4, e5] at e3
        refine ⟨MemOp.ofEvents 0 g.frame.fn g.frame.place es ++ ops, by rw [runT_crowd_comm (P := P) (sl := sl) (i := 0) hgs hs, e3]; simp only [crowd, Array.setIfInBounds_setIfInBounds], ?_, fun t => ?_⟩
        · intro op hop
          rcases Array.mem_append.1 hop with hop | hop
          · obtain ⟨e, _, rfl⟩ := Conc.mem_ofEvents hop; rfl
          · exact (hops op hop).1
        · rw [← Array.append_assoc, deaf_ops hops, deaf_own hS.2]
  | spawn g₂ child w1 es =>
    exfalso
    have e : (runT P (crowd #[g] w none) 0).1 = .next { world := w1, gs := ((#[g] : Array Goroutine).setIfInBounds 0 g₂).push child, rest := (crowd #[g] w none).rest } := by
      simp [runT, crowd, Array.swapAt!, hs]
    rw [e] at h
    simp only [Stepped.next.injEq] at h
    subst h
    simp at hsz
  | coroswitch g₂ cc ex w1 es =>
    rcases G with G | ⟨hS, c, q1, q2, q3⟩
    · simp only [hs] at G; cases G
    · cases ex with
      | false => simp only [hs, SOk] at hS
      | true =>
        simp only [hs, SOk, gw] at hS q1 q2 q3
        have q3' : ∀ τ d, Agree w.tape w.drawn τ d c → stepG P true g (re w τ d) = .coroswitch g₂ cc true (re w1 τ (d + c)) es := q3
        have e := runT_coro (P := P) (sl := none) h0 hs
        rw [e] at h
        simp only at h
        have hops : ∀ op ∈ MemOp.ofEvents 0 g.frame.fn g.frame.place es, op.g = 0 := fun op hop => by obtain ⟨e, _, rfl⟩ := Conc.mem_ofEvents hop; rfl
        cases hob : w1.heap[cc]? with
        | none => rw [hob] at h; cases h
        | some o =>
          rw [hob] at h
          have hob' : ∀ τ d, (re w1 τ d).heap[cc]? = some o := fun _ _ => hob
          cases o with
          | coro p =>
            cases p with
            | none =>
              simp only [endThrow, dieOf, Stepped.next.injEq, set_one] at h
              subst h
              refine ⟨_, w1, rfl, ⟨hS.1.top, by simp, (by simp [StOk])⟩, rfl, ⟨c, q1, q2, fun τ d ha => ?_⟩, fun gs sl hgs haw => ⟨_, ?_, hops, fun t => deaf_own hS.2⟩⟩
              · rw [step_solo hr, runT_coro (P := P) (sl := none) h0 (q3' τ d ha)]
                simp only [hob', endThrow, dieOf, set_one]
                rfl
              · rw [runT_coro (P := P) (sl := sl) hgs hs]
                simp only [hob, endThrow, dieOf]
            | some k =>
              simp only [set_one, Stepped.next.injEq] at h
              subst h
              rcases Nat.eq_zero_or_pos k with rfl | hk
              · refine ⟨{ g₂ with status := .running }, { w1 with heap := w1.heap.setIfInBounds cc (.coro none) }, rfl, ⟨hS.1.top, hS.1.below, (by simp [StOk])⟩, rfl, ⟨c, q1, q2, fun τ d ha => ?_⟩, fun gs sl hgs haw => ⟨_, ?_, hops, fun t => deaf_own hS.2⟩⟩
                · rw [step_solo hr, runT_coro (P := P) (sl := none) h0 (q3' τ d ha)]
                  simp only [hob', set_one]
                  rfl
                · rw [runT_coro (P := P) (sl := sl) hgs hs]
                  simp only [hob]
                  have hlt : 0 < gs.size := (Array.getElem?_eq_some_iff.1 hgs).1
                  congr 3
                  rw [modify_eq_set _ 0 _ { g₂ with status := .finished } (by simp [hlt])]
                  simp
              · have := hst { g₂ with status := .finished } (by
                  simp only [crowd]
                  rw [Array.getElem?_modify]
                  simp [show k ≠ 0 by omega])
                cases this
          | _ => cases h
  | ended o w1 es =>
    exfalso
    have e : (runT P (crowd #[g] w none) 0).1 = .ended o w1 := by simp [runT, crowd, Array.swapAt!, hs]
    rw [e] at h; cases h
  | _ =>
    exfalso
    rcases G with G | ⟨hS, _⟩
    · simp only [hs] at G; cases G
    · simp only [hs, SOk] at hS
end Go.Lx
