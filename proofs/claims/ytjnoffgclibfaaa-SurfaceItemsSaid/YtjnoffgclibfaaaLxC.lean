/- General texts on goroutines beside one another, part C: for any program. -/
import Derived.Test.YtjnoffgclibfaaaLxB
import Derived.Conc.CrowdComm
import Derived.Conc.Beside
import Derived.Lone
import Derived.Conc.Company
set_option linter.unusedSimpArgs false
set_option linter.unusedVariables false
/- A communication of a goroutine beside others none of whom is blocked: as if it were alone. -/
namespace Go.Lx
open Go.Conc
variable {P : Program}

def OpOk (i : Nat) (op : MemOp) : Prop := op.g = i ∧ op.act.touch? = none ∧ op.act ≠ .mark .disable ∧ op.act ≠ .mark .enable

theorem ways_eq {gs gs2 : Array Goroutine} (h1 : ∀ r b, partners gs r b = []) (h2 : ∀ r b, partners gs2 r b = []) (w : World) (c : CommCase) : ways w gs c = ways w gs2 c := by
  unfold ways
  simp only [h1, h2]
theorem ways_plain {gs : Array Goroutine} (h1 : ∀ r b, partners gs r b = []) (w : World) (c : CommCase) : ∀ x ∈ ways w gs c, x = .buffer ∨ x = .closed ∨ x = .sendClosed := by
  unfold ways
  simp only [h1]
  intro x hx
  repeat' (first | (simp at hx; done) | (simp at hx; subst hx; simp; done) | split at hx)
theorem ways_re (gs : Array Goroutine) (w : World) (τ : Nat → Question → Nat) (d : Nat) : ways (re w τ d) gs = ways w gs := rfl

structure CommTo (P : Program) (rest rest2 : Rest) (gs gs2 : Array Goroutine) (i : Nat) (g : Goroutine) (cases : Array CommCase) (bl : Bool) (sh : CommShape) (w : World) (m : Machine) (ops : Array MemOp) (g' : Goroutine) (w' : World) : Prop where
  here : m = { world := w', gs := gs.setIfInBounds i g', rest }
  there : communicate P rest2 gs2 i g cases bl sh w = (.next { world := w', gs := gs2.setIfInBounds i g', rest := rest2 }, ops)
  ok : GOk g → GOk g'
  mem : ∀ op ∈ ops, OpOk i op
  win : ∃ c, w'.drawn = w.drawn + c ∧ w'.tape = w.tape ∧ ∀ τ d, Agree w.tape w.drawn τ d c → communicate P rest gs i g cases bl sh (re w τ d) = (.next { world := re w' τ (d + c), gs := gs.setIfInBounds i g', rest }, ops)

theorem waitingAt_none {rest : Rest} (ht : rest.timers = #[]) (cases : Array CommCase) (w : World) : waitingAt rest cases w = some w := by
  unfold waitingAt timerAhead
  rw [if_neg]
  simp [ht]
  intro c _
  split <;> simp

theorem from_eq1 {α : Type} {φ : α → Prop} {s : Sem α} {w : World} {x : Result α} (hx : s.run P w = x) (hs : Safe P φ 0 s) :
    (∀ a v, x = .ok a v → φ a) ∧ (Refused x ∨ ∃ c, (wOf x).drawn = w.drawn + c ∧ (wOf x).tape = w.tape ∧ ∀ τ d, Agree w.tape w.drawn τ d c → s.run P (re w τ d) = reR x τ (d + c)) := by
  subst hx
  refine ⟨fun a v e => ?_, run_data1 hs w⟩
  obtain ⟨r, es, hr, _, hb, _⟩ := run_data hs w
  have e' : s.run P w = r := by rw [← Sem.runT_fst P s w #[], hr]
  rw [e', ] at e
  subst e
  exact hb.1

def plainWay (x : Way) : Prop := x = .buffer ∨ x = .closed ∨ x = .sendClosed
theorem getD_plain {l : List Way} (h : ∀ x ∈ l, plainWay x) (b : Nat) : plainWay (l.getD b .closed) := by
  rw [List.getD_eq_getElem?_getD]
  cases hx : l[b]? with
  | none => exact .inr (.inl rfl)
  | some x => exact h x (List.mem_of_getElem? hx)
theorem getD_mem {α : Type} {l : List α} (a : Nat) {d : α} : l.getD a d ∈ l ∨ l.getD a d = d := by
  rw [List.getD_eq_getElem?_getD]
  cases hx : l[a]? with
  | none => exact .inr rfl
  | some x => exact .inl (List.mem_of_getElem? hx)

/-- Where nobody is blocked: what a communication comes to, in whatever such company. -/
theorem comm_lone {rest : Rest} {gs : Array Goroutine} {i : Nat} {g : Goroutine} {cases : Array CommCase} {bl : Bool} {sh : CommShape} {w : World} {m : Machine} {ops : Array MemOp}
    (ht : rest.timers = #[]) (h1 : ∀ r b, partners gs r b = []) (h : communicate P rest gs i g cases bl sh w = (.next m, ops)) :
    ∃ g' w', m = { world := w', gs := gs.setIfInBounds i g', rest } ∧ (GOk g → GOk g') ∧ (∀ op ∈ ops, OpOk i op) ∧
      ∃ c, w'.drawn = w.drawn + c ∧ w'.tape = w.tape ∧ ∀ (rest2 : Rest) (gs2 : Array Goroutine) τ d, rest2.timers = #[] → (∀ r b, partners gs2 r b = []) → Agree w.tape w.drawn τ d c →
        communicate P rest2 gs2 i g cases bl sh (re w τ d) = (.next { world := re w' τ (d + c), gs := gs2.setIfInBounds i g', rest := rest2 }, ops) := by
  have hw : ∀ gs2 : Array Goroutine, (∀ r b, partners gs2 r b = []) → ∀ τ d, ways (re w τ d) gs2 = ways w gs := fun gs2 h2 τ d => funext fun c => ways_eq h2 h1 w c
  have hfin : ∀ cs sh k v ok, GOk g → GOk (g.finishComm P cs sh k v ok) := fun cs sh k v ok hg => ⟨frOk_finish hg.top _, hg.below, (by simp [StOk, Goroutine.finishComm])⟩
  have hhp : ∀ τ d, (re w τ d).heap = w.heap := fun _ _ => rfl
  have hL : ∀ e ∈ (cases.zipIdx.toList.map fun x => (x.2, x.1, ways w gs x.1)).filter (fun x => !x.2.2.isEmpty), ∀ x ∈ e.2.2, plainWay x := by
    intro e he x hx
    obtain ⟨y, _, rfl⟩ := List.mem_map.1 (List.mem_filter.1 he).1
    exact ways_plain h1 w _ x hx
  unfold communicate at h
  dsimp only at h
  split at h
  · cases h
  · rename_i hill
    split at h
    · rename_i hemp
      cases bl with
      | true =>
        simp only [if_true, waitingAt_none ht] at h
        cases h
        refine ⟨{ g with status := .blocked, offers := some (cases, sh) }, w, rfl, fun hg => ⟨hg.top, hg.below, (by simp [StOk])⟩, by simp, 0, rfl, rfl, fun rest2 gs2 τ d ht2 h2 _ => ?_⟩
        unfold communicate
        dsimp only
        simp only [hhp, hw gs2 h2]
        rw [if_neg hill, if_pos hemp]
        simp only [if_true, waitingAt_none ht2]
        rfl
      | false =>
        simp only [Bool.false_eq_true, if_false] at h
        cases h
        refine ⟨_, w, rfl, hfin _ _ _ _ _, by simp, 0, rfl, rfl, fun rest2 gs2 τ d ht2 h2 _ => ?_⟩
        unfold communicate
        dsimp only
        simp only [hhp, hw gs2 h2]
        rw [if_neg hill, if_pos hemp]
        simp only [Bool.false_eq_true, if_false]
        rfl
    · rename_i hemp
      generalize hx : Sem.run P _ w = x at h
      have D := from_eq1 (P := P) (φ := fun y : Nat × CommCase × Way => plainWay y.2.2) hx (by
        refine Ok.bind ok_choose fun a => ?_
        refine Ok.bind ok_choose fun b => ?_
        refine ⟨rfl, ?_⟩
        refine getD_plain ?_ _
        intro x hx
        rcases getD_mem a with he | he
        · exact hL _ he x hx
        · rw [he] at hx; cases hx)
      obtain ⟨hpl, hn⟩ := D
      rcases hn with ⟨hh, w', hd, rfl⟩ | ⟨c, q1, q2, q3⟩
      · cases h
      · cases x with
        | halt hh w1 => cases h
        | ok y w1 =>
          obtain ⟨k, c0, wy⟩ := y
          have hp := hpl _ _ rfl
          have r1 : w1.drawn = w.drawn + c := q1
          have r2 : w1.tape = w.tape := q2
          have hh1 : ∀ τ d, (re w1 τ d).heap = w1.heap := fun _ _ => rfl
          simp only at hp
          rcases hp with rfl | rfl | rfl
          · -- a buffer
            simp only [h1] at h
            split at h
            · rename_i hw0; cases hw0
            · rename_i hw0; cases hw0
            · rename_i cap buf cl sent rcvd tm v heq hsend hw0
              cases h
              refine ⟨_, _, rfl, hfin _ _ _ _ _, ?_, c, r1, r2, fun rest2 gs2 τ d ht2 h2 ha => ?_⟩
              · intro op hop
                simp at hop
                rcases hop with rfl | rfl <;> exact ⟨rfl, rfl, by simp, by simp⟩
              · unfold communicate
                dsimp only
                simp only [hhp, hw gs2 h2]
                rw [if_neg hill, if_neg hemp, q3 τ d ha]
                simp only [reR, hh1, heq, hw0]
                rfl
            · rename_i cap buf cl sent rcvd tm heq hsend hw0
              cases h
              refine ⟨_, _, rfl, hfin _ _ _ _ _, ?_, c, r1, r2, fun rest2 gs2 τ d ht2 h2 ha => ?_⟩
              · intro op hop
                simp at hop
                rcases hop with rfl | rfl <;> exact ⟨rfl, rfl, by simp, by simp⟩
              · unfold communicate
                dsimp only
                simp only [hhp, hw gs2 h2]
                rw [if_neg hill, if_neg hemp, q3 τ d ha]
                simp only [reR, hh1, heq, hw0, h2]
                rfl
            · rename_i hw0 _; cases hw0
            · rename_i hw0 _; cases hw0
            · cases h
          · simp only at h
            cases h
            refine ⟨_, w1, rfl, hfin _ _ _ _ _, ?_, c, r1, r2, fun rest2 gs2 τ d ht2 h2 ha => ?_⟩
            · intro op hop
              simp at hop
              subst hop
              exact ⟨rfl, rfl, by simp, by simp⟩
            · unfold communicate
              dsimp only
              simp only [hhp, hw gs2 h2]
              rw [if_neg hill, if_neg hemp, q3 τ d ha]
              simp only [reR]
          · simp only at h
            have hpanic : ∀ (v : World), ∃ x, (runtimePanic (.plain "send on closed channel") : Sem Unit).run P v = .halt (.panic x) v ∧ ∀ v', (runtimePanic (.plain "send on closed channel") : Sem Unit).run P v' = .halt (.panic x) v' := fun v => ⟨_, rfl, fun _ => rfl⟩
            obtain ⟨x, e1, e2⟩ := hpanic w1
            rw [e1] at h
            simp only at h
            cases h
            refine ⟨_, w1, rfl, fun hg => ⟨frOk_raise hg.top _, hg.below, hg.st⟩, by simp, c, r1, r2, fun rest2 gs2 τ d ht2 h2 ha => ?_⟩
            unfold communicate
            dsimp only
            simp only [hhp, hw gs2 h2]
            rw [if_neg hill, if_neg hemp, q3 τ d ha]
            simp only [reR]
            rw [e2]
end Go.Lx

/- A step that a goroutine takes alone it takes beside goroutines none of whom is blocked. -/
namespace Go.Lx
open Go.Conc
variable {P : Program}

def Awake (gs : Array Goroutine) : Prop := ∀ (j : Nat) (x : Goroutine), 0 < j → gs[j]? = some x → x.status = .running ∨ x.status = .finished

theorem partners_awake {gs : Array Goroutine} (h : Awake gs) (r : Nat) (b : Bool) : partners (gs.setIfInBounds 0 ph) r b = [] := by
  refine partners_nil fun j x hx => ?_
  rcases getElem?_stand gs 0 j x hx with ⟨_, rfl⟩ | ⟨hj, hx⟩
  · rfl
  · refine offersAt_of_not_blocked ?_ _ _
    rcases h j x (by omega) hx with e | e <;> rw [e] <;> simp

theorem woken_awake {gs : Array Goroutine} {g g' : Goroutine} {w' : World} (h : Awake gs) : (gs.map (woken P g g' w')).setIfInBounds 0 g' = gs.setIfInBounds 0 g' := by
  apply Array.ext
  · simp
  · intro j h1 h2
    rcases Nat.eq_zero_or_pos j with rfl | hj
    · simp
    · have hne : 0 ≠ j := by omega
      have h2' : j < gs.size := by simpa using h2
      rw [Array.getElem_setIfInBounds_ne _ hne, Array.getElem_setIfInBounds_ne _ hne, Array.getElem_map]
      · have hs := h j gs[j] hj (Array.getElem?_eq_getElem h2')
        unfold woken
        split
        · exact again_running _ hs
        · rfl
      · simpa using h2'

structure OwnStep (P : Program) (g : Goroutine) (w : World) (g' : Goroutine) (w' : World) : Prop where
  win : ∃ c, w'.drawn = w.drawn + c ∧ w'.tape = w.tape ∧ ∀ τ d, Agree w.tape w.drawn τ d c → step P (solo g (re w τ d)) = .next (solo g' (re w' τ (d + c)))
  beside : ∀ (gs : Array Goroutine) (sl : Option (Nat × Nat)), gs[0]? = some g → Awake gs →
    ∃ ops, runT P (crowd gs w sl) 0 = (.next (crowd (gs.setIfInBounds 0 g') w' sl), ops) ∧ (∀ op ∈ ops, op.g = 0) ∧ ∀ t : Trace, Deaf (t ++ ops) 0 = Deaf t 0

theorem awake_one (g : Goroutine) : Awake #[g] := fun j x hj hx => by
  have : j = 0 := by
    have := (Array.getElem?_eq_some_iff.1 hx).1
    simp at this; omega
  omega

theorem deaf_ops {t : Trace} {ops : Array MemOp} (h : ∀ op ∈ ops, OpOk 0 op) : Deaf (t ++ ops) 0 = Deaf t 0 := by
  obtain ⟨l⟩ := ops
  rw [Deaf_append]
  have : ∀ (l : List MemOp) (d : Nat), (∀ op ∈ l, OpOk 0 op) → l.foldl (deafStep 0) d = d := by
    intro l
    induction l with
    | nil => intro d _; rfl
    | cons x l ih =>
      intro d hl
      have hx := hl x (by simp)
      have e : deafStep 0 d x = d := by
        obtain ⟨_, _, h1, h2⟩ := hx
        unfold deafStep
        split <;> first | rfl | (rename_i hq; rw [hq] at h1; exact absurd rfl h1) | (rename_i hq; rw [hq] at h2; exact absurd rfl h2) | skip
        all_goals (rename_i hq; first | exact absurd hq h1 | exact absurd hq h2)
      simp only [List.foldl_cons, e]
      exact ih d fun op hop => hl op (List.mem_cons_of_mem _ hop)
  exact this l _ fun op hop => h op (by simpa using hop)
theorem deaf_own {t : Trace} {fn : FuncId} {pos : String} {es : Array Event} (h : Bal 0 es) : Deaf (t ++ MemOp.ofEvents 0 fn pos es) 0 = Deaf t 0 := by
  rw [Deaf_own]; exact h _

theorem step_solo {g : Goroutine} {w : World} (hr : g.status = .running) : step P (solo g w) = (runT P (crowd #[g] w none) 0).1 := by
  unfold step
  rw [stepT_solo hr]
  rfl

theorem set_one (g g' : Goroutine) : (#[g] : Array Goroutine).setIfInBounds 0 g' = #[g'] := rfl

/-- A coroutine's switch, as the machine has it. -/
theorem runT_coro {gs : Array Goroutine} {g g₂ : Goroutine} {w w1 : World} {cc : Nat} {es : Array Event} {sl : Option (Nat × Nat)} (hgs : gs[0]? = some g) (hs : stepG P true g w = .coroswitch g₂ cc true w1 es) :
    runT P (crowd gs w sl) 0 = ((match w1.heap[cc]? with
      | some (.coro (some h)) => .next (crowd ((gs.setIfInBounds 0 { g₂ with status := .finished }).modify h fun o => { o with status := .running }) { w1 with heap := w1.heap.setIfInBounds cc (.coro none) } sl)
      | some (.coro none) => match endThrow g₂.frame "coroswitch on exited coro" w1 with
        | .go x v _ => .next (crowd (gs.setIfInBounds 0 x) v sl)
        | _ => .ended (.stuck "" "") w1
      | _ => .ended (.stuck "coroswitch: no coroutine" "") w1), MemOp.ofEvents 0 g.frame.fn g.frame.place es) := by
  obtain ⟨hlt, rfl⟩ := Array.getElem?_eq_some_iff.1 hgs
  have hsw := swapAt_of_lt hlt { (default : Goroutine) with status := .finished }
  show runT P { world := w, gs := gs, rest := { timers := #[], alone := none, slice := sl } } 0 = _
  unfold runT
  simp only [hsw, hs, GStep.es, beq_self_eq_true]
  have hset : ∀ x, (gs.set 0 { (default : Goroutine) with status := .finished } hlt).setIfInBounds 0 x = gs.setIfInBounds 0 x := fun x => by
    simp [Array.setIfInBounds, hlt]
  cases hob : w1.heap[cc]? with
  | none => rfl
  | some o =>
    cases o with
    | coro p =>
      cases p with
      | none => simp only [hset, endThrow, dieOf]; rfl
      | some k => simp only [hset, if_true]; rfl
    | _ => rfl

theorem own_step (T : Tame P) {g : Goroutine} {w : World} {m' : Machine} (hg : GOk g) (hr : g.status = .running) (h : step P (solo g w) = .next m') (hsz : m'.gs.size = 1)
    (hst : ∀ x, m'.gs[0]? = some x → x.status = .running) : ∃ g' w', m' = solo g' w' ∧ GOk g' ∧ g'.status = .running ∧ OwnStep P g w g' w' := by
  rw [step_solo hr] at h
  have G := good_stepG T (main := true) hg w
  have h0 : (#[g] : Array Goroutine)[0]? = some g := rfl
  cases hs : stepG P true g w with
  | go g' w' es =>
    rcases G with G | ⟨hS, c, q1, q2, q3⟩
    · simp only [hs] at G; cases G
    · simp only [hs, SOk, gw] at hS q1 q2 q3
      have e := runT_crowd_go (P := P) (sl := none) (i := 0) h0 hs
      rw [e, woken_awake (awake_one g), set_one] at h
      simp only [Stepped.next.injEq] at h
      subst h
      refine ⟨g', w', rfl, hS.1, hst g' rfl, ⟨c, q1, q2, fun τ d ha => ?_⟩, fun gs sl hgs ha => ?_⟩
      · have e2 : stepG P true g (re w τ d) = .go g' (re w' τ (d + c)) es := q3 τ d ha
        rw [step_solo hr, runT_crowd_go (P := P) (sl := none) (i := 0) h0 e2, woken_awake (awake_one g), set_one]
        rfl
      · exact ⟨_, by rw [runT_crowd_go (P := P) (sl := sl) (i := 0) hgs hs, woken_awake ha], fun op hop => by obtain ⟨e, _, rfl⟩ := Conc.mem_ofEvents hop; rfl, fun t => deaf_own hS.2⟩
  | comm g₂ cases bl sh w1 es =>
    rcases G with G | ⟨hS, c, q1, q2, q3⟩
    · simp only [hs] at G; cases G
    · simp only [hs, SOk, gw] at hS q1 q2 q3
      have e := runT_crowd_comm (P := P) (sl := none) (i := 0) h0 hs
      rw [e] at h
      simp only at h
      generalize hx : communicate P (crowd #[g] w none).rest ((#[g] : Array Goroutine).setIfInBounds 0 ph) 0 g₂ cases bl sh w1 = x at h
      obtain ⟨st, ops⟩ := x
      simp only at h
      subst h
      obtain ⟨g', w', hm, hok, hops, c', r1, r2, r3⟩ := comm_lone (by rfl) (partners_awake (awake_one g)) hx
      subst hm
      have hrun : g'.status = .running := hst g' rfl
      refine ⟨g', w', rfl, hok hS.1, hrun, ⟨c + c', by rw [r1, q1]; omega, by rw [r2, q2], fun τ d ha => ?_⟩, fun gs sl hgs haw => ?_⟩
      · have e2 : stepG P true g (re w τ d) = .comm g₂ cases bl sh (re w1 τ (d + c)) es := q3 τ d ha.left
        rw [step_solo hr, runT_crowd_comm (P := P) (sl := none) (i := 0) h0 e2]
        have := r3 (crowd #[g] (re w τ d) none).rest ((#[g] : Array Goroutine).setIfInBounds 0 ph) τ (d + c) rfl (partners_awake (awake_one g)) (by rw [q1, q2]; exact ha.right)
        rw [this, Nat.add_assoc]
        rfl
      · have e3 := r3 (crowd gs w sl).rest (gs.setIfInBounds 0 ph) w1.tape w1.drawn rfl (partners_awake haw) (fun _ _ _ => rfl)
        have e4 : re w1 w1.tape w1.drawn = w1 := rfl
        have e5 : re w' w1.tape (w1.drawn + c') = w' := by rw [← r1, ← r2]; rfl
        rw [e4, e5] at e3
        refine ⟨MemOp.ofEvents 0 g.frame.fn g.frame.place es ++ ops, by rw [runT_crowd_comm (P := P) (sl := sl) (i := 0) hgs hs, e3]; simp only [crowd, Array.setIfInBounds_setIfInBounds], ?_, fun t => ?_⟩
        · intro op hop
          rcases Array.mem_append.1 hop with hop | hop
          · obtain ⟨e, _, rfl⟩ := Conc.mem_ofEvents hop; rfl
          · exact (hops op hop).1
        · rw [← Array.append_assoc, deaf_ops hops, deaf_own hS.2]
  | spawn g₂ child w1 es =>
    exfalso
    have e : (runT P (crowd #[g] w none) 0).1 = .next { world := w1, gs := ((#[g] : Array Goroutine).setIfInBounds 0 g₂).push child, rest := (crowd #[g] w none).rest } := by
      simp [runT, crowd, Array.swapAt!, hs]
    rw [e] at h
    simp only [Stepped.next.injEq] at h
    subst h
    simp at hsz
  | coroswitch g₂ cc ex w1 es =>
    rcases G with G | ⟨hS, c, q1, q2, q3⟩
    · simp only [hs] at G; cases G
    · cases ex with
      | false => simp only [hs, SOk] at hS
      | true =>
        simp only [hs, SOk, gw] at hS q1 q2 q3
        have q3' : ∀ τ d, Agree w.tape w.drawn τ d c → stepG P true g (re w τ d) = .coroswitch g₂ cc true (re w1 τ (d + c)) es := q3
        have e := runT_coro (P := P) (sl := none) h0 hs
        rw [e] at h
        simp only at h
        have hops : ∀ op ∈ MemOp.ofEvents 0 g.frame.fn g.frame.place es, op.g = 0 := fun op hop => by obtain ⟨e, _, rfl⟩ := Conc.mem_ofEvents hop; rfl
        cases hob : w1.heap[cc]? with
        | none => rw [hob] at h; cases h
        | some o =>
          rw [hob] at h
          have hob' : ∀ τ d, (re w1 τ d).heap[cc]? = some o := fun _ _ => hob
          cases o with
          | coro p =>
            cases p with
            | none =>
              simp only [endThrow, dieOf, Stepped.next.injEq, set_one] at h
              subst h
              refine ⟨_, w1, rfl, ⟨hS.1.top, by simp, (by simp [StOk])⟩, rfl, ⟨c, q1, q2, fun τ d ha => ?_⟩, fun gs sl hgs haw => ⟨_, ?_, hops, fun t => deaf_own hS.2⟩⟩
              · rw [step_solo hr, runT_coro (P := P) (sl := none) h0 (q3' τ d ha)]
                simp only [hob', endThrow, dieOf, set_one]
                rfl
              · rw [runT_coro (P := P) (sl := sl) hgs hs]
                simp only [hob, endThrow, dieOf]
            | some k =>
              simp only [set_one, Stepped.next.injEq] at h
              subst h
              rcases Nat.eq_zero_or_pos k with rfl | hk
              · refine ⟨{ g₂ with status := .running }, { w1 with heap := w1.heap.setIfInBounds cc (.coro none) }, rfl, ⟨hS.1.top, hS.1.below, (by simp [StOk])⟩, rfl, ⟨c, q1, q2, fun τ d ha => ?_⟩, fun gs sl hgs haw => ⟨_, ?_, hops, fun t => deaf_own hS.2⟩⟩
                · rw [step_solo hr, runT_coro (P := P) (sl := none) h0 (q3' τ d ha)]
                  simp only [hob', set_one]
                  rfl
                · rw [runT_coro (P := P) (sl := sl) hgs hs]
                  simp only [hob]
                  have hlt : 0 < gs.size := (Array.getElem?_eq_some_iff.1 hgs).1
                  congr 3
                  rw [modify_eq_set _ 0 _ { g₂ with status := .finished } (by simp [hlt])]
                  simp
              · have := hst { g₂ with status := .finished } (by
                  simp only [crowd]
                  rw [Array.getElem?_modify]
                  simp [show k ≠ 0 by omega])
                cases this
          | _ => cases h
  | ended o w1 es =>
    exfalso
    have e : (runT P (crowd #[g] w none) 0).1 = .ended o w1 := by simp [runT, crowd, Array.swapAt!, hs]
    rw [e] at h; cases h
  | _ =>
    exfalso
    rcases G with G | ⟨hS, _⟩
    · simp only [hs] at G; cases G
    · simp only [hs, SOk] at hS
end Go.Lx

/- A goroutine that alone comes to a stop on every tape comes to it whatever is drawn between its steps. -/
namespace Go.Lx
open Go.Conc
variable {P : Program}

/-- Who does not run, alone, never runs again. -/
theorem still_solo {x : Goroutine} {w : World} {m : Machine} (hst : StOk x) (hn : x.status ≠ .running) (h : step P (solo x w) = .next m) : m = solo x w := by
  rcases hst with e | e | e | e
  · exact absurd e hn
  · exfalso
    simp [step, stepT, move, ask, askOn, solo, runnable_eq, due, ahead, Goroutine.canRun, List.range_succ, pure, e] at h
    split at h
    · rename_i hm
      split at hm <;> cases hm
    · rename_i hm
      split at hm <;> (cases hm; cases h)
  · simp [step, stepT, move, ask, askOn, solo, runnable_eq, due, ahead, Goroutine.canRun, List.range_succ, pure, e] at h
    exact h.symm
  · exfalso
    simp [step, stepT, move, ask, askOn, solo, runnable_eq, due, ahead, Goroutine.canRun, List.range_succ, pure, e] at h
    split at h
    · rename_i hm
      split at hm <;> cases hm
    · rename_i hm
      split at hm <;> (cases hm; cases h)
theorem still_runs {x : Goroutine} {w : World} (hst : StOk x) (hn : x.status ≠ .running) : ∀ (n : Nat) {m : Machine}, runN P n (solo x w) = .next m → m = solo x w := by
  intro n
  induction n with
  | zero => intro m h; simp only [runN, Stepped.next.injEq] at h; exact h.symm
  | succ n ih =>
    intro m h
    simp only [runN] at h
    cases hs : step P (solo x w) with
    | ended o v => rw [hs] at h; cases h
    | next m' =>
      rw [hs] at h
      obtain rfl := still_solo hst hn hs
      exact ih h

theorem runN_size (n : Nat) {m m' : Machine} (h : runN P n m = .next m') : m.gs.size ≤ m'.gs.size := by
  have e := runNT_fst P n m #[]
  generalize hx : runNT P n m #[] = x at e
  obtain ⟨s, t⟩ := x
  simp only at e
  rw [h] at e
  subst e
  exact runNT_size P n m m' #[] t hx

/-- The first step, alone: a machine of one, again. -/
theorem lone_form (T : Tame P) {g : Goroutine} {w : World} {m' : Machine} (hg : GOk g) (hr : g.status = .running) (h : step P (solo g w) = .next m') (hsz : m'.gs.size = 1) : ∃ x v, m' = solo x v ∧ StOk x := by
  rw [step_solo hr] at h
  have G := good_stepG T (main := true) hg w
  have h0 : (#[g] : Array Goroutine)[0]? = some g := rfl
  cases hs : stepG P true g w with
  | go g' w' es =>
    rcases G with G | ⟨hS, _⟩
    · simp only [hs] at G; cases G
    · simp only [hs, SOk] at hS
      rw [runT_crowd_go (P := P) (sl := none) (i := 0) h0 hs, woken_awake (awake_one g), set_one] at h
      simp only [Stepped.next.injEq] at h
      subst h
      exact ⟨g', w', rfl, hS.1.st⟩
  | comm g₂ cases bl sh w1 es =>
    rcases G with G | ⟨hS, _⟩
    · simp only [hs] at G; cases G
    · simp only [hs, SOk] at hS
      rw [runT_crowd_comm (P := P) (sl := none) (i := 0) h0 hs] at h
      simp only at h
      generalize hx : communicate P (crowd #[g] w none).rest ((#[g] : Array Goroutine).setIfInBounds 0 ph) 0 g₂ cases bl sh w1 = x at h
      obtain ⟨st, ops⟩ := x
      simp only at h
      subst h
      obtain ⟨g', w', hm, hok, _⟩ := comm_lone (by rfl) (partners_awake (awake_one g)) hx
      subst hm
      exact ⟨g', w', rfl, (hok hS.1).st⟩
  | spawn g₂ child w1 es =>
    exfalso
    have e : (runT P (crowd #[g] w none) 0).1 = .next { world := w1, gs := ((#[g] : Array Goroutine).setIfInBounds 0 g₂).push child, rest := (crowd #[g] w none).rest } := by
      simp [runT, crowd, Array.swapAt!, hs]
    rw [e] at h
    simp only [Stepped.next.injEq] at h
    subst h
    simp at hsz
  | coroswitch g₂ cc ex w1 es =>
    rcases G with G | ⟨hS, _⟩
    · simp only [hs] at G; cases G
    · cases ex with
      | false => simp only [hs, SOk] at hS
      | true =>
        rw [runT_coro (P := P) (sl := none) h0 hs] at h
        simp only at h
        cases hob : w1.heap[cc]? with
        | none => rw [hob] at h; cases h
        | some o =>
          rw [hob] at h
          cases o with
          | coro p =>
            cases p with
            | none =>
              simp only [endThrow, dieOf, Stepped.next.injEq, set_one] at h
              subst h
              exact ⟨_, w1, rfl, .inl rfl⟩
            | some k =>
              simp only [set_one, Stepped.next.injEq] at h
              subst h
              rcases Nat.eq_zero_or_pos k with rfl | hk
              · exact ⟨{ g₂ with status := .running }, _, rfl, .inl rfl⟩
              · refine ⟨{ g₂ with status := .finished }, { w1 with heap := w1.heap.setIfInBounds cc (.coro none) }, ?_, .inr (.inr (.inr rfl))⟩
                have : (#[{ g₂ with status := GoStatus.finished }] : Array Goroutine).modify k (fun o => { o with status := .running }) = #[{ g₂ with status := .finished }] := by
                  apply Array.ext
                  · simp
                  · intro j h1 h2
                    have : j = 0 := by simp at h2; omega
                    subst this
                    rw [Array.getElem_modify]
                    simp [show k ≠ 0 by omega]
                simp only [this]
                rfl
          | _ => cases h
  | ended o w1 es =>
    exfalso
    have e : (runT P (crowd #[g] w none) 0).1 = .ended o w1 := by simp [runT, crowd, Array.swapAt!, hs]
    rw [e] at h; cases h
  | _ =>
    exfalso
    rcases G with G | ⟨hS, _⟩
    · simp only [hs] at G; cases G
    · simp only [hs, SOk] at hS

/-- The first step of a lone run that comes to one who runs. -/
theorem first_step (T : Tame P) {g g1 : Goroutine} {w w1 : World} {n : Nat} (hg : GOk g) (hr : g.status = .running) (h1 : g1.status = .running) (h : runN P (n + 1) (solo g w) = .next (solo g1 w1)) :
    ∃ g' w', GOk g' ∧ g'.status = .running ∧ OwnStep P g w g' w' ∧ step P (solo g w) = .next (solo g' w') ∧ runN P n (solo g' w') = .next (solo g1 w1) := by
  simp only [runN] at h
  cases hs : step P (solo g w) with
  | ended o v => rw [hs] at h; cases h
  | next m' =>
    rw [hs] at h
    simp only at h
    have hle := runN_size n h
    have hge := stepT_size P (solo g w) m' true (by unfold step at hs; exact hs)
    have hsz : m'.gs.size = 1 := by simp [solo] at hle hge; omega
    obtain ⟨x, v, rfl, hx⟩ := lone_form T hg hr hs hsz
    have hxr : x.status = .running := by
      by_cases hxr : x.status = .running
      · exact hxr
      · have := still_runs hx hxr n h
        simp only [solo, Machine.mk.injEq] at this
        have e : g1 = x := by
          have := this.2.1
          simpa using this
        rw [← e]; exact h1
    obtain ⟨g', w', e, ho, hr', hown⟩ := own_step T hg hr hs hsz (fun y hy => by
      have : y = x := by simpa [solo] using hy.symm
      rw [this]; exact hxr)
    have e' : x = g' ∧ v = w' := by
      simp only [solo, Machine.mk.injEq] at e
      exact ⟨by simpa using e.2.1, e.1⟩
    obtain ⟨rfl, rfl⟩ := e'
    exact ⟨x, v, ho, hr', hown, rfl, h⟩
end Go.Lx

/- From lone runs on every tape to an end beside others. -/
namespace Go.Lx
open Go.Conc
variable {P : Program}

theorem re_re (w : World) (τ τ' : Nat → Question → Nat) (d d' : Nat) : re (re w τ d) τ' d' = re w τ' d' := rfl
theorem re_at (w : World) (τ : Nat → Question → Nat) (d d' : Nat) : re (w.at d) τ d' = re w τ d' := rfl
theorem re_eta {w : World} {τ : Nat → Question → Nat} {d : Nat} (h1 : w.tape = τ) (h2 : w.drawn = d) : re w τ d = w := by subst h1 h2; rfl

/-- A lone run reads the tape from its count on. -/
theorem lone_shift (T : Tame P) {g1 : Goroutine} (h1 : g1.status = .running) : ∀ (n : Nat) (g : Goroutine) (w w1 : World) (τ τ' : Nat → Question → Nat) (d d' : Nat), GOk g → g.status = .running →
    (∀ i q, τ' (d' + i) q = τ (d + i) q) → runN P n (solo g (re w τ d)) = .next (solo g1 w1) → ∃ k, runN P n (solo g (re w τ' d')) = .next (solo g1 (re w1 τ' k)) := by
  intro n
  induction n with
  | zero =>
    intro g w w1 τ τ' d d' _ _ _ h
    simp only [runN, Stepped.next.injEq, solo, Machine.mk.injEq] at h
    obtain ⟨rfl, e, _⟩ := h
    have e : g = g1 := by simpa using e
    subst e
    exact ⟨d', rfl⟩
  | succ n ih =>
    intro g w w1 τ τ' d d' hg hr ht h
    obtain ⟨g', w', hg', hr', hown, hs, hn⟩ := first_step T hg hr h1 h
    obtain ⟨c, q1, q2, q3⟩ := hown.win
    have q1 : w'.drawn = d + c := q1
    have q2 : w'.tape = τ := q2
    have hstep := q3 τ' d' (fun i _ q => ht i q)
    rw [re_re] at hstep
    obtain ⟨k, hk⟩ := ih g' w' w1 τ τ' (d + c) (d' + c) hg' hr' (fun i q => by rw [Nat.add_assoc, Nat.add_assoc]; exact ht (c + i) q) (by rw [re_eta q2 q1]; exact hn)
    exact ⟨k, by simp only [runN, hstep]; exact hk⟩

/-- Alone it comes to a stop, on every tape. -/
def LoneOk (P : Program) (Stop : Goroutine → World → Prop) (g : Goroutine) (w : World) : Prop :=
  ∀ τ d, ∃ n g1 w1, runN P n (solo g (re w τ d)) = .next (solo g1 w1) ∧ g1.status = .running ∧ Stop g1 w1

/-- Whatever is drawn ahead of its steps, it comes to a stop. -/
def Ends (P : Program) (Stop : Goroutine → World → Prop) (g : Goroutine) (w : World) : Prop :=
  ∀ X : Goroutine → World → Prop, (∀ g w, Stop g w → X g w) → (∀ g w, g.status = .running → (∀ d, ∃ g' w', OwnStep P g (w.at d) g' w' ∧ X g' w') → X g w) → X g w

theorem Ends.stop {Stop : Goroutine → World → Prop} {g : Goroutine} {w : World} (h : Stop g w) : Ends P Stop g w := fun _ h0 _ => h0 g w h
theorem Ends.step {Stop : Goroutine → World → Prop} {g : Goroutine} {w : World} (hr : g.status = .running) (h : ∀ d, ∃ g' w', OwnStep P g (w.at d) g' w' ∧ Ends P Stop g' w') : Ends P Stop g w :=
  fun X h0 h1 => h1 g w hr fun d => let ⟨g', w', a, b⟩ := h d; ⟨g', w', a, b X h0 h1⟩

section
variable {Stop : Goroutine → World → Prop}

/-- The next step of one who is not at its stop, at whatever count of draws. -/
theorem LoneOk.next (T : Tame P) (hStop : ∀ g w τ d, Stop g w → Stop g (re w τ d)) {g : Goroutine} {w : World} (hg : GOk g) (hr : g.status = .running) (hns : ¬ Stop g w) (h : LoneOk P Stop g w) (d : Nat) :
    ∃ g' w', GOk g' ∧ g'.status = .running ∧ OwnStep P g (w.at d) g' w' ∧ LoneOk P Stop g' w' := by
  obtain ⟨n, g1, w1, hn, h1, hs⟩ := h w.tape d
  cases n with
  | zero =>
    exfalso
    simp only [runN, Stepped.next.injEq, solo, Machine.mk.injEq] at hn
    obtain ⟨rfl, e, _⟩ := hn
    have e : g = g1 := by simpa using e
    subst e
    exact hns (hStop g (re w w.tape d) w.tape w.drawn hs)
  | succ n =>
    obtain ⟨g', w', hg', hr', hown, _, _⟩ := first_step T hg hr h1 hn
    refine ⟨g', w', hg', hr', hown, fun τ' d' => ?_⟩
    obtain ⟨c, q1, q2, q3⟩ := hown.win
    let T0 : Nat → Question → Nat := fun i q => if i < c then w.tape (d + i) q else τ' (d' + (i - c)) q
    obtain ⟨m, g2, w2, hm, h2, hs2⟩ := h T0 0
    have hag : Agree w.tape d T0 0 c := fun i hi q => by simp only [T0, Nat.zero_add, hi, if_true]
    have hstep : step P (solo g (re w T0 0)) = .next (solo g' (re w' T0 (0 + c))) := q3 T0 0 hag
    rw [Nat.zero_add] at hstep
    cases m with
    | zero =>
      exfalso
      simp only [runN, Stepped.next.injEq, solo, Machine.mk.injEq] at hm
      obtain ⟨rfl, e, _⟩ := hm
      have e : g = g2 := by simpa using e
      subst e
      exact hns (hStop g (re w T0 0) w.tape w.drawn hs2)
    | succ m =>
      simp only [runN, hstep] at hm
      obtain ⟨k, hk⟩ := lone_shift T h2 m g' w' w2 T0 τ' c d' hg' hr' (fun i q => by
        simp only [T0]
        rw [if_neg (by omega), show c + i - c = i by omega]) hm
      exact ⟨m, g2, _, hk, h2, hStop _ _ _ _ hs2⟩

theorem path {S : Type} {R : S → S → Prop} (h : ∀ s, ∃ s', R s s') (s0 : S) : ∃ f : Nat → S, f 0 = s0 ∧ ∀ n, R (f n) (f (n + 1)) :=
  ⟨fun n => Nat.rec s0 (fun _ s => Classical.choose (h s)) n, rfl, fun _ => Classical.choose_spec (h _)⟩

/-- Sums of windows. -/
def posOf (C : Nat → Nat) : Nat → Nat
  | 0 => 0
  | n + 1 => posOf C n + C n
theorem posOf_le (C : Nat → Nat) {a b : Nat} (h : a ≤ b) : posOf C a ≤ posOf C b := by
  induction h with
  | refl => exact Nat.le_refl _
  | step _ ih => exact Nat.le_trans ih (Nat.le_add_right _ _)
open Classical in
noncomputable def splice (τ : Nat → Question → Nat) (C D : Nat → Nat) : Nat → Question → Nat := fun i q =>
  if h : ∃ k, posOf C k ≤ i ∧ i < posOf C (k + 1) then τ (D (Classical.choose h) + (i - posOf C (Classical.choose h))) q else 0
theorem splice_agree (τ : Nat → Question → Nat) (C D : Nat → Nat) (k : Nat) : Agree τ (D k) (splice τ C D) (posOf C k) (C k) := by
  intro i hi q
  have hex : ∃ k', posOf C k' ≤ posOf C k + i ∧ posOf C k + i < posOf C (k' + 1) := ⟨k, Nat.le_add_right _ _, by simp only [posOf]; omega⟩
  unfold splice
  rw [dif_pos hex]
  have hc := Classical.choose_spec hex
  have key : ∀ m, posOf C m ≤ posOf C k + i → posOf C k + i < posOf C (m + 1) → m = k := by
    intro m h1 h2
    rcases Nat.lt_trichotomy m k with h | h | h
    · have := posOf_le C (show m + 1 ≤ k from h)
      omega
    · exact h
    · have := posOf_le C (show k + 1 ≤ m from h)
      simp only [posOf] at this
      omega
  have hk : Classical.choose hex = k := key _ hc.1 hc.2
  rw [hk, Nat.add_sub_cancel_left]

/-- FROM LONE RUNS TO AN END. -/
theorem ends_of_lone (T : Tame P) (hStop : ∀ g w τ d, Stop g w → Stop g (re w τ d)) {g : Goroutine} {w : World} (hg : GOk g) (hr : g.status = .running) (h : LoneOk P Stop g w) : Ends P Stop g w := by
  apply Classical.byContradiction
  intro hno
  let Bad : Goroutine × World → Prop := fun x => GOk x.1 ∧ x.1.status = .running ∧ LoneOk P Stop x.1 x.2 ∧ ¬ Ends P Stop x.1 x.2
  let R : { x // Bad x } → { x // Bad x } → Prop := fun s s' => ∃ d, OwnStep P s.1.1 (s.1.2.at d) s'.1.1 s'.1.2
  have hR : ∀ s, ∃ s', R s s' := by
    rintro ⟨⟨a, v⟩, ha, har, hal, hae⟩
    have hns : ¬ Stop a v := fun hs => hae (Ends.stop hs)
    have : ∃ d, ∀ g' w', OwnStep P a (v.at d) g' w' → ¬ Ends P Stop g' w' := by
      apply Classical.byContradiction
      intro hc
      refine hae (Ends.step har fun d => ?_)
      apply Classical.byContradiction
      intro hd
      exact hc ⟨d, fun g' w' ho he => hd ⟨g', w', ho, he⟩⟩
    obtain ⟨d, hd⟩ := this
    obtain ⟨g', w', hg', hr', ho, hl⟩ := LoneOk.next T hStop ha har hns hal d
    exact ⟨⟨(g', w'), hg', hr', hl, hd g' w' ho⟩, d, ho⟩
  obtain ⟨f, hf0, hf⟩ := path hR ⟨(g, w), hg, hr, h, hno⟩
  have hw : ∀ n, ∃ d c, (f (n + 1)).1.2.tape = (f n).1.2.tape ∧ ∀ τ p, Agree (f n).1.2.tape d τ p c → step P (solo (f n).1.1 (re (f n).1.2 τ p)) = .next (solo (f (n + 1)).1.1 (re (f (n + 1)).1.2 τ (p + c))) := by
    intro n
    obtain ⟨d, ho⟩ := hf n
    obtain ⟨c, _, q2, q3⟩ := ho.win
    exact ⟨d, c, q2, fun τ p ha => q3 τ p ha⟩
  let D : Nat → Nat := fun n => Classical.choose (hw n)
  let C : Nat → Nat := fun n => Classical.choose (Classical.choose_spec (hw n))
  have hDC : ∀ n, (f (n + 1)).1.2.tape = (f n).1.2.tape ∧ ∀ τ p, Agree (f n).1.2.tape (D n) τ p (C n) → step P (solo (f n).1.1 (re (f n).1.2 τ p)) = .next (solo (f (n + 1)).1.1 (re (f (n + 1)).1.2 τ (p + C n))) :=
    fun n => Classical.choose_spec (Classical.choose_spec (hw n))
  have htape : ∀ n, (f n).1.2.tape = w.tape := by
    intro n
    induction n with
    | zero => rw [hf0]
    | succ n ih => rw [(hDC n).1, ih]
  let S := splice w.tape C D
  have hrun : ∀ n, runN P n (solo g (re w S 0)) = .next (solo (f n).1.1 (re (f n).1.2 S (posOf C n))) := by
    intro n
    induction n with
    | zero => rw [hf0]; rfl
    | succ n ih =>
      have hs := (hDC n).2 S (posOf C n) (by rw [htape n]; exact splice_agree w.tape C D n)
      rw [runN_add P n 1, ih]
      simp only [runN, hs]
      rfl
  obtain ⟨n, g1, w1, hn, h1, hs⟩ := h S 0
  rw [hrun n] at hn
  simp only [Stepped.next.injEq, solo, Machine.mk.injEq] at hn
  obtain ⟨e1, e2, _⟩ := hn
  have e2 : (f n).1.1 = g1 := by simpa using e2
  have hst : Stop (f n).1.1 (re (f n).1.2 S (posOf C n)) := by rw [e1, e2]; exact hs
  exact (f n).2.2.2.2 (Ends.stop (hStop (f n).1.1 (re (f n).1.2 S (posOf C n)) (f n).1.2.tape (f n).1.2.drawn hst))
end
end Go.Lx

/- A goroutine that ends whatever is drawn ends beside goroutines that only leave. -/
namespace Go.Lx
open Go.Conc
open Go.ConcN (sumTo upd sumTo_upd upd_ne upd_same)
variable {P : Program}

/-- What is held of the trace between two calls that go. -/
structure Kn (t : Trace) : Prop where
  clean : ∀ said, ¬ Race said t
  known : ∀ i a, touchAt t i = some a → a.loc.isMemory = true → Knows t 0 i
  hears : Deaf t 0 = 0

theorem Kn.over {t : Trace} (h : Kn t) : t.HandedOver := by
  rintro i g hg hne ⟨x, hx, hm, _⟩
  obtain ⟨q, z, h1, h2, h3⟩ := h.known i x hx hm
  refine ⟨q, by simp [Trace.g?, h1, h2], ?_⟩
  rcases h3 with rfl | h3
  · simp [Trace.g?, h1, h2] at hg
    exact absurd hg.symm hne
  · exact h3

theorem Kn.app0 {t u : Trace} (h : Kn t) (hu : ∀ op ∈ u, op.g = 0) (hd : Deaf (t ++ u) 0 = Deaf t 0) : Kn (t ++ u) := by
  refine ⟨fun said => noRace_append (h.clean said) hu fun i a ha op _ b _ hc => h.known i a ha hc.2.1, fun i a ha hm => ?_, hd.trans h.hears⟩
  obtain ⟨x, hx, hxa⟩ := touch_of ha
  rcases getElem?_append_cases hx with ⟨_, hx'⟩ | ⟨_, hxu⟩
  · exact (h.known i a (by rw [touchAt_of hx']; exact hxa) hm).app u
  · have := knows_own hx
    rwa [hu x hxu] at this

theorem Kn.appMute {t u : Trace} {g : Nat} (h : Kn t) (hg : g ≠ 0) (hu : ∀ op ∈ u, op.g = g) (hn : ∀ op ∈ u, op.act.touch? = none) : Kn (t ++ u) := by
  refine ⟨fun said => noRace_append (h.clean said) hu fun i a _ op hop b hb _ => (by rw [hn op hop] at hb; cases hb), fun i a ha hm => ?_, (Deaf_other t hg u hu).trans h.hears⟩
  obtain ⟨x, hx, hxa⟩ := touch_of ha
  rcases getElem?_append_cases hx with ⟨_, hx'⟩ | ⟨_, hxu⟩
  · exact (h.known i a (by rw [touchAt_of hx']; exact hxa) hm).app u
  · rw [hn x hxu] at hxa; cases hxa

theorem kn_nil : Kn #[] := by
  refine ⟨fun said h => ?_, fun i a ha => ?_, rfl⟩
  · obtain ⟨i, j, _, ⟨a, b, ha, _⟩, _⟩ := h
    simp [Trace.act?] at ha
  · simp [touchAt, Trace.act?] at ha

theorem awake_leavers {t : Trace} {gs : Array Goroutine} {q : Nat → Nat} (hL : Leavers P t gs q) : Awake gs := fun j x hj hx => (hL.old j x hj hx).status

/-- The others stay as they are where goroutine 0 takes a step. -/
theorem leavers_own {t u : Trace} {gs : Array Goroutine} {q : Nat → Nat} {g g' : Goroutine} (h0 : gs[0]? = some g) (hL : Leavers P t gs q) (hu : ∀ op ∈ u, op.g = 0) : Leavers P (t ++ u) (gs.setIfInBounds 0 g') q := by
  have hlt : 0 < gs.size := (Array.getElem?_eq_some_iff.1 h0).1
  refine ⟨fun j x hj hx => ?_, fun j hj => ?_⟩
  · rw [Array.getElem?_setIfInBounds_ne (by omega)] at hx
    rw [Deaf_other t (by omega) u hu]
    exact hL.old j x hj hx
  · have hj : gs.size ≤ j := by simpa using hj
    rw [Deaf_other t (g := j) (g' := 0) (by omega) u hu]
    exact hL.above j hj

def RunsTo (P : Program) (Stop : Goroutine → World → Prop) (gs : Array Goroutine) (w : World) (sl : Option (Nat × Nat)) (t : Trace) : Prop :=
  ∃ (N : Nat) (gs' : Array Goroutine) (g' : Goroutine) (w' : World) (sl' : Option (Nat × Nat)) (t' : Trace) (q' : Nat → Nat),
    runNT P N (crowd gs w sl) t = (.next (crowd gs' w' sl'), t') ∧ gs'.size = gs.size ∧ gs'[0]? = some g' ∧ Stop g' w' ∧ Leavers P t' gs' q' ∧ Kn t'

theorem beside_step {Stop : Goroutine → World → Prop} {g : Goroutine} {w : World} (hrun : g.status = .running)
    (hstep : ∀ d, ∃ g' w', OwnStep P g (w.at d) g' w' ∧ ∀ gs sl t q, gs[0]? = some g' → Leavers P t gs q → Kn t → RunsTo P Stop gs w' sl t) :
    ∀ (M e : Nat) (gs : Array Goroutine) (sl : Option (Nat × Nat)) (t : Trace) (q : Nat → Nat), sumTo gs.size q ≤ M → gs[0]? = some g → Leavers P t gs q → Kn t → RunsTo P Stop gs (w.at e) sl t := by
  intro M
  induction M using Nat.strongRecOn with
  | ind M ih =>
  intro e gs sl t q hM h0 hL hK
  have hlt0 : 0 < gs.size := (Array.getElem?_eq_some_iff.1 h0).1
  have haw : ∀ x ∈ gs, awake x := by
    intro x hx
    obtain ⟨i, hi, rfl⟩ := Array.mem_iff_getElem.1 hx
    rcases Nat.eq_zero_or_pos i with rfl | hpos
    · have : gs[0] = g := by simpa [Array.getElem?_eq_getElem hi] using h0
      rw [this]; exact awake_of (.inl hrun)
    · exact awake_of ((hL.old i _ hpos (Array.getElem?_eq_getElem hi)).status.elim .inl fun x => .inr (.inr x))
  obtain ⟨i, x, d, sl', hi, hx, hst⟩ := crowd_pick (P := P) (w := w.at e) (sl := sl) haw ⟨0, g, h0, hrun⟩
  have hat : (w.at e).at d = w.at d := rfl
  rw [hat] at hst
  rcases Nat.eq_zero_or_pos i with rfl | hpos
  · -- goroutine 0 takes a step
    obtain ⟨g', w', hown, hX⟩ := hstep d
    obtain ⟨ops, hrT, hops, hdeaf⟩ := hown.beside gs sl' h0 (awake_leavers hL)
    obtain ⟨N, gs', a', w2, sl2, t', q', hr, hs', h0', hS, hL', hK'⟩ := hX (gs.setIfInBounds 0 g') sl' (t ++ ops) q (by simp [hlt0]) (leavers_own h0 hL hops) (hK.app0 hops (hdeaf t))
    exact ⟨N + 1, gs', a', w2, sl2, t', q', by simp only [runNT, hst, hrT]; exact hr, hs'.trans (by simp), h0', hS, hL', hK'⟩
  · -- a leaver slips
    have hq := hL.old i x hpos hi
    have hi0 : (i == 0) = false := by simp; omega
    have hlt : i < gs.size := (Array.getElem?_eq_some_iff.1 hi).1
    cases hqi : q i with
    | zero => rw [hqi] at hq; rw [hq.1] at hx; cases hx
    | succ k =>
      rw [hqi] at hq
      rcases hq with ⟨hf, _⟩ | ⟨_, g', es, hm, hstp, hq'⟩
      · rw [hf] at hx; cases hx
      have hrunT := runT_crowd_go (P := P) (sl := sl') (i := i) hi (by rw [hi0]; exact hstp (w.at d))
      have hsz : ((gs.map (woken P x g' (w.at d))).setIfInBounds i g').size = gs.size := by simp
      have hsum : sumTo gs.size (upd q i k) + (k + 1) = sumTo gs.size q + k := by
        have := sumTo_upd q k id hlt
        simpa [hqi] using this
      obtain ⟨N, gs', a'', w'', sl'', t', q', hr, hs', h0', hS, hL', hK'⟩ := ih (sumTo gs.size (upd q i k)) (by omega) d ((gs.map (woken P x g' (w.at d))).setIfInBounds i g') sl' (t ++ MemOp.ofEvents i x.frame.fn x.frame.place es) (upd q i k) (by rw [hsz]; exact Nat.le_refl _)
        (by
          have hne : i ≠ 0 := by omega
          rw [Array.getElem?_setIfInBounds_ne hne, Array.getElem?_map, h0]
          simp [woken_run hrun])
        ⟨fun j y hj hy => by
          by_cases hji : i = j
          · subst hji
            rw [Array.getElem?_setIfInBounds_self_of_lt (by simpa using hlt)] at hy
            obtain rfl := Option.some.inj hy
            rw [upd_same, Deaf_own]
            exact hq'
          · rw [Array.getElem?_setIfInBounds_ne hji, Array.getElem?_map] at hy
            obtain ⟨z, hz, rfl⟩ := Option.map_eq_some_iff.1 hy
            have hqj := hL.old j z hj hz
            rw [woken_quitsD hqj, upd_ne q k (Ne.symm hji), Deaf_other t hji _ (fun op hop => by obtain ⟨e, _, rfl⟩ := Conc.mem_ofEvents hop; rfl)]
            exact hqj, fun j hj => by
          rw [Deaf_other t (g' := i) (by simp at hj; omega) _ (fun op hop => by obtain ⟨e, _, rfl⟩ := Conc.mem_ofEvents hop; rfl)]
          exact hL.above j (by simpa using hj)⟩
        (hK.appMute (g := i) (by omega) (fun op hop => by obtain ⟨e, _, rfl⟩ := Conc.mem_ofEvents hop; rfl) (fun op hop => by obtain ⟨e, he, rfl⟩ := Conc.mem_ofEvents hop; exact touch_mute (hm e he)))
      exact ⟨N + 1, gs', a'', w'', sl'', t', q', by simp only [runNT, hst, hrunT]; exact hr, hs'.trans hsz, h0', hS, hL', hK'⟩

/-- THE WALK BESIDE LEAVERS, on whatever tape. -/
theorem beside {Stop : Goroutine → World → Prop} {g : Goroutine} {w : World} (h : Ends P Stop g w) {gs : Array Goroutine} {sl : Option (Nat × Nat)} {t : Trace} {q : Nat → Nat}
    (h0 : gs[0]? = some g) (hL : Leavers P t gs q) (hK : Kn t) : RunsTo P Stop gs w sl t := by
  refine h (fun g w => ∀ gs sl t q, gs[0]? = some g → Leavers P t gs q → Kn t → RunsTo P Stop gs w sl t) ?_ ?_ gs sl t q h0 hL hK
  · intro g w hs gs sl t q h0 hL hK
    exact ⟨0, gs, g, w, sl, t, q, rfl, rfl, h0, hs, hL, hK⟩
  · intro g w hr hst gs sl t q h0 hL hK
    have := beside_step hr hst (sumTo gs.size q) w.drawn gs sl t q (Nat.le_refl _) h0 hL hK
    exact this
end Go.Lx

/- A select's send meets a parked receiver; a receive meets a parked select. -/
set_option linter.unusedSimpArgs false
namespace Go.Lx
open Go.Conc

variable {P : Program} {gs : Array Goroutine} {w w₁ : World} {sl : Option (Nat × Nat)} {i j k : Nat} {g g₂ gj : Goroutine} {es : Array Event} {cases : Array CommCase} {shape shj : CommShape} {blocking : Bool}
  {c cap s r : Nat} {buf : Array Value} {closed tm : Bool} {v z zj : Value}

/-- Case k of a select is a send; its one partner is parked at a receive; no other case can proceed. -/
theorem sel_send_meets (hi : gs[i]? = some g) (h : stepG P (i == 0) g w = .comm g₂ cases blocking shape w₁ es) (hk : cases[k]? = some (scase c v z))
    (ho : ∀ (m : Nat) (c' : CommCase), m ≠ k → cases[m]? = some c' → NoWays w₁ (gs.setIfInBounds i ph) c')
    (hc : w₁.heap[c]? = some (.chan cap buf false s r tm))
    (hij : j ≠ i) (hj : gs[j]? = some (parked gj #[rcase c zj] shj)) (hp : partners (gs.setIfInBounds i ph) c false = [(j, 0)]) :
    runT P (crowd gs w sl) i = (.next (crowd ((gs.setIfInBounds j (gj.finishComm P #[rcase c zj] shj 0 v true)).setIfInBounds i (g₂.finishComm P cases shape k undef false)) (w₁.setChan c cap buf false (s + 1) (r + 1) tm) sl),
      MemOp.ofEvents i g.frame.fn g.frame.place es ++ #[{ g := i, fn := g₂.frame.fn, pos := g₂.frame.place, act := .send c s }, { g := j, fn := gj.frame.fn, pos := gj.frame.place, act := .recv c r cap },
        { g := i, fn := g₂.frame.fn, pos := g₂.frame.place, act := .sendDone c s }, { g := j, fn := gj.frame.fn, pos := gj.frame.place, act := .recvDone c r }]) := by
  have hw : ways w₁ (gs.setIfInBounds i ph) (scase c v z) = [.partner j 0] := by simp [ways, scase, hc, hp]
  have hj' := stand_get (i := i) hij hj
  have hfp := finishPartner_at P (gs.setIfInBounds i ph) hj' (cs := #[rcase c zj]) (sh := shj) rfl 0 v
  have hgd : (gs.setIfInBounds i ph).getD j default = parked gj #[rcase c zj] shj := by rw [Array.getD_eq_getD_getElem?, hj']; rfl
  rw [runT_crowd_comm hi h]
  unfold communicate
  simp only [ready_one hk (by rw [hw]; simp) ho, hw]
  rw [if_neg]
  · simp [choose, Sem.run, Question.forced, bind, Sem.bind, pure, scase, hc, World.setChan, crowd, hfp, hgd, set_stand2, finishComm_parked, rcase, parked]
    rfl
  · rw [Bool.not_eq_true]; exact any_ill (made_of_one hk (made_send v z hc) ho)

/-- A receive's one partner is parked at a select whose case k is a send there. -/
theorem recv_meets_sel (hi : gs[i]? = some g) (h : stepG P (i == 0) g w = .comm g₂ #[rcase c z] blocking shape w₁ es) (hc : w₁.heap[c]? = some (.chan cap #[] closed s r tm))
    (hij : j ≠ i) (hj : gs[j]? = some (parked gj cases shj)) (hk : cases[k]? = some (scase c v zj)) (hp : partners (gs.setIfInBounds i ph) c true = [(j, k)]) :
    runT P (crowd gs w sl) i = (.next (crowd ((gs.setIfInBounds j (gj.finishComm P cases shj k undef false)).setIfInBounds i (g₂.finishComm P #[rcase c z] shape 0 v true)) (w₁.setChan c cap #[] closed (s + 1) (r + 1) tm) sl),
      MemOp.ofEvents i g.frame.fn g.frame.place es ++ #[{ g := j, fn := gj.frame.fn, pos := gj.frame.place, act := .send c s }, { g := i, fn := g₂.frame.fn, pos := g₂.frame.place, act := .recv c r cap },
        { g := j, fn := gj.frame.fn, pos := gj.frame.place, act := .sendDone c s }, { g := i, fn := g₂.frame.fn, pos := g₂.frame.place, act := .recvDone c r }]) := by
  have hj' := stand_get (i := i) hij hj
  have hfp := finishPartner_at P (gs.setIfInBounds i ph) hj' (cs := cases) (sh := shj) rfl k undef
  have hgd : (gs.setIfInBounds i ph).getD j default = parked gj cases shj := by rw [Array.getD_eq_getD_getElem?, hj']; rfl
  have hov : offeredValue (gs.setIfInBounds i ph) j k = v := by simp [offeredValue, hj', parked, hk, scase]
  rw [runT_crowd_comm hi h]
  simp [communicate, ways, rcase, hc, hp, choose, Sem.run, Question.forced, bind, Sem.bind, pure, World.setChan, crowd, hfp, hgd, hov, set_stand2, finishComm_parked, hk, scase]
  rfl
end Go.Lx

/- What a goroutine of a pair does to the world, and what it suffers: blocks are told apart by their type, and one box by its number. -/
namespace Go.Lx
open Go.Conc

/-- The terms of a pair: blocks below B stand (but the channel c); those of type T are one's own. -/
structure Deal where
  B : Nat
  c : Nat

/-- One's own block: a new one of one's own types, or the box. -/
def Own (d : Deal) (T : TypeId → Prop) (o : Option Nat) (w : World) (b : Nat) : Prop :=
  (d.B ≤ b ∧ ∃ cs ty fz, w.heap[b]? = some (.cells cs ty fz) ∧ T ty) ∨ o = some b

/-- What the others do, as far as it is felt. -/
structure Rely (d : Deal) (T : TypeId → Prop) (o : Option Nat) (w w₁ : World) : Prop where
  tape : w₁.tape = w.tape
  os : w₁.os = w.os
  output : w₁.output = w.output
  size : w.heap.size ≤ w₁.heap.size
  low : ∀ b, b < d.B → b ≠ d.c → w₁.heap[b]? = w.heap[b]?
  own : ∀ b, Own d T o w b → w₁.heap[b]? = w.heap[b]?

/-- What an entry of a step may be: it touches one's own blocks, or reads a low one. -/
def EvOk (d : Deal) (T : TypeId → Prop) (o : Option Nat) (w' : World) (e : Event) : Prop :=
  (∀ x, (MemAct.ofEvent e).touch? = some x → x.loc.isMemory = true → ∃ a, x.loc = .cell a ∧ (Own d T o w' a.block ∨ (a.block < d.B ∧ x.write = false))) ∧ e.loc ≠ .mark .disable ∧ e.loc ≠ .mark .enable

/-- What one does to the world. -/
structure Turn (d : Deal) (T : TypeId → Prop) (o : Option Nat) (w w' : World) : Prop where
  tape : w'.tape = w.tape
  os : w'.os = w.os
  output : w'.output = w.output
  size : w.heap.size ≤ w'.heap.size
  rest : ∀ b, b < w.heap.size → ¬ Own d T o w b → w'.heap[b]? = w.heap[b]?
  typ : ∀ b, b < w.heap.size → Own d T o w b → ∀ cs ty fz, w.heap[b]? = some (.cells cs ty fz) → ∃ cs' fz', w'.heap[b]? = some (.cells cs' ty fz')
  boxed : ∀ b, o = some b → (∀ cs ty fz, w.heap[b]? ≠ some (.cells cs ty fz)) → ∀ cs ty fz, w'.heap[b]? ≠ some (.cells cs ty fz)
  new : ∀ b, w.heap.size ≤ b → b < w'.heap.size → ∃ cs ty fz, w'.heap[b]? = some (.cells cs ty fz) ∧ T ty

def Does (d : Deal) (T : TypeId → Prop) (o : Option Nat) (w w' : World) (es : Array Event) : Prop := Turn d T o w w' ∧ ∀ e ∈ es, EvOk d T o w' e

variable {d : Deal} {T : TypeId → Prop} {o : Option Nat}

theorem Own.rely {w w₁ : World} {b : Nat} (h : Own d T o w b) (hr : Rely d T o w w₁) : Own d T o w₁ b := by
  rcases h with h | h
  · obtain ⟨hb, cs, ty, fz, hc, ht⟩ := h
    exact .inl ⟨hb, cs, ty, fz, by rw [hr.own b (.inl ⟨hb, cs, ty, fz, hc, ht⟩)]; exact hc, ht⟩
  · exact .inr h

theorem Rely.refl (w : World) : Rely d T o w w := ⟨rfl, rfl, rfl, Nat.le_refl _, fun _ _ _ => rfl, fun _ _ => rfl⟩
theorem Rely.at (w : World) (n : Nat) : Rely d T o w (w.at n) := ⟨rfl, rfl, rfl, Nat.le_refl _, fun _ _ _ => rfl, fun _ _ => rfl⟩
theorem Rely.trans {a b c : World} (h : Rely d T o a b) (h' : Rely d T o b c) : Rely d T o a c :=
  ⟨h'.tape.trans h.tape, h'.os.trans h.os, h'.output.trans h.output, Nat.le_trans h.size h'.size, fun x hx hc => (h'.low x hx hc).trans (h.low x hx hc), fun x hx => (h'.own x (hx.rely h)).trans (h.own x hx)⟩

theorem Turn.refl (w : World) : Turn d T o w w := ⟨rfl, rfl, rfl, Nat.le_refl _, fun _ _ _ => rfl, fun _ _ _ cs _ fz h => ⟨cs, fz, h⟩, fun _ _ h => h, fun b h1 h2 => absurd h2 (by omega)⟩
theorem Does.idle (w : World) : Does d T o w w #[] := ⟨Turn.refl w, by simp⟩
theorem terms : Terms (Rely d T o) (Does d T o) := ⟨fun _ _ _ => Rely.trans, Does.idle⟩

/-- The channel's block is turned: nobody feels it. -/
theorem Rely.chan (w : World) {cap s r : Nat} {buf : Array Value} {cl tm : Bool} (hB : d.c < d.B) (ho : o ≠ some d.c) : Rely d T o w (w.setChan d.c cap buf cl s r tm) := by
  refine ⟨rfl, rfl, rfl, by simp [World.setChan], fun b hb hc => ?_, fun b hb => ?_⟩
  · simp only [World.setChan]
    rw [Array.getElem?_setIfInBounds_ne (Ne.symm hc)]
  · have hne : d.c ≠ b := by
      rintro rfl
      rcases hb with ⟨hb, _⟩ | hb
      · omega
      · exact ho hb
    simp only [World.setChan]
    rw [Array.getElem?_setIfInBounds_ne hne]

/-- A box is made: a block of another make than all that are told apart by their type. -/
structure Boxes (tb : TypeId) (w w' : World) : Prop where
  tape : w'.tape = w.tape
  os : w'.os = w.os
  output : w'.output = w.output
  heap : ∃ cs fz, w'.heap = w.heap.push (.cells cs tb fz)

end Go.Lx

/- The trace while two goroutines (0 and n) work beside one another on what is each one's own. -/
set_option linter.unusedSimpArgs false
namespace Go.Lx
open Go.Conc

/-- What a goroutine whose blocks are M may have touched: its own, or (reading) what lies below B. -/
def Mine (B : Nat) (M : Nat → Prop) (x : Touch) : Prop := (∃ a, x.loc = .cell a ∧ (M a.block ∨ (a.block < B ∧ x.write = false))) ∨ ((∃ c, x.loc = .obj c) ∧ x.kind = .atomic)

structure Pair (m n B : Nat) (M S : Nat → Prop) (t : Trace) : Prop where
  pos : n ≠ m
  clean : ∀ said, ¬ Race said t
  known : ∀ i x, touchAt t i = some x → x.loc.isMemory = true → (Knows t m i ∧ Knows t n i) ∨ (t.g? i = some m ∧ Mine B M x) ∨ (t.g? i = some n ∧ Mine B S x)
  apart : ∀ b, M b → ¬ S b
  highM : ∀ b, M b → B ≤ b
  highS : ∀ b, S b → B ≤ b

theorem Pair.symm {m n B : Nat} {M S : Nat → Prop} {t : Trace} (h : Pair m n B M S t) : Pair n m B S M t :=
  ⟨h.pos.symm, h.clean, fun i x hx hm => (h.known i x hx hm).elim (fun y => .inl ⟨y.2, y.1⟩) fun y => .inr y.symm, fun b hs hm => h.apart b hm hs, h.highS, h.highM⟩

theorem Mine.mono {B : Nat} {M M' : Nat → Prop} {x : Touch} (h : Mine B M x) (hM : ∀ b, M b → M' b) : Mine B M' x := by
  rcases h with ⟨a, h1, h2⟩ | h
  · exact .inl ⟨a, h1, h2.imp (hM _) id⟩
  · exact .inr h

/-- What the two touched does not clash. -/
theorem mine_apart {B : Nat} {M S : Nat → Prop} {x y : Touch} {said : Bool} (hM : Mine B M x) (hS : Mine B S y) (hap : ∀ b, M b → ¬ S b) (h1 : ∀ b, M b → B ≤ b) (h2 : ∀ b, S b → B ≤ b) : ¬ x.conflicts said y := by
  rintro ⟨hl, _, hw, hp⟩
  rcases hM with ⟨a, ha, hm⟩ | ⟨⟨c, hc⟩, hk⟩
  case inr =>
    rcases hS with ⟨a', ha', _⟩ | ⟨_, hk'⟩
    · rw [hc, ha'] at hl; cases hl
    · rw [hk, hk'] at hp
      rcases hp with hp | hp | ⟨_, hp, _⟩ <;> cases hp
  rcases hS with ⟨a', ha', hs⟩ | ⟨⟨c, hc⟩, _⟩
  case inr => rw [ha, hc] at hl; cases hl
  have : a = a' := by
    have := ha.symm.trans (hl.trans ha')
    exact Loc.cell.inj this
  subst this
  rcases hm with hm | ⟨hm, wm⟩ <;> rcases hs with hs | ⟨hs, ws⟩
  · exact hap _ hm hs
  · have := h1 _ hm; omega
  · have := h2 _ hs; omega
  · rcases hw with h | h
    · rw [wm] at h; cases h
    · rw [ws] at h; cases h

theorem conflicts_symm {said : Bool} {x y : Touch} (h : x.conflicts said y) : y.conflicts said x := by
  obtain ⟨h1, h2, h3, h4⟩ := h
  refine ⟨h1.symm, by rw [← h1]; exact h2, h3.symm, ?_⟩
  rcases h4 with h | h | ⟨h, h', h''⟩
  · exact .inr (.inl h)
  · exact .inl h
  · exact .inr (.inr ⟨h, h'', h'⟩)

theorem g?_of {t : Trace} {i : Nat} {op : MemOp} (h : t[i]? = some op) : t.g? i = some op.g := by simp [Trace.g?, h]
theorem knows_of_g {t : Trace} {i g : Nat} (h : t.g? i = some g) : Knows t g i := by
  unfold Trace.g? at h
  obtain ⟨op, ho, rfl⟩ := Option.map_eq_some_iff.1 h
  exact knows_own ho

variable {m n B : Nat} {M S M' : Nat → Prop} {t u : Trace}

/-- One's own operations. -/
theorem Pair.app (h : Pair m n B M S t) (hu : ∀ op ∈ u, op.g = m) (hm : ∀ op ∈ u, ∀ x, op.act.touch? = some x → x.loc.isMemory = true → Mine B M' x)
    (hMM : ∀ b, M b → M' b) (hap : ∀ b, M' b → ¬ S b) (hhi : ∀ b, M' b → B ≤ b) : Pair m n B M' S (t ++ u) := by
  refine ⟨h.pos, fun said => noRace_append (h.clean said) hu fun i a ha op hop b hb hc => ?_, fun i a ha hmem => ?_, hap, hhi, h.highS⟩
  · rcases h.known i a ha hc.2.1 with hk | ⟨hg, _⟩ | ⟨hg, hs⟩
    · exact hk.1
    · exact knows_of_g hg
    · exact absurd (conflicts_symm hc) (mine_apart (hm op hop b hb (hc.1 ▸ hc.2.1)) hs hap hhi h.highS)
  · obtain ⟨x, hx, hxa⟩ := touch_of ha
    rcases getElem?_append_cases hx with ⟨hi, hx'⟩ | ⟨_, hxu⟩
    · rcases h.known i a (by rw [touchAt_of hx']; exact hxa) hmem with hk | ⟨hg, hk⟩ | ⟨hg, hk⟩
      · exact .inl ⟨hk.1.app u, hk.2.app u⟩
      · exact .inr (.inl ⟨by rw [g?_old hi]; exact hg, hk.mono hMM⟩)
      · exact .inr (.inr ⟨by rw [g?_old hi]; exact hg, hk⟩)
    · exact .inr (.inl ⟨by rw [g?_of hx, hu x hxu], hm x hxu a hxa hmem⟩)

/-- Operations that touch nothing. -/
theorem noRace_dull {said : Bool} (h : ¬ Race said t) (hn : ∀ op ∈ u, op.act.touch? = none) : ¬ Race said (t ++ u) := by
  rintro ⟨i, j, hij, ⟨a, b, ha, hb, hc⟩, n1, n2⟩
  obtain ⟨x, hx, hxa⟩ := touch_of ha
  obtain ⟨y, hy, hyb⟩ := touch_of hb
  rcases getElem?_append_cases hy with ⟨hj, hy'⟩ | ⟨hj, hyu⟩
  · have hi : i < t.size := Nat.lt_trans hij hj
    have hx' : t[i]? = some x := by rw [← getElem?_append_old (u := u) hi]; exact hx
    exact h ⟨i, j, hij, ⟨a, b, by simp [Trace.act?, hx', hxa], by simp [Trace.act?, hy', hyb], hc⟩, fun e => n1 (hb_app u e), fun e => n2 (hb_app u e)⟩
  · rw [hn y hyu] at hyb; cases hyb

theorem Pair.dull (h : Pair m n B M S t) (hn : ∀ op ∈ u, op.act.touch? = none) : Pair m n B M S (t ++ u) := by
  refine ⟨h.pos, fun said => noRace_dull (h.clean said) hn, fun i a ha hmem => ?_, h.apart, h.highM, h.highS⟩
  obtain ⟨x, hx, hxa⟩ := touch_of ha
  rcases getElem?_append_cases hx with ⟨hi, hx'⟩ | ⟨_, hxu⟩
  · rcases h.known i a (by rw [touchAt_of hx']; exact hxa) hmem with hk | ⟨hg, hk⟩ | ⟨hg, hk⟩
    · exact .inl ⟨hk.1.app u, hk.2.app u⟩
    · exact .inr (.inl ⟨by rw [g?_old hi]; exact hg, hk⟩)
    · exact .inr (.inr ⟨by rw [g?_old hi]; exact hg, hk⟩)
  · rw [hn x hxu] at hxa; cases hxa

/-- No operation is one of deafness: everybody is as deaf as he was. -/
theorem Deaf_still (t : Trace) (g : Nat) (u : Trace) (hu : ∀ op ∈ u, op.act ≠ .mark .disable ∧ op.act ≠ .mark .enable) : Deaf (t ++ u) g = Deaf t g := by
  obtain ⟨l⟩ := u
  rw [Deaf_append]
  generalize Deaf t g = k
  induction l with
  | nil => rfl
  | cons y l ih =>
    have hy := hu y (by simp)
    have e1 : deafStep g k y = k := by
      unfold deafStep
      split
      · rename_i e; exact absurd e hy.1
      · rename_i e; exact absurd e hy.2
      · rfl
    rw [List.foldl_cons, e1]
    exact ih (fun op hop => hu op (by simp at hop ⊢; exact .inr hop))

/-- The beginning: goroutine 0 has started goroutine n. -/
theorem pair_begin {t : Trace} (h : Kn t) (hn : n ≠ 0) (hd : Deaf t n = 0) (fn fn' : FuncId) (pos pos' : String) :
    Pair 0 n B (fun _ => False) (fun _ => False) (t ++ #[{ g := 0, fn, pos, act := .go n }, { g := n, fn := fn', pos := pos', act := .start }]) := by
  let y : MemOp := { g := 0, fn, pos, act := .go n }
  let z : MemOp := { g := n, fn := fn', pos := pos', act := .start }
  have hy : (t ++ #[y, z])[t.size]? = some y := by rw [Array.getElem?_append_right (Nat.le_refl _)]; simp
  have hz : (t ++ #[y, z])[t.size + 1]? = some z := by rw [Array.getElem?_append_right (by omega)]; simp
  have hearsY : (t ++ #[y, z]).heard t.size := ⟨0, by simp [Trace.g?, hy, y], by rw [deaf_old (Nat.le_refl _)]; exact h.hears⟩
  have hearsZ : (t ++ #[y, z]).heard (t.size + 1) := by
    refine ⟨n, by simp [Trace.g?, hz, z], ?_⟩
    rw [deaf_succ hy, deaf_old (Nat.le_refl _)]
    exact hd
  have hyz : HappensBefore (t ++ #[y, z]) t.size (t.size + 1) := .single (.inr ⟨.spawn (child := n) (by simp [Trace.act?, hy, y]) (by simp [Trace.act?, hz, z]) (by simp [Trace.g?, hz, z]), hearsY, hearsZ⟩)
  refine ⟨hn, fun said => noRace_dull (h.clean said) (by simp [MemAct.touch?]), fun i a ha hmem => ?_, by simp, by simp, by simp⟩
  obtain ⟨x, hx, hxa⟩ := touch_of ha
  rcases getElem?_append_cases hx with ⟨hi, hx'⟩ | ⟨_, hxu⟩
  · have hk := h.known i a (by rw [touchAt_of hx']; exact hxa) hmem
    refine .inl ⟨hk.app _, ?_⟩
    exact ⟨t.size + 1, z, hz, rfl, .inr ((hk.hb_new (Nat.le_refl _) hy rfl).trans hyz)⟩
  · have : x.act.touch? = none := by
      simp at hxu
      rcases hxu with rfl | rfl <;> rfl
    rw [this] at hxa; cases hxa

/-- Goroutine n has closed the channel at place p: all that it touched was before. -/
structure Shut (n c p : Nat) (t : Trace) : Prop where
  act : t.act? p = some (.close c)
  g : t.g? p = some n
  heard : t.heard p
  last : ∀ i x, touchAt t i = some x → t.g? i = some n → i < p

theorem Shut.app {c p : Nat} (h : Shut n c p t) (hu : ∀ op ∈ u, op.g = n → op.act.touch? = none) : Shut n c p (t ++ u) := by
  have hp : p < t.size := lt_of_act? h.act
  refine ⟨by rw [act?_old hp]; exact h.act, by rw [g?_old hp]; exact h.g, (heard_old hp).2 h.heard, fun i x hx hg => ?_⟩
  obtain ⟨y, hy, hyx⟩ := touch_of hx
  rcases getElem?_append_cases hy with ⟨hi, hy'⟩ | ⟨_, hyu⟩
  · exact h.last i x (by rw [touchAt_of hy']; exact hyx) (by rw [← g?_old (u := u) hi]; exact hg)
  · rw [g?_of hy] at hg
    rw [hu y hyu (Option.some.inj hg)] at hyx; cases hyx

/-- The end: goroutine 0 has received that the channel is closed. -/
theorem pair_end {c p : Nat} {fn : FuncId} {pos : String} (h : Pair 0 n B M S t) (hh : Deaf t 0 = 0) (hs : Shut n c p t) : Kn (t ++ #[{ g := 0, fn, pos, act := .recvClosed c }]) := by
  let y : MemOp := { g := 0, fn, pos, act := .recvClosed c }
  have hp : p < t.size := lt_of_act? hs.act
  have hy : (t ++ #[y])[t.size]? = some y := by rw [Array.getElem?_append_right (Nat.le_refl _)]; simp
  have d0 : Deaf (t ++ #[y]) 0 = Deaf t 0 := Deaf_still t 0 _ (by simp [y])
  have hearsY : (t ++ #[y]).heard t.size := ⟨0, by simp [Trace.g?, hy, y], by rw [deaf_old (Nat.le_refl _)]; exact hh⟩
  have hpy : HappensBefore (t ++ #[y]) p t.size := .single (.inr ⟨.closed (c := c) (by rw [act?_old hp]; exact hs.act) (by simp [Trace.act?, hy, y]), (heard_old hp).2 hs.heard, hearsY⟩)
  refine ⟨fun said => noRace_dull (h.clean said) (by simp [MemAct.touch?]), fun i a ha hmem => ?_, d0.trans hh⟩
  obtain ⟨x, hx, hxa⟩ := touch_of ha
  rcases getElem?_append_cases hx with ⟨hi, hx'⟩ | ⟨_, hxu⟩
  · have hta : touchAt t i = some a := by rw [touchAt_of hx']; exact hxa
    rcases h.known i a hta hmem with hk | ⟨hg, hk⟩ | ⟨hg, hk⟩
    · exact hk.1.app _
    · exact (knows_of_g hg).app _
    · have hip := hs.last i a hta hg
      have hpo : HappensBefore t i p := .single (.inl ⟨hip, n, hg, hs.g⟩)
      exact ⟨t.size, y, hy, rfl, .inr ((hb_app #[y] hpo).trans hpy)⟩
  · have : x.act.touch? = none := by
      simp at hxu
      subst hxu; rfl
    rw [this] at hxa; cases hxa

end Go.Lx

/- Whose block is whose, while two goroutines work beside one another. -/
namespace Go.Lx
open Go.Conc

structure Split (d : Deal) (T0 T1 : TypeId → Prop) (h : Array Obj) (M S : Nat → Prop) (o0 o1 : Option Nat) : Prop where
  bsize : d.B ≤ h.size
  own0 : ∀ b cs ty fz, d.B ≤ b → h[b]? = some (.cells cs ty fz) → T0 ty → M b
  own1 : ∀ b cs ty fz, d.B ≤ b → h[b]? = some (.cells cs ty fz) → T1 ty → S b
  lowM : ∀ b, M b → b < h.size
  lowS : ∀ b, S b → b < h.size
  box0 : ∀ b, o0 = some b → M b
  box1 : ∀ b, o1 = some b → S b

variable {d : Deal} {T0 T1 : TypeId → Prop} {tb : TypeId} {w w' : World} {M S : Nat → Prop} {o0 o1 : Option Nat}

theorem Split.symm {h : Array Obj} (s : Split d T0 T1 h M S o0 o1) : Split d T1 T0 h S M o1 o0 := ⟨s.bsize, s.own1, s.own0, s.lowS, s.lowM, s.box1, s.box0⟩

/-- The blocks that are one's own behind a step. -/
def More (M : Nat → Prop) (w w' : World) (b : Nat) : Prop := M b ∨ (w.heap.size ≤ b ∧ b < w'.heap.size)

theorem Split.mine (s : Split d T0 T1 w.heap M S o0 o1) {b : Nat} (h : Own d T0 o0 w b) : M b := by
  rcases h with ⟨hb, cs, ty, fz, hc, ht⟩ | h
  · exact s.own0 b cs ty fz hb hc ht
  · exact s.box0 b h

/-- What one does, the other suffers. -/
theorem Split.felt (s : Split d T0 T1 w.heap M S o0 o1) (hap : ∀ b, M b → ¬ S b) (hM : ∀ b, M b → d.B ≤ b) (h : Turn d T0 o0 w w') : Rely d T1 o1 w w' := by
  refine ⟨h.tape, h.os, h.output, h.size, fun b hb _ => ?_, fun b hb => ?_⟩
  · refine h.rest b (Nat.lt_of_lt_of_le hb s.bsize) fun ho => ?_
    have := hM b (s.mine ho)
    omega
  · exact h.rest b (s.lowS b (s.symm.mine hb)) fun ho => hap b (s.mine ho) (s.symm.mine hb)

theorem Boxes.old (h : Boxes tb w w') {b : Nat} (hb : b < w.heap.size) : w'.heap[b]? = w.heap[b]? := by
  obtain ⟨cs, fz, e⟩ := h.heap
  rw [e, Array.getElem?_push_lt hb, Array.getElem?_eq_getElem hb]
theorem Boxes.size (h : Boxes tb w w') : w'.heap.size = w.heap.size + 1 := by
  obtain ⟨cs, fz, e⟩ := h.heap
  rw [e, Array.size_push]
theorem Boxes.new (h : Boxes tb w w') : ∃ cs fz, w'.heap[w.heap.size]? = some (.cells cs tb fz) := by
  obtain ⟨cs, fz, e⟩ := h.heap
  exact ⟨cs, fz, by rw [e]; simp⟩

theorem Split.feltBox (s : Split d T0 T1 w.heap M S o0 o1) (h : Boxes tb w w') : Rely d T1 o1 w w' := by
  refine ⟨h.tape, h.os, h.output, by rw [h.size]; omega, fun b hb _ => h.old (Nat.lt_of_lt_of_le hb s.bsize), fun b hb => h.old (s.lowS b (s.symm.mine hb))⟩

theorem more_apart (s : Split d T0 T1 w.heap M S o0 o1) (hap : ∀ b, M b → ¬ S b) : ∀ b, More M w w' b → ¬ S b := by
  rintro b (h | h) hS
  · exact hap b h hS
  · have := s.lowS b hS; omega
theorem more_high (s : Split d T0 T1 w.heap M S o0 o1) (hM : ∀ b, M b → d.B ≤ b) : ∀ b, More M w w' b → d.B ≤ b := by
  rintro b (h | h)
  · exact hM b h
  · exact Nat.le_trans s.bsize h.1

theorem Split.turn (s : Split d T0 T1 w.heap M S o0 o1) (hdis : ∀ ty, T0 ty → ¬ T1 ty) (h : Turn d T0 o0 w w') : Split d T0 T1 w'.heap (More M w w') S o0 o1 := by
  have back : ∀ b cs ty fz, b < w.heap.size → w'.heap[b]? = some (.cells cs ty fz) → (∃ cs' fz', w.heap[b]? = some (.cells cs' ty fz')) ∨ (o0 = some b ∧ ∀ cs ty fz, w.heap[b]? ≠ some (.cells cs ty fz)) := by
    intro b cs ty fz hb hc
    by_cases ho : Own d T0 o0 w b
    · by_cases hex : ∃ cs' ty' fz', w.heap[b]? = some (.cells cs' ty' fz')
      · obtain ⟨cs', ty', fz', e⟩ := hex
        obtain ⟨cs2, fz2, e2⟩ := h.typ b hb ho cs' ty' fz' e
        rw [e2] at hc
        injection hc with hc; injection hc with _ hty _
        subst hty
        exact .inl ⟨cs', fz', e⟩
      · rcases ho with ⟨_, cs', ty', fz', e, _⟩ | ho
        · exact absurd ⟨cs', ty', fz', e⟩ hex
        · exact .inr ⟨ho, fun cs ty fz e => hex ⟨cs, ty, fz, e⟩⟩
    · exact .inl ⟨cs, fz, by rw [← h.rest b hb ho]; exact hc⟩
  refine ⟨Nat.le_trans s.bsize h.size, fun b cs ty fz hb hc ht => ?_, fun b cs ty fz hb hc ht => ?_, fun b hb => ?_, fun b hb => Nat.lt_of_lt_of_le (s.lowS b hb) h.size, fun b hb => .inl (s.box0 b hb), s.box1⟩
  · rcases Nat.lt_or_ge b w.heap.size with hlt | hge
    · rcases back b cs ty fz hlt hc with ⟨cs', fz', e⟩ | ⟨e, _⟩
      · exact .inl (s.own0 b cs' ty fz' hb e ht)
      · exact .inl (s.box0 b e)
    · exact .inr ⟨hge, (Array.getElem?_eq_some_iff.1 hc).1⟩
  · rcases Nat.lt_or_ge b w.heap.size with hlt | hge
    · by_cases ho : Own d T0 o0 w b
      · rcases ho with ⟨_, cs', ty', fz', e, ht'⟩ | ho
        · obtain ⟨cs2, fz2, e2⟩ := h.typ b hlt (.inl ⟨hb, cs', ty', fz', e, ht'⟩) cs' ty' fz' e
          rw [e2] at hc
          injection hc with hc; injection hc with _ hty _
          subst hty
          exact absurd ht (hdis _ ht')
        · rcases back b cs ty fz hlt hc with ⟨cs', fz', e⟩ | ⟨_, e⟩
          · exact s.own1 b cs' ty fz' hb e ht
          · exact absurd hc (h.boxed b ho e cs ty fz)
      · exact s.own1 b cs ty fz hb (by rw [← h.rest b hlt ho]; exact hc) ht
    · obtain ⟨cs', ty', fz', e, ht'⟩ := h.new b hge (Array.getElem?_eq_some_iff.1 hc).1
      rw [e] at hc
      injection hc with hc; injection hc with _ hty _
      subst hty
      exact absurd ht (hdis _ ht')
  · rcases hb with hb | hb
    · exact Nat.lt_of_lt_of_le (s.lowM b hb) h.size
    · exact hb.2

theorem Split.box (s : Split d T0 T1 w.heap M S o0 o1) (h0 : ¬ T0 tb) (h1 : ¬ T1 tb) (h : Boxes tb w w') : Split d T0 T1 w'.heap (More M w w') S (some w.heap.size) o1 := by
  have hs := h.size
  obtain ⟨csn, fzn, hn⟩ := h.new
  have key : ∀ b cs ty fz, w'.heap[b]? = some (.cells cs ty fz) → b < w.heap.size ∨ (b = w.heap.size ∧ ty = tb) := by
    intro b cs ty fz hc
    have hlt := (Array.getElem?_eq_some_iff.1 hc).1
    rcases Nat.lt_or_ge b w.heap.size with hb | hb
    · exact .inl hb
    · have : b = w.heap.size := by omega
      subst this
      rw [hn] at hc
      injection hc with hc; injection hc with _ hty _
      exact .inr ⟨rfl, hty.symm⟩
  refine ⟨by have := s.bsize; omega, fun b cs ty fz hb hc ht => ?_, fun b cs ty fz hb hc ht => ?_, fun b hb => ?_, fun b hb => by have := s.lowS b hb; omega, fun b hb => ?_, s.box1⟩
  · rcases key b cs ty fz hc with hlt | ⟨_, rfl⟩
    · exact .inl (s.own0 b cs ty fz hb (by rw [← h.old hlt]; exact hc) ht)
    · exact absurd ht h0
  · rcases key b cs ty fz hc with hlt | ⟨_, rfl⟩
    · exact s.own1 b cs ty fz hb (by rw [← h.old hlt]; exact hc) ht
    · exact absurd ht h1
  · rcases hb with hb | hb
    · have := s.lowM b hb; omega
    · exact hb.2
  · obtain rfl := Option.some.inj hb
    exact .inr ⟨Nat.le_refl _, by omega⟩

theorem Split.same {h h' : Array Obj} (s : Split d T0 T1 h M S o0 o1) (hs : h'.size = h.size) (hc : ∀ b, d.B ≤ b → h'[b]? = h[b]?) : Split d T0 T1 h' M S o0 o1 :=
  ⟨by rw [hs]; exact s.bsize, fun b cs ty fz hb e => s.own0 b cs ty fz hb (by rw [← hc b hb]; exact e), fun b cs ty fz hb e => s.own1 b cs ty fz hb (by rw [← hc b hb]; exact e),
    fun b hb => by rw [hs]; exact s.lowM b hb, fun b hb => by rw [hs]; exact s.lowS b hb, s.box0, s.box1⟩

theorem Split.chan (s : Split d T0 T1 w.heap M S o0 o1) (hB : d.c < d.B) {cap st r : Nat} {buf : Array Value} {cl tm : Bool} : Split d T0 T1 (w.setChan d.c cap buf cl st r tm).heap M S o0 o1 :=
  s.same (by simp [World.setChan]) fun b hb => by
    simp only [World.setChan]
    rw [Array.getElem?_setIfInBounds_ne (by omega)]

/-- The entries of a step, as touches of one's own. -/
theorem mine_of_ev (s : Split d T0 T1 w'.heap M S o0 o1) {e : Event} (h : EvOk d T0 o0 w' e) (x : Touch) (hx : (MemAct.ofEvent e).touch? = some x) (hm : x.loc.isMemory = true) : Mine d.B M x := by
  obtain ⟨a, ha, hb⟩ := h.1 x hx hm
  exact .inl ⟨a, ha, hb.imp (fun o => s.mine o) id⟩

end Go.Lx
