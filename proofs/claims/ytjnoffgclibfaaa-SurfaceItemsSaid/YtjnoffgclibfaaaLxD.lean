/- General texts on goroutines beside one another, part D: for any program. -/
import Derived.Test.YtjnoffgclibfaaaLxC
set_option linter.unusedSimpArgs false
set_option linter.unusedVariables false
/- Two goroutines, an unbuffered channel from one to the other, a select on the sender's side; goroutines that only leave beside them. -/
namespace Go.Lx
open Go.Conc
open Go.ConcN (sumTo upd sumTo_upd upd_ne upd_same)

inductive MAct where
  | box
  | recv (v : Value)
inductive SAct where
  | box
  | send (v : Value)
def recvs : List MAct → List Value
  | [] => []
  | .box :: l => recvs l
  | .recv v :: l => v :: recvs l
def sends : List SAct → List Value
  | [] => []
  | .box :: l => sends l
  | .send v :: l => v :: sends l

/-- What the two share. -/
structure Shared where
  P : Program
  d : Deal
  q : Nat
  T0 : TypeId → Prop
  T1 : TypeId → Prop
  tb : TypeId
  z : Value
  zc : Value
  zq : Value
  Fin : Goroutine → World → Prop

structure Shared.Fit (X : Shared) : Prop where
  dis : ∀ ty, X.T0 ty → ¬ X.T1 ty
  tb0 : ¬ X.T0 X.tb
  tb1 : ¬ X.T1 X.tb
  cB : X.d.c < X.d.B
  qB : X.q < X.d.B
  cq : X.d.c ≠ X.q

variable (X : Shared)

def Shared.rcv : Array CommCase := #[rcase X.d.c X.z]
def Shared.sel (v : Value) : Array CommCase := #[scase X.d.c v X.zc, rcase X.q X.zq]

def AtBox (main : Bool) (T : TypeId → Prop) (K : Option Nat → Goroutine → World → Prop) (g : Goroutine) (w : World) : Prop :=
  g.status = .running ∧ ∃ g' w' es, stepG X.P main g w = .go g' w' es ∧ Boxes X.tb w w' ∧ (∀ e ∈ es, EvOk X.d T (some w.heap.size) w' e) ∧ K (some w.heap.size) g' w'
def AtRecv (v : Value) (K : Goroutine → World → Prop) (g : Goroutine) (w : World) : Prop :=
  g.status = .running ∧ stepG X.P true g w = .comm g X.rcv true (.recv true) w #[] ∧ K (g.finishComm X.P X.rcv (.recv true) 0 v true) w
def AtEnd (g : Goroutine) (w : World) : Prop :=
  g.status = .running ∧ stepG X.P true g w = .comm g X.rcv true (.recv true) w #[] ∧ X.Fin (g.finishComm X.P X.rcv (.recv true) 0 X.z false) w
def AtSend (v : Value) (K : Goroutine → World → Prop) (g : Goroutine) (w : World) : Prop :=
  g.status = .running ∧ stepG X.P false g w = .comm g (X.sel v) true .select w #[] ∧ K (g.finishComm X.P (X.sel v) .select 0 undef false) w
def AtClose (g : Goroutine) (w : World) : Prop :=
  g.status = .running ∧ mayWake X.P g = true ∧ ∀ s r tm, w.heap[X.d.c]? = some (.chan 0 #[] false s r tm) →
    ∃ g' k, stepG X.P false g w = .go g' (w.setChan X.d.c 0 #[] true s r tm) #[⟨.obj X.d.c, false, true⟩, ⟨.obj X.d.c, true, true⟩] ∧ QuitsD X.P k 0 g'

def StopM : List MAct → Option Nat → Goroutine → World → Prop
  | [], _ => AtEnd X
  | .recv v :: l, o => AtRecv X v fun g w => ∃ m, Goes X.P true (Rely X.d X.T0 o) (Does X.d X.T0 o) (StopM l o) m g w
  | .box :: l, _ => AtBox X true X.T0 fun o' g w => ∃ m, Goes X.P true (Rely X.d X.T0 o') (Does X.d X.T0 o') (StopM l o') m g w
def StopS : List SAct → Option Nat → Goroutine → World → Prop
  | [], _ => AtClose X
  | .send v :: l, o => AtSend X v fun g w => ∃ m, Goes X.P false (Rely X.d X.T1 o) (Does X.d X.T1 o) (StopS l o) m g w
  | .box :: l, _ => AtBox X false X.T1 fun o' g w => ∃ m, Goes X.P false (Rely X.d X.T1 o') (Does X.d X.T1 o') (StopS l o') m g w

abbrev GoM (l : List MAct) (o : Option Nat) (m : Nat) : Goroutine → World → Prop := Goes X.P true (Rely X.d X.T0 o) (Does X.d X.T0 o) (StopM X l o) m
abbrev GoS (l : List SAct) (o : Option Nat) (m : Nat) : Goroutine → World → Prop := Goes X.P false (Rely X.d X.T1 o) (Does X.d X.T1 o) (StopS X l o) m

/-- Where goroutine 0 is: on its way (the count), or it waits (0). -/
inductive IsM (l : List MAct) (o : Option Nat) (g : Goroutine) (w : World) : Nat → Prop
  | walks {m : Nat} (h : GoM X l o m g w) : IsM l o g w (m + 1)
  | waits {g₀ : Goroutine} (e : g = parked g₀ X.rcv (.recv true)) (h : ∀ w₁, Rely X.d X.T0 o w w₁ → StopM X l o g₀ w₁) (hl : ∀ l', l ≠ .box :: l') : IsM l o g w 0
inductive IsS (l : List SAct) (o : Option Nat) (g : Goroutine) (w : World) : Nat → Prop
  | walks {m : Nat} (h : GoS X l o m g w) : IsS l o g w (m + 1)
  | waits {g₀ : Goroutine} {v : Value} {l' : List SAct} (hl : l = .send v :: l') (e : g = parked g₀ (X.sel v) .select) (h : ∀ w₁, Rely X.d X.T1 o w w₁ → StopS X l o g₀ w₁) : IsS l o g w 0

/-- What is reached. -/
def Gets (P : Program) (Stop : Goroutine → World → Prop) (gs : Array Goroutine) (w : World) (sl : Option (Nat × Nat)) (t : Trace) : Prop :=
  ∃ (N : Nat) (gs' : Array Goroutine) (g' : Goroutine) (w' : World) (sl' : Option (Nat × Nat)) (t' : Trace) (q' : Nat → Nat),
    runNT P N (crowd gs w sl) t = (.next (crowd gs' w' sl'), t') ∧ gs'[0]? = some g' ∧ Stop g' w' ∧ Leavers P t' gs' q' ∧ Kn t'

theorem RunsTo.gets {P : Program} {Stop : Goroutine → World → Prop} {gs : Array Goroutine} {w : World} {sl : Option (Nat × Nat)} {t : Trace} (h : RunsTo P Stop gs w sl t) : Gets P Stop gs w sl t := by
  obtain ⟨N, gs', g', w', sl', t', q', h1, _, h2, h3, h4, h5⟩ := h
  exact ⟨N, gs', g', w', sl', t', q', h1, h2, h3, h4, h5⟩

theorem Gets.step {P : Program} {Stop : Goroutine → World → Prop} {gs gs1 : Array Goroutine} {w w1 : World} {sl sl1 : Option (Nat × Nat)} {t u : Trace}
    (h : stepT P (crowd gs w sl) = (.next (crowd gs1 w1 sl1), u)) (hg : Gets P Stop gs1 w1 sl1 (t ++ u)) : Gets P Stop gs w sl t := by
  obtain ⟨N, gs', g', w', sl', t', q', h1, h2, h3, h4, h5⟩ := hg
  exact ⟨N + 1, gs', g', w', sl', t', q', by simp only [runNT, h]; exact h1, h2, h3, h4, h5⟩

theorem runNT_on {P : Program} : ∀ (N K : Nat) (m m' : Machine) (t t' : Trace), runNT P N m t = (.next m', t') → runNT P (N + K) m t = runNT P K m' t'
  | 0, K, m, m', t, t', h => by
    simp only [runNT, Prod.mk.injEq, Stepped.next.injEq] at h
    rw [Nat.zero_add, h.1, h.2]
  | N + 1, K, m, m', t, t', h => by
    rw [show N + 1 + K = (N + K) + 1 by omega]
    simp only [runNT] at h ⊢
    rcases e : stepT P m with ⟨r, ops⟩
    rw [e] at h
    cases r with
    | next m1 => exact runNT_on N K _ _ _ _ h
    | _ => simp at h

theorem Gets.trans {P : Program} {S1 S2 : Goroutine → World → Prop} {gs : Array Goroutine} {w : World} {sl : Option (Nat × Nat)} {t : Trace} (h : Gets P S1 gs w sl t)
    (h2 : ∀ gs' g' w' sl' t' q', gs'[0]? = some g' → S1 g' w' → Leavers P t' gs' q' → Kn t' → Gets P S2 gs' w' sl' t') : Gets P S2 gs w sl t := by
  obtain ⟨N, gs', g', w', sl', t', q', e, h0, hS, hL, hK⟩ := h
  obtain ⟨N2, gs2, g2, w2, sl2, t2, q2, e2, h02, hS2, hL2, hK2⟩ := h2 gs' g' w' sl' t' q' h0 hS hL hK
  exact ⟨N + N2, gs2, g2, w2, sl2, t2, q2, by rw [runNT_on N N2 _ _ _ _ e]; exact e2, h02, hS2, hL2, hK2⟩

end Go.Lx

/- The pair among leavers: what is held, and how each step keeps it. -/
namespace Go.Lx
open Go.Conc
open Go.ConcN (sumTo upd sumTo_upd upd_ne upd_same)

variable {X : Shared}

structure Inv (X : Shared) (n top : Nat) (cl : Bool) (gs : Array Goroutine) (w : World) (t : Trace) (qs : Nat → Nat) (M S : Nat → Prop) (o0 o1 : Option Nat) : Prop where
  pos : 0 < n
  size : gs.size = n + 1
  topl : top ≤ n + 1
  old : ∀ j x, 0 < j → j < top → gs[j]? = some x → QuitsD X.P (qs j) (Deaf t j) x
  above : ∀ j, n < j → Deaf t j = 0
  pair : Pair 0 n X.d.B M S t
  hears0 : Deaf t 0 = 0
  hearsN : cl = false → Deaf t n = 0
  split : Split X.d X.T0 X.T1 w.heap M S o0 o1
  quit : ∃ s r tm, w.heap[X.q]? = some (.chan 0 #[] false s r tm)
  chan : ∃ s r tm, w.heap[X.d.c]? = some (.chan 0 #[] cl s r tm)

variable {n top : Nat} {cl : Bool} {gs : Array Goroutine} {w w' : World} {t u : Trace} {qs : Nat → Nat} {M S : Nat → Prop} {o0 o1 o0' o1' : Option Nat}

theorem Inv.at (h : Inv X n top cl gs w t qs M S o0 o1) (e : Nat) : Inv X n top cl gs (w.at e) t qs M S o0 o1 :=
  ⟨h.pos, h.size, h.topl, h.old, h.above, h.pair, h.hears0, h.hearsN, h.split, h.quit, h.chan⟩

theorem map_set_eq {f : Goroutine → Goroutine} {i : Nat} {y : Goroutine} (h : ∀ j x, j ≠ i → gs[j]? = some x → f x = x) : (gs.map f).setIfInBounds i y = gs.setIfInBounds i y := by
  apply Array.ext_getElem?
  intro j
  by_cases hj : i = j
  · subst hj
    by_cases hlt : i < gs.size
    · rw [Array.getElem?_setIfInBounds_self_of_lt (by simpa using hlt), Array.getElem?_setIfInBounds_self_of_lt hlt]
    · rw [Array.getElem?_eq_none (by simpa using hlt), Array.getElem?_eq_none (by simpa using hlt)]
  · rw [Array.getElem?_setIfInBounds_ne hj, Array.getElem?_setIfInBounds_ne hj, Array.getElem?_map]
    cases e : gs[j]? with
    | none => rfl
    | some x => simp [h j x (fun e => hj e.symm) e]

/-- Where a low block stands. -/
theorem Split.low (s : Split X.d X.T0 X.T1 w.heap M S o0 o1) (hM : ∀ b, M b → X.d.B ≤ b) (h : Turn X.d X.T0 o0 w w') {b : Nat} (hb : b < X.d.B) : w'.heap[b]? = w.heap[b]? := by
  refine h.rest b (Nat.lt_of_lt_of_le hb s.bsize) fun ho => ?_
  have := hM b (s.mine ho)
  omega

/-- A step of goroutine 0's own. -/
theorem Inv.step0 (F : X.Fit) (h : Inv X n top cl gs w t qs M S o0 o1) (hlow : ∀ b, b < X.d.B → w'.heap[b]? = w.heap[b]?) (hs : Split X.d X.T0 X.T1 w'.heap (More M w w') S o0' o1)
    {es : Array Event} (hev : ∀ e ∈ es, EvOk X.d X.T0 o0' w' e) (fn : FuncId) (pos : String) (g' : Goroutine) :
    Inv X n top cl (gs.setIfInBounds 0 g') w' (t ++ MemOp.ofEvents 0 fn pos es) qs (More M w w') S o0' o1 := by
  have hu : ∀ op ∈ MemOp.ofEvents 0 fn pos es, op.g = 0 := fun op hop => by obtain ⟨e, _, rfl⟩ := Conc.mem_ofEvents hop; rfl
  have hd0 : Deaf (t ++ MemOp.ofEvents 0 fn pos es) 0 = 0 := by
    rw [Deaf_own, deafBehind_still (fun e he => (hev e he).2)]
    exact h.hears0
  refine ⟨h.pos, by simpa using h.size, h.topl, fun j x hj hjt hx => ?_, fun j hj => ?_, ?_, hd0, fun hc => (Deaf_other t (Nat.ne_of_lt h.pos) _ hu).trans (h.hearsN hc), hs, ?_, ?_⟩
  · rw [Array.getElem?_setIfInBounds_ne (by omega)] at hx
    rw [Deaf_other t (by omega) _ hu]
    exact h.old j x hj hjt hx
  · rw [Deaf_other t (g' := 0) (by omega) _ hu]; exact h.above j hj
  · refine h.pair.app hu (fun op hop x hx hm => ?_) (fun b hb => .inl hb) (more_apart h.split h.pair.apart) (more_high h.split h.pair.highM)
    obtain ⟨e, he, rfl⟩ := Conc.mem_ofEvents hop
    exact mine_of_ev hs (hev e he) x hx hm
  · rw [hlow _ F.qB]; exact h.quit
  · rw [hlow _ F.cB]; exact h.chan

/-- A step of goroutine n's own. -/
theorem Inv.stepN (F : X.Fit) (h : Inv X n n cl gs w t qs M S o0 o1) (hlow : ∀ b, b < X.d.B → w'.heap[b]? = w.heap[b]?) (hs : Split X.d X.T1 X.T0 w'.heap (More S w w') M o1' o0)
    {es : Array Event} (hev : ∀ e ∈ es, EvOk X.d X.T1 o1' w' e) (fn : FuncId) (pos : String) (g' : Goroutine) :
    Inv X n n cl (gs.setIfInBounds n g') w' (t ++ MemOp.ofEvents n fn pos es) qs M (More S w w') o0 o1' := by
  have hu : ∀ op ∈ MemOp.ofEvents n fn pos es, op.g = n := fun op hop => by obtain ⟨e, _, rfl⟩ := Conc.mem_ofEvents hop; rfl
  have hd0 : cl = false → Deaf (t ++ MemOp.ofEvents n fn pos es) n = 0 := fun hc => by
    rw [Deaf_own, deafBehind_still (fun e he => (hev e he).2)]
    exact h.hearsN hc
  have hp := h.pos
  refine ⟨h.pos, by simpa using h.size, h.topl, fun j x hj hjt hx => ?_, fun j hj => ?_, ?_, (Deaf_other t (by omega) _ hu).trans h.hears0, hd0, hs.symm, ?_, ?_⟩
  · rw [Array.getElem?_setIfInBounds_ne (by omega)] at hx
    rw [Deaf_other t (by omega) _ hu]
    exact h.old j x hj hjt hx
  · rw [Deaf_other t (g' := n) (by omega) _ hu]; exact h.above j hj
  · refine (h.pair.symm.app hu (fun op hop x hx hm => ?_) (fun b hb => .inl hb) (more_apart h.split.symm h.pair.symm.apart) (more_high h.split.symm h.pair.symm.highM)).symm
    obtain ⟨e, he, rfl⟩ := Conc.mem_ofEvents hop
    exact mine_of_ev hs (hev e he) x hx hm
  · rw [hlow _ F.qB]; exact h.quit
  · rw [hlow _ F.cB]; exact h.chan

/-- A leaver slips. -/
theorem Inv.slip (h : Inv X n top cl gs w t qs M S o0 o1) {i k : Nat} {g' : Goroutine} {es : Array Event} (hi0 : 0 < i) (hit : i < top) (hm : ∀ e ∈ es, Event.mute e = true)
    (hnt : i = n → cl = true)
    (hq : QuitsD X.P k (deafBehind (Deaf t i) es) g') (fn : FuncId) (pos : String) :
    Inv X n top cl (gs.setIfInBounds i g') w (t ++ MemOp.ofEvents i fn pos es) (upd qs i k) M S o0 o1 := by
  have hu : ∀ op ∈ MemOp.ofEvents i fn pos es, op.g = i := fun op hop => by obtain ⟨e, _, rfl⟩ := Conc.mem_ofEvents hop; rfl
  have hn : ∀ op ∈ MemOp.ofEvents i fn pos es, op.act.touch? = none := fun op hop => by obtain ⟨e, he, rfl⟩ := Conc.mem_ofEvents hop; exact touch_mute (hm e he)
  have hil : i < gs.size := by have := h.size; have := h.topl; omega
  refine ⟨h.pos, by simpa using h.size, h.topl, fun j y hj hjt hy => ?_, fun j hj => ?_, h.pair.dull hn, (Deaf_other t (by omega) _ hu).trans h.hears0, fun hc => ?_, h.split, h.quit, h.chan⟩
  · by_cases hji : i = j
    · subst hji
      rw [Array.getElem?_setIfInBounds_self_of_lt hil] at hy
      obtain rfl := Option.some.inj hy
      rw [upd_same, Deaf_own]
      exact hq
    · rw [Array.getElem?_setIfInBounds_ne hji] at hy
      rw [upd_ne qs k (Ne.symm hji), Deaf_other t hji _ hu]
      exact h.old j y hj hjt hy
  · have := h.topl
    rw [Deaf_other t (g' := i) (by omega) _ hu]; exact h.above j hj
  · by_cases hin : i = n
    · rw [hnt hin] at hc; cases hc
    · exact (Deaf_other t hin _ hu).trans (h.hearsN hc)

/-- Nobody else is disturbed by a step of goroutine i. -/
theorem undisturbed {P : Program} {i : Nat} {g g' : Goroutine} (hst : ∀ j x, j ≠ i → gs[j]? = some x → x.status = .running ∨ x.status = .finished ∨ x.again w' = x) :
    (gs.map (woken P g g' w')).setIfInBounds i g' = gs.setIfInBounds i g' := by
  refine map_set_eq fun j x hj hx => ?_
  unfold woken
  split
  · rcases hst j x hj hx with h | h | h
    · exact again_running _ (.inl h)
    · exact again_running _ (.inr h)
    · exact h
  · rfl

end Go.Lx

/- The channel is closed, the sender only leaves: the receiver comes to the end. -/
namespace Go.Lx
open Go.Conc
open Go.ConcN (sumTo upd sumTo_upd upd_ne upd_same)

variable {X : Shared} {n top : Nat} {cl : Bool} {gs : Array Goroutine} {w w' : World} {t u : Trace} {qs : Nat → Nat} {M S : Nat → Prop} {o0 o1 o0' o1' : Option Nat}

theorem goes_cases {P : Program} {main : Bool} {R : World → World → Prop} {D : World → World → Array Event → Prop} {Stop : Goroutine → World → Prop} {m : Nat} {g : Goroutine} {w : World} (h : Goes P main R D Stop m g w) :
    (∀ w₁, R w w₁ → Stop g w₁) ∨ ∃ m', m = m' + 1 ∧ g.status = .running ∧ ∀ w₁, R w w₁ → ∃ g' w' es, stepG P main g w₁ = .go g' w' es ∧ D w₁ w' es ∧ Goes P main R D Stop m' g' w' := by
  cases m with
  | zero => exact .inl h
  | succ m =>
    rcases h with h | ⟨hs, h⟩
    · exact .inl h
    · refine .inr ⟨m, rfl, hs, fun w₁ h₁ => ?_⟩
      have := h w₁ h₁
      revert this
      cases stepG P main g w₁ <;> simp only [GStep.goes, false_implies]
      rename_i g' w' es
      exact fun ⟨a, b⟩ => ⟨g', w', es, rfl, a, b⟩

theorem StopM.running {l : List MAct} {o : Option Nat} {g : Goroutine} {w : World} (h : StopM X l o g w) : g.status = .running := by
  cases l with
  | nil => exact h.1
  | cons a l => cases a <;> exact h.1
theorem StopS.running {l : List SAct} {o : Option Nat} {g : Goroutine} {w : World} (h : StopS X l o g w) : g.status = .running := by
  cases l with
  | nil => exact h.1
  | cons a l => cases a <;> exact h.1
theorem GoM.running {l : List MAct} {o : Option Nat} {m : Nat} {g : Goroutine} {w : World} (h : GoM X l o m g w) : g.status = .running :=
  (goes_cases h).elim (fun h => (h w (Rely.refl w)).running) fun ⟨_, _, h, _⟩ => h
theorem GoS.running {l : List SAct} {o : Option Nat} {m : Nat} {g : Goroutine} {w : World} (h : GoS X l o m g w) : g.status = .running :=
  (goes_cases h).elim (fun h => (h w (Rely.refl w)).running) fun ⟨_, _, h, _⟩ => h

theorem sumTo_slip {i k m : Nat} (hlt : i < m) (hq : qs i = k + 1) : sumTo m (upd qs i k) < sumTo m qs := by
  have h : sumTo m (upd qs i k) + (k + 1) = sumTo m qs + k := by
    have := sumTo_upd qs k id hlt
    simpa [hq] using this
  omega

theorem lex3 {Q : Nat → Nat → Nat → Prop} (h : ∀ A K L, (∀ A' K' L', (A' < A ∨ (A' = A ∧ (K' < K ∨ (K' = K ∧ L' < L)))) → Q A' K' L') → Q A K L) : ∀ A K L, Q A K L := by
  intro A
  induction A using Nat.strongRecOn with
  | ind A ihA =>
  intro K
  induction K using Nat.strongRecOn with
  | ind K ihK =>
  intro L
  induction L using Nat.strongRecOn with
  | ind L ihL =>
  refine h A K L fun A' K' L' hlt => ?_
  rcases hlt with h | ⟨rfl, h | ⟨rfl, h⟩⟩
  · exact ihA A' h K' L'
  · exact ihK K' h L'
  · exact ihL L' h

theorem offers_leaver {P : Program} {k e r : Nat} {x : Goroutine} {send : Bool} (h : QuitsD P k e x) : offersAt x r send = [] :=
  offersAt_of_not_blocked (by rcases h.status with h | h <;> rw [h] <;> simp) r send

/-- Goroutine 0's record while the channel is closed: on its way, or it stands at its receive again. -/
inductive IsB (X : Shared) (l : List MAct) (o : Option Nat) (g : Goroutine) (w : World) : Nat → Prop
  | walks {m : Nat} (h : GoM X l o m g w) : IsB X l o g w (m + 1)
  | woken {g₀ : Goroutine} (hl : l = []) (e : g = { parked g₀ X.rcv (.recv true) with status := .running }) (h : ∀ w₁, Rely X.d X.T0 o w w₁ → AtEnd X g₀ w₁) : IsB X l o g w 0

theorem IsB.running {l : List MAct} {o : Option Nat} {m : Nat} {g : Goroutine} {w : World} (h : IsB X l o g w m) : g.status = .running := by
  cases h with
  | walks h => exact GoM.running h
  | woken _ e _ => rw [e]

theorem IsB.rely {l : List MAct} {o : Option Nat} {m : Nat} {g : Goroutine} {w w₁ : World} (h : IsB X l o g w m) (r : Rely X.d X.T0 o w w₁) : IsB X l o g w₁ m := by
  cases h with
  | walks h => exact .walks (Goes.rely (R := Rely X.d X.T0 o) (fun _ _ _ a b => a.trans b) h r)
  | woken hl e h => exact .woken hl e fun w₂ h₂ => h w₂ (r.trans h₂)

theorem ends_closed {g g₀ : Goroutine} {p : Nat} {sl : Option (Nat × Nat)} (hI : Inv X n (n + 1) true gs w t qs M S o0 o1) (hS : Shut n X.d.c p t) (h0 : gs[0]? = some g)
    (hst : stepG X.P true g w = .comm g₀ X.rcv true (.recv true) w #[]) (hFin : X.Fin (g₀.finishComm X.P X.rcv (.recv true) 0 X.z false) w) {sl0 : Option (Nat × Nat)} {w0 : World}
    (hstep : stepT X.P (crowd gs w0 sl0) = runT X.P (crowd gs w sl) 0) : Gets X.P X.Fin gs w0 sl0 t := by
  obtain ⟨s, r, tm, hc⟩ := hI.chan
  have hp : partners (gs.setIfInBounds 0 ph) X.d.c true = [] := by
    refine partners_nil fun j x hj => ?_
    rcases getElem?_stand gs 0 j x hj with ⟨_, rfl⟩ | ⟨hj0, hx⟩
    · rfl
    · have hjl := (Array.getElem?_eq_some_iff.1 hx).1
      have := hI.size
      exact offers_leaver (hI.old j x (by omega) (by omega) hx)
  have hrun := crowd_recv_closed (P := X.P) (sl := sl) (i := 0) h0 (show stepG X.P (0 == 0) g w = _ from hst) hc hp
  rw [hrun] at hstep
  refine Gets.step hstep ?_
  have h0l : 0 < gs.size := (Array.getElem?_eq_some_iff.1 h0).1
  have hev : (MemOp.ofEvents 0 g.frame.fn g.frame.place #[]) = #[] := rfl
  rw [hev, Array.empty_append]
  have hu : ∀ op ∈ (#[{ g := 0, fn := g₀.frame.fn, pos := g₀.frame.place, act := .recvClosed X.d.c }] : Array MemOp), op.g = 0 := by simp
  refine ⟨0, _, _, _, _, _, qs, rfl, by simp [h0l]; rfl, hFin, ⟨fun j x hj hx => ?_, fun j hj => ?_⟩, pair_end hI.pair hI.hears0 hS⟩
  · rw [Array.getElem?_setIfInBounds_ne (by omega)] at hx
    rw [Deaf_other t (by omega) _ hu]
    have hjl := (Array.getElem?_eq_some_iff.1 hx).1
    have := hI.size
    exact hI.old j x hj (by omega) hx
  · have := hI.size
    have hj' : gs.size ≤ j := by simpa using hj
    rw [Deaf_other t (g := j) (g' := 0) (by omega) _ hu]
    exact hI.above j (by omega)

theorem others_leave {g : Goroutine} (hI : Inv X n (n + 1) cl gs w t qs M S o0 o1) (h0 : gs[0]? = some g) (hr : g.status = .running) : ∀ (i j : Nat) (x : Goroutine), j ≠ i → gs[j]? = some x → x.status = .running ∨ x.status = .finished ∨ x.again w' = x := by
  intro i j x _ hx
  rcases Nat.eq_zero_or_pos j with rfl | hj
  · rw [h0] at hx
    obtain rfl := Option.some.inj hx
    exact .inl hr
  · have hjl := (Array.getElem?_eq_some_iff.1 hx).1
    have := hI.size
    exact (hI.old j x hj (by omega) hx).status.imp id .inl

/-- PHASE B. -/
theorem phaseB (F : X.Fit) : ∀ (A K L : Nat), ∀ (l : List MAct) (g : Goroutine) (gs : Array Goroutine) (w : World) (sl : Option (Nat × Nat)) (t : Trace) (qs : Nat → Nat) (M S : Nat → Prop) (o0 o1 : Option Nat) (p : Nat),
    l.length = A → recvs l = [] → IsB X l o0 g w K → sumTo gs.size qs = L → gs[0]? = some g → Inv X n (n + 1) true gs w t qs M S o0 o1 → Shut n X.d.c p t → Gets X.P X.Fin gs w sl t := by
  refine lex3 fun A K L ih => ?_
  intro l g gs w sl t qs M S o0 o1 p hA hr hB hL h0 hI hS
  have hrun := hB.running
  have h0l : 0 < gs.size := (Array.getElem?_eq_some_iff.1 h0).1
  have haw : ∀ x ∈ gs, awake x := by
    intro x hx
    obtain ⟨j, hj, rfl⟩ := Array.mem_iff_getElem.1 hx
    rcases Nat.eq_zero_or_pos j with rfl | hpos
    · have : gs[0] = g := by simpa [Array.getElem?_eq_getElem hj] using h0
      rw [this]; exact awake_of (.inl hrun)
    · have := hI.size
      exact awake_of ((hI.old j _ hpos (by omega) (Array.getElem?_eq_getElem hj)).status.elim .inl fun x => .inr (.inr x))
  obtain ⟨i, x, e, sl', hi, hx, hst⟩ := crowd_pick (P := X.P) (w := w) (sl := sl) haw ⟨0, g, h0, hrun⟩
  have hIe := hI.at e
  have hR : Rely X.d X.T0 o0 w (w.at e) := Rely.at w e
  rcases Nat.eq_zero_or_pos i with rfl | hpos
  · rw [h0] at hi
    obtain rfl := Option.some.inj hi
    cases hB with
    | woken hl eg hE =>
      obtain ⟨h1, h2, h3⟩ := hE _ hR
      refine ends_closed hIe hS h0 ?_ h3 hst
      rw [eg, stepG_tries]
      have : ({ g with status := .running } : Goroutine) = g := by cases g; simp_all
      exact h2
    | walks hG =>
      rename_i m
      rcases goes_cases hG with hstop | ⟨m', rfl, _, hgo⟩
      · have hs := hstop _ hR
        cases l with
        | nil => exact ends_closed hIe hS h0 hs.2.1 hs.2.2 hst
        | cons a l =>
          cases a with
          | recv v => simp [recvs] at hr
          | box =>
            obtain ⟨_, g', w', es, hstep, hbx, hev, m2, hG2⟩ := hs
            rw [runT_crowd_go (P := X.P) (i := 0) h0 (show stepG X.P (0 == 0) _ (w.at e) = _ from hstep), undisturbed (others_leave hIe h0 hrun 0)] at hst
            refine Gets.step hst ?_
            have hs' := hIe.split.box F.tb0 F.tb1 hbx
            have hI' := hIe.step0 F (fun b hb => hbx.old (Nat.lt_of_lt_of_le hb hIe.split.bsize)) hs' hev g.frame.fn g.frame.place g'
            exact ih l.length (m2 + 1) (sumTo (gs.setIfInBounds 0 g').size qs) (.inl (by rw [← hA]; simp)) l g' _ w' sl' _ qs _ S _ o1 p rfl (by simpa [recvs] using hr) (.walks hG2) rfl (by simp [h0l]) hI'
              (hS.app fun op hop hg => by
                obtain ⟨e, _, rfl⟩ := Conc.mem_ofEvents hop
                exact absurd hg (Nat.ne_of_lt hI.pos))
      · obtain ⟨g', w', es, hstep, ⟨hT, hev⟩, hG2⟩ := hgo _ hR
        rw [runT_crowd_go (P := X.P) (i := 0) h0 (show stepG X.P (0 == 0) _ (w.at e) = _ from hstep), undisturbed (others_leave hIe h0 hrun 0)] at hst
        refine Gets.step hst ?_
        have hs' := hIe.split.turn F.dis hT
        have hI' := hIe.step0 F (fun b hb => hIe.split.low hIe.pair.highM hT hb) hs' hev g.frame.fn g.frame.place g'
        exact ih A (m' + 1) (sumTo (gs.setIfInBounds 0 g').size qs) (.inr ⟨rfl, .inl (by omega)⟩) l g' _ w' sl' _ qs _ S _ o1 p hA hr (.walks hG2) rfl (by simp [h0l]) hI'
          (hS.app fun op hop hg => by
            obtain ⟨e, _, rfl⟩ := Conc.mem_ofEvents hop
            exact absurd hg (Nat.ne_of_lt hI.pos))
  · have hil := (Array.getElem?_eq_some_iff.1 hi).1
    have hsz := hI.size
    have hq := hI.old i x hpos (by omega) hi
    cases hqi : qs i with
    | zero => rw [hqi] at hq; rw [hq.1] at hx; cases hx
    | succ k =>
      rw [hqi] at hq
      rcases hq with ⟨hf, _⟩ | ⟨_, g', es, hm, hstp, hq'⟩
      · rw [hf] at hx; cases hx
      have hi0 : (i == 0) = false := by simp; omega
      rw [runT_crowd_go (P := X.P) (i := i) hi (by rw [hi0]; exact hstp (w.at e)), undisturbed (others_leave hIe h0 hrun i)] at hst
      refine Gets.step hst ?_
      have hI' := hIe.slip hpos (by omega) hm (fun _ => rfl) hq' x.frame.fn x.frame.place
      have hdec : sumTo (gs.setIfInBounds i g').size (upd qs i k) < L := by
        rw [← hL, Array.size_setIfInBounds]
        exact sumTo_slip hil hqi
      exact ih A K (sumTo (gs.setIfInBounds i g').size (upd qs i k)) (.inr ⟨rfl, .inr ⟨rfl, hdec⟩⟩) l g _ (w.at e) sl' _ _ M S o0 o1 p hA hr (hB.rely hR) rfl (by rw [Array.getElem?_setIfInBounds_ne (by omega)]; exact h0) hI'
        (hS.app fun op hop _ => by
          obtain ⟨e, he, rfl⟩ := Conc.mem_ofEvents hop
          exact touch_mute (hm e he))

end Go.Lx

/- Both goroutines are alive: they come to the end. -/
set_option linter.unusedSimpArgs false
namespace Go.Lx
open Go.Conc
open Go.ConcN (sumTo upd sumTo_upd upd_ne upd_same)

variable {X : Shared} {n top : Nat} {cl : Bool} {gs arr : Array Goroutine} {w w' : World} {t u : Trace} {qs : Nat → Nat} {M S : Nat → Prop} {o0 o1 o0' o1' : Option Nat}

theorem Inv.crew (h : Inv X n n cl gs w t qs M S o0 o1) (hs : arr.size = n + 1) (ho : ∀ j x, 0 < j → j < n → arr[j]? = some x → gs[j]? = some x) : Inv X n n cl arr w t qs M S o0 o1 :=
  ⟨h.pos, hs, h.topl, fun j x hj hjt hx => h.old j x hj hjt (ho j x hj hjt hx), h.above, h.pair, h.hears0, h.hearsN, h.split, h.quit, h.chan⟩

theorem Inv.dull (F : X.Fit) (h : Inv X n n false gs w t qs M S o0 o1) (hn : ∀ op ∈ u, op.act.touch? = none) (hd : ∀ op ∈ u, op.act ≠ .mark .disable ∧ op.act ≠ .mark .enable) {s r : Nat} {tm : Bool} :
    Inv X n n false gs (w.setChan X.d.c 0 #[] false s r tm) (t ++ u) qs M S o0 o1 := by
  have hlt : X.d.c < w.heap.size := Nat.lt_of_lt_of_le F.cB h.split.bsize
  refine ⟨h.pos, h.size, h.topl, fun j x hj hjt hx => ?_, fun j hj => ?_, h.pair.dull hn, (Deaf_still t 0 u hd).trans h.hears0, fun hc => (Deaf_still t n u hd).trans (h.hearsN hc), h.split.chan F.cB, ?_, ?_⟩
  · rw [Deaf_still t j u hd]; exact h.old j x hj hjt hx
  · rw [Deaf_still t j u hd]; exact h.above j hj
  · simp only [World.setChan]
    rw [Array.getElem?_setIfInBounds_ne F.cq]
    exact h.quit
  · exact ⟨s, r, tm, by simp only [World.setChan]; rw [Array.getElem?_setIfInBounds_self_of_lt hlt]⟩

theorem Inv.shut (F : X.Fit) (h : Inv X n n false gs w t qs M S o0 o1) (hs : arr.size = n + 1) (ho : ∀ j x, 0 < j → j < n → arr[j]? = some x → gs[j]? = some x) {g' : Goroutine} {k : Nat} (hg : arr[n]? = some g')
    (hq : QuitsD X.P k 0 g') (fn : FuncId) (pos : String) {s r : Nat} {tm : Bool} :
    Inv X n (n + 1) true arr (w.setChan X.d.c 0 #[] true s r tm) (t ++ #[{ g := n, fn, pos, act := .close X.d.c }]) (upd qs n k) M S o0 o1 ∧ Shut n X.d.c t.size (t ++ #[{ g := n, fn, pos, act := .close X.d.c }]) := by
  have hlt : X.d.c < w.heap.size := Nat.lt_of_lt_of_le F.cB h.split.bsize
  have hd : ∀ op ∈ (#[{ g := n, fn, pos, act := .close X.d.c }] : Array MemOp), op.act ≠ .mark .disable ∧ op.act ≠ .mark .enable := by simp
  have hy : (t ++ #[({ g := n, fn, pos, act := .close X.d.c } : MemOp)])[t.size]? = some { g := n, fn, pos, act := .close X.d.c } := by rw [Array.getElem?_append_right (Nat.le_refl _)]; simp
  refine ⟨⟨h.pos, hs, Nat.le_refl _, fun j x hj hjt hx => ?_, fun j hj => ?_, h.pair.dull (by simp [MemAct.touch?]), (Deaf_still t 0 _ hd).trans h.hears0, (fun hc => by cases hc), h.split.chan F.cB, ?_, ?_⟩, ?_⟩
  · rw [Deaf_still t j _ hd]
    by_cases hjn : j = n
    · subst hjn
      rw [hg] at hx
      obtain rfl := Option.some.inj hx
      rw [upd_same, h.hearsN rfl]
      exact hq
    · rw [upd_ne qs k hjn]
      exact h.old j x hj (by omega) (ho j x hj (by omega) hx)
  · rw [Deaf_still t j _ hd]; exact h.above j hj
  · simp only [World.setChan]
    rw [Array.getElem?_setIfInBounds_ne F.cq]
    exact h.quit
  · exact ⟨s, r, tm, by simp only [World.setChan]; rw [Array.getElem?_setIfInBounds_self_of_lt hlt]⟩
  · refine ⟨by rw [act?_of hy], g?_of hy, ⟨n, g?_of hy, ?_⟩, fun i x hx hgi => ?_⟩
    · rw [deaf_old (Nat.le_refl _)]; exact h.hearsN rfl
    · obtain ⟨y, hy', hyx⟩ := touch_of hx
      rcases getElem?_append_cases hy' with ⟨hi, _⟩ | ⟨_, hyu⟩
      · exact hi
      · simp at hyu
        subst hyu
        cases hyx

theorem again_sel {v : Value} {g : Goroutine} {sh : CommShape} {s r s' r' : Nat} {tm tm' : Bool} (hc : w.heap[X.d.c]? = some (.chan 0 #[] false s r tm)) (hq : w.heap[X.q]? = some (.chan 0 #[] false s' r' tm')) :
    (parked g (X.sel v) sh).again w = parked g (X.sel v) sh := by
  simp [Goroutine.again, parked, Shared.sel, scase, rcase, hc, hq]

theorem offers_sel {v : Value} {g : Goroutine} {sh : CommShape} (F : X.Fit) : offersAt (parked g (X.sel v) sh) X.d.c true = [0] ∧ offersAt (parked g (X.sel v) sh) X.d.c false = [] ∧ offersAt (parked g (X.sel v) sh) X.q true = [] := by
  have h1 : ¬ X.q = X.d.c := fun e => F.cq e.symm
  have h2 : ¬ X.d.c = X.q := F.cq
  refine ⟨?_, ?_, ?_⟩ <;> simp [offersAt, parked, Shared.sel, scase, rcase, h1, h2]

theorem IsM.status {l : List MAct} {o : Option Nat} {g : Goroutine} {k : Nat} (h : IsM X l o g w k) : (g.status = .running ∧ 0 < k) ∨ (g.status = .blocked ∧ k = 0) := by
  cases h with
  | walks h => exact .inl ⟨GoM.running h, by omega⟩
  | waits e _ _ => exact .inr ⟨by rw [e]; rfl, rfl⟩
theorem IsS.status {l : List SAct} {o : Option Nat} {g : Goroutine} {k : Nat} (h : IsS X l o g w k) : (g.status = .running ∧ 0 < k) ∨ (g.status = .blocked ∧ k = 0) := by
  cases h with
  | walks h => exact .inl ⟨GoS.running h, by omega⟩
  | waits _ e _ => exact .inr ⟨by rw [e]; rfl, rfl⟩

theorem IsM.rely {l : List MAct} {o : Option Nat} {g : Goroutine} {k : Nat} {w₁ : World} (h : IsM X l o g w k) (r : Rely X.d X.T0 o w w₁) : IsM X l o g w₁ k := by
  cases h with
  | walks h => exact .walks (Goes.rely (R := Rely X.d X.T0 o) (fun _ _ _ a b => a.trans b) h r)
  | waits e h hl => exact .waits e (fun w₂ h₂ => h w₂ (r.trans h₂)) hl
theorem IsS.rely {l : List SAct} {o : Option Nat} {g : Goroutine} {k : Nat} {w₁ : World} (h : IsS X l o g w k) (r : Rely X.d X.T1 o w w₁) : IsS X l o g w₁ k := by
  cases h with
  | walks h => exact .walks (Goes.rely (R := Rely X.d X.T1 o) (fun _ _ _ a b => a.trans b) h r)
  | waits hl e h => exact .waits hl e fun w₂ h₂ => h w₂ (r.trans h₂)

theorem calmly {as : List MAct} {bs : List SAct} {g0 g1 : Goroutine} {k0 k1 : Nat} (hI : Inv X n n cl gs w t qs M S o0 o1) (h0 : gs[0]? = some g0) (hn : gs[n]? = some g1) (hM : IsM X as o0 g0 w k0) (hS : IsS X bs o1 g1 w k1)
    (hc : ∃ s r tm, w'.heap[X.d.c]? = some (.chan 0 #[] false s r tm)) (hq : ∃ s r tm, w'.heap[X.q]? = some (.chan 0 #[] false s r tm)) (i : Nat) :
    ∀ j x, j ≠ i → gs[j]? = some x → x.status = .running ∨ x.status = .finished ∨ x.again w' = x := by
  intro j x _ hx
  obtain ⟨s, r, tm, hc⟩ := hc
  obtain ⟨s', r', tm', hq⟩ := hq
  rcases Nat.eq_zero_or_pos j with rfl | hj
  · rw [h0] at hx
    obtain rfl := Option.some.inj hx
    cases hM with
    | walks h => exact .inl (GoM.running h)
    | waits e _ _ => exact .inr (.inr (by rw [e]; exact again_recv_open hc))
  · by_cases hjn : j = n
    · subst hjn
      rw [hn] at hx
      obtain rfl := Option.some.inj hx
      cases hS with
      | walks h => exact .inl (GoS.running h)
      | waits _ e _ => exact .inr (.inr (by rw [e]; exact again_sel hc hq))
    · have hjl := (Array.getElem?_eq_some_iff.1 hx).1
      have := hI.size
      exact (hI.old j x hj (by omega) hx).status.imp id .inl

end Go.Lx

/- Both goroutines are alive: they come to the end. The induction. -/
set_option linter.unusedSimpArgs false
namespace Go.Lx
open Go.Conc
open Go.ConcN (sumTo upd sumTo_upd upd_ne upd_same)

variable {X : Shared} {n top : Nat} {cl : Bool} {gs : Array Goroutine} {w w' : World} {t u : Trace} {qs : Nat → Nat} {M S : Nat → Prop} {o0 o1 o0' o1' : Option Nat}

/-- All that is held while both are alive. -/
structure Both (X : Shared) (n : Nat) (as : List MAct) (bs : List SAct) (k0 k1 : Nat) (gs : Array Goroutine) (w : World) (t : Trace) (qs : Nat → Nat) (M S : Nat → Prop) (o0 o1 : Option Nat) (g0 g1 : Goroutine) : Prop where
  inv : Inv X n n false gs w t qs M S o0 o1
  h0 : gs[0]? = some g0
  hn : gs[n]? = some g1
  isM : IsM X as o0 g0 w k0
  isS : IsS X bs o1 g1 w k1
  same : recvs as = sends bs
  alive : 0 < k0 + k1

theorem Both.at {as : List MAct} {bs : List SAct} {k0 k1 : Nat} {g0 g1 : Goroutine} (h : Both X n as bs k0 k1 gs w t qs M S o0 o1 g0 g1) (e : Nat) : Both X n as bs k0 k1 gs (w.at e) t qs M S o0 o1 g0 g1 :=
  ⟨h.inv.at e, h.h0, h.hn, h.isM.rely (Rely.at w e), h.isS.rely (Rely.at w e), h.same, h.alive⟩

/-- The statement of the induction. -/
def Done (X : Shared) (n : Nat) (A K L : Nat) : Prop :=
  ∀ (as : List MAct) (bs : List SAct) (k0 k1 : Nat) (gs : Array Goroutine) (w : World) (sl : Option (Nat × Nat)) (t : Trace) (qs : Nat → Nat) (M S : Nat → Prop) (o0 o1 : Option Nat) (g0 g1 : Goroutine),
    as.length + bs.length = A → k0 + k1 = K → sumTo gs.size qs = L → Both X n as bs k0 k1 gs w t qs M S o0 o1 g0 g1 → Gets X.P X.Fin gs w sl t

def Less (A' K' L' A K L : Nat) : Prop := A' < A ∨ (A' = A ∧ (K' < K ∨ (K' = K ∧ L' < L)))

section
variable {as : List MAct} {bs : List SAct} {k0 k1 : Nat} {g0 g1 : Goroutine} {A K L : Nat} {sl sl' : Option (Nat × Nat)} {w0 : World}

theorem set_same {i : Nat} {y : Goroutine} (hi : i < gs.size) : (gs.setIfInBounds i y)[i]? = some y := Array.getElem?_setIfInBounds_self_of_lt hi

/-- Goroutine 0 takes a step of its own. -/
theorem both_step0 (F : X.Fit) (h : Both X n as bs k0 k1 gs w t qs M S o0 o1 g0 g1) (hlow : ∀ b, b < X.d.B → w'.heap[b]? = w.heap[b]?) (hs : Split X.d X.T0 X.T1 w'.heap (More M w w') S o0' o1)
    (hR : Rely X.d X.T1 o1 w w') {es : Array Event} (hev : ∀ e ∈ es, EvOk X.d X.T0 o0' w' e) {g' : Goroutine} (hst : stepG X.P true g0 w = .go g' w' es)
    (hstep : stepT X.P (crowd gs w0 sl) = runT X.P (crowd gs w sl') 0) {as' : List MAct} {m : Nat} (hG : GoM X as' o0' m g' w') (hsame : recvs as' = sends bs)
    (hD : Done X n (as'.length + bs.length) (m + 1 + k1) (sumTo gs.size qs)) : Gets X.P X.Fin gs w0 sl t := by
  have hq' : ∃ s r tm, w'.heap[X.q]? = some (.chan 0 #[] false s r tm) := by rw [hlow _ F.qB]; exact h.inv.quit
  have hc' : ∃ s r tm, w'.heap[X.d.c]? = some (.chan 0 #[] false s r tm) := by rw [hlow _ F.cB]; exact h.inv.chan
  rw [runT_crowd_go (P := X.P) (i := 0) h.h0 (show stepG X.P (0 == 0) _ _ = _ from hst), undisturbed (calmly h.inv h.h0 h.hn h.isM h.isS hc' hq' 0)] at hstep
  refine Gets.step hstep ?_
  have h0l : 0 < gs.size := (Array.getElem?_eq_some_iff.1 h.h0).1
  have hp := h.inv.pos
  refine hD as' bs (m + 1) k1 _ w' _ _ qs _ S o0' o1 g' g1 rfl rfl (by simp) ⟨h.inv.step0 F hlow hs hev _ _ g', set_same h0l, ?_, .walks hG, h.isS.rely hR, hsame, by omega⟩
  rw [Array.getElem?_setIfInBounds_ne (by omega)]; exact h.hn

/-- Goroutine n takes a step of its own. -/
theorem both_stepN (F : X.Fit) (h : Both X n as bs k0 k1 gs w t qs M S o0 o1 g0 g1) (hlow : ∀ b, b < X.d.B → w'.heap[b]? = w.heap[b]?) (hs : Split X.d X.T1 X.T0 w'.heap (More S w w') M o1' o0)
    (hR : Rely X.d X.T0 o0 w w') {es : Array Event} (hev : ∀ e ∈ es, EvOk X.d X.T1 o1' w' e) {g' : Goroutine} (hst : stepG X.P false g1 w = .go g' w' es)
    (hstep : stepT X.P (crowd gs w0 sl) = runT X.P (crowd gs w sl') n) {bs' : List SAct} {m : Nat} (hG : GoS X bs' o1' m g' w') (hsame : recvs as = sends bs')
    (hD : Done X n (as.length + bs'.length) (k0 + (m + 1)) (sumTo gs.size qs)) : Gets X.P X.Fin gs w0 sl t := by
  have hq' : ∃ s r tm, w'.heap[X.q]? = some (.chan 0 #[] false s r tm) := by rw [hlow _ F.qB]; exact h.inv.quit
  have hc' : ∃ s r tm, w'.heap[X.d.c]? = some (.chan 0 #[] false s r tm) := by rw [hlow _ F.cB]; exact h.inv.chan
  have hp := h.inv.pos
  have hn0 : (n == 0) = false := by simp; omega
  rw [runT_crowd_go (P := X.P) (i := n) h.hn (by rw [hn0]; exact hst), undisturbed (calmly h.inv h.h0 h.hn h.isM h.isS hc' hq' n)] at hstep
  refine Gets.step hstep ?_
  have hnl : n < gs.size := (Array.getElem?_eq_some_iff.1 h.hn).1
  refine hD as bs' k0 (m + 1) _ w' _ _ qs M _ o0 o1' g0 g' rfl rfl (by simp) ⟨h.inv.stepN F hlow hs hev _ _ g', ?_, set_same hnl, h.isM.rely hR, .walks hG, hsame, by omega⟩
  rw [Array.getElem?_setIfInBounds_ne (by omega)]; exact h.h0

/-- A leaver slips. -/
theorem both_slip (F : X.Fit) (h : Both X n as bs k0 k1 gs w t qs M S o0 o1 g0 g1) {i : Nat} {x : Goroutine} (hi : gs[i]? = some x) (hx : x.status = .running) (hpos : 0 < i) (hin : i ≠ n)
    (hstep : stepT X.P (crowd gs w0 sl) = runT X.P (crowd gs w sl') i) (hD : ∀ L', L' < sumTo gs.size qs → Done X n (as.length + bs.length) (k0 + k1) L') : Gets X.P X.Fin gs w0 sl t := by
  have hil := (Array.getElem?_eq_some_iff.1 hi).1
  have hsz := h.inv.size
  have hq := h.inv.old i x hpos (by omega) hi
  cases hqi : qs i with
  | zero => rw [hqi] at hq; rw [hq.1] at hx; cases hx
  | succ k =>
    rw [hqi] at hq
    rcases hq with ⟨hf, _⟩ | ⟨_, g', es, hm, hstp, hq'⟩
    · rw [hf] at hx; cases hx
    have hi0 : (i == 0) = false := by simp; omega
    rw [runT_crowd_go (P := X.P) (i := i) hi (by rw [hi0]; exact hstp w), undisturbed (calmly h.inv h.h0 h.hn h.isM h.isS h.inv.chan h.inv.quit i)] at hstep
    refine Gets.step hstep ?_
    refine hD (sumTo gs.size (upd qs i k)) (sumTo_slip hil hqi) as bs k0 k1 _ w _ _ _ M S o0 o1 g0 g1 rfl rfl (by simp) ⟨h.inv.slip hpos (by omega) hm (fun e => absurd e hin) hq' _ _, ?_, ?_, h.isM, h.isS, h.same, h.alive⟩
    · rw [Array.getElem?_setIfInBounds_ne (by omega)]; exact h.h0
    · rw [Array.getElem?_setIfInBounds_ne (by omega)]; exact h.hn

theorem ofEvents_nil (i : Nat) (fn : FuncId) (pos : String) : MemOp.ofEvents i fn pos #[] = #[] := rfl

/-- Who offers what at the channel, beside goroutine 0. -/
theorem partners0 (h : Both X n as bs k0 k1 gs w t qs M S o0 o1 g0 g1) (r : Nat) (send : Bool) : partners (gs.setIfInBounds 0 ph) r send = (offersAt g1 r send).map fun k => (n, k) := by
  have hp := h.inv.pos
  have hsz := h.inv.size
  refine partners_one (by rw [Array.getElem?_setIfInBounds_ne (by omega)]; exact h.hn) fun j x hjn hj => ?_
  rcases getElem?_stand gs 0 j x hj with ⟨_, rfl⟩ | ⟨hj0, hx⟩
  · rfl
  · have hjl := (Array.getElem?_eq_some_iff.1 hx).1
    exact offers_leaver (h.inv.old j x (by omega) (by omega) hx)
theorem partnersN (h : Both X n as bs k0 k1 gs w t qs M S o0 o1 g0 g1) (r : Nat) (send : Bool) : partners (gs.setIfInBounds n ph) r send = (offersAt g0 r send).map fun k => (0, k) := by
  have hp := h.inv.pos
  have hsz := h.inv.size
  refine partners_one (by rw [Array.getElem?_setIfInBounds_ne (by omega)]; exact h.h0) fun j x hj0 hj => ?_
  rcases getElem?_stand gs n j x hj with ⟨_, rfl⟩ | ⟨hjn, hx⟩
  · rfl
  · have hjl := (Array.getElem?_eq_some_iff.1 hx).1
    exact offers_leaver (h.inv.old j x (by omega) (by omega) hx)

/-- Goroutine 0 parks. -/
theorem both_park0 (F : X.Fit) (h : Both X n as bs k0 k1 gs w t qs M S o0 o1 g0 g1) (hst : stepG X.P true g0 w = .comm g0 X.rcv true (.recv true) w #[]) (hrun : g1.status = .running) (hk1 : 0 < k1)
    (hstep : stepT X.P (crowd gs w0 sl) = runT X.P (crowd gs w sl') 0) (hstop : ∀ w₁, Rely X.d X.T0 o0 w w₁ → StopM X as o0 g0 w₁) (hl : ∀ l', as ≠ .box :: l')
    (hD : Done X n (as.length + bs.length) (0 + k1) (sumTo gs.size qs)) : Gets X.P X.Fin gs w0 sl t := by
  have hp := h.inv.pos
  obtain ⟨s, r, tm, hc⟩ := h.inv.chan
  have hno : ∀ cc ∈ X.rcv, NoWays w (gs.setIfInBounds 0 ph) cc := by
    intro cc hcc
    simp [Shared.rcv] at hcc
    subst hcc
    refine ways_recv_none hc ?_
    rw [partners0 h, offersAt_of_not_blocked (by rw [hrun]; simp)]
    rfl
  rw [crowd_waits (P := X.P) (i := 0) h.h0 (show stepG X.P (0 == 0) _ _ = _ from hst) hno, ofEvents_nil] at hstep
  refine Gets.step hstep ?_
  rw [Array.append_empty]
  have h0l : 0 < gs.size := (Array.getElem?_eq_some_iff.1 h.h0).1
  refine hD as bs 0 k1 _ w _ t qs M S o0 o1 _ g1 rfl rfl (by simp) ⟨h.inv.crew (by simpa using h.inv.size) (fun j x hj _ hx => by rwa [Array.getElem?_setIfInBounds_ne (by omega)] at hx), set_same h0l, ?_, .waits rfl hstop hl, h.isS, h.same, by omega⟩
  rw [Array.getElem?_setIfInBounds_ne (by omega)]; exact h.hn

/-- Goroutine n parks. -/
theorem both_parkN (F : X.Fit) (h : Both X n as bs k0 k1 gs w t qs M S o0 o1 g0 g1) {v : Value} {bs' : List SAct} (hb : bs = .send v :: bs') (hst : stepG X.P false g1 w = .comm g1 (X.sel v) true .select w #[]) (hrun : g0.status = .running) (hk0 : 0 < k0)
    (hstep : stepT X.P (crowd gs w0 sl) = runT X.P (crowd gs w sl') n) (hstop : ∀ w₁, Rely X.d X.T1 o1 w w₁ → StopS X bs o1 g1 w₁)
    (hD : Done X n (as.length + bs.length) (k0 + 0) (sumTo gs.size qs)) : Gets X.P X.Fin gs w0 sl t := by
  have hp := h.inv.pos
  have hn0 : (n == 0) = false := by simp; omega
  obtain ⟨s, r, tm, hc⟩ := h.inv.chan
  obtain ⟨s', r', tm', hq⟩ := h.inv.quit
  have hno : ∀ cc ∈ X.sel v, NoWays w (gs.setIfInBounds n ph) cc := by
    intro cc hcc
    simp [Shared.sel] at hcc
    rcases hcc with rfl | rfl
    · refine ways_send_none hc (by simp) ?_
      rw [partnersN h, offersAt_of_not_blocked (by rw [hrun]; simp)]
      rfl
    · refine ways_recv_none hq ?_
      rw [partnersN h, offersAt_of_not_blocked (by rw [hrun]; simp)]
      rfl
  rw [crowd_waits (P := X.P) (i := n) h.hn (by rw [hn0]; exact hst) hno, ofEvents_nil] at hstep
  refine Gets.step hstep ?_
  rw [Array.append_empty]
  have hnl : n < gs.size := (Array.getElem?_eq_some_iff.1 h.hn).1
  refine hD as bs k0 0 _ w _ t qs M S o0 o1 g0 _ rfl rfl (by simp) ⟨h.inv.crew (by simpa using h.inv.size) (fun j x hj hjn hx => by rwa [Array.getElem?_setIfInBounds_ne (by omega)] at hx), ?_, set_same hnl, h.isM, .waits hb rfl hstop, h.same, by omega⟩
  rw [Array.getElem?_setIfInBounds_ne (by omega)]; exact h.h0
end

end Go.Lx

/- The two meet; the sender closes; the whole phase. -/
set_option linter.unusedSimpArgs false
set_option linter.unusedVariables false
namespace Go.Lx
open Go.Conc
open Go.ConcN (sumTo upd sumTo_upd upd_ne upd_same)

variable {X : Shared} {n top : Nat} {cl : Bool} {gs : Array Goroutine} {w w' : World} {t u : Trace} {qs : Nat → Nat} {M S : Nat → Prop} {o0 o1 o0' o1' : Option Nat}
variable {as : List MAct} {bs : List SAct} {k0 k1 : Nat} {g0 g1 : Goroutine} {A K L : Nat} {sl sl' : Option (Nat × Nat)} {w0 : World}

theorem box_ne (hB : X.d.c < X.d.B) (hM : ∀ b, M b → X.d.B ≤ b) (hb : ∀ b, o0 = some b → M b) : o0 ≠ some X.d.c := fun e => by have := hM _ (hb _ e); omega

/-- They have met. -/
theorem both_met (F : X.Fit) (h : Both X n as bs k0 k1 gs w t qs M S o0 o1 g0 g1) {as' : List MAct} {bs' : List SAct} {g0' g1' : Goroutine} {m0 m1 : Nat} (hG : GoM X as' o0 m0 g0' w) (hH : GoS X bs' o1 m1 g1' w) (hsame : recvs as' = sends bs')
    {arr : Array Goroutine} (harr : arr.size = n + 1) (ha0 : arr[0]? = some g0') (han : arr[n]? = some g1') (haj : ∀ j, j ≠ 0 → j ≠ n → arr[j]? = gs[j]?)
    (hn : ∀ op ∈ u, op.act.touch? = none) (hd : ∀ op ∈ u, op.act ≠ .mark .disable ∧ op.act ≠ .mark .enable) {s r : Nat} {tm : Bool}
    (hstep : stepT X.P (crowd gs w0 sl) = (.next (crowd arr (w.setChan X.d.c 0 #[] false s r tm) sl'), u))
    (hD : Done X n (as'.length + bs'.length) (m0 + 1 + (m1 + 1)) (sumTo gs.size qs)) : Gets X.P X.Fin gs w0 sl t := by
  refine Gets.step hstep ?_
  have hp := h.inv.pos
  have r0 : Rely X.d X.T0 o0 w (w.setChan X.d.c 0 #[] false s r tm) := Rely.chan w F.cB (box_ne F.cB h.inv.pair.highM h.inv.split.box0)
  have r1 : Rely X.d X.T1 o1 w (w.setChan X.d.c 0 #[] false s r tm) := Rely.chan w F.cB (box_ne F.cB h.inv.pair.highS h.inv.split.box1)
  refine hD as' bs' (m0 + 1) (m1 + 1) arr _ _ _ qs M S o0 o1 g0' g1' rfl rfl (by rw [harr, h.inv.size]) ⟨(h.inv.dull F hn hd).crew harr (fun j x hj hjn hx => by rwa [haj j (by omega) (by omega)] at hx), ha0, han, ?_, ?_, hsame, by omega⟩
  · exact (IsM.walks hG : IsM X as' o0 g0' w (m0 + 1)).rely r0
  · exact (IsS.walks hH : IsS X bs' o1 g1' w (m1 + 1)).rely r1

/-- Goroutine 0, at its receive, meets goroutine n, which waits. -/
theorem both_recv (F : X.Fit) (h : Both X n as bs k0 k1 gs w t qs M S o0 o1 g0 g1) {v : Value} {as' : List MAct} {bs' : List SAct} {gp : Goroutine} (hb : bs = .send v :: bs') (hg1 : g1 = parked gp (X.sel v) .select)
    (hst : stepG X.P true g0 w = .comm g0 X.rcv true (.recv true) w #[]) {m0 m1 : Nat} (hG : GoM X as' o0 m0 (g0.finishComm X.P X.rcv (.recv true) 0 v true) w) (hH : GoS X bs' o1 m1 (gp.finishComm X.P (X.sel v) .select 0 undef false) w)
    (hsame : recvs as' = sends bs') (hstep : stepT X.P (crowd gs w0 sl) = runT X.P (crowd gs w sl') 0)
    (hD : Done X n (as'.length + bs'.length) (m0 + 1 + (m1 + 1)) (sumTo gs.size qs)) : Gets X.P X.Fin gs w0 sl t := by
  obtain ⟨s, r, tm, hc⟩ := h.inv.chan
  have hp := h.inv.pos
  have hsz := h.inv.size
  have hpar : partners (gs.setIfInBounds 0 ph) X.d.c true = [(n, 0)] := by
    rw [partners0 h, hg1, (offers_sel F).1]; rfl
  have hrun := recv_meets_sel (P := X.P) (sl := sl') (i := 0) (j := n) (k := 0) (v := v) (zj := X.zc) h.h0 (show stepG X.P (0 == 0) _ _ = _ from hst) hc (by omega) (by rw [h.hn, hg1]) (by simp [Shared.sel]) hpar
  rw [hrun, ofEvents_nil, Array.empty_append] at hstep
  refine both_met F h hG hH hsame (by simp [hsz]) ?_ ?_ (fun j h1 h2 => ?_) ?_ ?_ hstep hD
  · exact set_same (by simp [hsz])
  · rw [Array.getElem?_setIfInBounds_ne (by omega)]; exact set_same (by omega)
  · rw [Array.getElem?_setIfInBounds_ne (by omega), Array.getElem?_setIfInBounds_ne (by omega)]
  · simp [MemAct.touch?]
  · simp

/-- Goroutine n, at its select, meets goroutine 0, which waits. -/
theorem both_send (F : X.Fit) (h : Both X n as bs k0 k1 gs w t qs M S o0 o1 g0 g1) {v : Value} {as' : List MAct} {bs' : List SAct} {gp : Goroutine} (hg0 : g0 = parked gp X.rcv (.recv true))
    (hst : stepG X.P false g1 w = .comm g1 (X.sel v) true .select w #[]) {m0 m1 : Nat} (hG : GoM X as' o0 m0 (gp.finishComm X.P X.rcv (.recv true) 0 v true) w) (hH : GoS X bs' o1 m1 (g1.finishComm X.P (X.sel v) .select 0 undef false) w)
    (hsame : recvs as' = sends bs') (hstep : stepT X.P (crowd gs w0 sl) = runT X.P (crowd gs w sl') n)
    (hD : Done X n (as'.length + bs'.length) (m0 + 1 + (m1 + 1)) (sumTo gs.size qs)) : Gets X.P X.Fin gs w0 sl t := by
  obtain ⟨s, r, tm, hc⟩ := h.inv.chan
  obtain ⟨s', r', tm', hq⟩ := h.inv.quit
  have hp := h.inv.pos
  have hsz := h.inv.size
  have hn0 : (n == 0) = false := by simp; omega
  have hpar : partners (gs.setIfInBounds n ph) X.d.c false = [(0, 0)] := by
    rw [partnersN h, hg0]
    simp only [Shared.rcv, offersAt_parked_recv, if_true, List.map_cons, List.map_nil]
  have ho : ∀ (m : Nat) (c' : CommCase), m ≠ 0 → (X.sel v)[m]? = some c' → NoWays w (gs.setIfInBounds n ph) c' := by
    intro m c' hm hc'
    have hm1 : m = 1 := by
      have := (Array.getElem?_eq_some_iff.1 hc').1
      simp [Shared.sel] at this
      omega
    subst hm1
    simp [Shared.sel] at hc'
    subst hc'
    refine ways_recv_none hq ?_
    rw [partnersN h, hg0]
    simp only [Shared.rcv, offersAt_parked_recv', List.map_nil]
  have hrun := sel_send_meets (P := X.P) (sl := sl') (i := n) (j := 0) (k := 0) (gj := gp) (zj := X.z) (shj := .recv true) h.hn (by rw [hn0]; exact hst) (show (X.sel v)[0]? = some (scase X.d.c v X.zc) by simp [Shared.sel]) ho hc (by omega) (by rw [h.h0, hg0]; rfl) hpar
  rw [hrun, ofEvents_nil, Array.empty_append] at hstep
  refine both_met F h hG hH hsame (by simp [hsz]) ?_ ?_ (fun j h1 h2 => ?_) ?_ ?_ hstep hD
  · rw [Array.getElem?_setIfInBounds_ne (by omega)]; exact set_same (by omega)
  · exact set_same (by simp [hsz])
  · rw [Array.getElem?_setIfInBounds_ne (by omega), Array.getElem?_setIfInBounds_ne (by omega)]
  · simp [MemAct.touch?]
  · simp

theorem recvs_end {l : List MAct} (h : recvs l = []) (hb : ∀ l', l ≠ .box :: l') : l = [] := by
  cases l with
  | nil => rfl
  | cons a l => cases a with
    | box => exact absurd rfl (hb l)
    | recv v => simp [recvs] at h

/-- Goroutine n looks at the channel. -/
theorem Both.look (h : Both X n as [] k0 k1 gs w t qs M S o0 o1 g0 g1) (fn : FuncId) (pos : String) : Inv X n n false gs w (t ++ MemOp.ofEvents n fn pos #[⟨.obj X.d.c, false, true⟩]) qs M S o0 o1 := by
  have hu : ∀ op ∈ MemOp.ofEvents n fn pos #[⟨.obj X.d.c, false, true⟩], op = { g := n, fn, pos, act := .access ⟨.obj X.d.c, false, true⟩ } := fun op hop => by
    rw [ofEvents_eq] at hop; simpa [MemAct.ofEvent] using hop
  have hd : ∀ op ∈ MemOp.ofEvents n fn pos #[⟨.obj X.d.c, false, true⟩], op.act ≠ .mark .disable ∧ op.act ≠ .mark .enable := fun op hop => by rw [hu op hop]; simp
  have hI := h.inv
  refine ⟨hI.pos, hI.size, hI.topl, fun j x hj hjt hx => ?_, fun j hj => ?_, ?_, (Deaf_still t 0 _ hd).trans hI.hears0, fun hc => (Deaf_still t n _ hd).trans (hI.hearsN hc), hI.split, hI.quit, hI.chan⟩
  · rw [Deaf_still t j _ hd]; exact hI.old j x hj hjt hx
  · rw [Deaf_still t j _ hd]; exact hI.above j hj
  · refine (hI.pair.symm.app (fun op hop => by rw [hu op hop]) (fun op hop x hx hm => ?_) (fun b hb => hb) hI.pair.symm.apart hI.pair.symm.highM).symm
    rw [hu op hop] at hx
    simp only [MemAct.touch?, Option.some.injEq] at hx
    subst hx
    exact .inr ⟨⟨_, rfl⟩, rfl⟩

/-- Goroutine n closes the channel. -/
theorem both_close (F : X.Fit) (h : Both X n as [] k0 k1 gs w t qs M S o0 o1 g0 g1) (hC : AtClose X g1 w) (hstep : stepT X.P (crowd gs w0 sl) = runT X.P (crowd gs w sl') n) : Gets X.P X.Fin gs w0 sl t := by
  obtain ⟨s, r, tm, hc⟩ := h.inv.chan
  obtain ⟨hrun1, hwake, hcl⟩ := hC
  obtain ⟨g', k, hst, hq⟩ := hcl s r tm hc
  have hp := h.inv.pos
  have hsz := h.inv.size
  have hn0 : (n == 0) = false := by simp; omega
  have hgo := runT_crowd_go (P := X.P) (sl := sl') (i := n) h.hn (by rw [hn0]; exact hst)
  rw [hgo] at hstep
  refine Gets.step hstep ?_
  have hev : MemOp.ofEvents n g1.frame.fn g1.frame.place #[⟨.obj X.d.c, false, true⟩, ⟨.obj X.d.c, true, true⟩] = MemOp.ofEvents n g1.frame.fn g1.frame.place #[⟨.obj X.d.c, false, true⟩] ++ #[{ g := n, fn := g1.frame.fn, pos := g1.frame.place, act := .close X.d.c }] := by
    rw [ofEvents_eq, ofEvents_eq]; simp [MemAct.ofEvent]
  rw [hev, ← Array.append_assoc]
  have hgs : g'.status ≠ .blocked ∧ g'.status ≠ .waiting := by
    rcases hq.status with h | h <;> rw [h] <;> simp
  have hwk : ∀ x, woken X.P g1 g' (w.setChan X.d.c 0 #[] true s r tm) x = x.again (w.setChan X.d.c 0 #[] true s r tm) := by
    intro x
    unfold woken
    rw [if_pos]
    simp [hwake, hgs]
  have hold : ∀ j x, 0 < j → j < n → (((gs.map (woken X.P g1 g' (w.setChan X.d.c 0 #[] true s r tm))).setIfInBounds n g')[j]?) = some x → gs[j]? = some x := by
    intro j x hj hjn hx
    rw [Array.getElem?_setIfInBounds_ne (by omega), Array.getElem?_map] at hx
    obtain ⟨y, hy, rfl⟩ := Option.map_eq_some_iff.1 hx
    rw [woken_quitsD (h.inv.old j y hj hjn hy)]
    exact hy
  obtain ⟨hI, hS⟩ := (h.look g1.frame.fn g1.frame.place).shut F (arr := (gs.map (woken X.P g1 g' (w.setChan X.d.c 0 #[] true s r tm))).setIfInBounds n g') (by simp [hsz]) hold (set_same (by simp [hsz])) hq g1.frame.fn g1.frame.place (s := s) (r := r) (tm := tm)
  have r0 : Rely X.d X.T0 o0 w (w.setChan X.d.c 0 #[] true s r tm) := Rely.chan w F.cB (box_ne F.cB h.inv.pair.highM h.inv.split.box0)
  have hlt : X.d.c < w.heap.size := Nat.lt_of_lt_of_le F.cB h.inv.split.bsize
  have hcc : (w.setChan X.d.c 0 #[] true s r tm).heap[X.d.c]? = some (.chan 0 #[] true s r tm) := by simp only [World.setChan]; rw [Array.getElem?_setIfInBounds_self_of_lt hlt]
  have hr : recvs as = [] := h.same
  have h0' : ((gs.map (woken X.P g1 g' (w.setChan X.d.c 0 #[] true s r tm))).setIfInBounds n g')[0]? = some (g0.again (w.setChan X.d.c 0 #[] true s r tm)) := by
    rw [Array.getElem?_setIfInBounds_ne (by omega), Array.getElem?_map, h.h0, Option.map_some, hwk]
  obtain ⟨hI0, h00, hn0', hM, hS1, hsame, hal⟩ := h
  cases hM with
  | walks hG =>
    rw [again_running _ (.inl (GoM.running hG))] at h0'
    exact phaseB F _ _ _ as g0 _ _ _ _ _ M S o0 o1 _ rfl hr ((IsB.walks hG : IsB X as o0 g0 w _).rely r0) rfl h0' hI hS
  | waits e hstop hl =>
    obtain rfl := recvs_end hr hl
    rw [e, Shared.rcv, again_recv_closed hcc] at h0'
    exact phaseB F _ _ _ [] _ _ _ _ _ _ M S o0 o1 _ rfl rfl (IsB.woken rfl rfl fun w₁ h₁ => hstop w₁ (r0.trans h₁)) rfl h0' hI hS

/-- PHASE A. -/
theorem phaseA (F : X.Fit) : ∀ A K L, Done X n A K L := by
  refine lex3 fun A K L ih => ?_
  intro as bs k0 k1 gs w sl t qs M S o0 o1 g0 g1 hA hK hL hB
  have hp := hB.inv.pos
  have hsz := hB.inv.size
  have haw : ∀ x ∈ gs, awake x := by
    intro x hx
    obtain ⟨j, hj, rfl⟩ := Array.mem_iff_getElem.1 hx
    by_cases hj0 : j = 0
    · subst hj0
      have : gs[0] = g0 := by simpa [Array.getElem?_eq_getElem hj] using hB.h0
      rw [this]; exact awake_of (hB.isM.status.elim (fun h => .inl h.1) fun h => .inr (.inl h.1))
    · by_cases hjn : j = n
      · subst hjn
        have : gs[j] = g1 := by simpa [Array.getElem?_eq_getElem hj] using hB.hn
        rw [this]; exact awake_of (hB.isS.status.elim (fun h => .inl h.1) fun h => .inr (.inl h.1))
      · exact awake_of ((hB.inv.old j _ (by omega) (by omega) (Array.getElem?_eq_getElem hj)).status.elim .inl fun x => .inr (.inr x))
  have hsome : ∃ (i : Nat) (g : Goroutine), gs[i]? = some g ∧ g.status = .running := by
    rcases hB.isM.status with h | ⟨_, h⟩
    · exact ⟨0, g0, hB.h0, h.1⟩
    · rcases hB.isS.status with h' | ⟨_, h'⟩
      · exact ⟨n, g1, hB.hn, h'.1⟩
      · have := hB.alive; omega
  obtain ⟨i, x, e, sl', hi, hx, hst⟩ := crowd_pick (P := X.P) (w := w) (sl := sl) haw hsome
  have hE := hB.at e
  by_cases hi0 : i = 0
  · subst hi0
    rw [hB.h0] at hi
    obtain rfl := Option.some.inj hi
    have hM := hE.isM
    cases hM with
    | waits eg _ _ => rw [eg] at hx; cases hx
    | walks hG =>
      rename_i m
      rcases goes_cases hG with hstop | ⟨m', rfl, _, hgo⟩
      · have hs := hstop _ (Rely.refl _)
        cases as with
        | nil =>
          -- the sender cannot wait
          have hS := hE.isS
          have hsame := hE.same
          cases hS with
          | waits hl _ _ => rw [hl] at hsame; simp [recvs, sends] at hsame
          | walks hH => exact both_park0 F hE hs.2.1 (GoS.running hH) (by omega) hst hstop (by simp) (ih _ _ _ (.inr ⟨hA, .inl (by omega)⟩))
        | cons a as =>
          cases a with
          | box =>
            obtain ⟨_, g', w', es, hstep, hbx, hev, m2, hG2⟩ := hs
            exact both_step0 F hE (fun b hb => hbx.old (Nat.lt_of_lt_of_le hb hE.inv.split.bsize)) (hE.inv.split.box F.tb0 F.tb1 hbx) (hE.inv.split.feltBox hbx) hev hstep hst hG2 hE.same (ih _ _ _ (.inl (by rw [← hA]; simp)))
          | recv v =>
            obtain ⟨_, hstep, m2, hG2⟩ := hs
            have hS := hE.isS
            have hsame := hE.same
            cases hS with
            | waits hl eg hstop1 =>
              subst hl
              simp [recvs, sends] at hsame
              obtain ⟨rfl, hsame⟩ := hsame
              obtain ⟨_, _, m3, hH⟩ := hstop1 _ (Rely.refl _)
              exact both_recv F hE rfl eg hstep hG2 hH hsame hst (ih _ _ _ (.inl (by rw [← hA]; simp; omega)))
            | walks hH => exact both_park0 F hE hstep (GoS.running hH) (by omega) hst hstop (by simp) (ih _ _ _ (.inr ⟨hA, .inl (by omega)⟩))
      · obtain ⟨g', w', es, hstep, ⟨hT, hev⟩, hG2⟩ := hgo _ (Rely.refl _)
        exact both_step0 F hE (fun b hb => hE.inv.split.low hE.inv.pair.highM hT hb) (hE.inv.split.turn F.dis hT) (hE.inv.split.felt hE.inv.pair.apart hE.inv.pair.highM hT) hev hstep hst hG2 hE.same (ih _ _ _ (.inr ⟨hA, .inl (by omega)⟩))
  · by_cases hin : i = n
    · subst hin
      rw [hB.hn] at hi
      obtain rfl := Option.some.inj hi
      have hS := hE.isS
      cases hS with
      | waits _ eg _ => rw [eg] at hx; cases hx
      | walks hH =>
        rename_i m
        rcases goes_cases hH with hstop | ⟨m', rfl, _, hgo⟩
        · have hs := hstop _ (Rely.refl _)
          cases bs with
          | nil => exact both_close F hE hs hst
          | cons a bs =>
            cases a with
            | box =>
              obtain ⟨_, g', w', es, hstep, hbx, hev, m2, hG2⟩ := hs
              exact both_stepN F hE (fun b hb => hbx.old (Nat.lt_of_lt_of_le hb hE.inv.split.bsize)) (hE.inv.split.symm.box F.tb1 F.tb0 hbx) (hE.inv.split.symm.feltBox hbx) hev hstep hst hG2 hE.same (ih _ _ _ (.inl (by rw [← hA]; simp)))
            | send v =>
              obtain ⟨_, hstep, m2, hG2⟩ := hs
              have hM := hE.isM
              have hsame := hE.same
              cases hM with
              | waits eg hstop0 hl =>
                cases as with
                | nil => simp [recvs, sends] at hsame
                | cons a as =>
                  cases a with
                  | box => exact absurd rfl (hl as)
                  | recv v' =>
                    simp [recvs, sends] at hsame
                    obtain ⟨rfl, hsame⟩ := hsame
                    obtain ⟨_, _, m3, hG3⟩ := hstop0 _ (Rely.refl _)
                    exact both_send F hE eg hstep hG3 hG2 hsame hst (ih _ _ _ (.inl (by rw [← hA]; simp; omega)))
              | walks hG => exact both_parkN F hE rfl hstep (GoM.running hG) (by omega) hst hstop (ih _ _ _ (.inr ⟨hA, .inl (by omega)⟩))
        · obtain ⟨g', w', es, hstep, ⟨hT, hev⟩, hG2⟩ := hgo _ (Rely.refl _)
          have hdis : ∀ ty, X.T1 ty → ¬ X.T0 ty := fun ty h1 h0 => F.dis ty h0 h1
          exact both_stepN F hE (fun b hb => by
              refine hT.rest b (Nat.lt_of_lt_of_le hb hE.inv.split.bsize) fun ho => ?_
              have := hE.inv.pair.highS b (hE.inv.split.symm.mine ho)
              omega) (hE.inv.split.symm.turn hdis hT) (hE.inv.split.symm.felt hE.inv.pair.symm.apart hE.inv.pair.highS hT) hev hstep hst hG2 hE.same (ih _ _ _ (.inr ⟨hA, .inl (by omega)⟩))
    · exact both_slip F hE hi hx (by omega) hin hst fun L' hL' => by rw [hA, hK]; exact ih _ _ _ (.inr ⟨rfl, .inr ⟨rfl, by omega⟩⟩)

end Go.Lx

/- From the go statement to the end of the phase. -/
set_option linter.unusedSimpArgs false
set_option linter.unusedVariables false
namespace Go.Lx
open Go.Conc
open Go.ConcN (sumTo upd sumTo_upd upd_ne upd_same)

/-- Goroutine 0 stands at a go statement. -/
structure AtGo (X : Shared) (as : List MAct) (bs : List SAct) (g : Goroutine) (w : World) : Prop where
  fit : X.Fit
  run : g.status = .running
  size : X.d.B = w.heap.size
  quit : ∃ s r tm, w.heap[X.q]? = some (.chan 0 #[] false s r tm)
  chan : ∃ s r tm, w.heap[X.d.c]? = some (.chan 0 #[] false s r tm)
  same : recvs as = sends bs
  step : ∀ e, ∃ g' child, stepG X.P true g (w.at e) = .spawn g' child (w.at e) #[] ∧ (∃ m, GoM X as none m g' (w.at e)) ∧ (∃ m, GoS X bs none m child (w.at e))

theorem at_go {X : Shared} {as : List MAct} {bs : List SAct} {g : Goroutine} {w : World} (h : AtGo X as bs g w) :
    ∀ (L e : Nat) (gs : Array Goroutine) (sl : Option (Nat × Nat)) (t : Trace) (q : Nat → Nat), sumTo gs.size q = L → gs[0]? = some g → Leavers X.P t gs q → Kn t → Gets X.P X.Fin gs (w.at e) sl t := by
  intro L
  induction L using Nat.strongRecOn with
  | ind L ih =>
  intro e0 gs sl t q hL h0 hl hK
  have hlt0 : 0 < gs.size := (Array.getElem?_eq_some_iff.1 h0).1
  have haw : ∀ x ∈ gs, awake x := by
    intro x hx
    obtain ⟨i, hi, rfl⟩ := Array.mem_iff_getElem.1 hx
    rcases Nat.eq_zero_or_pos i with rfl | hpos
    · have : gs[0] = g := by simpa [Array.getElem?_eq_getElem hi] using h0
      rw [this]; exact awake_of (.inl h.run)
    · exact awake_of ((hl.old i _ hpos (Array.getElem?_eq_getElem hi)).status.elim .inl fun x => .inr (.inr x))
  obtain ⟨i, x, e, sl', hi, hx, hst⟩ := crowd_pick (P := X.P) (w := w.at e0) (sl := sl) haw ⟨0, g, h0, h.run⟩
  have hat : (w.at e0).at e = w.at e := rfl
  rw [hat] at hst
  rcases Nat.eq_zero_or_pos i with rfl | hpos
  · rw [h0] at hi
    obtain rfl := Option.some.inj hi
    obtain ⟨g', child, hs, ⟨m0, hG⟩, ⟨m1, hH⟩⟩ := h.step e
    rw [runT_crowd_spawn (P := X.P) (i := 0) h0 (show stepG X.P (0 == 0) _ _ = _ from hs)] at hst
    refine Gets.step hst ?_
    have hops : ((MemOp.ofEvents 0 g.frame.fn g.frame.place #[]).push { g := 0, fn := g.frame.fn, pos := g.frame.place, act := .go gs.size } |>.push { g := gs.size, fn := child.frame.fn, pos := g.frame.place, act := .start })
        = #[{ g := 0, fn := g.frame.fn, pos := g.frame.place, act := .go gs.size }, { g := gs.size, fn := child.frame.fn, pos := g.frame.place, act := .start }] := rfl
    rw [hops]
    have hd : ∀ op ∈ (#[{ g := 0, fn := g.frame.fn, pos := g.frame.place, act := .go gs.size }, { g := gs.size, fn := child.frame.fn, pos := g.frame.place, act := .start }] : Array MemOp), op.act ≠ .mark .disable ∧ op.act ≠ .mark .enable := by simp
    have hsz : ((gs.setIfInBounds 0 g').push child).size = gs.size + 1 := by simp
    refine phaseA h.fit (n := gs.size) _ _ _ as bs (m0 + 1) (m1 + 1) _ (w.at e) sl' _ q (fun _ => False) (fun _ => False) none none g' child rfl rfl rfl ⟨⟨hlt0, hsz, Nat.le_succ _, fun j y hj hjn hy => ?_, fun j hj => ?_, pair_begin hK (by omega) (hl.above _ (Nat.le_refl _)) _ _ _ _, ?_, fun _ => ?_, ?_, h.quit, h.chan⟩, ?_, ?_, .walks hG, .walks hH, h.same, by omega⟩
    · rw [Array.getElem?_push_lt (by simpa using hjn), ← Array.getElem?_eq_getElem, Array.getElem?_setIfInBounds_ne (by omega)] at hy
      rw [Deaf_still t j _ hd]
      exact hl.old j y hj hy
    · rw [Deaf_still t j _ hd]; exact hl.above j (by omega)
    · rw [Deaf_still t 0 _ hd]; exact hK.hears
    · rw [Deaf_still t _ _ hd]; exact hl.above _ (Nat.le_refl _)
    · refine ⟨by rw [h.size]; exact Nat.le_refl _, fun b cs ty fz hb hc _ => ?_, fun b cs ty fz hb hc _ => ?_, by simp, by simp, by simp, by simp⟩
      · have := (Array.getElem?_eq_some_iff.1 hc).1
        have hwe : (w.at e).heap.size = w.heap.size := rfl
        rw [h.size] at hb; omega
      · have := (Array.getElem?_eq_some_iff.1 hc).1
        have hwe : (w.at e).heap.size = w.heap.size := rfl
        rw [h.size] at hb; omega
    · rw [Array.getElem?_push_lt (by simpa using hlt0), ← Array.getElem?_eq_getElem]; exact set_same hlt0
    · have : gs.size = (gs.setIfInBounds 0 g').size := by simp
      rw [this, Array.getElem?_push_size]
  · have hq := hl.old i x hpos hi
    have hi0 : (i == 0) = false := by simp; omega
    have hlt : i < gs.size := (Array.getElem?_eq_some_iff.1 hi).1
    cases hqi : q i with
    | zero => rw [hqi] at hq; rw [hq.1] at hx; cases hx
    | succ k =>
      rw [hqi] at hq
      rcases hq with ⟨hf, _⟩ | ⟨_, g', es, hm, hstp, hq'⟩
      · rw [hf] at hx; cases hx
      have hund : (gs.map (woken X.P x g' (w.at e))).setIfInBounds i g' = gs.setIfInBounds i g' := by
        refine undisturbed fun j y _ hy => ?_
        rcases Nat.eq_zero_or_pos j with rfl | hj
        · rw [h0] at hy
          obtain rfl := Option.some.inj hy
          exact .inl h.run
        · exact (hl.old j y hj hy).status.imp id .inl
      have hu : ∀ op ∈ MemOp.ofEvents i x.frame.fn x.frame.place es, op.g = i := fun op hop => by obtain ⟨e, _, rfl⟩ := Conc.mem_ofEvents hop; rfl
      rw [runT_crowd_go (P := X.P) (i := i) hi (by rw [hi0]; exact hstp (w.at e)), hund] at hst
      refine Gets.step hst ?_
      refine ih (sumTo (gs.setIfInBounds i g').size (upd q i k)) ?_ e _ sl' _ (upd q i k) rfl (by rw [Array.getElem?_setIfInBounds_ne (by omega)]; exact h0) ⟨fun j y hj hy => ?_, fun j hj => ?_⟩
        (hK.appMute (g := i) (by omega) hu (fun op hop => by obtain ⟨e, he, rfl⟩ := Conc.mem_ofEvents hop; exact touch_mute (hm e he)))
      · rw [← hL, Array.size_setIfInBounds]; exact sumTo_slip hlt hqi
      · by_cases hji : i = j
        · subst hji
          rw [set_same hlt] at hy
          obtain rfl := Option.some.inj hy
          rw [upd_same, Deaf_own]
          exact hq'
        · rw [Array.getElem?_setIfInBounds_ne hji] at hy
          rw [upd_ne q k (Ne.symm hji), Deaf_other t hji _ hu]
          exact hl.old j y hj hy
      · have hj' : gs.size ≤ j := by simpa using hj
        rw [Deaf_other t (g' := i) (by omega) _ hu]
        exact hl.above j hj'

/-- THE PHASE. -/
theorem phase {X : Shared} {as : List MAct} {bs : List SAct} {g : Goroutine} {w : World} (h : AtGo X as bs g w) {gs : Array Goroutine} {sl : Option (Nat × Nat)} {t : Trace} {q : Nat → Nat} (h0 : gs[0]? = some g) (hL : Leavers X.P t gs q) (hK : Kn t) :
    Gets X.P X.Fin gs w sl t := at_go h _ w.drawn gs sl t q rfl h0 hL hK

end Go.Lx
