/- Part 11 of what the proof rests on. -/
import Derived.Conc.DeferLaws
import Derived.Test.YtkmbmgmfcecfkaaDoorK09
import Derived.Test.YtkmbmgmfcecfkaaDoorK10
set_option linter.unusedSimpArgs false
set_option linter.unusedVariables false
namespace Go.Lx
open Go.Conc
open Go.ConcN (sumTo upd sumTo_upd upd_ne upd_same)
variable {X : Shared} {n top : Nat} {cl : Bool} {gs : Array Goroutine} {w w' : World} {t u : Trace} {qs : Nat → Nat} {M S : Nat → Prop} {o0 o1 o0' o1' : Option Nat}
variable {as : List MAct} {bs : List SAct} {k0 k1 : Nat} {g0 g1 : Goroutine} {A K L : Nat} {sl sl' : Option (Nat × Nat)} {w0 : World}
theorem box_ne (hB : X.d.c < X.d.B) (hM : ∀ b, M b → X.d.B ≤ b) (hb : ∀ b, o0 = some b → M b) : o0 ≠ some X.d.c := fun e => by have := hM _ (hb _ e); omega
theorem both_met (F : X.Fit) (h : Both X n as bs k0 k1 gs w t qs M S o0 o1 g0 g1) {as' : List MAct} {bs' : List SAct} {g0' g1' : Goroutine} {m0 m1 : Nat} (hG : GoM X as' o0 m0 g0' w) (hH : GoS X bs' o1 m1 g1' w) (hsame : recvs as' = sends bs')
    {arr : Array Goroutine} (harr : arr.size = n + 1) (ha0 : arr[0]? = some g0') (han : arr[n]? = some g1') (haj : ∀ j, j ≠ 0 → j ≠ n → arr[j]? = gs[j]?)
    (hn : ∀ op ∈ u, op.act.touch? = none) (hd : ∀ op ∈ u, op.act ≠ .mark .disable ∧ op.act ≠ .mark .enable) {s r : Nat} {tm : Bool}
    (hstep : stepT X.P (crowd gs w0 sl) = (.next (crowd arr (w.setChan X.d.c 0 #[] false s r tm) sl'), u))
    (hD : Done X n (as'.length + bs'.length) (m0 + 1 + (m1 + 1)) (sumTo gs.size qs)) : Gets X.P X.Fin gs w0 sl t := by
  refine Gets.step hstep ?_
  have hp := h.inv.pos
  have r0 : Rely X.d X.T0 o0 w (w.setChan X.d.c 0 #[] false s r tm) := Rely.chan w F.cB (box_ne F.cB h.inv.pair.highM h.inv.split.box0)
  have r1 : Rely X.d X.T1 o1 w (w.setChan X.d.c 0 #[] false s r tm) := Rely.chan w F.cB (box_ne F.cB h.inv.pair.highS h.inv.split.box1)
  refine hD as' bs' (m0 + 1) (m1 + 1) arr _ _ _ qs M S o0 o1 g0' g1' rfl rfl (by rw [harr, h.inv.size]) ⟨(h.inv.dull F hn hd).crew harr (fun j x hj hjn hx => by rwa [haj j (by omega) (by omega)] at hx), ha0, han, ?_, ?_, hsame, by omega⟩
  · exact (IsM.walks hG : IsM X as' o0 g0' w (m0 + 1)).rely r0
  · exact (IsS.walks hH : IsS X bs' o1 g1' w (m1 + 1)).rely r1
theorem both_recv (F : X.Fit) (h : Both X n as bs k0 k1 gs w t qs M S o0 o1 g0 g1) {v : Value} {as' : List MAct} {bs' : List SAct} {gp : Goroutine} (hb : bs = .send v :: bs') (hg1 : g1 = parked gp (X.sel v) .select)
    (hst : stepG X.P true g0 w = .comm g0 X.rcv true (.recv true) w #[]) {m0 m1 : Nat} (hG : GoM X as' o0 m0 (g0.finishComm X.P X.rcv (.recv true) 0 v true) w) (hH : GoS X bs' o1 m1 (gp.finishComm X.P (X.sel v) .select 0 undef false) w)
    (hsame : recvs as' = sends bs') (hstep : stepT X.P (crowd gs w0 sl) = runT X.P (crowd gs w sl') 0)
    (hD : Done X n (as'.length + bs'.length) (m0 + 1 + (m1 + 1)) (sumTo gs.size qs)) : Gets X.P X.Fin gs w0 sl t := by
  obtain ⟨s, r, tm, hc⟩ := h.inv.chan
  have hp := h.inv.pos
  have hsz := h.inv.size
  have hpar : partners (gs.setIfInBounds 0 ph) X.d.c true = [(n, 0)] := by
    rw [partners0 h, hg1, (offers_sel F).1]; rfl
  have hrun := recv_meets_sel (P := X.P) (sl := sl') (i := 0) (j := n) (k := 0) (v := v) (zj := X.zc) h.h0 (show stepG X.P (0 == 0) _ _ = _ from hst) hc (by omega) (by rw [h.hn, hg1]) (by simp [Shared.sel]) hpar
  rw [hrun, ofEvents_nil, Array.empty_append] at hstep
  refine both_met F h hG hH hsame (by simp [hsz]) ?_ ?_ (fun j h1 h2 => ?_) ?_ ?_ hstep hD
  · exact set_same (by simp [hsz])
  · rw [Array.getElem?_setIfInBounds_ne (by omega)]; exact set_same (by omega)
  · rw [Array.getElem?_setIfInBounds_ne (by omega), Array.getElem?_setIfInBounds_ne (by omega)]
  · simp [MemAct.touch?]
  · simp
theorem both_send (F : X.Fit) (h : Both X n as bs k0 k1 gs w t qs M S o0 o1 g0 g1) {v : Value} {as' : List MAct} {bs' : List SAct} {gp : Goroutine} (hg0 : g0 = parked gp X.rcv (.recv true))
    (hst : stepG X.P false g1 w = .comm g1 (X.sel v) true .select w #[]) {m0 m1 : Nat} (hG : GoM X as' o0 m0 (gp.finishComm X.P X.rcv (.recv true) 0 v true) w) (hH : GoS X bs' o1 m1 (g1.finishComm X.P (X.sel v) .select 0 undef false) w)
    (hsame : recvs as' = sends bs') (hstep : stepT X.P (crowd gs w0 sl) = runT X.P (crowd gs w sl') n)
    (hD : Done X n (as'.length + bs'.length) (m0 + 1 + (m1 + 1)) (sumTo gs.size qs)) : Gets X.P X.Fin gs w0 sl t := by
  obtain ⟨s, r, tm, hc⟩ := h.inv.chan
  obtain ⟨s', r', tm', hq⟩ := h.inv.quit
  have hp := h.inv.pos
  have hsz := h.inv.size
  have hn0 : (n == 0) = false := by simp; omega
  have hpar : partners (gs.setIfInBounds n ph) X.d.c false = [(0, 0)] := by
    rw [partnersN h, hg0]
    simp only [Shared.rcv, offersAt_parked_recv, if_true, List.map_cons, List.map_nil]
  have ho : ∀ (m : Nat) (c' : CommCase), m ≠ 0 → (X.sel v)[m]? = some c' → NoWays w (gs.setIfInBounds n ph) c' := by
    intro m c' hm hc'
    have hm1 : m = 1 := by
      have := (Array.getElem?_eq_some_iff.1 hc').1
      simp [Shared.sel] at this
      omega
    subst hm1
    simp [Shared.sel] at hc'
    subst hc'
    refine ways_recv_none hq ?_
    rw [partnersN h, hg0]
    simp only [Shared.rcv, offersAt_parked_recv', List.map_nil]
  have hrun := sel_send_meets (P := X.P) (sl := sl') (i := n) (j := 0) (k := 0) (gj := gp) (zj := X.z) (shj := .recv true) h.hn (by rw [hn0]; exact hst) (show (X.sel v)[0]? = some (scase X.d.c v X.zc) by simp [Shared.sel]) ho hc (by omega) (by rw [h.h0, hg0]; rfl) hpar
  rw [hrun, ofEvents_nil, Array.empty_append] at hstep
  refine both_met F h hG hH hsame (by simp [hsz]) ?_ ?_ (fun j h1 h2 => ?_) ?_ ?_ hstep hD
  · rw [Array.getElem?_setIfInBounds_ne (by omega)]; exact set_same (by omega)
  · exact set_same (by simp [hsz])
  · rw [Array.getElem?_setIfInBounds_ne (by omega), Array.getElem?_setIfInBounds_ne (by omega)]
  · simp [MemAct.touch?]
  · simp
theorem recvs_end {l : List MAct} (h : recvs l = []) (hb : ∀ l', l ≠ .box :: l') : l = [] := by
  cases l with
  | nil => rfl
  | cons a l => cases a with
    | box => exact absurd rfl (hb l)
    | recv v => simp [recvs] at h
theorem Both.look (h : Both X n as [] k0 k1 gs w t qs M S o0 o1 g0 g1) (fn : FuncId) (pos : String) : Inv X n n false gs w (t ++ MemOp.ofEvents n fn pos #[⟨.obj X.d.c, false, true⟩]) qs M S o0 o1 := by
  have hu : ∀ op ∈ MemOp.ofEvents n fn pos #[⟨.obj X.d.c, false, true⟩], op = { g := n, fn, pos, act := .access ⟨.obj X.d.c, false, true⟩ } := fun op hop => by
    rw [ofEvents_eq] at hop; simpa [MemAct.ofEvent] using hop
  have hd : ∀ op ∈ MemOp.ofEvents n fn pos #[⟨.obj X.d.c, false, true⟩], op.act ≠ .mark .disable ∧ op.act ≠ .mark .enable := fun op hop => by rw [hu op hop]; simp
  have hI := h.inv
  refine ⟨hI.pos, hI.size, hI.topl, fun j x hj hjt hx => ?_, fun j hj => ?_, ?_, (Deaf_still t 0 _ hd).trans hI.hears0, fun hc => (Deaf_still t n _ hd).trans (hI.hearsN hc), hI.split, hI.quit, hI.chan⟩
  · rw [Deaf_still t j _ hd]; exact hI.old j x hj hjt hx
  · rw [Deaf_still t j _ hd]; exact hI.above j hj
  · refine (hI.pair.symm.app (fun op hop => by rw [hu op hop]) (fun op hop x hx hm => ?_) (fun b hb => hb) hI.pair.symm.apart hI.pair.symm.highM).symm
    rw [hu op hop] at hx
    simp only [MemAct.touch?, Option.some.injEq] at hx
    subst hx
    exact .inr ⟨⟨_, rfl⟩, rfl⟩
theorem both_close (F : X.Fit) (h : Both X n as [] k0 k1 gs w t qs M S o0 o1 g0 g1) (hC : AtClose X g1 w) (hstep : stepT X.P (crowd gs w0 sl) = runT X.P (crowd gs w sl') n) : Gets X.P X.Fin gs w0 sl t := by
  obtain ⟨s, r, tm, hc⟩ := h.inv.chan
  obtain ⟨hrun1, hwake, hcl⟩ := hC
  obtain ⟨g', k, hst, hq⟩ := hcl s r tm hc
  have hp := h.inv.pos
  have hsz := h.inv.size
  have hn0 : (n == 0) = false := by simp; omega
  have hgo := runT_crowd_go (P := X.P) (sl := sl') (i := n) h.hn (by rw [hn0]; exact hst)
  rw [hgo] at hstep
  refine Gets.step hstep ?_
  have hev : MemOp.ofEvents n g1.frame.fn g1.frame.place #[⟨.obj X.d.c, false, true⟩, ⟨.obj X.d.c, true, true⟩] = MemOp.ofEvents n g1.frame.fn g1.frame.place #[⟨.obj X.d.c, false, true⟩] ++ #[{ g := n, fn := g1.frame.fn, pos := g1.frame.place, act := .close X.d.c }] := by
    rw [ofEvents_eq, ofEvents_eq]; simp [MemAct.ofEvent]
  rw [hev, ← Array.append_assoc]
  have hgs : g'.status ≠ .blocked ∧ g'.status ≠ .waiting := by
    rcases hq.status with h | h <;> rw [h] <;> simp
  have hwk : ∀ x, woken X.P g1 g' (w.setChan X.d.c 0 #[] true s r tm) x = x.again (w.setChan X.d.c 0 #[] true s r tm) := by
    intro x
    unfold woken
    rw [if_pos]
    simp [hwake, hgs]
  have hold : ∀ j x, 0 < j → j < n → (((gs.map (woken X.P g1 g' (w.setChan X.d.c 0 #[] true s r tm))).setIfInBounds n g')[j]?) = some x → gs[j]? = some x := by
    intro j x hj hjn hx
    rw [Array.getElem?_setIfInBounds_ne (by omega), Array.getElem?_map] at hx
    obtain ⟨y, hy, rfl⟩ := Option.map_eq_some_iff.1 hx
    rw [woken_quitsD (h.inv.old j y hj hjn hy)]
    exact hy
  obtain ⟨hI, hS⟩ := (h.look g1.frame.fn g1.frame.place).shut F (arr := (gs.map (woken X.P g1 g' (w.setChan X.d.c 0 #[] true s r tm))).setIfInBounds n g') (by simp [hsz]) hold (set_same (by simp [hsz])) hq g1.frame.fn g1.frame.place (s := s) (r := r) (tm := tm)
  have r0 : Rely X.d X.T0 o0 w (w.setChan X.d.c 0 #[] true s r tm) := Rely.chan w F.cB (box_ne F.cB h.inv.pair.highM h.inv.split.box0)
  have hlt : X.d.c < w.heap.size := Nat.lt_of_lt_of_le F.cB h.inv.split.bsize
  have hcc : (w.setChan X.d.c 0 #[] true s r tm).heap[X.d.c]? = some (.chan 0 #[] true s r tm) := by simp only [World.setChan]; rw [Array.getElem?_setIfInBounds_self_of_lt hlt]
  have hr : recvs as = [] := h.same
  have h0' : ((gs.map (woken X.P g1 g' (w.setChan X.d.c 0 #[] true s r tm))).setIfInBounds n g')[0]? = some (g0.again (w.setChan X.d.c 0 #[] true s r tm)) := by
    rw [Array.getElem?_setIfInBounds_ne (by omega), Array.getElem?_map, h.h0, Option.map_some, hwk]
  obtain ⟨hI0, h00, hn0', hM, hS1, hsame, hal⟩ := h
  cases hM with
  | walks hG =>
    rw [again_running _ (.inl (GoM.running hG))] at h0'
    exact phaseB F _ _ _ as g0 _ _ _ _ _ M S o0 o1 _ rfl hr ((IsB.walks hG : IsB X as o0 g0 w _).rely r0) rfl h0' hI hS
  | waits e hstop hl =>
    obtain rfl := recvs_end hr hl
    rw [e, Shared.rcv, again_recv_closed hcc] at h0'
    exact phaseB F _ _ _ [] _ _ _ _ _ _ M S o0 o1 _ rfl rfl (IsB.woken rfl rfl fun w₁ h₁ => hstop w₁ (r0.trans h₁)) rfl h0' hI hS
theorem phaseA (F : X.Fit) : ∀ A K L, Done X n A K L := by
  refine lex3 fun A K L ih => ?_
  intro as bs k0 k1 gs w sl t qs M S o0 o1 g0 g1 hA hK hL hB
  have hp := hB.inv.pos
  have hsz := hB.inv.size
  have haw : ∀ x ∈ gs, awake x := by
    intro x hx
    obtain ⟨j, hj, rfl⟩ := Array.mem_iff_getElem.1 hx
    by_cases hj0 : j = 0
    · subst hj0
      have : gs[0] = g0 := by simpa [Array.getElem?_eq_getElem hj] using hB.h0
      rw [this]; exact awake_of (hB.isM.status.elim (fun h => .inl h.1) fun h => .inr (.inl h.1))
    · by_cases hjn : j = n
      · subst hjn
        have : gs[j] = g1 := by simpa [Array.getElem?_eq_getElem hj] using hB.hn
        rw [this]; exact awake_of (hB.isS.status.elim (fun h => .inl h.1) fun h => .inr (.inl h.1))
      · exact awake_of ((hB.inv.old j _ (by omega) (by omega) (Array.getElem?_eq_getElem hj)).status.elim .inl fun x => .inr (.inr x))
  have hsome : ∃ (i : Nat) (g : Goroutine), gs[i]? = some g ∧ g.status = .running := by
    rcases hB.isM.status with h | ⟨_, h⟩
    · exact ⟨0, g0, hB.h0, h.1⟩
    · rcases hB.isS.status with h' | ⟨_, h'⟩
      · exact ⟨n, g1, hB.hn, h'.1⟩
      · have := hB.alive; omega
  obtain ⟨i, x, e, sl', hi, hx, hst⟩ := crowd_pick (P := X.P) (w := w) (sl := sl) haw hsome
  have hE := hB.at e
  by_cases hi0 : i = 0
  · subst hi0
    rw [hB.h0] at hi
    obtain rfl := Option.some.inj hi
    have hM := hE.isM
    cases hM with
    | waits eg _ _ => rw [eg] at hx; cases hx
    | walks hG =>
      rename_i m
      rcases goes_cases hG with hstop | ⟨m', rfl, _, hgo⟩
      · have hs := hstop _ (Rely.refl _)
        cases as with
        | nil =>
          have hS := hE.isS
          have hsame := hE.same
          cases hS with
          | waits hl _ _ => rw [hl] at hsame; simp [recvs, sends] at hsame
          | walks hH => exact both_park0 F hE hs.2.1 (GoS.running hH) (by omega) hst hstop (by simp) (ih _ _ _ (.inr ⟨hA, .inl (by omega)⟩))
        | cons a as =>
          cases a with
          | box =>
            obtain ⟨_, g', w', es, hstep, hbx, hev, m2, hG2⟩ := hs
            exact both_step0 F hE (fun b hb => hbx.old (Nat.lt_of_lt_of_le hb hE.inv.split.bsize)) (hE.inv.split.box F.tb0 F.tb1 hbx) (hE.inv.split.feltBox hbx) hev hstep hst hG2 hE.same (ih _ _ _ (.inl (by rw [← hA]; simp)))
          | recv v =>
            obtain ⟨_, hstep, m2, hG2⟩ := hs
            have hS := hE.isS
            have hsame := hE.same
            cases hS with
            | waits hl eg hstop1 =>
              subst hl
              simp [recvs, sends] at hsame
              obtain ⟨rfl, hsame⟩ := hsame
              obtain ⟨_, _, m3, hH⟩ := hstop1 _ (Rely.refl _)
              exact both_recv F hE rfl eg hstep hG2 hH hsame hst (ih _ _ _ (.inl (by rw [← hA]; simp; omega)))
            | walks hH => exact both_park0 F hE hstep (GoS.running hH) (by omega) hst hstop (by simp) (ih _ _ _ (.inr ⟨hA, .inl (by omega)⟩))
      · obtain ⟨g', w', es, hstep, ⟨hT, hev⟩, hG2⟩ := hgo _ (Rely.refl _)
        exact both_step0 F hE (fun b hb => hE.inv.split.low hE.inv.pair.highM hT hb) (hE.inv.split.turn F.dis hT) (hE.inv.split.felt hE.inv.pair.apart hE.inv.pair.highM hT) hev hstep hst hG2 hE.same (ih _ _ _ (.inr ⟨hA, .inl (by omega)⟩))
  · by_cases hin : i = n
    · subst hin
      rw [hB.hn] at hi
      obtain rfl := Option.some.inj hi
      have hS := hE.isS
      cases hS with
      | waits _ eg _ => rw [eg] at hx; cases hx
      | walks hH =>
        rename_i m
        rcases goes_cases hH with hstop | ⟨m', rfl, _, hgo⟩
        · have hs := hstop _ (Rely.refl _)
          cases bs with
          | nil => exact both_close F hE hs hst
          | cons a bs =>
            cases a with
            | box =>
              obtain ⟨_, g', w', es, hstep, hbx, hev, m2, hG2⟩ := hs
              exact both_stepN F hE (fun b hb => hbx.old (Nat.lt_of_lt_of_le hb hE.inv.split.bsize)) (hE.inv.split.symm.box F.tb1 F.tb0 hbx) (hE.inv.split.symm.feltBox hbx) hev hstep hst hG2 hE.same (ih _ _ _ (.inl (by rw [← hA]; simp)))
            | send v =>
              obtain ⟨_, hstep, m2, hG2⟩ := hs
              have hM := hE.isM
              have hsame := hE.same
              cases hM with
              | waits eg hstop0 hl =>
                cases as with
                | nil => simp [recvs, sends] at hsame
                | cons a as =>
                  cases a with
                  | box => exact absurd rfl (hl as)
                  | recv v' =>
                    simp [recvs, sends] at hsame
                    obtain ⟨rfl, hsame⟩ := hsame
                    obtain ⟨_, _, m3, hG3⟩ := hstop0 _ (Rely.refl _)
                    exact both_send F hE eg hstep hG3 hG2 hsame hst (ih _ _ _ (.inl (by rw [← hA]; simp; omega)))
              | walks hG => exact both_parkN F hE rfl hstep (GoM.running hG) (by omega) hst hstop (ih _ _ _ (.inr ⟨hA, .inl (by omega)⟩))
        · obtain ⟨g', w', es, hstep, ⟨hT, hev⟩, hG2⟩ := hgo _ (Rely.refl _)
          have hdis : ∀ ty, X.T1 ty → ¬ X.T0 ty := fun ty h1 h0 => F.dis ty h0 h1
          exact both_stepN F hE (fun b hb => by
              refine hT.rest b (Nat.lt_of_lt_of_le hb hE.inv.split.bsize) fun ho => ?_
              have := hE.inv.pair.highS b (hE.inv.split.symm.mine ho)
              omega) (hE.inv.split.symm.turn hdis hT) (hE.inv.split.symm.felt hE.inv.pair.symm.apart hE.inv.pair.highS hT) hev hstep hst hG2 hE.same (ih _ _ _ (.inr ⟨hA, .inl (by omega)⟩))
    · exact both_slip F hE hi hx (by omega) hin hst fun L' hL' => by rw [hA, hK]; exact ih _ _ _ (.inr ⟨rfl, .inr ⟨rfl, by omega⟩⟩)
end Go.Lx
namespace Go.Lx
open Go.Conc
open Go.ConcN (sumTo upd sumTo_upd upd_ne upd_same)
structure AtGo (X : Shared) (as : List MAct) (bs : List SAct) (g : Goroutine) (w : World) : Prop where
  fit : X.Fit
  run : g.status = .running
  size : X.d.B = w.heap.size
  quit : ∃ s r tm, w.heap[X.q]? = some (.chan 0 #[] false s r tm)
  chan : ∃ s r tm, w.heap[X.d.c]? = some (.chan 0 #[] false s r tm)
  same : recvs as = sends bs
  step : ∀ e, ∃ g' child, stepG X.P true g (w.at e) = .spawn g' child (w.at e) #[] ∧ (∃ m, GoM X as none m g' (w.at e)) ∧ (∃ m, GoS X bs none m child (w.at e))
theorem at_go {X : Shared} {as : List MAct} {bs : List SAct} {g : Goroutine} {w : World} (h : AtGo X as bs g w) :
    ∀ (L e : Nat) (gs : Array Goroutine) (sl : Option (Nat × Nat)) (t : Trace) (q : Nat → Nat), sumTo gs.size q = L → gs[0]? = some g → Leavers X.P t gs q → Kn t → Gets X.P X.Fin gs (w.at e) sl t := by
  intro L
  induction L using Nat.strongRecOn with
  | ind L ih =>
  intro e0 gs sl t q hL h0 hl hK
  have hlt0 : 0 < gs.size := (Array.getElem?_eq_some_iff.1 h0).1
  have haw : ∀ x ∈ gs, awake x := by
    intro x hx
    obtain ⟨i, hi, rfl⟩ := Array.mem_iff_getElem.1 hx
    rcases Nat.eq_zero_or_pos i with rfl | hpos
    · have : gs[0] = g := by simpa [Array.getElem?_eq_getElem hi] using h0
      rw [this]; exact awake_of (.inl h.run)
    · exact awake_of ((hl.old i _ hpos (Array.getElem?_eq_getElem hi)).status.elim .inl fun x => .inr (.inr x))
  obtain ⟨i, x, e, sl', hi, hx, hst⟩ := crowd_pick (P := X.P) (w := w.at e0) (sl := sl) haw ⟨0, g, h0, h.run⟩
  have hat : (w.at e0).at e = w.at e := rfl
  rw [hat] at hst
  rcases Nat.eq_zero_or_pos i with rfl | hpos
  · rw [h0] at hi
    obtain rfl := Option.some.inj hi
    obtain ⟨g', child, hs, ⟨m0, hG⟩, ⟨m1, hH⟩⟩ := h.step e
    rw [runT_crowd_spawn (P := X.P) (i := 0) h0 (show stepG X.P (0 == 0) _ _ = _ from hs)] at hst
    refine Gets.step hst ?_
    have hops : ((MemOp.ofEvents 0 g.frame.fn g.frame.place #[]).push { g := 0, fn := g.frame.fn, pos := g.frame.place, act := .go gs.size } |>.push { g := gs.size, fn := child.frame.fn, pos := g.frame.place, act := .start })
        = #[{ g := 0, fn := g.frame.fn, pos := g.frame.place, act := .go gs.size }, { g := gs.size, fn := child.frame.fn, pos := g.frame.place, act := .start }] := rfl
    rw [hops]
    have hd : ∀ op ∈ (#[{ g := 0, fn := g.frame.fn, pos := g.frame.place, act := .go gs.size }, { g := gs.size, fn := child.frame.fn, pos := g.frame.place, act := .start }] : Array MemOp), op.act ≠ .mark .disable ∧ op.act ≠ .mark .enable := by simp
    have hsz : ((gs.setIfInBounds 0 g').push child).size = gs.size + 1 := by simp
    refine phaseA h.fit (n := gs.size) _ _ _ as bs (m0 + 1) (m1 + 1) _ (w.at e) sl' _ q (fun _ => False) (fun _ => False) none none g' child rfl rfl rfl ⟨⟨hlt0, hsz, Nat.le_succ _, fun j y hj hjn hy => ?_, fun j hj => ?_, pair_begin hK (by omega) (hl.above _ (Nat.le_refl _)) _ _ _ _, ?_, fun _ => ?_, ?_, h.quit, h.chan⟩, ?_, ?_, .walks hG, .walks hH, h.same, by omega⟩
    · rw [Array.getElem?_push_lt (by simpa using hjn), ← Array.getElem?_eq_getElem, Array.getElem?_setIfInBounds_ne (by omega)] at hy
      rw [Deaf_still t j _ hd]
      exact hl.old j y hj hy
    · rw [Deaf_still t j _ hd]; exact hl.above j (by omega)
    · rw [Deaf_still t 0 _ hd]; exact hK.hears
    · rw [Deaf_still t _ _ hd]; exact hl.above _ (Nat.le_refl _)
    · refine ⟨by rw [h.size]; exact Nat.le_refl _, fun b cs ty fz hb hc _ => ?_, fun b cs ty fz hb hc _ => ?_, by simp, by simp, by simp, by simp⟩
      · have := (Array.getElem?_eq_some_iff.1 hc).1
        have hwe : (w.at e).heap.size = w.heap.size := rfl
        rw [h.size] at hb; omega
      · have := (Array.getElem?_eq_some_iff.1 hc).1
        have hwe : (w.at e).heap.size = w.heap.size := rfl
        rw [h.size] at hb; omega
    · rw [Array.getElem?_push_lt (by simpa using hlt0), ← Array.getElem?_eq_getElem]; exact set_same hlt0
    · have : gs.size = (gs.setIfInBounds 0 g').size := by simp
      rw [this, Array.getElem?_push_size]
  · have hq := hl.old i x hpos hi
    have hi0 : (i == 0) = false := by simp; omega
    have hlt : i < gs.size := (Array.getElem?_eq_some_iff.1 hi).1
    cases hqi : q i with
    | zero => rw [hqi] at hq; rw [hq.1] at hx; cases hx
    | succ k =>
      rw [hqi] at hq
      rcases hq with ⟨hf, _⟩ | ⟨_, g', es, hm, hstp, hq'⟩
      · rw [hf] at hx; cases hx
      have hund : (gs.map (woken X.P x g' (w.at e))).setIfInBounds i g' = gs.setIfInBounds i g' := by
        refine undisturbed fun j y _ hy => ?_
        rcases Nat.eq_zero_or_pos j with rfl | hj
        · rw [h0] at hy
          obtain rfl := Option.some.inj hy
          exact .inl h.run
        · exact (hl.old j y hj hy).status.imp id .inl
      have hu : ∀ op ∈ MemOp.ofEvents i x.frame.fn x.frame.place es, op.g = i := fun op hop => by obtain ⟨e, _, rfl⟩ := Conc.mem_ofEvents hop; rfl
      rw [runT_crowd_go (P := X.P) (i := i) hi (by rw [hi0]; exact hstp (w.at e)), hund] at hst
      refine Gets.step hst ?_
      refine ih (sumTo (gs.setIfInBounds i g').size (upd q i k)) ?_ e _ sl' _ (upd q i k) rfl (by rw [Array.getElem?_setIfInBounds_ne (by omega)]; exact h0) ⟨fun j y hj hy => ?_, fun j hj => ?_⟩
        (hK.appMute (g := i) (by omega) hu (fun op hop => by obtain ⟨e, he, rfl⟩ := Conc.mem_ofEvents hop; exact touch_mute (hm e he)))
      · rw [← hL, Array.size_setIfInBounds]; exact sumTo_slip hlt hqi
      · by_cases hji : i = j
        · subst hji
          rw [set_same hlt] at hy
          obtain rfl := Option.some.inj hy
          rw [upd_same, Deaf_own]
          exact hq'
        · rw [Array.getElem?_setIfInBounds_ne hji] at hy
          rw [upd_ne q k (Ne.symm hji), Deaf_other t hji _ hu]
          exact hl.old j y hj hy
      · have hj' : gs.size ≤ j := by simpa using hj
        rw [Deaf_other t (g' := i) (by omega) _ hu]
        exact hl.above j hj'
theorem phase {X : Shared} {as : List MAct} {bs : List SAct} {g : Goroutine} {w : World} (h : AtGo X as bs g w) {gs : Array Goroutine} {sl : Option (Nat × Nat)} {t : Trace} {q : Nat → Nat} (h0 : gs[0]? = some g) (hL : Leavers X.P t gs q) (hK : Kn t) :
    Gets X.P X.Fin gs w sl t := at_go h _ w.drawn gs sl t q rfl h0 hL hK
end Go.Lx
namespace Go.Lx
open Go.Conc
section
variable {P : Program} {main : Bool} {R : World → World → Prop} {D : World → World → Array Event → Prop} {Stop : Goroutine → World → Prop} {m : Nat} {b : Frame} {a : Act} {k : List Item} {cs : List Frame} {w : World}
theorem goes_seq (T : Terms R D) {x y : Code} (h : Goes P main R D Stop m (G (b.at a (.code x :: .code y :: k)) cs) w) : Goes P main R D Stop (m + 1) (G (b.at a (.code (.seq x y) :: k)) cs) w :=
  Goes.step rfl fun w₁ h₁ => by rw [stepG_seq]; exact ⟨T.idle _, h.rely T.trans h₁⟩
theorem goes_block (T : Terms R D) {id : Nat} {c : Code} (h : Goes P main R D Stop m (G (b.at a (.code c :: .inBlock id :: k)) cs) w) : Goes P main R D Stop (m + 1) (G (b.at a (.code (.block id c) :: k)) cs) w :=
  Goes.step rfl fun w₁ h₁ => by rw [stepG_block]; exact ⟨T.idle _, h.rely T.trans h₁⟩
theorem goes_inBlock (T : Terms R D) {id : Nat} (h : Goes P main R D Stop m (G (b.at a k) cs) w) : Goes P main R D Stop (m + 1) (G (b.at a (.inBlock id :: k)) cs) w :=
  Goes.step rfl fun w₁ h₁ => by rw [stepG_inBlock]; exact ⟨T.idle _, h.rely T.trans h₁⟩
theorem goes_loop (T : Terms R D) {c : Code} (h : Goes P main R D Stop m (G (b.at a (.code c :: .inLoop c :: k)) cs) w) : Goes P main R D Stop (m + 1) (G (b.at a (.code (.loop c) :: k)) cs) w :=
  Goes.step rfl fun w₁ h₁ => by rw [stepG_loop]; exact ⟨T.idle _, h.rely T.trans h₁⟩
theorem goes_inLoop (T : Terms R D) {c : Code} (h : Goes P main R D Stop m (G (b.at a (.code c :: .inLoop c :: k)) cs) w) : Goes P main R D Stop (m + 1) (G (b.at a (.inLoop c :: k)) cs) w :=
  Goes.step rfl fun w₁ h₁ => by rw [stepG_inLoop]; exact ⟨T.idle _, h.rely T.trans h₁⟩
theorem goes_scope (T : Terms R D) {c : Code} (h : Goes P main R D Stop m (G (b.at a (.code c :: .inScope c :: k)) cs) w) : Goes P main R D Stop (m + 1) (G (b.at a (.code (.scope c) :: k)) cs) w :=
  Goes.step rfl fun w₁ h₁ => by rw [stepG_scope]; exact ⟨T.idle _, h.rely T.trans h₁⟩
theorem goes_inScope (T : Terms R D) {c : Code} (h : Goes P main R D Stop m (G (b.at a k) cs) w) : Goes P main R D Stop (m + 1) (G (b.at a (.inScope c :: k)) cs) w :=
  Goes.step rfl fun w₁ h₁ => by rw [stepG_inScope]; exact ⟨T.idle _, h.rely T.trans h₁⟩
theorem goes_end (T : Terms R D) (h : Goes P main R D Stop m (G { b.at a [] with mode := .returning } cs) w) : Goes P main R D Stop (m + 1) (G (b.at a []) cs) w :=
  Goes.step rfl fun w₁ h₁ => by rw [stepG_end]; exact ⟨T.idle _, h.rely T.trans h₁⟩
theorem goes_region (T : Terms R D) {id : Nat} {ops : Array Oper} (h : Goes P main R D Stop m (G (b.at a (.inRegion ops (List.range ops.size) :: k)) cs) w) : Goes P main R D Stop (m + 1) (G (b.at a (.code (.region id ops false) :: k)) cs) w :=
  Goes.step rfl fun w₁ h₁ => by rw [stepG_region]; exact ⟨T.idle _, h.rely T.trans h₁⟩
theorem goes_code {fn : FuncId} {c : Code} {n : Nat} {Q : Exit → Act → World → Prop} (h : c.wpC P main R D fn n Q a w) (hb : b.fn = fn) (hk : b.kind ≠ .early)
    (hc : ∀ e a' w', Q e a' w' → After P main R D Stop m b k cs e a' w') : Goes P main R D Stop (m + n) (G (b.at a (.code c :: k)) cs) w := h b k cs Stop m hb hk hc
theorem goes_ops {fn : FuncId} {ops : Array Oper} {todo : List Nat} {n : Nat} {Q : Exit → Act → World → Prop} (h : OpsC P main R D fn ops todo n Q a w) (hb : b.fn = fn) (hk : b.kind ≠ .early)
    (hc : ∀ e a' w', Q e a' w' → After P main R D Stop m b k cs e a' w') : Goes P main R D Stop (m + n) (G (b.at a (.inRegion ops todo :: k)) cs) w := h b k cs Stop m hb hk hc
theorem goes_op {ops : Array Oper} {i : Nat} {rest : List Nat} {o : Oper} (ho : ops[i]? = some o) (hw : Region.wanted o (yielded ops a.tmps) = true) (hk : b.kind ≠ .early)
    (h : ∀ w₁, R w w₁ → ∀ K : Act → World → Prop, (∀ a' w', D w₁ w' (listed P b.fn a o w₁) ∧ Goes P main R D Stop m (G (b.at a' (.inRegion ops rest :: k)) cs) w' → K a' w') → uponK o a K ((execOp a.eval o).run P w₁)) :
    Goes P main R D Stop (m + 1) (G (b.at a (.inRegion ops (i :: rest) :: k)) cs) w :=
  Goes.step rfl fun w₁ h₁ => goes_oper_k ho hw hk fun K' hK' => h w₁ h₁ K' fun a' w' x => hK' a' w' x
theorem goes_stop (h : ∀ w₁, R w w₁ → Stop (G (b.at a k) cs) w₁) : Goes P main R D Stop 0 (G (b.at a k) cs) w := h
end
theorem goes_defer {P : Program} {main : Bool} {R : World → World → Prop} {D : World → World → Array Event → Prop} (T : Terms R D) {Stop : Goroutine → World → Prop} {m : Nat} {b : Frame} {a : Act} {k : List Item} {cs : List Frame} {w : World}
    {ops : Array Oper} {i : Nat} {rest : List Nat} {o : Oper} {dd : Deferred} (ho : ops[i]? = some o) (hw : Region.wanted o (yielded ops a.tmps) = true) (hk : b.kind ≠ .early)
    (hr : ∀ w, (execOp a.eval o).run P w = .ok (.defer dd) w) (he : ∀ w, (execOp a.eval o).events P w #[] = #[])
    (h : Goes P main R D Stop m (G (b.at (Act.put ⟨a.tmps, dd :: a.defers⟩ o.dst undef) (.inRegion ops rest :: k)) cs) w) : Goes P main R D Stop (m + 1) (G (b.at a (.inRegion ops (i :: rest) :: k)) cs) w := by
  refine Goes.step rfl fun w₁ h₁ => ?_
  have hs : stepG P main (G (b.at a (.inRegion ops (i :: rest) :: k)) cs) w₁ = .go (G (b.at (Act.put ⟨a.tmps, dd :: a.defers⟩ o.dst undef) (.inRegion ops rest :: k)) cs) w₁ #[] := by
    have hk' : (b.kind == CallKind.early) = false := by simpa using hk
    have hfin : ({ b.at a (.inRegion ops (i :: rest) :: k) with defers := dd :: a.defers } : Frame).finish undef = b.at (Act.put ⟨a.tmps, dd :: a.defers⟩ o.dst undef) (.inRegion ops rest :: k) := by
      have := Frame.finish_at b { a with defers := dd :: a.defers } ops i rest k undef
      rw [ho] at this; exact this
    have hl : seen P b.fn #[] = #[] := seen_none P _
    rw [stepG_oper ho hw, ← hfin]
    simp [stepG.apply, hr, he, hl, G, Frame.at, hk', GStep.after]
  rw [hs]
  exact ⟨T.idle _, h.rely T.trans h₁⟩
def dclose (c : Nat) (ats : Array TypeId) (ty : TypeId) (bs : Array Bool) : Deferred := { target := .builtin .close ats ty bs, args := #[.chan (some c)] }
theorem stepG_dclose {P : Program} {main : Bool} {b : Frame} {tmps : Array Value} {c : Nat} {ats : Array TypeId} {ty : TypeId} {bs : Array Bool} {ds : List Deferred} {todo : List Item} {cs : List Frame} {w : World}
    {cap s r : Nat} {buf : Array Value} {tm : Bool} (hc : w.heap[c]? = some (.chan cap buf false s r tm)) (hq : (P.funcs[b.fn]?).any (·.norace) = false) :
    stepG P main (G { b.at ⟨tmps, dclose c ats ty bs :: ds⟩ todo with mode := .returning } cs) w = .go (G { b.at ⟨tmps, ds⟩ todo with mode := .returning } cs) (w.setChan c cap buf true s r tm) #[⟨.obj c, false, true⟩, ⟨.obj c, true, true⟩] := by
  have hr : (invoke (dclose c ats ty bs).target (dclose c ats ty bs).args).run P w = .ok (.value (.tuple #[])) (w.setChan c cap buf true s r tm) := by
    simp [dclose, invoke, builtin, run_close_open _ _ hc, World.setChan]
  have he : (invoke (dclose c ats ty bs).target (dclose c ats ty bs).args).events P w #[] = #[⟨.obj c, false, true⟩, ⟨.obj c, true, true⟩] := by
    simp [dclose, invoke, builtin, events_close_open _ _ hc]
  have hs : seen P b.fn #[⟨.obj c, false, true⟩, ⟨.obj c, true, true⟩] = #[⟨.obj c, false, true⟩, ⟨.obj c, true, true⟩] := seen_eq hq (by intro e he f; simp at he; rcases he with rfl | rfl <;> simp)
  simp only [dclose] at hr he
  simp [G, stepG, unwind, callDeferred, Frame.at, dclose, hr, he, hs, GStep.after]
end Go.Lx
