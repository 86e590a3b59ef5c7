/- Part 10 of what the proof rests on. -/
import Derived.Test.YtkmbmgmfcecfkaaDoorK09
set_option linter.unusedSimpArgs false
set_option linter.unusedVariables false
namespace Go.Lx
open Go.Conc
open Go.ConcN (sumTo upd sumTo_upd upd_ne upd_same)
variable {X : Shared} {n top : Nat} {cl : Bool} {gs : Array Goroutine} {w w' : World} {t u : Trace} {qs : Nat → Nat} {M S : Nat → Prop} {o0 o1 o0' o1' : Option Nat}
theorem goes_cases {P : Program} {main : Bool} {R : World → World → Prop} {D : World → World → Array Event → Prop} {Stop : Goroutine → World → Prop} {m : Nat} {g : Goroutine} {w : World} (h : Goes P main R D Stop m g w) :
    (∀ w₁, R w w₁ → Stop g w₁) ∨ ∃ m', m = m' + 1 ∧ g.status = .running ∧ ∀ w₁, R w w₁ → ∃ g' w' es, stepG P main g w₁ = .go g' w' es ∧ D w₁ w' es ∧ Goes P main R D Stop m' g' w' := by
  cases m with
  | zero => exact .inl h
  | succ m =>
    rcases h with h | ⟨hs, h⟩
    · exact .inl h
    · refine .inr ⟨m, rfl, hs, fun w₁ h₁ => ?_⟩
      have := h w₁ h₁
      revert this
      cases stepG P main g w₁ <;> simp only [GStep.goes, false_implies]
      rename_i g' w' es
      exact fun ⟨a, b⟩ => ⟨g', w', es, rfl, a, b⟩
theorem StopM.running {l : List MAct} {o : Option Nat} {g : Goroutine} {w : World} (h : StopM X l o g w) : g.status = .running := by
  cases l with
  | nil => exact h.1
  | cons a l => cases a <;> exact h.1
theorem StopS.running {l : List SAct} {o : Option Nat} {g : Goroutine} {w : World} (h : StopS X l o g w) : g.status = .running := by
  cases l with
  | nil => exact h.1
  | cons a l => cases a <;> exact h.1
theorem GoM.running {l : List MAct} {o : Option Nat} {m : Nat} {g : Goroutine} {w : World} (h : GoM X l o m g w) : g.status = .running :=
  (goes_cases h).elim (fun h => (h w (Rely.refl w)).running) fun ⟨_, _, h, _⟩ => h
theorem GoS.running {l : List SAct} {o : Option Nat} {m : Nat} {g : Goroutine} {w : World} (h : GoS X l o m g w) : g.status = .running :=
  (goes_cases h).elim (fun h => (h w (Rely.refl w)).running) fun ⟨_, _, h, _⟩ => h
theorem sumTo_slip {i k m : Nat} (hlt : i < m) (hq : qs i = k + 1) : sumTo m (upd qs i k) < sumTo m qs := by
  have h : sumTo m (upd qs i k) + (k + 1) = sumTo m qs + k := by
    have := sumTo_upd qs k id hlt
    simpa [hq] using this
  omega
theorem lex3 {Q : Nat → Nat → Nat → Prop} (h : ∀ A K L, (∀ A' K' L', (A' < A ∨ (A' = A ∧ (K' < K ∨ (K' = K ∧ L' < L)))) → Q A' K' L') → Q A K L) : ∀ A K L, Q A K L := by
  intro A
  induction A using Nat.strongRecOn with
  | ind A ihA =>
  intro K
  induction K using Nat.strongRecOn with
  | ind K ihK =>
  intro L
  induction L using Nat.strongRecOn with
  | ind L ihL =>
  refine h A K L fun A' K' L' hlt => ?_
  rcases hlt with h | ⟨rfl, h | ⟨rfl, h⟩⟩
  · exact ihA A' h K' L'
  · exact ihK K' h L'
  · exact ihL L' h
theorem offers_leaver {P : Program} {k e r : Nat} {x : Goroutine} {send : Bool} (h : QuitsD P k e x) : offersAt x r send = [] :=
  offersAt_of_not_blocked (by rcases h.status with h | h <;> rw [h] <;> simp) r send
inductive IsB (X : Shared) (l : List MAct) (o : Option Nat) (g : Goroutine) (w : World) : Nat → Prop
  | walks {m : Nat} (h : GoM X l o m g w) : IsB X l o g w (m + 1)
  | woken {g₀ : Goroutine} (hl : l = []) (e : g = { parked g₀ X.rcv (.recv true) with status := .running }) (h : ∀ w₁, Rely X.d X.T0 o w w₁ → AtEnd X g₀ w₁) : IsB X l o g w 0
theorem IsB.running {l : List MAct} {o : Option Nat} {m : Nat} {g : Goroutine} {w : World} (h : IsB X l o g w m) : g.status = .running := by
  cases h with
  | walks h => exact GoM.running h
  | woken _ e _ => rw [e]
theorem IsB.rely {l : List MAct} {o : Option Nat} {m : Nat} {g : Goroutine} {w w₁ : World} (h : IsB X l o g w m) (r : Rely X.d X.T0 o w w₁) : IsB X l o g w₁ m := by
  cases h with
  | walks h => exact .walks (Goes.rely (R := Rely X.d X.T0 o) (fun _ _ _ a b => a.trans b) h r)
  | woken hl e h => exact .woken hl e fun w₂ h₂ => h w₂ (r.trans h₂)
theorem ends_closed {g g₀ : Goroutine} {p : Nat} {sl : Option (Nat × Nat)} (hI : Inv X n (n + 1) true gs w t qs M S o0 o1) (hS : Shut n X.d.c p t) (h0 : gs[0]? = some g)
    (hst : stepG X.P true g w = .comm g₀ X.rcv true (.recv true) w #[]) (hFin : X.Fin (g₀.finishComm X.P X.rcv (.recv true) 0 X.z false) w) {sl0 : Option (Nat × Nat)} {w0 : World}
    (hstep : stepT X.P (crowd gs w0 sl0) = runT X.P (crowd gs w sl) 0) : Gets X.P X.Fin gs w0 sl0 t := by
  obtain ⟨s, r, tm, hc⟩ := hI.chan
  have hp : partners (gs.setIfInBounds 0 ph) X.d.c true = [] := by
    refine partners_nil fun j x hj => ?_
    rcases getElem?_stand gs 0 j x hj with ⟨_, rfl⟩ | ⟨hj0, hx⟩
    · rfl
    · have hjl := (Array.getElem?_eq_some_iff.1 hx).1
      have := hI.size
      exact offers_leaver (hI.old j x (by omega) (by omega) hx)
  have hrun := crowd_recv_closed (P := X.P) (sl := sl) (i := 0) h0 (show stepG X.P (0 == 0) g w = _ from hst) hc hp
  rw [hrun] at hstep
  refine Gets.step hstep ?_
  have h0l : 0 < gs.size := (Array.getElem?_eq_some_iff.1 h0).1
  have hev : (MemOp.ofEvents 0 g.frame.fn g.frame.place #[]) = #[] := rfl
  rw [hev, Array.empty_append]
  have hu : ∀ op ∈ (#[{ g := 0, fn := g₀.frame.fn, pos := g₀.frame.place, act := .recvClosed X.d.c }] : Array MemOp), op.g = 0 := by simp
  refine ⟨0, _, _, _, _, _, qs, rfl, by simp [h0l]; rfl, hFin, ⟨fun j x hj hx => ?_, fun j hj => ?_⟩, pair_end hI.pair hI.hears0 hS⟩
  · rw [Array.getElem?_setIfInBounds_ne (by omega)] at hx
    rw [Deaf_other t (by omega) _ hu]
    have hjl := (Array.getElem?_eq_some_iff.1 hx).1
    have := hI.size
    exact hI.old j x hj (by omega) hx
  · have := hI.size
    have hj' : gs.size ≤ j := by simpa using hj
    rw [Deaf_other t (g := j) (g' := 0) (by omega) _ hu]
    exact hI.above j (by omega)
theorem others_leave {g : Goroutine} (hI : Inv X n (n + 1) cl gs w t qs M S o0 o1) (h0 : gs[0]? = some g) (hr : g.status = .running) : ∀ (i j : Nat) (x : Goroutine), j ≠ i → gs[j]? = some x → x.status = .running ∨ x.status = .finished ∨ x.again w' = x := by
  intro i j x _ hx
  rcases Nat.eq_zero_or_pos j with rfl | hj
  · rw [h0] at hx
    obtain rfl := Option.some.inj hx
    exact .inl hr
  · have hjl := (Array.getElem?_eq_some_iff.1 hx).1
    have := hI.size
    exact (hI.old j x hj (by omega) hx).status.imp id .inl
theorem phaseB (F : X.Fit) : ∀ (A K L : Nat), ∀ (l : List MAct) (g : Goroutine) (gs : Array Goroutine) (w : World) (sl : Option (Nat × Nat)) (t : Trace) (qs : Nat → Nat) (M S : Nat → Prop) (o0 o1 : Option Nat) (p : Nat),
    l.length = A → recvs l = [] → IsB X l o0 g w K → sumTo gs.size qs = L → gs[0]? = some g → Inv X n (n + 1) true gs w t qs M S o0 o1 → Shut n X.d.c p t → Gets X.P X.Fin gs w sl t := by
  refine lex3 fun A K L ih => ?_
  intro l g gs w sl t qs M S o0 o1 p hA hr hB hL h0 hI hS
  have hrun := hB.running
  have h0l : 0 < gs.size := (Array.getElem?_eq_some_iff.1 h0).1
  have haw : ∀ x ∈ gs, awake x := by
    intro x hx
    obtain ⟨j, hj, rfl⟩ := Array.mem_iff_getElem.1 hx
    rcases Nat.eq_zero_or_pos j with rfl | hpos
    · have : gs[0] = g := by simpa [Array.getElem?_eq_getElem hj] using h0
      rw [this]; exact awake_of (.inl hrun)
    · have := hI.size
      exact awake_of ((hI.old j _ hpos (by omega) (Array.getElem?_eq_getElem hj)).status.elim .inl fun x => .inr (.inr x))
  obtain ⟨i, x, e, sl', hi, hx, hst⟩ := crowd_pick (P := X.P) (w := w) (sl := sl) haw ⟨0, g, h0, hrun⟩
  have hIe := hI.at e
  have hR : Rely X.d X.T0 o0 w (w.at e) := Rely.at w e
  rcases Nat.eq_zero_or_pos i with rfl | hpos
  · rw [h0] at hi
    obtain rfl := Option.some.inj hi
    cases hB with
    | woken hl eg hE =>
      obtain ⟨h1, h2, h3⟩ := hE _ hR
      refine ends_closed hIe hS h0 ?_ h3 hst
      rw [eg, stepG_tries]
      have : ({ g with status := .running } : Goroutine) = g := by cases g; simp_all
      exact h2
    | walks hG =>
      rename_i m
      rcases goes_cases hG with hstop | ⟨m', rfl, _, hgo⟩
      · have hs := hstop _ hR
        cases l with
        | nil => exact ends_closed hIe hS h0 hs.2.1 hs.2.2 hst
        | cons a l =>
          cases a with
          | recv v => simp [recvs] at hr
          | box =>
            obtain ⟨_, g', w', es, hstep, hbx, hev, m2, hG2⟩ := hs
            rw [runT_crowd_go (P := X.P) (i := 0) h0 (show stepG X.P (0 == 0) _ (w.at e) = _ from hstep), undisturbed (others_leave hIe h0 hrun 0)] at hst
            refine Gets.step hst ?_
            have hs' := hIe.split.box F.tb0 F.tb1 hbx
            have hI' := hIe.step0 F (fun b hb => hbx.old (Nat.lt_of_lt_of_le hb hIe.split.bsize)) hs' hev g.frame.fn g.frame.place g'
            exact ih l.length (m2 + 1) (sumTo (gs.setIfInBounds 0 g').size qs) (.inl (by rw [← hA]; simp)) l g' _ w' sl' _ qs _ S _ o1 p rfl (by simpa [recvs] using hr) (.walks hG2) rfl (by simp [h0l]) hI'
              (hS.app fun op hop hg => by
                obtain ⟨e, _, rfl⟩ := Conc.mem_ofEvents hop
                exact absurd hg (Nat.ne_of_lt hI.pos))
      · obtain ⟨g', w', es, hstep, ⟨hT, hev⟩, hG2⟩ := hgo _ hR
        rw [runT_crowd_go (P := X.P) (i := 0) h0 (show stepG X.P (0 == 0) _ (w.at e) = _ from hstep), undisturbed (others_leave hIe h0 hrun 0)] at hst
        refine Gets.step hst ?_
        have hs' := hIe.split.turn F.dis hT
        have hI' := hIe.step0 F (fun b hb => hIe.split.low hIe.pair.highM hT hb) hs' hev g.frame.fn g.frame.place g'
        exact ih A (m' + 1) (sumTo (gs.setIfInBounds 0 g').size qs) (.inr ⟨rfl, .inl (by omega)⟩) l g' _ w' sl' _ qs _ S _ o1 p hA hr (.walks hG2) rfl (by simp [h0l]) hI'
          (hS.app fun op hop hg => by
            obtain ⟨e, _, rfl⟩ := Conc.mem_ofEvents hop
            exact absurd hg (Nat.ne_of_lt hI.pos))
  · have hil := (Array.getElem?_eq_some_iff.1 hi).1
    have hsz := hI.size
    have hq := hI.old i x hpos (by omega) hi
    cases hqi : qs i with
    | zero => rw [hqi] at hq; rw [hq.1] at hx; cases hx
    | succ k =>
      rw [hqi] at hq
      rcases hq with ⟨hf, _⟩ | ⟨_, g', es, hm, hstp, hq'⟩
      · rw [hf] at hx; cases hx
      have hi0 : (i == 0) = false := by simp; omega
      rw [runT_crowd_go (P := X.P) (i := i) hi (by rw [hi0]; exact hstp (w.at e)), undisturbed (others_leave hIe h0 hrun i)] at hst
      refine Gets.step hst ?_
      have hI' := hIe.slip hpos (by omega) hm (fun _ => rfl) hq' x.frame.fn x.frame.place
      have hdec : sumTo (gs.setIfInBounds i g').size (upd qs i k) < L := by
        rw [← hL, Array.size_setIfInBounds]
        exact sumTo_slip hil hqi
      exact ih A K (sumTo (gs.setIfInBounds i g').size (upd qs i k)) (.inr ⟨rfl, .inr ⟨rfl, hdec⟩⟩) l g _ (w.at e) sl' _ _ M S o0 o1 p hA hr (hB.rely hR) rfl (by rw [Array.getElem?_setIfInBounds_ne (by omega)]; exact h0) hI'
        (hS.app fun op hop _ => by
          obtain ⟨e, he, rfl⟩ := Conc.mem_ofEvents hop
          exact touch_mute (hm e he))
end Go.Lx
namespace Go.Lx
open Go.Conc
open Go.ConcN (sumTo upd sumTo_upd upd_ne upd_same)
variable {X : Shared} {n top : Nat} {cl : Bool} {gs arr : Array Goroutine} {w w' : World} {t u : Trace} {qs : Nat → Nat} {M S : Nat → Prop} {o0 o1 o0' o1' : Option Nat}
theorem Inv.crew (h : Inv X n n cl gs w t qs M S o0 o1) (hs : arr.size = n + 1) (ho : ∀ j x, 0 < j → j < n → arr[j]? = some x → gs[j]? = some x) : Inv X n n cl arr w t qs M S o0 o1 :=
  ⟨h.pos, hs, h.topl, fun j x hj hjt hx => h.old j x hj hjt (ho j x hj hjt hx), h.above, h.pair, h.hears0, h.hearsN, h.split, h.quit, h.chan⟩
theorem Inv.dull (F : X.Fit) (h : Inv X n n false gs w t qs M S o0 o1) (hn : ∀ op ∈ u, op.act.touch? = none) (hd : ∀ op ∈ u, op.act ≠ .mark .disable ∧ op.act ≠ .mark .enable) {s r : Nat} {tm : Bool} :
    Inv X n n false gs (w.setChan X.d.c 0 #[] false s r tm) (t ++ u) qs M S o0 o1 := by
  have hlt : X.d.c < w.heap.size := Nat.lt_of_lt_of_le F.cB h.split.bsize
  refine ⟨h.pos, h.size, h.topl, fun j x hj hjt hx => ?_, fun j hj => ?_, h.pair.dull hn, (Deaf_still t 0 u hd).trans h.hears0, fun hc => (Deaf_still t n u hd).trans (h.hearsN hc), h.split.chan F.cB, ?_, ?_⟩
  · rw [Deaf_still t j u hd]; exact h.old j x hj hjt hx
  · rw [Deaf_still t j u hd]; exact h.above j hj
  · simp only [World.setChan]
    rw [Array.getElem?_setIfInBounds_ne F.cq]
    exact h.quit
  · exact ⟨s, r, tm, by simp only [World.setChan]; rw [Array.getElem?_setIfInBounds_self_of_lt hlt]⟩
theorem Inv.shut (F : X.Fit) (h : Inv X n n false gs w t qs M S o0 o1) (hs : arr.size = n + 1) (ho : ∀ j x, 0 < j → j < n → arr[j]? = some x → gs[j]? = some x) {g' : Goroutine} {k : Nat} (hg : arr[n]? = some g')
    (hq : QuitsD X.P k 0 g') (fn : FuncId) (pos : String) {s r : Nat} {tm : Bool} :
    Inv X n (n + 1) true arr (w.setChan X.d.c 0 #[] true s r tm) (t ++ #[{ g := n, fn, pos, act := .close X.d.c }]) (upd qs n k) M S o0 o1 ∧ Shut n X.d.c t.size (t ++ #[{ g := n, fn, pos, act := .close X.d.c }]) := by
  have hlt : X.d.c < w.heap.size := Nat.lt_of_lt_of_le F.cB h.split.bsize
  have hd : ∀ op ∈ (#[{ g := n, fn, pos, act := .close X.d.c }] : Array MemOp), op.act ≠ .mark .disable ∧ op.act ≠ .mark .enable := by simp
  have hy : (t ++ #[({ g := n, fn, pos, act := .close X.d.c } : MemOp)])[t.size]? = some { g := n, fn, pos, act := .close X.d.c } := by rw [Array.getElem?_append_right (Nat.le_refl _)]; simp
  refine ⟨⟨h.pos, hs, Nat.le_refl _, fun j x hj hjt hx => ?_, fun j hj => ?_, h.pair.dull (by simp [MemAct.touch?]), (Deaf_still t 0 _ hd).trans h.hears0, (fun hc => by cases hc), h.split.chan F.cB, ?_, ?_⟩, ?_⟩
  · rw [Deaf_still t j _ hd]
    by_cases hjn : j = n
    · subst hjn
      rw [hg] at hx
      obtain rfl := Option.some.inj hx
      rw [upd_same, h.hearsN rfl]
      exact hq
    · rw [upd_ne qs k hjn]
      exact h.old j x hj (by omega) (ho j x hj (by omega) hx)
  · rw [Deaf_still t j _ hd]; exact h.above j hj
  · simp only [World.setChan]
    rw [Array.getElem?_setIfInBounds_ne F.cq]
    exact h.quit
  · exact ⟨s, r, tm, by simp only [World.setChan]; rw [Array.getElem?_setIfInBounds_self_of_lt hlt]⟩
  · refine ⟨by rw [act?_of hy], g?_of hy, ⟨n, g?_of hy, ?_⟩, fun i x hx hgi => ?_⟩
    · rw [deaf_old (Nat.le_refl _)]; exact h.hearsN rfl
    · obtain ⟨y, hy', hyx⟩ := touch_of hx
      rcases getElem?_append_cases hy' with ⟨hi, _⟩ | ⟨_, hyu⟩
      · exact hi
      · simp at hyu
        subst hyu
        cases hyx
theorem again_sel {v : Value} {g : Goroutine} {sh : CommShape} {s r s' r' : Nat} {tm tm' : Bool} (hc : w.heap[X.d.c]? = some (.chan 0 #[] false s r tm)) (hq : w.heap[X.q]? = some (.chan 0 #[] false s' r' tm')) :
    (parked g (X.sel v) sh).again w = parked g (X.sel v) sh := by
  simp [Goroutine.again, parked, Shared.sel, scase, rcase, hc, hq]
theorem offers_sel {v : Value} {g : Goroutine} {sh : CommShape} (F : X.Fit) : offersAt (parked g (X.sel v) sh) X.d.c true = [0] ∧ offersAt (parked g (X.sel v) sh) X.d.c false = [] ∧ offersAt (parked g (X.sel v) sh) X.q true = [] := by
  have h1 : ¬ X.q = X.d.c := fun e => F.cq e.symm
  have h2 : ¬ X.d.c = X.q := F.cq
  refine ⟨?_, ?_, ?_⟩ <;> simp [offersAt, parked, Shared.sel, scase, rcase, h1, h2]
theorem IsM.status {l : List MAct} {o : Option Nat} {g : Goroutine} {k : Nat} (h : IsM X l o g w k) : (g.status = .running ∧ 0 < k) ∨ (g.status = .blocked ∧ k = 0) := by
  cases h with
  | walks h => exact .inl ⟨GoM.running h, by omega⟩
  | waits e _ _ => exact .inr ⟨by rw [e]; rfl, rfl⟩
theorem IsS.status {l : List SAct} {o : Option Nat} {g : Goroutine} {k : Nat} (h : IsS X l o g w k) : (g.status = .running ∧ 0 < k) ∨ (g.status = .blocked ∧ k = 0) := by
  cases h with
  | walks h => exact .inl ⟨GoS.running h, by omega⟩
  | waits _ e _ => exact .inr ⟨by rw [e]; rfl, rfl⟩
theorem IsM.rely {l : List MAct} {o : Option Nat} {g : Goroutine} {k : Nat} {w₁ : World} (h : IsM X l o g w k) (r : Rely X.d X.T0 o w w₁) : IsM X l o g w₁ k := by
  cases h with
  | walks h => exact .walks (Goes.rely (R := Rely X.d X.T0 o) (fun _ _ _ a b => a.trans b) h r)
  | waits e h hl => exact .waits e (fun w₂ h₂ => h w₂ (r.trans h₂)) hl
theorem IsS.rely {l : List SAct} {o : Option Nat} {g : Goroutine} {k : Nat} {w₁ : World} (h : IsS X l o g w k) (r : Rely X.d X.T1 o w w₁) : IsS X l o g w₁ k := by
  cases h with
  | walks h => exact .walks (Goes.rely (R := Rely X.d X.T1 o) (fun _ _ _ a b => a.trans b) h r)
  | waits hl e h => exact .waits hl e fun w₂ h₂ => h w₂ (r.trans h₂)
theorem calmly {as : List MAct} {bs : List SAct} {g0 g1 : Goroutine} {k0 k1 : Nat} (hI : Inv X n n cl gs w t qs M S o0 o1) (h0 : gs[0]? = some g0) (hn : gs[n]? = some g1) (hM : IsM X as o0 g0 w k0) (hS : IsS X bs o1 g1 w k1)
    (hc : ∃ s r tm, w'.heap[X.d.c]? = some (.chan 0 #[] false s r tm)) (hq : ∃ s r tm, w'.heap[X.q]? = some (.chan 0 #[] false s r tm)) (i : Nat) :
    ∀ j x, j ≠ i → gs[j]? = some x → x.status = .running ∨ x.status = .finished ∨ x.again w' = x := by
  intro j x _ hx
  obtain ⟨s, r, tm, hc⟩ := hc
  obtain ⟨s', r', tm', hq⟩ := hq
  rcases Nat.eq_zero_or_pos j with rfl | hj
  · rw [h0] at hx
    obtain rfl := Option.some.inj hx
    cases hM with
    | walks h => exact .inl (GoM.running h)
    | waits e _ _ => exact .inr (.inr (by rw [e]; exact again_recv_open hc))
  · by_cases hjn : j = n
    · subst hjn
      rw [hn] at hx
      obtain rfl := Option.some.inj hx
      cases hS with
      | walks h => exact .inl (GoS.running h)
      | waits _ e _ => exact .inr (.inr (by rw [e]; exact again_sel hc hq))
    · have hjl := (Array.getElem?_eq_some_iff.1 hx).1
      have := hI.size
      exact (hI.old j x hj (by omega) hx).status.imp id .inl
end Go.Lx
namespace Go.Lx
open Go.Conc
open Go.ConcN (sumTo upd sumTo_upd upd_ne upd_same)
variable {X : Shared} {n top : Nat} {cl : Bool} {gs : Array Goroutine} {w w' : World} {t u : Trace} {qs : Nat → Nat} {M S : Nat → Prop} {o0 o1 o0' o1' : Option Nat}
structure Both (X : Shared) (n : Nat) (as : List MAct) (bs : List SAct) (k0 k1 : Nat) (gs : Array Goroutine) (w : World) (t : Trace) (qs : Nat → Nat) (M S : Nat → Prop) (o0 o1 : Option Nat) (g0 g1 : Goroutine) : Prop where
  inv : Inv X n n false gs w t qs M S o0 o1
  h0 : gs[0]? = some g0
  hn : gs[n]? = some g1
  isM : IsM X as o0 g0 w k0
  isS : IsS X bs o1 g1 w k1
  same : recvs as = sends bs
  alive : 0 < k0 + k1
theorem Both.at {as : List MAct} {bs : List SAct} {k0 k1 : Nat} {g0 g1 : Goroutine} (h : Both X n as bs k0 k1 gs w t qs M S o0 o1 g0 g1) (e : Nat) : Both X n as bs k0 k1 gs (w.at e) t qs M S o0 o1 g0 g1 :=
  ⟨h.inv.at e, h.h0, h.hn, h.isM.rely (Rely.at w e), h.isS.rely (Rely.at w e), h.same, h.alive⟩
def Done (X : Shared) (n : Nat) (A K L : Nat) : Prop :=
  ∀ (as : List MAct) (bs : List SAct) (k0 k1 : Nat) (gs : Array Goroutine) (w : World) (sl : Option (Nat × Nat)) (t : Trace) (qs : Nat → Nat) (M S : Nat → Prop) (o0 o1 : Option Nat) (g0 g1 : Goroutine),
    as.length + bs.length = A → k0 + k1 = K → sumTo gs.size qs = L → Both X n as bs k0 k1 gs w t qs M S o0 o1 g0 g1 → Gets X.P X.Fin gs w sl t
section
variable {as : List MAct} {bs : List SAct} {k0 k1 : Nat} {g0 g1 : Goroutine} {A K L : Nat} {sl sl' : Option (Nat × Nat)} {w0 : World}
theorem set_same {i : Nat} {y : Goroutine} (hi : i < gs.size) : (gs.setIfInBounds i y)[i]? = some y := Array.getElem?_setIfInBounds_self_of_lt hi
theorem both_step0 (F : X.Fit) (h : Both X n as bs k0 k1 gs w t qs M S o0 o1 g0 g1) (hlow : ∀ b, b < X.d.B → w'.heap[b]? = w.heap[b]?) (hs : Split X.d X.T0 X.T1 w'.heap (More M w w') S o0' o1)
    (hR : Rely X.d X.T1 o1 w w') {es : Array Event} (hev : ∀ e ∈ es, EvOk X.d X.T0 o0' w' e) {g' : Goroutine} (hst : stepG X.P true g0 w = .go g' w' es)
    (hstep : stepT X.P (crowd gs w0 sl) = runT X.P (crowd gs w sl') 0) {as' : List MAct} {m : Nat} (hG : GoM X as' o0' m g' w') (hsame : recvs as' = sends bs)
    (hD : Done X n (as'.length + bs.length) (m + 1 + k1) (sumTo gs.size qs)) : Gets X.P X.Fin gs w0 sl t := by
  have hq' : ∃ s r tm, w'.heap[X.q]? = some (.chan 0 #[] false s r tm) := by rw [hlow _ F.qB]; exact h.inv.quit
  have hc' : ∃ s r tm, w'.heap[X.d.c]? = some (.chan 0 #[] false s r tm) := by rw [hlow _ F.cB]; exact h.inv.chan
  rw [runT_crowd_go (P := X.P) (i := 0) h.h0 (show stepG X.P (0 == 0) _ _ = _ from hst), undisturbed (calmly h.inv h.h0 h.hn h.isM h.isS hc' hq' 0)] at hstep
  refine Gets.step hstep ?_
  have h0l : 0 < gs.size := (Array.getElem?_eq_some_iff.1 h.h0).1
  have hp := h.inv.pos
  refine hD as' bs (m + 1) k1 _ w' _ _ qs _ S o0' o1 g' g1 rfl rfl (by simp) ⟨h.inv.step0 F hlow hs hev _ _ g', set_same h0l, ?_, .walks hG, h.isS.rely hR, hsame, by omega⟩
  rw [Array.getElem?_setIfInBounds_ne (by omega)]; exact h.hn
theorem both_stepN (F : X.Fit) (h : Both X n as bs k0 k1 gs w t qs M S o0 o1 g0 g1) (hlow : ∀ b, b < X.d.B → w'.heap[b]? = w.heap[b]?) (hs : Split X.d X.T1 X.T0 w'.heap (More S w w') M o1' o0)
    (hR : Rely X.d X.T0 o0 w w') {es : Array Event} (hev : ∀ e ∈ es, EvOk X.d X.T1 o1' w' e) {g' : Goroutine} (hst : stepG X.P false g1 w = .go g' w' es)
    (hstep : stepT X.P (crowd gs w0 sl) = runT X.P (crowd gs w sl') n) {bs' : List SAct} {m : Nat} (hG : GoS X bs' o1' m g' w') (hsame : recvs as = sends bs')
    (hD : Done X n (as.length + bs'.length) (k0 + (m + 1)) (sumTo gs.size qs)) : Gets X.P X.Fin gs w0 sl t := by
  have hq' : ∃ s r tm, w'.heap[X.q]? = some (.chan 0 #[] false s r tm) := by rw [hlow _ F.qB]; exact h.inv.quit
  have hc' : ∃ s r tm, w'.heap[X.d.c]? = some (.chan 0 #[] false s r tm) := by rw [hlow _ F.cB]; exact h.inv.chan
  have hp := h.inv.pos
  have hn0 : (n == 0) = false := by simp; omega
  rw [runT_crowd_go (P := X.P) (i := n) h.hn (by rw [hn0]; exact hst), undisturbed (calmly h.inv h.h0 h.hn h.isM h.isS hc' hq' n)] at hstep
  refine Gets.step hstep ?_
  have hnl : n < gs.size := (Array.getElem?_eq_some_iff.1 h.hn).1
  refine hD as bs' k0 (m + 1) _ w' _ _ qs M _ o0 o1' g0 g' rfl rfl (by simp) ⟨h.inv.stepN F hlow hs hev _ _ g', ?_, set_same hnl, h.isM.rely hR, .walks hG, hsame, by omega⟩
  rw [Array.getElem?_setIfInBounds_ne (by omega)]; exact h.h0
theorem both_slip (F : X.Fit) (h : Both X n as bs k0 k1 gs w t qs M S o0 o1 g0 g1) {i : Nat} {x : Goroutine} (hi : gs[i]? = some x) (hx : x.status = .running) (hpos : 0 < i) (hin : i ≠ n)
    (hstep : stepT X.P (crowd gs w0 sl) = runT X.P (crowd gs w sl') i) (hD : ∀ L', L' < sumTo gs.size qs → Done X n (as.length + bs.length) (k0 + k1) L') : Gets X.P X.Fin gs w0 sl t := by
  have hil := (Array.getElem?_eq_some_iff.1 hi).1
  have hsz := h.inv.size
  have hq := h.inv.old i x hpos (by omega) hi
  cases hqi : qs i with
  | zero => rw [hqi] at hq; rw [hq.1] at hx; cases hx
  | succ k =>
    rw [hqi] at hq
    rcases hq with ⟨hf, _⟩ | ⟨_, g', es, hm, hstp, hq'⟩
    · rw [hf] at hx; cases hx
    have hi0 : (i == 0) = false := by simp; omega
    rw [runT_crowd_go (P := X.P) (i := i) hi (by rw [hi0]; exact hstp w), undisturbed (calmly h.inv h.h0 h.hn h.isM h.isS h.inv.chan h.inv.quit i)] at hstep
    refine Gets.step hstep ?_
    refine hD (sumTo gs.size (upd qs i k)) (sumTo_slip hil hqi) as bs k0 k1 _ w _ _ _ M S o0 o1 g0 g1 rfl rfl (by simp) ⟨h.inv.slip hpos (by omega) hm (fun e => absurd e hin) hq' _ _, ?_, ?_, h.isM, h.isS, h.same, h.alive⟩
    · rw [Array.getElem?_setIfInBounds_ne (by omega)]; exact h.h0
    · rw [Array.getElem?_setIfInBounds_ne (by omega)]; exact h.hn
theorem ofEvents_nil (i : Nat) (fn : FuncId) (pos : String) : MemOp.ofEvents i fn pos #[] = #[] := rfl
theorem partners0 (h : Both X n as bs k0 k1 gs w t qs M S o0 o1 g0 g1) (r : Nat) (send : Bool) : partners (gs.setIfInBounds 0 ph) r send = (offersAt g1 r send).map fun k => (n, k) := by
  have hp := h.inv.pos
  have hsz := h.inv.size
  refine partners_one (by rw [Array.getElem?_setIfInBounds_ne (by omega)]; exact h.hn) fun j x hjn hj => ?_
  rcases getElem?_stand gs 0 j x hj with ⟨_, rfl⟩ | ⟨hj0, hx⟩
  · rfl
  · have hjl := (Array.getElem?_eq_some_iff.1 hx).1
    exact offers_leaver (h.inv.old j x (by omega) (by omega) hx)
theorem partnersN (h : Both X n as bs k0 k1 gs w t qs M S o0 o1 g0 g1) (r : Nat) (send : Bool) : partners (gs.setIfInBounds n ph) r send = (offersAt g0 r send).map fun k => (0, k) := by
  have hp := h.inv.pos
  have hsz := h.inv.size
  refine partners_one (by rw [Array.getElem?_setIfInBounds_ne (by omega)]; exact h.h0) fun j x hj0 hj => ?_
  rcases getElem?_stand gs n j x hj with ⟨_, rfl⟩ | ⟨hjn, hx⟩
  · rfl
  · have hjl := (Array.getElem?_eq_some_iff.1 hx).1
    exact offers_leaver (h.inv.old j x (by omega) (by omega) hx)
theorem both_park0 (F : X.Fit) (h : Both X n as bs k0 k1 gs w t qs M S o0 o1 g0 g1) (hst : stepG X.P true g0 w = .comm g0 X.rcv true (.recv true) w #[]) (hrun : g1.status = .running) (hk1 : 0 < k1)
    (hstep : stepT X.P (crowd gs w0 sl) = runT X.P (crowd gs w sl') 0) (hstop : ∀ w₁, Rely X.d X.T0 o0 w w₁ → StopM X as o0 g0 w₁) (hl : ∀ l', as ≠ .box :: l')
    (hD : Done X n (as.length + bs.length) (0 + k1) (sumTo gs.size qs)) : Gets X.P X.Fin gs w0 sl t := by
  have hp := h.inv.pos
  obtain ⟨s, r, tm, hc⟩ := h.inv.chan
  have hno : ∀ cc ∈ X.rcv, NoWays w (gs.setIfInBounds 0 ph) cc := by
    intro cc hcc
    simp [Shared.rcv] at hcc
    subst hcc
    refine ways_recv_none hc ?_
    rw [partners0 h, offersAt_of_not_blocked (by rw [hrun]; simp)]
    rfl
  rw [crowd_waits (P := X.P) (i := 0) h.h0 (show stepG X.P (0 == 0) _ _ = _ from hst) hno, ofEvents_nil] at hstep
  refine Gets.step hstep ?_
  rw [Array.append_empty]
  have h0l : 0 < gs.size := (Array.getElem?_eq_some_iff.1 h.h0).1
  refine hD as bs 0 k1 _ w _ t qs M S o0 o1 _ g1 rfl rfl (by simp) ⟨h.inv.crew (by simpa using h.inv.size) (fun j x hj _ hx => by rwa [Array.getElem?_setIfInBounds_ne (by omega)] at hx), set_same h0l, ?_, .waits rfl hstop hl, h.isS, h.same, by omega⟩
  rw [Array.getElem?_setIfInBounds_ne (by omega)]; exact h.hn
theorem both_parkN (F : X.Fit) (h : Both X n as bs k0 k1 gs w t qs M S o0 o1 g0 g1) {v : Value} {bs' : List SAct} (hb : bs = .send v :: bs') (hst : stepG X.P false g1 w = .comm g1 (X.sel v) true .select w #[]) (hrun : g0.status = .running) (hk0 : 0 < k0)
    (hstep : stepT X.P (crowd gs w0 sl) = runT X.P (crowd gs w sl') n) (hstop : ∀ w₁, Rely X.d X.T1 o1 w w₁ → StopS X bs o1 g1 w₁)
    (hD : Done X n (as.length + bs.length) (k0 + 0) (sumTo gs.size qs)) : Gets X.P X.Fin gs w0 sl t := by
  have hp := h.inv.pos
  have hn0 : (n == 0) = false := by simp; omega
  obtain ⟨s, r, tm, hc⟩ := h.inv.chan
  obtain ⟨s', r', tm', hq⟩ := h.inv.quit
  have hno : ∀ cc ∈ X.sel v, NoWays w (gs.setIfInBounds n ph) cc := by
    intro cc hcc
    simp [Shared.sel] at hcc
    rcases hcc with rfl | rfl
    · refine ways_send_none hc (by simp) ?_
      rw [partnersN h, offersAt_of_not_blocked (by rw [hrun]; simp)]
      rfl
    · refine ways_recv_none hq ?_
      rw [partnersN h, offersAt_of_not_blocked (by rw [hrun]; simp)]
      rfl
  rw [crowd_waits (P := X.P) (i := n) h.hn (by rw [hn0]; exact hst) hno, ofEvents_nil] at hstep
  refine Gets.step hstep ?_
  rw [Array.append_empty]
  have hnl : n < gs.size := (Array.getElem?_eq_some_iff.1 h.hn).1
  refine hD as bs k0 0 _ w _ t qs M S o0 o1 g0 _ rfl rfl (by simp) ⟨h.inv.crew (by simpa using h.inv.size) (fun j x hj hjn hx => by rwa [Array.getElem?_setIfInBounds_ne (by omega)] at hx), ?_, set_same hnl, h.isM, .waits hb rfl hstop, h.same, by omega⟩
  rw [Array.getElem?_setIfInBounds_ne (by omega)]; exact h.h0
end
end Go.Lx
