/- term.measured, look, Check: their contracts. -/
import Derived.Test.YtiibknlpeodejaaDoorTMeas3
set_option linter.unusedSimpArgs false
set_option linter.unusedVariables false
namespace Go.Proofs.YtiibknlpeodejaaDoor
open Go.Lx Go.RowKit

section
variable {w0 : World} {t : List Nd} {c : Nat}
/-- What measured's loop comes to. -/
def MEnd (w0 : World) (t : List Nd) (l : Value) (e : Exit) (a : Act) (w : World) : Prop :=
  match measGo t 0 [] [] with
  | none => MBad w0 e a w
  | some _ => MDone w0 t l t.length e a w
theorem ms_rounds {p : Option Addr} (hn : t.length ≤ 4000) (hs : ∀ x ∈ t, x.s.size ≤ maxLen) (hp : RowArg w0 p (ndCells t)) (hS : ShapesAt 1 w0) (m : Nat) (a : Act) (w : World)
    (h0 : ∃ k, m + k = t.length ∧ MNext w0 t (.slice p t.length c) t.length k a w) :
    (Code.loop msRound).wp Tryd.prog (MEnd w0 t (.slice p t.length c)) a w := by
  refine wp_loop_ghost (fun m a w => ∃ k, m + k = t.length ∧ MNext w0 t (.slice p t.length c) t.length k a w) m h0 ?_
  clear h0
  rintro m a w ⟨k, hmk, va, vo, all, op, J, rfl, hM⟩
  by_cases hkn : k = t.length
  · subst hkn
    refine wp_mono (ms_done J w hM) ?_
    rintro e a' w' h
    have hr := hM.res
    rw [List.drop_length] at hr
    cases e with
    | normal => exact h.elim
    | _ => unfold MEnd; rw [← hr]; exact h
  have hlt : k < t.length := by omega
  obtain ⟨b, off, rfl, hb, c0, c1, c2, c3⟩ := hp.node (List.getElem?_eq_getElem hlt)
  have hx : t[k]? = some t[k] := List.getElem?_eq_getElem hlt
  have hR := fun w1 (hU : Under w0 w1) => right_any t[k] w1 (hs _ (List.getElem_mem hlt)) (hS.under hU)
  have hN := fun (hr : rightB t[k] = true) w1 (hU : Under w0 w1) => many_any t[k] w1 (hS.under hU) hr
  by_cases hbad : rightB t[k] = false ∨ op.length < (binds t[k]).length
  · have hnone : measGo t 0 [] [] = none := by
      rw [← hM.res, List.drop_eq_getElem_cons hlt]
      show (if rightB t[k] = false ∨ op.length < (binds t[k]).length then none else _) = none
      rw [if_pos hbad]
    refine wp_mono (ms_bad hlt hn hx hbad J w hM hR hN hb c0 c1 c2 c3) ?_
    rintro e a' w' h
    cases e with
    | normal => exact h.elim
    | _ => unfold MEnd; rw [hnone]; exact h
  · have hr : rightB t[k] = true := by cases h : rightB t[k] with
      | true => rfl
      | false => exact absurd (.inl h) hbad
    have hl : ¬ op.length < (binds t[k]).length := fun h => hbad (.inr h)
    rw [hr] at hR
    refine wp_mono (ms_one (kk := op.length - (binds t[k]).length) (bl := (binds t[k]).length) hlt hn hx hr rfl (by omega) (fun y hy => by have := hM.dp y hy; omega) J w hM hR (hN hr) hb c0 c1 c2 c3) ?_
    rintro e a' w' h
    cases e with
    | normal => exact ⟨m - 1, by omega, k + 1, by omega, h⟩
    | _ => exact h.elim
theorem measGo_len : ∀ (t : List Nd) (k : Nat) (all op : List (Nat × Nat)) {r : List (Nat × Nat) × List (Nat × Nat)}, all.length = k → op.length ≤ k → measGo t k all op = some r → r.1.length = k + t.length ∧ r.2.length ≤ k + t.length := by
  intro t
  induction t with
  | nil => intro k all op r h1 h2 h; cases h; exact ⟨h1, h2⟩
  | cons x t ih =>
    intro k all op r h1 h2 h
    simp only [measGo] at h
    split at h
    · cases h
    · have := ih (k + 1) _ _ (by rw [List.length_append, h1]; rfl) (by rw [List.length_append, List.length_take, List.length_singleton]; omega) h
      rw [List.length_cons]; omega
set_option maxRecDepth 100000 in
set_option maxHeartbeats 1000000 in
theorem measured_any (t : List Nd) {p : Option Addr} (hn : t.length ≤ 4000) (hs : ∀ x ∈ t, x.s.size ≤ maxLen) (hp : RowArg w0 p (ndCells t)) (hS : ShapesAt 1 w0) :
    Calls Tryd.prog 49 #[.slice p t.length c] w0 (MOut w0 t) := by
  have HL := Lib.hid (fun m a w h => ms_rounds (w0 := w0) (c := c) (t := t) hn hs hp hS m a w h)
  clear hp hs hS
  go_enter Tryd.func49, Tryd.ntmps49
  go_wp2
  rename_i K hK
  refine wp_mono (HL.out t.length _ _ ⟨0, by omega, .slice none 0 0, .slice none 0 0, [], [], frame_ex (F := msFrame _ _ _ _ 0) (by rfl) ⟨World.ownsRow_nil _ _ _ _, World.ownsRow_nil _ _ _ _, .inl rfl, Under.refl _, rfl, rfl, Nat.le_refl _, fun y hy => by simp at hy⟩⟩) ?_
  rintro e a' w' h
  unfold MEnd at h
  cases hR : measGo t 0 [] [] with
  | none =>
    rw [hR] at h
    obtain ⟨rfl, J, rfl, hU⟩ := h
    simp only [Exit.inBlock, Exit.then]
    go_ret2
    unfold MOut
    rw [hR]
    exact ⟨rfl, hU⟩
  | some r =>
    rw [hR] at h
    obtain ⟨rfl, va, vo, all, op, J, rfl, hM⟩ := h
    have hr := hM.res
    rw [List.drop_length, hR] at hr
    obtain rfl : (all, op) = r := Option.some.inj hr
    simp only [Exit.inBlock, if_pos, Exit.then]
    refine hK _ _ ?_
    clear hK
    obtain ⟨q, co, rfl, _, _⟩ := RowArg.of_own hM.op_
    have HM := Lib.hid hM
    have HR := Lib.hid hR
    have hol : op.length ≤ 4000 := by have := hM.ol; omega
    clear hM hR hr
    unfold msFrame
    go_wp2
    go_ret2
    unfold MOut
    rw [HR.out]
    exact ⟨va, rfl, HM.out.all_, HM.out.low⟩
/-- What look answers. -/
def LookOut (w0 : World) (t : List Nd) (e : Ending) (w : World) : Prop :=
  Under w0 w ∧ if checkE t = 0 then ∃ v all op, measGo t 0 [] [] = some (all, op) ∧ e = .returned (.tuple #[v, .int .i64 0]) ∧ w.ownsRow w0.heap.size 114 2 v all.length (measCells all)
    else e = .returned (.tuple #[.slice none 0 0, .int .i64 (checkE t)])
theorem look_err {w w1 : World} {e : Int} (h : checkE t = e) (he : e ≠ 0) (hU : Under w w1) : LookOut w t (.returned (.tuple #[.slice none 0 0, .int .i64 e])) w1 := ⟨hU, by rw [if_neg (by rw [h]; exact he), h]⟩
set_option maxRecDepth 100000 in
set_option maxHeartbeats 1000000 in
theorem look_any (t : List Nd) {p : Option Addr} (hn : t.length ≤ maxLen) (hs : ∀ x ∈ t, x.s.size ≤ maxLen) (hp : RowArg w0 p (ndCells t)) (hS : ShapesAt 1 w0) :
    Calls Tryd.prog 45 #[.slice p t.length c] w0 (LookOut w0 t) := by
  unfold maxLen at hn
  by_cases hbig : 4000 < t.length
  · have he : checkE t = 21 := by unfold checkE; rw [if_pos hbig]
    have HE := Lib.hid he
    clear he hp hs hS
    go_enter Tryd.func45, Tryd.ntmps45
    go_wp2
    go_ret2
    exact look_err HE.out (by decide) (Under.refl _)
  have HC := Lib.hid (measured_any (c := c) t (by omega) hs hp hS)
  clear hp hs hS
  cases hR : measGo t 0 [] [] with
  | none =>
    have he : checkE t = 20 := by unfold checkE; rw [if_neg hbig, hR]
    have HE := Lib.hid he
    have HR := Lib.hid hR
    clear he hR
    go_enter Tryd.func45, Tryd.ntmps45
    go_wp2_with fail
    refine HC.out.mono ?_
    intro e w1 h
    unfold MOut at h
    rw [HR.out] at h
    obtain ⟨rfl, hU⟩ := h
    have HU := Lib.hid hU
    clear hU
    go_wp2
    go_ret2
    exact look_err HE.out (by decide) HU.out
  | some r =>
    obtain ⟨all, op⟩ := r
    obtain ⟨hl1, hl2⟩ := measGo_len t 0 [] [] rfl (Nat.le_refl _) hR
    simp only [Nat.zero_add] at hl1 hl2
    by_cases ho : op.length = 1
    · have hd : ∃ m d f, all.length = m + 1 ∧ all.getLastD (0, 0) = (f, d) ∧ all[m]? = some (f, d) := by
        refine ⟨all.length - 1, _, _, by omega, rfl, ?_⟩
        cases all with
        | nil => simp at hl1; omega
        | cons y l => simp [List.getLast_eq_getElem]
      obtain ⟨m, d, f, hm, hg, ha⟩ := hd
      obtain ⟨ca, cb⟩ := measCells_at ha
      have he : checkE t = if 60 < d then 22 else 0 := by unfold checkE; rw [if_neg hbig, hR]; simp only [ho, hg]; simp
      have ho' : decide ((op.length : Int) = 1) = true := by rw [ho]; rfl
      have HE := Lib.hid he
      have HR := Lib.hid hR
      have HO := Lib.hid ho'
      have HB := Lib.hid cb
      have hm4 : m < 4000 := by omega
      have HMm := Lib.hid hm
      clear he hR ho ho' ca cb ha hg hl1 hl2 hm
      have hm0 : (0 : Int) ≤ m := Int.natCast_nonneg _
      by_cases h60 : 60 < d
      all_goals
        have h60' : decide ((60 : Int) < d) = decide (60 < d) := by simp; omega
        go_enter Tryd.func45, Tryd.ntmps45
        go_wp2_with fail
        refine HC.out.mono ?_
        intro e w1 h
        unfold MOut at h
        rw [HR.out] at h
        obtain ⟨v, rfl, hv, hU⟩ := h
        rw [HO.out]
        have hv' := hv
        rw [HMm.out] at hv
        obtain ⟨g, gc, rfl, hgo, _, hgl, _, _⟩ := row_block hv (by omega)
        have e1 := row_cell hv hgo HB.out
        have HU := Lib.hid hU
        have HV := Lib.hid hv'
        clear hU hv hv'
        go_wp2
        go_ret2
      · exact look_err (by rw [HE.out, if_pos h60]) (by decide) HU.out
      · exact ⟨HU.out, by rw [HE.out, if_neg h60, if_pos rfl]; exact ⟨_, all, op, HR.out, rfl, HV.out⟩⟩
    · have he : checkE t = 20 := by unfold checkE; rw [if_neg hbig, hR]; simp only; rw [if_pos ho]
      have ho' : decide ((op.length : Int) = 1) = false := by simp; omega
      have HE := Lib.hid he
      have HR := Lib.hid hR
      have HO := Lib.hid ho'
      clear he hR ho ho' hl1 hl2
      go_enter Tryd.func45, Tryd.ntmps45
      go_wp2_with fail
      refine HC.out.mono ?_
      intro e w1 h
      unfold MOut at h
      rw [HR.out] at h
      obtain ⟨v, rfl, _, hU⟩ := h
      rw [HO.out]
      have HU := Lib.hid hU
      clear hU
      go_wp2
      go_ret2
      exact look_err HE.out (by decide) HU.out
set_option maxRecDepth 100000 in
theorem check_any (t : List Nd) {p : Option Addr} (hn : t.length ≤ maxLen) (hs : ∀ x ∈ t, x.s.size ≤ maxLen) (hp : RowArg w0 p (ndCells t)) (hS : ShapesAt 1 w0) :
    Calls Tryd.prog 39 #[.slice p t.length c] w0 fun e w => e = .returned (.int .i64 (checkE t)) ∧ Under w0 w := by
  have HC := Lib.hid (look_any (c := c) t hn hs hp hS)
  clear hp hs hS
  by_cases h0 : checkE t = 0
  all_goals
    have H0 := Lib.hid h0
    clear h0
    go_enter Tryd.func39, Tryd.ntmps39
    go_wp2_with fail
    refine HC.out.mono ?_
    intro e w1 ⟨hU, h⟩
    have HU := Lib.hid hU
    clear hU
  · rw [if_pos H0.out] at h
    obtain ⟨v, all, op, _, rfl, _⟩ := h
    go_wp2
    go_ret
    exact ⟨ret_int H0.out.symm, HU.out⟩
  · rw [if_neg H0.out] at h
    subst h
    go_wp2
    go_ret
    exact ⟨rfl, HU.out⟩
end
end Go.Proofs.YtiibknlpeodejaaDoor
