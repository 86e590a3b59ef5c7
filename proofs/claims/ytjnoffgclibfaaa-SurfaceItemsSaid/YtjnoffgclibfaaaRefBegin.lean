/- The document's Begin: its contract. -/
import Derived.Test.YtjnoffgclibfaaaParts
set_option linter.unusedSimpArgs false
set_option linter.unusedVariables false
namespace Go.Proofs.Ytjnoffgclibfaaa
open Go.Conc Go.Lx Go.RowKit

def rbInt : Option Nat → Int
  | none => -1
  | some b => b
def BeginOut (w : World) (R : Option Nat) (e : Ending) (w' : World) : Prop := Under w w' ∧ e = .returned (.int .i64 (rbInt R))

noncomputable def beText : Code := Try.f41.body.getD .skip
noncomputable def beLoop : Code := fstOf (sndOf (sndOf (sndOf beText)))
noncomputable def beRound : Code := inOf (inOf (sndOf beLoop))
def beFrame (l : Value) (e a i : Nat) (J : Nat → Value) : Array Value :=
  #[l, .int .i64 (e : Int), J 2, J 3, J 4, .int .i64 (a : Int), .int .i64 (i : Int), J 7, J 8, J 9, J 10, J 11, J 12, J 13, J 14, J 15, J 16, J 17, J 18, J 19, J 20, J 21, J 22, J 23, J 24, J 25, J 26, J 27, J 28, J 29, J 30, J 31, J 32, J 33, J 34, J 35, J 36, J 37, J 38, J 39, J 40, J 41, J 42, J 43, J 44, J 45, J 46, J 47, J 48, J 49]
def beOut (J : Nat → Value) : Array Value := #[J 0, J 1, J 2, J 3, .int .i64 (-1), J 5, J 6, J 7, J 8, J 9, J 10, J 11, J 12, J 13, J 14, J 15, J 16, J 17, J 18, J 19, J 20, J 21, J 22, J 23, J 24, J 25, J 26, J 27, J 28, J 29, J 30, J 31, J 32, J 33, J 34, J 35, J 36, J 37, J 38, J 39, J 40, J 41, J 42, J 43, J 44, J 45, J 46, J 47, J 48, J 49]

section
variable {b off n cap e : Nat} {x : Sx}
def ENext (w0 : World) (l : Value) (e a i : Nat) (a' : Act) (w' : World) : Prop := ∃ J, a' = ⟨beFrame l e a i J, []⟩ ∧ Under w0 w'
def EDone (w0 : World) (l : Value) (e a i : Nat) (ex : Exit) (a' : Act) (w' : World) : Prop := ex = .exit 0 ∧ ENext w0 l e a i a' w'
def EBad (w0 : World) (ex : Exit) (a' : Act) (w' : World) : Prop := ex = .ret ∧ ∃ J, a' = ⟨beOut J, []⟩ ∧ Under w0 w'
set_option maxRecDepth 100000 in
set_option maxHeartbeats 4000000 in
theorem be_done {w0 : World} {a i : Nat} (he : e < n) (hi : x.many = (i : Int)) (J : Nat → Value) (w : World) (hU : Under w0 w) (hb0 : b < w0.heap.size) (c0 : w0.cell? ⟨b, off + e * 3, none⟩ = some (.int .i64 x.many)) :
    beRound.wp Try.prog (Exit.then (fun _ _ => False) (EDone w0 (.slice (some ⟨b, off, none⟩) n cap) e a i)) ⟨beFrame (.slice (some ⟨b, off, none⟩) n cap) e a i J, []⟩ w := by
  rw [← under_cell hU hb0] at c0
  have h1 : (e : Int) < n := by omega
  have h2 : (0 : Int) ≤ e := by omega
  rw [hi] at c0
  have HU := Lib.hid hU
  clear hU
  unfold beRound beLoop beText
  simp only [Try.f41, Option.getD_some, fstOf, sndOf, inOf]
  unfold beFrame
  go_wp2
  exact ⟨rfl, frame_ex (F := beFrame _ e a i) (by rfl) HU.out⟩
set_option maxRecDepth 100000 in
set_option maxHeartbeats 4000000 in
theorem be_one {w0 : World} {a i : Nat} {R : Option Nat} (he : e < n) (hn : n ≤ 1000000) (hi : (i : Int) < x.many) (hi2 : i ≤ 1000000) (ha : a ≤ 1000000) (J : Nat → Value) (w : World) (hU : Under w0 w) (hb0 : b < w0.heap.size) (c0 : w0.cell? ⟨b, off + e * 3, none⟩ = some (.int .i64 x.many))
    (C : Calls Try.prog 41 #[.slice (some ⟨b, off, none⟩) n cap, .int .i64 ((a : Int) - 1)] w (BeginOut w R)) :
    beRound.wp Try.prog (Exit.then (fun a' w' => ∃ c, R = some c ∧ ENext w0 (.slice (some ⟨b, off, none⟩) n cap) e c (i + 1) a' w') (fun ex a' w' => R = none ∧ EBad w0 ex a' w')) ⟨beFrame (.slice (some ⟨b, off, none⟩) n cap) e a i J, []⟩ w := by
  rw [← under_cell hU hb0] at c0
  have h1 : (e : Int) < n := by omega
  have h2 : (0 : Int) ≤ e := by omega
  have h3 : (i : Int) ≤ 1000000 := by omega
  have h4 : (0 : Int) ≤ i := by omega
  have h5 : (a : Int) ≤ 1000000 := by omega
  have h6 : (0 : Int) ≤ a := by omega
  have HU := Lib.hid hU
  have HC := Lib.hid C
  clear hU C
  unfold beRound beLoop beText
  simp only [Try.f41, Option.getD_some, fstOf, sndOf, inOf]
  unfold beFrame
  go_wp2_with fail
  refine HC.out.mono ?_
  rintro ed w1 ⟨hU1, rfl⟩
  have HU1 := Lib.hid hU1
  clear hU1
  cases R with
  | none =>
    simp only [rbInt]
    go_wp2
    exact ⟨by simp, rfl, frame_ex (F := beOut) (by rfl) (HU.out.trans HU1.out)⟩
  | some c =>
    simp only [rbInt]
    have h7 : (0 : Int) ≤ c := by omega
    go_wp2
    exact ⟨c, rfl, frame_ex (F := beFrame _ e c (i + 1)) (by rfl) (HU.out.trans HU1.out)⟩

def EI (w0 : World) (l : Value) (row : List Sx) (e : Nat) (m : Nat) (R : Option Nat) (g : Nat) (a : Act) (w : World) : Prop :=
  ∃ k i, g = k ∧ k + i ≤ e ∧ i ≤ m ∧ rbLoop (rb row) (m - i) k = R ∧ ENext w0 l e k i a w
theorem be_rounds (row : List Sx) (hn : row.length ≤ 1000000) {w0 : World} (hb0 : b < w0.heap.size) (ht : SxAt w0 b off row) (hx : row[e]? = some x) (hm : 0 ≤ x.many) (R : Option Nat)
    (IH : ∀ k, k ≤ e → ∀ w, Under w0 w → Calls Try.prog 41 #[.slice (some ⟨b, off, none⟩) row.length cap, .int .i64 ((k : Int) - 1)] w (BeginOut w (rb row k))) (g : Nat) (a : Act) (w : World)
    (h0 : EI w0 (.slice (some ⟨b, off, none⟩) row.length cap) row e x.many.toNat R g a w) :
    (Code.loop beRound).wp Try.prog (fun ex a' w' => (∃ k i, R = some k ∧ EDone w0 (.slice (some ⟨b, off, none⟩) row.length cap) e k i ex a' w') ∨ (R = none ∧ EBad w0 ex a' w')) a w := by
  refine wp_loop_ghost _ g h0 ?_
  clear h0
  rintro g a w ⟨k, i, hg, hki, him, hR, J, rfl, hU⟩
  have he : e < row.length := (List.getElem?_eq_some_iff.1 hx).1
  obtain ⟨c0, _, _⟩ := ht e x hx
  by_cases hd : i = x.many.toNat
  · subst hd
    rw [Nat.sub_self] at hR
    refine wp_mono (be_done (cap := cap) (a := k) he (by omega) J w hU hb0 c0) ?_
    rintro ex a' w' h
    cases ex with
    | normal => exact h.elim
    | _ => exact .inl ⟨k, _, hR.symm, h⟩
  · obtain ⟨r, hr⟩ : ∃ r, x.many.toNat - i = r + 1 := ⟨x.many.toNat - i - 1, by omega⟩
    rw [hr] at hR
    simp only [rbLoop] at hR
    refine wp_mono (be_one (cap := cap) (a := k) he hn (by omega) (by omega) (by omega) J w hU hb0 c0 (IH k (by omega) w hU)) ?_
    rintro ex a' w' h
    cases ex with
    | normal =>
      obtain ⟨c, hc, h⟩ := h
      rw [hc] at hR
      have hlt := rb_lt hc
      exact ⟨c, by omega, c, i + 1, rfl, by omega, by omega, by rw [show x.many.toNat - (i + 1) = r by omega]; exact hR, h⟩
    | _ =>
      obtain ⟨hc, h⟩ := h
      rw [hc] at hR
      exact .inr ⟨hR.symm, h⟩

set_option maxRecDepth 100000 in
set_option maxHeartbeats 4000000 in
theorem begin_any (row : List Sx) (hn : row.length ≤ 1000000) : ∀ (k : Nat), k ≤ row.length → ∀ (w0 : World), b < w0.heap.size → SxAt w0 b off row →
    Calls Try.prog 41 #[.slice (some ⟨b, off, none⟩) row.length cap, .int .i64 ((k : Int) - 1)] w0 (BeginOut w0 (rb row k)) := by
  intro k
  induction k using Nat.strongRecOn with
  | _ k ih =>
    intro hk w0 hb0 ht
    cases k with
    | zero =>
      rw [rb_zero]
      have e0 : (((0 : Nat) : Int) - 1) = -1 := by decide
      rw [e0]
      clear ih
      go_enter Try.func41, Try.ntmps41
      go_wp2
      go_ret
      exact ⟨⟨rfl, rfl, Nat.le_refl _, fun _ _ => rfl⟩, rfl⟩
    | succ e =>
      have e0 : (((e + 1 : Nat) : Int) - 1) = (e : Int) := by omega
      rw [e0]
      obtain ⟨x, hx⟩ : ∃ x, row[e]? = some x := ⟨_, List.getElem?_eq_getElem (by omega)⟩
      obtain ⟨c0, _, c2⟩ := ht e x hx
      have h1 : (e : Int) < row.length := by omega
      have h2 : (0 : Int) ≤ e := by omega
      have HU0 : Under w0 w0 := ⟨rfl, rfl, Nat.le_refl _, fun _ _ => rfl⟩
      rw [rb_succ hx]
      by_cases hbad : BadSx x
      · rw [if_pos hbad]
        have HU0 := Lib.hid HU0
        obtain ⟨m, q, t⟩ := x
        simp only [BadSx] at hbad c0 c2
        clear ih hx ht
        by_cases hm : m < 0
        · clear hbad
          go_enter Try.func41, Try.ntmps41
          go_wp2
          go_ret
          exact ⟨HU0.out, rfl⟩
        · have hb' : t.size ≠ 0 ∧ m ≠ 0 := hbad.resolve_left hm
          have hm0 : (m != 0) = true := by simp; exact hb'.2
          obtain ⟨e1, e2⟩ := toList_ne hb'.1
          clear hbad hb'
          go_enter Try.func41, Try.ntmps41
          go_wp2
          go_ret
          exact ⟨HU0.out, rfl⟩
      · rw [if_neg hbad]
        have hm0 : 0 ≤ x.many := by unfold BadSx at hbad; omega
        have HL := Lib.hid (fun g a w h => be_rounds (cap := cap) row hn hb0 ht hx hm0 (rbLoop (rb row) x.many.toNat e) (fun k hk w hU => ih k (by omega) (by omega) w (Nat.lt_of_lt_of_le hb0 hU.size) (fun k x hx => by
          rw [under_cell hU hb0, under_cell hU hb0, under_cell hU hb0]; exact ht k x hx)) g a w h)
        generalize hR : rbLoop (rb row) x.many.toNat e = R at *
        have HR := Lib.hid hR
        clear hR ih ht hx
        obtain ⟨m, q, t⟩ := x
        simp only [BadSx] at hbad c0 c2 hm0 HR HL
        have m1 : ¬ m < 0 := by omega
        have both : t = ⟨#[]⟩ ∨ ((m != 0) = false ∧ ¬ t.toList = [] ∧ t.toList.isEmpty = false) := by
          by_cases hB : t.size = 0
          · exact .inl (ByteArray.ext (Array.eq_empty_of_size_eq_zero hB))
          · refine .inr ⟨?_, toList_ne hB⟩
            have : m = 0 := Decidable.byContradiction fun h => hbad (.inr ⟨hB, h⟩)
            simp [this]
        clear hbad
        have HU0 := Lib.hid HU0
        go_enter Try.func41, Try.ntmps41
        rcases both with rfl | ⟨e1, e2, e3⟩
        · go_wp2
          rename_i K hK
          refine wp_mono (HL.out e _ _ ⟨e, 0, rfl, by omega, Nat.zero_le _, HR.out, _, pframe_ex (F := beFrame _ e e 0) (by rfl), HU0.out⟩) ?_
          rintro ex a' w' (⟨k, i, rfl, rfl, J, rfl, hU⟩ | ⟨rfl, rfl, J, rfl, hU⟩)
          · simp only [Exit.inBlock, if_pos, Exit.then]
            refine hK _ _ ?_
            have HU := Lib.hid hU
            clear hU
            unfold beFrame
            go_wp2
            go_ret
            exact ⟨HU.out, rfl⟩
          · simp only [Exit.inBlock, Exit.then]
            go_ret
            exact ⟨hU, rfl⟩
        · go_wp2
          rename_i K hK
          refine wp_mono (HL.out e _ _ ⟨e, 0, rfl, by omega, Nat.zero_le _, HR.out, _, pframe_ex (F := beFrame _ e e 0) (by rfl), HU0.out⟩) ?_
          rintro ex a' w' (⟨k, i, rfl, rfl, J, rfl, hU⟩ | ⟨rfl, rfl, J, rfl, hU⟩)
          · simp only [Exit.inBlock, if_pos, Exit.then]
            refine hK _ _ ?_
            have HU := Lib.hid hU
            clear hU
            unfold beFrame
            go_wp2
            go_ret
            exact ⟨HU.out, rfl⟩
          · simp only [Exit.inBlock, Exit.then]
            go_ret
            exact ⟨hU, rfl⟩
end
end Go.Proofs.Ytjnoffgclibfaaa
