/- heavy: its contract. -/
import Derived.Test.YtjnoffgclibfaaaRefItems
set_option linter.unusedSimpArgs false
set_option linter.unusedVariables false
namespace Go.Proofs.Ytjnoffgclibfaaa
open Go.Conc Go.Lx Go.RowKit

noncomputable def hvText : Code := Try.f24.body.getD .skip
noncomputable def hvRound : Code := inOf (inOf (sndOf (fstOf (sndOf (sndOf hvText)))))
def hvFrame (l : Value) (k : Nat) (J : Nat → Value) : Array Value := #[l, J 1, J 2, .int .i64 (k : Int), J 4, J 5, J 6, J 7, J 8, J 9, J 10, J 11, J 12, J 13, J 14, J 15, J 16, J 17, J 18, J 19]
def hvOut (J : Nat → Value) : Array Value := #[J 0, J 1, .bool true, J 3, J 4, J 5, J 6, J 7, J 8, J 9, J 10, J 11, J 12, J 13, J 14, J 15, J 16, J 17, J 18, J 19]
def VNext (w0 : World) (l : Value) (k : Nat) (a' : Act) (w' : World) : Prop := ∃ J, a' = ⟨hvFrame l k J, []⟩ ∧ Under w0 w'
def VBad (w0 : World) (ex : Exit) (a' : Act) (w' : World) : Prop := ex = .ret ∧ ∃ J, a' = ⟨hvOut J, []⟩ ∧ Under w0 w'
def VDone (w0 : World) (l : Value) (k : Nat) (ex : Exit) (a' : Act) (w' : World) : Prop := ex = .exit 0 ∧ VNext w0 l k a' w'
section
variable {w0 : World} {b off n cap k : Nat} {x : Sx}
set_option maxRecDepth 100000 in
theorem hv_done {p : Option Addr} (J : Nat → Value) (w : World) (hU : Under w0 w) :
    hvRound.wp Try.prog (Exit.then (fun _ _ => False) (VDone w0 (.slice p n cap) n)) ⟨hvFrame (.slice p n cap) n J, []⟩ w := by
  have HU := Lib.hid hU
  clear hU
  unfold hvRound hvText
  simp only [Try.f24, Option.getD_some, fstOf, sndOf, inOf]
  unfold hvFrame
  go_wp2
  exact ⟨rfl, frame_ex (F := hvFrame _ n) (by rfl) HU.out⟩
set_option maxRecDepth 100000 in
set_option maxHeartbeats 4000000 in
theorem hv_one (hk : k < n) (hn : n ≤ 200) (J : Nat → Value) (w : World) (hU : Under w0 w) (hb0 : b < w0.heap.size) (c2 : w0.cell? ⟨b, off + k * 3 + 2, none⟩ = some (.string x.word)) :
    hvRound.wp Try.prog (Exit.then (fun a' w' => x.word.size ≤ 100 ∧ VNext w0 (.slice (some ⟨b, off, none⟩) n cap) (k + 1) a' w') (VBad w0)) ⟨hvFrame (.slice (some ⟨b, off, none⟩) n cap) k J, []⟩ w := by
  rw [← under_cell hU hb0] at c2
  have h1 : (k : Int) < n := by omega
  have h2 : (0 : Int) ≤ k := by omega
  have h3 : (k : Int) ≤ 200 := by omega
  obtain ⟨m, q, t⟩ := x
  simp only at c2
  have HU := Lib.hid hU
  clear hU
  unfold hvRound hvText
  simp only [Try.f24, Option.getD_some, fstOf, sndOf, inOf]
  unfold hvFrame
  by_cases ht : (100 : Int) < t.size
  · go_wp2
    exact ⟨rfl, frame_ex (F := hvOut) (by rfl) HU.out⟩
  · have ht' := Lib.hid (show t.size ≤ 100 by omega)
    go_wp2
    exact ⟨ht'.out, frame_ex (F := hvFrame _ (k + 1)) (by rfl) HU.out⟩
def VI (w0 : World) (l : Value) (row : List Sx) (m : Nat) (a : Act) (w : World) : Prop := ∃ k, m + k = row.length ∧ (∀ x ∈ row.take k, x.word.size ≤ 100) ∧ VNext w0 l k a w
def VEnd (w0 : World) (l : Value) (row : List Sx) (e : Exit) (a : Act) (w : World) : Prop := (VDone w0 l row.length e a w ∧ ∀ x ∈ row, x.word.size ≤ 100) ∨ VBad w0 e a w
theorem hv_rounds (row : List Sx) {p : Option Addr} (hn : row.length ≤ 200) (hp : SxArg w0 p row) (m : Nat) (a : Act) (w : World) (h0 : VI w0 (.slice p row.length cap) row m a w) :
    (Code.loop hvRound).wp Try.prog (VEnd w0 (.slice p row.length cap) row) a w := by
  refine wp_loop_ghost _ m h0 ?_
  clear h0
  rintro m a w ⟨k, hmk, hw, J, rfl, hU⟩
  by_cases hkn : k = row.length
  · subst hkn
    refine wp_mono (hv_done J w hU) ?_
    rintro e a' w' h
    cases e with
    | normal => exact h.elim
    | _ => rw [List.take_length] at hw; exact .inl ⟨h, hw⟩
  have hlt : k < row.length := by omega
  obtain ⟨b, off, rfl, hb0, ht⟩ := hp (fun e => by rw [e] at hlt; exact absurd hlt (Nat.not_lt_zero _))
  obtain ⟨c0, c1, c2⟩ := ht k row[k] (List.getElem?_eq_getElem hlt)
  refine wp_mono (hv_one (cap := cap) hlt hn J w hU hb0 c2) ?_
  rintro e a' w' h
  cases e with
  | normal =>
    refine ⟨m - 1, by omega, k + 1, by omega, ?_, h.2⟩
    intro x hx
    rw [List.take_succ_eq_append_getElem hlt, List.mem_append] at hx
    rcases hx with hx | hx
    · exact hw x hx
    · rw [List.mem_singleton.1 hx]; exact h.1
  | _ => exact .inr h
def HeavyOut (w0 : World) (row : List Sx) (e : Ending) (w' : World) : Prop :=
  Under w0 w' ∧ (e = .returned (.bool true) ∨ (e = .returned (.bool false) ∧ row.length ≤ 200 ∧ ∀ x ∈ row, x.word.size ≤ 100))
set_option maxRecDepth 100000 in
set_option maxHeartbeats 4000000 in
theorem heavy_any (row : List Sx) {p : Option Addr} (hp : SxArg w0 p row) :
    Calls Try.prog 24 #[.slice p row.length cap] w0 (HeavyOut w0 row) := by
  by_cases hb : (200 : Int) < row.length
  · clear hp
    go_enter Try.func24, Try.ntmps24
    go_wp2
    go_ret
    exact ⟨⟨rfl, rfl, Nat.le_refl _, fun _ _ => rfl⟩, .inl rfl⟩
  · have hn : row.length ≤ 200 := by omega
    have HL := Lib.hid (fun m a w h => hv_rounds (w0 := w0) (cap := cap) row hn hp m a w h)
    clear hp
    go_enter Try.func24, Try.ntmps24
    go_wp2
    rename_i K hK
    refine wp_mono (HL.out row.length _ _ ⟨0, rfl, by simp, _, pframe_ex (F := hvFrame _ 0) (by rfl), ⟨rfl, rfl, Nat.le_refl _, fun _ _ => rfl⟩⟩) ?_
    rintro e a' w' (⟨⟨rfl, J, rfl, hU⟩, hw⟩ | ⟨rfl, J, rfl, hU⟩)
    · simp only [Exit.inBlock, if_pos, Exit.then]
      refine hK _ _ ?_
      have HU := Lib.hid hU
      have HW := Lib.hid hw
      clear hU hw
      unfold hvFrame
      go_wp2
      go_ret
      exact ⟨HU.out, .inr ⟨rfl, by omega, HW.out⟩⟩
    · simp only [Exit.inBlock, Exit.then]
      go_ret
      exact ⟨hU, .inl rfl⟩
end
end Go.Proofs.Ytjnoffgclibfaaa
