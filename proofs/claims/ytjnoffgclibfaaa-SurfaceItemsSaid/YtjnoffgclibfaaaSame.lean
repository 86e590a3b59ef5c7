/- corniceref07.Same at two rows that are alike. -/
import Derived.Test.YtjnoffgclibfaaaTheirs
set_option linter.unusedSimpArgs false
set_option linter.unusedVariables false
namespace Go.Proofs.Ytjnoffgclibfaaa
open Go.Conc Go.Lx Go.RowKit

noncomputable def smText : Code := Try.f20.body.getD .skip
noncomputable def smRound : Code := inOf (inOf (sndOf (fstOf (sndOf (sndOf smText)))))
def smFrame (l r : Value) (k : Nat) (J : Nat → Value) : Array Value := #[l, r, .bool true, J 3, J 4, J 5, J 6, .int .i64 (k : Int), J 8, J 9, J 10, J 11, J 12, J 13, J 14, J 15, J 16, J 17, J 18, J 19, J 20, J 21, J 22, J 23, J 24, J 25, J 26, J 27, J 28, J 29, J 30, J 31, J 32, J 33, J 34, J 35, J 36, J 37, J 38, J 39, J 40, J 41, J 42, J 43, J 44, J 45, J 46, J 47, J 48, J 49, J 50, J 51, J 52, J 53, J 54, J 55, J 56, J 57, J 58]

section
variable {w0 : World} {b off b' off' n cap cap' k : Nat} {row : List Sx} {x : Sx}
def SNext (w0 : World) (l r : Value) (k : Nat) (a' : Act) (w' : World) : Prop := ∃ J, a' = ⟨smFrame l r k J, []⟩ ∧ Under w0 w'
def SDone (l r : Value) (n : Nat) (w : World) (e : Exit) (a' : Act) (w' : World) : Prop := e = .exit 0 ∧ ∃ J, a' = ⟨smFrame l r n J, []⟩ ∧ w' = w
set_option maxRecDepth 100000 in
theorem sm_done (p : Option Addr) (r : Value) (J : Nat → Value) (w : World) :
    smRound.wp Try.prog (Exit.then (fun _ _ => False) (SDone (.slice p n cap) r n w)) ⟨smFrame (.slice p n cap) r n J, []⟩ w := by
  unfold smRound smText
  simp only [Try.f20, Option.getD_some, fstOf, sndOf, inOf]
  unfold smFrame
  go_wp2
  exact ⟨rfl, frame_ex (F := smFrame (.slice p n cap) r n) (by rfl) rfl⟩
set_option maxRecDepth 100000 in
set_option maxHeartbeats 4000000 in
theorem sm_one (hk : k < n) (hn : n ≤ 1000000) (J : Nat → Value) (w : World) (hU : Under w0 w)
    (hb0 : b < w0.heap.size) (c0 : w0.cell? ⟨b, off + k * 3, none⟩ = some (.int .i64 x.many)) (c1 : w0.cell? ⟨b, off + k * 3 + 1, none⟩ = some (.int .i64 x.pos)) (c2 : w0.cell? ⟨b, off + k * 3 + 2, none⟩ = some (.string x.word))
    (hb0' : b' < w0.heap.size) (d0 : w0.cell? ⟨b', off' + k * 3, none⟩ = some (.int .i64 x.many)) (d1 : w0.cell? ⟨b', off' + k * 3 + 1, none⟩ = some (.int .i64 x.pos)) (d2 : w0.cell? ⟨b', off' + k * 3 + 2, none⟩ = some (.string x.word)) :
    smRound.wp Try.prog (Exit.then (SNext w0 (.slice (some ⟨b, off, none⟩) n cap) (.slice (some ⟨b', off', none⟩) n cap') (k + 1)) (fun _ _ _ => False)) ⟨smFrame (.slice (some ⟨b, off, none⟩) n cap) (.slice (some ⟨b', off', none⟩) n cap') k J, []⟩ w := by
  rw [← under_cell hU hb0] at c0 c1 c2
  rw [← under_cell hU hb0'] at d0 d1 d2
  have hin : (k : Int) < n := by omega
  have hk0 : (0 : Int) ≤ (k : Int) := Int.natCast_nonneg _
  have HU := Lib.hid hU
  clear hU
  unfold smRound smText
  simp only [Try.f20, Option.getD_some, fstOf, sndOf, inOf]
  unfold smFrame
  obtain ⟨m, q, t⟩ := x
  simp only at c0 c1 c2 d0 d1 d2
  have e1 : (m != m) = false := by simp
  have e2 : (q != q) = false := by simp
  go_wp2_with fail
  go_quiet (fail)
  go_wp2
  exact frame_ex (F := smFrame _ _ (k + 1)) (by rfl) (under_drewN HU.out _)

def SI (w0 : World) (l r : Value) (n m : Nat) (a : Act) (w : World) : Prop := ∃ k, m + k = n ∧ SNext w0 l r k a w
theorem sm_rounds (row : List Sx) {p q : Option Addr} (hn : row.length ≤ 1000000) (hp : SxArg w0 p row) (hq : SxArg w0 q row) (m : Nat) (a : Act) (w : World) (h0 : SI w0 (.slice p row.length cap) (.slice q row.length cap') row.length m a w) :
    (Code.loop smRound).wp Try.prog (fun e a w => e = .exit 0 ∧ SNext w0 (.slice p row.length cap) (.slice q row.length cap') row.length a w) a w := by
  refine wp_loop_ghost _ m h0 ?_
  clear h0
  rintro m a w ⟨k, hmk, J, rfl, hU⟩
  by_cases hkn : k = row.length
  · subst hkn
    refine wp_mono (sm_done p _ J w) ?_
    rintro e a' w' h
    cases e with
    | normal => exact h.elim
    | _ =>
      obtain ⟨h1, J', rfl, rfl⟩ := h
      exact ⟨h1, J', rfl, hU⟩
  have hlt : k < row.length := by omega
  obtain ⟨b, off, rfl, hb0, ht⟩ := hp (fun e => by rw [e] at hlt; exact absurd hlt (Nat.not_lt_zero _))
  obtain ⟨b', off', rfl, hb0', ht'⟩ := hq (fun e => by rw [e] at hlt; exact absurd hlt (Nat.not_lt_zero _))
  obtain ⟨c0, c1, c2⟩ := ht k row[k] (List.getElem?_eq_getElem hlt)
  obtain ⟨d0, d1, d2⟩ := ht' k row[k] (List.getElem?_eq_getElem hlt)
  refine wp_mono (sm_one hlt hn J w hU hb0 c0 c1 c2 hb0' d0 d1 d2) ?_
  rintro e a' w' h
  cases e with
  | normal => exact ⟨m - 1, by omega, k + 1, by omega, h⟩
  | _ => exact h.elim

set_option maxRecDepth 100000 in
set_option maxHeartbeats 4000000 in
theorem same_any (row : List Sx) {p q : Option Addr} (hn : row.length ≤ 1000000) (hp : SxArg w0 p row) (hq : SxArg w0 q row) :
    Calls Try.prog 20 #[.slice p row.length cap, .slice q row.length cap', .bool true] w0 fun e w' => e = .returned (.bool true) ∧ Under w0 w' := by
  have HL := Lib.hid (fun m a w h => sm_rounds (w0 := w0) (cap := cap) (cap' := cap') row hn hp hq m a w h)
  clear hp hq
  go_enter Try.func20, Try.ntmps20
  go_wp2
  rename_i K hK
  refine wp_mono (HL.out row.length _ _ ⟨0, rfl, _, pframe_ex (F := smFrame _ _ 0) (by rfl), ⟨rfl, rfl, Nat.le_refl _, fun _ _ => rfl⟩⟩) ?_
  rintro e a' w' ⟨rfl, J, rfl, hU⟩
  simp only [Exit.inBlock, if_pos, Exit.then]
  refine hK _ _ ?_
  unfold smFrame
  go_wp2
  go_ret
  exact ⟨rfl, hU⟩
end
end Go.Proofs.Ytjnoffgclibfaaa
