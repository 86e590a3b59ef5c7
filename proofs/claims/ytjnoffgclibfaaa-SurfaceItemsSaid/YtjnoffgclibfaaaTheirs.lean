/- theirs: the same row, as the document's. -/
import Derived.Test.YtjnoffgclibfaaaRefParse2
set_option linter.unusedSimpArgs false
set_option linter.unusedVariables false
namespace Go.Proofs.Ytjnoffgclibfaaa
open Go.Conc Go.Lx Go.RowKit

def SxAt (w0 : World) (b off : Nat) (row : List Sx) : Prop := ∀ k x, row[k]? = some x → w0.cell? ⟨b, off + k * 3, none⟩ = some (.int .i64 x.many) ∧ w0.cell? ⟨b, off + k * 3 + 1, none⟩ = some (.int .i64 x.pos) ∧ w0.cell? ⟨b, off + k * 3 + 2, none⟩ = some (.string x.word)
def SxArg (w0 : World) (p : Option Addr) (row : List Sx) : Prop := row ≠ [] → ∃ b off, p = some ⟨b, off, none⟩ ∧ b < w0.heap.size ∧ SxAt w0 b off row
theorem sxCells_at (all : List Sx) : ∀ k t, all[k]? = some t → (sxCells all)[k * 3]? = some (.int .i64 t.many) ∧ (sxCells all)[k * 3 + 1]? = some (.int .i64 t.pos) ∧ (sxCells all)[k * 3 + 2]? = some (.string t.word) := by
  induction all with
  | nil => intro k t h; simp at h
  | cons x l ih =>
    intro k t h
    cases k with
    | zero => cases h; exact ⟨rfl, rfl, rfl⟩
    | succ k =>
      have := ih k t h
      rw [show (k + 1) * 3 = k * 3 + 1 + 1 + 1 by omega, show k * 3 + 1 + 1 + 1 + 1 = (k * 3 + 1) + 1 + 1 + 1 by omega, show k * 3 + 1 + 1 + 1 + 2 = (k * 3 + 2) + 1 + 1 + 1 by omega]
      exact this
theorem sx_arg {w : World} {base : Nat} {e : TypeId} {l : Value} {row : List Sx} (h : w.ownsRow base e 3 l row.length (sxCells row)) : ∃ p cap, l = .slice p row.length cap ∧ SxArg w p row := by
  rcases h.2 with ⟨rfl, h0⟩ | ⟨g, cap, cur, rfl, hb, hg, rest⟩
  · refine ⟨none, 0, by rw [h0], fun hne => ?_⟩
    exact absurd (List.length_eq_zero_iff.1 h0) hne
  · refine ⟨_, cap, rfl, fun _ => ⟨g, 0, rfl, (Array.getElem?_eq_some_iff.1 hg).1, fun k t ht => ?_⟩⟩
    obtain ⟨h1, h2, h3⟩ := sxCells_at row k t ht
    rw [Nat.zero_add]
    exact ⟨row_cell h rfl h1, row_cell h rfl h2, row_cell h rfl h3⟩

noncomputable def thText : Code := Try.f21.body.getD .skip
noncomputable def thRound : Code := inOf (inOf (sndOf (fstOf (sndOf (sndOf thText)))))
def thFrame (l : Value) (k : Nat) (vr : Value) (J : Nat → Value) : Array Value := #[l, J 1, J 2, vr, .int .i64 (k : Int), J 5, J 6, J 7, J 8, J 9, J 10, J 11, J 12, J 13, J 14, J 15, J 16, J 17, J 18, J 19]

section
variable {w0 : World} {b off n cap k : Nat} {vr : Value} {row : List Sx} {x : Sx}
def TNext (w0 : World) (l : Value) (k : Nat) (row : List Sx) (a' : Act) (w' : World) : Prop :=
  ∃ vr J, a' = ⟨thFrame l k vr J, []⟩ ∧ w'.ownsRow w0.heap.size 75 3 vr k (sxCells row) ∧ Under w0 w'
def TDone (l : Value) (n : Nat) (vr : Value) (w : World) (e : Exit) (a' : Act) (w' : World) : Prop := e = .exit 0 ∧ ∃ J, a' = ⟨thFrame l n vr J, []⟩ ∧ w' = w
set_option maxRecDepth 100000 in
theorem th_done (p : Option Addr) (J : Nat → Value) (w : World) :
    thRound.wp Try.prog (Exit.then (fun _ _ => False) (TDone (.slice p n cap) n vr w)) ⟨thFrame (.slice p n cap) n vr J, []⟩ w := by
  unfold thRound thText
  simp only [Try.f21, Option.getD_some, fstOf, sndOf, inOf]
  unfold thFrame
  go_wp2
  exact ⟨rfl, frame_ex (F := thFrame (.slice p n cap) n vr) (by rfl) rfl⟩
set_option maxRecDepth 100000 in
set_option maxHeartbeats 4000000 in
theorem th_one (hk : k < n) (hn : n ≤ 1000000) (J : Nat → Value) (w : World) (hP : w.ownsRow w0.heap.size 75 3 vr k (sxCells row)) (hU : Under w0 w)
    (hb0 : b < w0.heap.size) (c0 : w0.cell? ⟨b, off + k * 3, none⟩ = some (.int .i64 x.many)) (c1 : w0.cell? ⟨b, off + k * 3 + 1, none⟩ = some (.int .i64 x.pos)) (c2 : w0.cell? ⟨b, off + k * 3 + 2, none⟩ = some (.string x.word)) :
    thRound.wp Try.prog (Exit.then (TNext w0 (.slice (some ⟨b, off, none⟩) n cap) (k + 1) (row ++ [x])) (fun _ _ _ => False)) ⟨thFrame (.slice (some ⟨b, off, none⟩) n cap) k vr J, []⟩ w := by
  have hb := Nat.lt_of_lt_of_le hb0 hU.size
  rw [← under_cell hU hb0] at c0 c1 c2
  obtain ⟨i0, hi, hz0, hz1, hz2⟩ := info_parts Try.info75
  have hin : (k : Int) < n := by omega
  have hmx : k + 1 ≤ maxLen := by simp only [maxLen]; omega
  have hby : (k + 1) * 32 ≤ 140737488355328 := by omega
  have hws := hU.size
  have HP := Lib.hid hP
  have HU := Lib.hid hU
  clear hP hU
  unfold thRound thText
  simp only [Try.f21, Option.getD_some, fstOf, sndOf, inOf]
  unfold thFrame
  go_wp2_with (at_builtin; refine wpList_append_own_at _ rfl _ _ 39 rfl w0.heap.size 75 i0 _ 3 32 Try.underlying39 hi hz0 hz1 hz2 rfl (by decide) _ _ _ rfl (HP.out.alloc _) ⟨w.heap.size, 0, none⟩ 1 1 [.int .i64 x.many, .int .i64 x.pos, .string x.word] rfl rfl ?c1 ?c2 hmx hby ?c5 ?_)
  case c1 => 
    intro j u hj
    match j, hj with
    | 0, hj => cases hj; simp [Addr.add]
    | 1, hj => cases hj; simp [Addr.add]
    | 2, hj => cases hj; simp [Addr.add]
  case c2 => intro u hu; simp at hu; rcases hu with rfl | rfl | rfl <;> rfl
  case c5 => simp; omega
  intro v' w' hown hgrow hnil hat
  have HW := Lib.hid hown
  have HU2 := Lib.hid (under_grown (under_alloc HU.out _) hgrow fun g e => (row_lt HP.out e).1)
  clear hown hgrow hnil hat
  go_wp2
  exact ⟨v', frame_ex (F := thFrame _ (k + 1) v') (by rfl) ⟨by rw [sxCells_app]; exact HW.out, HU2.out⟩⟩

def TI (w0 : World) (l : Value) (row : List Sx) (m : Nat) (a : Act) (w : World) : Prop := ∃ k, m + k = row.length ∧ TNext w0 l k (row.take k) a w
def TEnd (w0 : World) (l : Value) (row : List Sx) (e : Exit) (a : Act) (w : World) : Prop := e = .exit 0 ∧ TNext w0 l row.length row a w
theorem th_rounds (row : List Sx) {p : Option Addr} (hn : row.length ≤ 1000000) (hp : SxArg w0 p row) (m : Nat) (a : Act) (w : World) (h0 : TI w0 (.slice p row.length cap) row m a w) :
    (Code.loop thRound).wp Try.prog (TEnd w0 (.slice p row.length cap) row) a w := by
  refine wp_loop_ghost _ m h0 ?_
  clear h0
  rintro m a w ⟨k, hmk, vr, J, rfl, hown, hU⟩
  by_cases hkn : k = row.length
  · subst hkn
    refine wp_mono (th_done p J w) ?_
    rintro e a' w' h
    cases e with
    | normal => exact h.elim
    | _ =>
      obtain ⟨h1, J', rfl, rfl⟩ := h
      rw [List.take_length] at hown
      exact ⟨h1, vr, J', rfl, hown, hU⟩
  have hlt : k < row.length := by omega
  obtain ⟨b, off, rfl, hb0, ht⟩ := hp (fun e => by rw [e] at hlt; exact absurd hlt (Nat.not_lt_zero _))
  obtain ⟨c0, c1, c2⟩ := ht k row[k] (List.getElem?_eq_getElem hlt)
  refine wp_mono (th_one hlt hn J w hown hU hb0 c0 c1 c2) ?_
  rintro e a' w' h
  cases e with
  | normal => exact ⟨m - 1, by omega, k + 1, by omega, by rw [List.take_succ_eq_append_getElem hlt]; exact h⟩
  | _ => exact h.elim

set_option maxRecDepth 100000 in
set_option maxHeartbeats 4000000 in
theorem theirs_any (row : List Sx) {p : Option Addr} (hn : row.length ≤ 1000000) (hp : SxArg w0 p row) :
    Calls Try.prog 21 #[.slice p row.length cap] w0 fun e w' => ∃ v, e = .returned v ∧ w'.ownsRow w0.heap.size 75 3 v row.length (sxCells row) ∧ Under w0 w' := by
  have HL := Lib.hid (fun m a w h => th_rounds (w0 := w0) (cap := cap) row hn hp m a w h)
  clear hp
  go_enter Try.func21, Try.ntmps21
  go_wp2
  rename_i K hK
  refine wp_mono (HL.out row.length _ _ ⟨0, rfl, .slice (some ⟨w0.heap.size, 0, none⟩) 0 0, _, pframe_ex (F := thFrame _ 0 _) (by rfl), row_new0 w0 _ _ _ (Nat.le_refl _), under_alloc ⟨rfl, rfl, Nat.le_refl _, fun _ _ => rfl⟩ _⟩) ?_
  rintro e a' w' ⟨rfl, vr, J, rfl, hown, hU⟩
  simp only [Exit.inBlock, if_pos, Exit.then]
  refine hK _ _ ?_
  unfold thFrame
  have HO := Lib.hid hown
  clear hown
  go_wp2
  go_ret
  exact ⟨vr, rfl, HO.out, hU⟩
end
end Go.Proofs.Ytjnoffgclibfaaa
