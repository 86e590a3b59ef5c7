/- SurfaceParses, walked: the loop that hands the tokens on. -/
import Derived.Test.YtjnoffgclibfaaaSame
import Derived.Test.YtjnoffgclibfaaaShown7
set_option linter.unusedSimpArgs false
set_option linter.unusedVariables false
namespace Go.Proofs.Ytjnoffgclibfaaa
open Go.Conc Go.Lx Go.RowKit

def ptCells : List PTok → List Value
  | [] => []
  | x :: l => .int .i64 x.kind :: .int .i64 x.pos :: .string x.text :: ptCells l
theorem ptCells_app (l r : List PTok) : ptCells (l ++ r) = ptCells l ++ ptCells r := by
  induction l with
  | nil => rfl
  | cons x l ih => simp [ptCells, ih]

/-- A token of which something is promised. -/
def GoodTok (t : PTok) : Prop := (t.kind = 1 ∨ t.kind = 2 ∨ t.kind = 3) ∧ (t.kind = 1 → t.text.size ≠ 0) ∧ t.text.size ≤ 100
theorem toList_ne {t : ByteArray} (h : t.size ≠ 0) : ¬ t.toList = [] ∧ t.toList.isEmpty = false := by
  have : t.toList.length ≠ 0 := by rw [ByteArray.toList_eq]; exact h
  constructor
  · intro e; rw [e] at this; exact this rfl
  · cases hl : t.toList with
    | nil => rw [hl] at this; exact absurd rfl this
    | cons a l => rfl

theorem Try.info44 : (Try.prog.info? 44).map (fun i => (i.zero, i.size, i.bytes)) = some (some (.agg #[.int .i64 0, .int .i64 0, .string ⟨#[]⟩]), 3, 32) := by kernel_rfl

noncomputable def psText : Code := Try.f7.body.getD .skip
noncomputable def psLoop : Code := fstOf (sndOf (sndOf (sndOf psText)))
noncomputable def psRound : Code := inOf (inOf (sndOf psLoop))
noncomputable def psRest : Code := sndOf (sndOf (sndOf (sndOf psText)))
def psFrame (l : Value) (k : Nat) (vt : Value) (J : Nat → Value) : Array Value := #[l, J 1, J 2, vt, .int .i64 (k : Int), J 5, J 6, J 7, J 8, J 9, J 10, J 11, J 12, J 13, J 14, J 15, J 16, J 17, J 18, J 19, J 20, J 21, J 22, J 23, J 24, J 25, J 26, J 27, J 28, J 29, J 30, J 31, J 32, J 33, J 34, J 35, J 36, J 37, J 38, J 39, J 40, J 41, J 42, J 43, J 44, J 45, J 46, J 47, J 48, J 49, J 50, J 51, J 52, J 53, J 54, J 55, J 56, J 57, J 58, J 59, J 60, J 61, J 62, J 63, J 64, J 65, J 66, J 67, J 68, J 69, J 70, J 71, J 72, J 73, J 74, J 75, J 76, J 77, J 78, J 79, J 80, J 81, J 82, J 83, J 84, J 85, J 86, J 87, J 88, J 89, J 90, J 91, J 92, J 93, J 94, J 95, J 96, J 97, J 98]

section
variable {W w0 : World} {b off n cap k : Nat} {vt : Value} {row : List PTok} {x : PTok}
def ANext (w0 : World) (l : Value) (k : Nat) (row : List PTok) (a' : Act) (w' : World) : Prop :=
  ∃ vt J, a' = ⟨psFrame l k vt J, []⟩ ∧ w'.ownsRow w0.heap.size 44 3 vt k (ptCells row) ∧ Under w0 w'
def ADone (l : Value) (n : Nat) (vt : Value) (w : World) (e : Exit) (a' : Act) (w' : World) : Prop := e = .exit 0 ∧ ∃ J, a' = ⟨psFrame l n vt J, []⟩ ∧ w' = w
set_option maxRecDepth 100000 in
theorem ps_done (p : Option Addr) (J : Nat → Value) (w : World) :
    psRound.wp Try.prog (Exit.then (fun _ _ => False) (ADone (.slice p n cap) n vt w)) ⟨psFrame (.slice p n cap) n vt J, []⟩ w := by
  unfold psRound psLoop psText
  simp only [Try.f7, Option.getD_some, fstOf, sndOf, inOf]
  unfold psFrame
  go_wp2
  exact ⟨rfl, frame_ex (F := psFrame (.slice p n cap) n vt) (by rfl) rfl⟩
set_option maxRecDepth 100000 in
set_option maxHeartbeats 4000000 in
theorem ps_good (hk : k < n) (hn : n ≤ 1000000) (hx : GoodTok x) (J : Nat → Value) (w : World) (hP : w.ownsRow w0.heap.size 44 3 vt k (ptCells row)) (hU : Under w0 w)
    (hb0 : b < w0.heap.size) (c0 : w0.cell? ⟨b, off + k * 3, none⟩ = some (.int .i64 x.kind)) (c1 : w0.cell? ⟨b, off + k * 3 + 1, none⟩ = some (.int .i64 x.pos)) (c2 : w0.cell? ⟨b, off + k * 3 + 2, none⟩ = some (.string x.text)) :
    psRound.wp Try.prog (Exit.then (ANext w0 (.slice (some ⟨b, off, none⟩) n cap) (k + 1) (row ++ [x])) (fun _ _ _ => False)) ⟨psFrame (.slice (some ⟨b, off, none⟩) n cap) k vt J, []⟩ w := by
  have hb := Nat.lt_of_lt_of_le hb0 hU.size
  rw [← under_cell hU hb0] at c0 c1 c2
  obtain ⟨i0, hi, hz0, hz1, hz2⟩ := info_parts Try.info44
  have hin : (k : Int) < n := by omega
  have hmx : k + 1 ≤ maxLen := by simp only [maxLen]; omega
  have hby : (k + 1) * 32 ≤ 140737488355328 := by omega
  have hws := hU.size
  have HP := Lib.hid hP
  have HU := Lib.hid hU
  clear hP hU
  unfold psRound psLoop psText
  simp only [Try.f7, Option.getD_some, fstOf, sndOf, inOf]
  unfold psFrame
  obtain ⟨kd, q, t⟩ := x
  obtain ⟨hkd, hne, hsz⟩ := hx
  simp only at c0 c1 c2 hkd hne hsz
  have hsz' : ¬ (100 : Int) < t.size := by omega
  have k1 : ¬ kd < 1 := by omega
  have k3 : ¬ 3 < kd := by omega
  clear hkd
  by_cases h1 : kd = 1
  · have k4 : (kd == 1) = true := by simpa using h1
    obtain ⟨e1, e2⟩ := toList_ne (hne h1)
    have H1 := Lib.hid h1
    clear h1 hne
    go_wp2_with (at_builtin; refine wpList_append_own_at _ rfl _ _ 27 rfl w0.heap.size 44 i0 _ 3 32 Try.underlying27 hi hz0 hz1 hz2 rfl (by decide) _ _ _ rfl (HP.out.alloc _) ⟨w.heap.size, 0, none⟩ 1 1 [.int .i64 kd, .int .i64 q, .string t] rfl rfl ?y1 ?y2 hmx hby ?y5 ?_)
    case y2 => exact ⟨rfl, rfl, rfl⟩
    case y5 => omega
    intro v' w' hown hgrow hnil hat
    have HW := Lib.hid hown
    have HU2 := Lib.hid (under_grown (under_alloc HU.out _) hgrow fun g e => (row_lt HP.out e).1)
    clear hown hgrow hnil hat
    go_wp2
    exact ⟨v', frame_ex (F := psFrame _ (k + 1) v') (by rfl) ⟨by rw [ptCells_app]; exact HW.out, HU2.out⟩⟩
  · have k4 : (kd == 1) = false := by simpa using h1
    have H1 := Lib.hid h1
    clear h1 hne
    go_wp2_with (at_builtin; refine wpList_append_own_at _ rfl _ _ 27 rfl w0.heap.size 44 i0 _ 3 32 Try.underlying27 hi hz0 hz1 hz2 rfl (by decide) _ _ _ rfl (HP.out.alloc _) ⟨w.heap.size, 0, none⟩ 1 1 [.int .i64 kd, .int .i64 q, .string t] rfl rfl ?z1 ?z2 hmx hby ?z5 ?_)
    case z2 => exact ⟨rfl, rfl, rfl⟩
    case z5 => omega
    intro v' w' hown hgrow hnil hat
    have HW := Lib.hid hown
    have HU2 := Lib.hid (under_grown (under_alloc HU.out _) hgrow fun g e => (row_lt HP.out e).1)
    clear hown hgrow hnil hat
    go_wp2
    exact ⟨v', frame_ex (F := psFrame _ (k + 1) v') (by rfl) ⟨by rw [ptCells_app]; exact HW.out, HU2.out⟩⟩
end
end Go.Proofs.Ytjnoffgclibfaaa
