/- corniceref07.Parse, walked: a round. -/
import Derived.Test.YtjnoffgclibfaaaParse2
import Derived.Deep.RegionHeld3
import Derived.Deep.AppendLies
set_option linter.unusedSimpArgs false
set_option linter.unusedVariables false
namespace Go.Proofs.Ytjnoffgclibfaaa
open Go.Conc Go.Lx Go.RowKit

def opCells : List Sx → List Value
  | [] => []
  | x :: l => .int .i64 x.pos :: .int .i64 x.many :: opCells l
theorem opCells_app (l r : List Sx) : opCells (l ++ r) = opCells l ++ opCells r := by
  induction l with
  | nil => rfl
  | cons x l ih => simp [opCells, ih]
theorem opCells_len (l : List Sx) : (opCells l).length = l.length * 2 := by
  induction l with
  | nil => rfl
  | cons x l ih => simp [opCells, ih]; omega

structure RH (w0 : World) (vr : Value) (row : List Sx) (vo : Value) (init : List Sx) (x : Sx) (w : World) : Prop where
  row : w.ownsRow w0.heap.size 75 3 vr row.length (sxCells row)
  op : w.ownsRow w0.heap.size 78 2 vo (init.length + 1) (opCells (init ++ [x]))
  ne : vr.ownBlock = none ∨ vr.ownBlock ≠ vo.ownBlock
  low : Under w0 w

theorem Try.info75 : (Try.prog.info? 75).map (fun i => (i.zero, i.size, i.bytes)) = some (some (.agg #[.int .i64 0, .int .i64 0, .string ⟨#[]⟩]), 3, 32) := by kernel_rfl
theorem Try.info78 : (Try.prog.info? 78).map (fun i => (i.zero, i.size, i.bytes)) = some (some (.agg #[.int .i64 0, .int .i64 0]), 2, 16) := by kernel_rfl

section
variable {w0 w w' : World} {vr vo v' : Value} {row init : List Sx} {x y : Sx}
theorem RH.alloc (h : RH w0 vr row vo init x w) (o : Obj) : RH w0 vr row vo init x (w.alloc o) := ⟨h.row.alloc o, h.op.alloc o, h.ne, under_alloc h.low o⟩
theorem RH.drew (h : RH w0 vr row vo init x w) : RH w0 vr row vo init x w.drew := ⟨h.row.drew, h.op.drew, h.ne, ⟨h.low.os, h.low.output, h.low.size, h.low.low⟩⟩
theorem RH.addRow (h : RH w0 vr row vo init x w) (hg : w.grownBy w' vr.ownBlock) (hat : v'.ownBlock = vr.ownBlock ∨ v'.ownBlock = some w.heap.size) (hr : w'.ownsRow w0.heap.size 75 3 v' (row.length + 1) (sxCells row ++ [.int .i64 y.many, .int .i64 y.pos, .string y.word])) : RH w0 v' (row ++ [y]) vo init x w' := by
  refine ⟨by rw [List.length_append, sxCells_app]; exact hr, row_grown h.op hg ?_, ?_, under_grown h.low hg fun g e => (row_lt h.row e).1⟩
  · rcases h.ne with e | e
    · rw [e]; cases vo.ownBlock <;> simp
    · exact .inr fun e' => e e'.symm
  · rcases hat with e | e
    · rw [e]; exact h.ne
    · rw [e]; refine .inr fun e' => ?_
      have := (row_lt h.op e'.symm).2; omega
theorem RH.addOpen (h : RH w0 vr row vo init x w) (hg : w.grownBy w' vo.ownBlock) (hat : v'.ownBlock = vo.ownBlock ∨ v'.ownBlock = some w.heap.size) (hr : w'.ownsRow w0.heap.size 78 2 v' (init.length + 1 + 1) (opCells (init ++ [x]) ++ [.int .i64 y.pos, .int .i64 y.many])) : RH w0 vr row v' (init ++ [x]) y w' := by
  refine ⟨row_grown h.row hg h.ne, by rw [List.length_append, opCells_app (init ++ [x])]; exact hr, ?_, under_grown h.low hg fun g e => (row_lt h.op e).1⟩
  rcases hat with e | e
  · rw [e]; exact h.ne
  · rw [e]; cases hv : vr.ownBlock with
    | none => exact .inl rfl
    | some g => refine .inr fun e' => ?_; cases e'; have := (row_lt h.row hv).2; omega
theorem RH.top (h : RH w0 vr row vo init x w) {g : Nat} (hg : vo.ownBlock = some g) (m : Int) : RH w0 vr row vo init ⟨m, x.pos, x.word⟩ (w.setCell ⟨g, init.length * 2 + 1, none⟩ (.int .i64 m)) := by
  refine ⟨row_other h.row ?_ _ _, ?_, h.ne, under_set h.low (row_lt h.op hg).1 _ _⟩
  · rcases h.ne with e | e
    · rw [e]; simp
    · rw [← hg]; exact e
  · have := row_set h.op hg (j := init.length * 2 + 1) (by rw [opCells_len, List.length_append]; simp; omega) (.int .i64 m)
    rw [opCells_app, List.set_append_right _ _ (by rw [opCells_len]; omega), opCells_len, Nat.add_sub_cancel_left] at this
    rw [opCells_app]
    exact this
theorem RH.cut {g c : Nat} (h : RH w0 vr row (.slice (some ⟨g, 0, none⟩) (init.length + 1 + 1) c) (init ++ [y]) x w) : RH w0 vr row (.slice (some ⟨g, 0, none⟩) (init.length + 1) c) init y w := by
  have ho := h.op
  rw [List.length_append] at ho
  refine ⟨h.row, ?_, h.ne, h.low⟩
  have := row_cut ho (m := init.length + 1) (by simp)
  rw [opCells_app (init ++ [y]), List.take_append_of_le_length (by rw [opCells_len, List.length_append]; exact Nat.le_refl _), List.take_of_length_le (by rw [opCells_len, List.length_append]; exact Nat.le_refl _)] at this
  exact this
theorem RH.topCells (h : RH w0 vr row vo init x w) {g : Nat} (hg : vo.ownBlock = some g) : w.cell? ⟨g, init.length * 2, none⟩ = some (.int .i64 x.pos) ∧ w.cell? ⟨g, init.length * 2 + 1, none⟩ = some (.int .i64 x.many) ∧ ∀ j, w.frozen? ⟨g, j, none⟩ = false := by
  have hc : ∀ j u, [Value.int .i64 x.pos, Value.int .i64 x.many][j]? = some u → w.cell? ⟨g, init.length * 2 + j, none⟩ = some u := fun j u e => row_cell h.op hg (by rw [opCells_app, List.getElem?_append_right (by rw [opCells_len]; omega), opCells_len, Nat.add_sub_cancel_left]; exact e)
  exact ⟨hc 0 _ rfl, hc 1 _ rfl, row_free h.op hg⟩
end

noncomputable def rpText : Code := Try.f23.body.getD .skip
noncomputable def rpLoop : Code := fstOf (sndOf (sndOf (sndOf rpText)))
noncomputable def rpRound : Code := inOf (inOf (sndOf rpLoop))
def rpFrame (l : Value) (k : Nat) (vr vo : Value) (J : Nat → Value) : Array Value :=
  #[l, J 1, J 2, J 3, J 4, vr, vo, .int .i64 (k : Int), J 8, J 9, J 10, J 11, J 12, J 13, J 14, J 15, J 16, J 17, J 18, J 19, J 20, J 21, J 22, J 23, J 24, J 25, J 26, J 27, J 28, J 29, J 30, J 31, J 32, J 33, J 34, J 35, J 36, J 37, J 38, J 39, J 40, J 41, J 42, J 43, J 44, J 45, J 46, J 47, J 48, J 49, J 50, J 51, J 52, J 53, J 54, J 55, J 56, J 57, J 58, J 59, J 60, J 61, J 62, J 63, J 64, J 65, J 66, J 67, J 68, J 69, J 70, J 71, J 72, J 73, J 74, J 75, J 76, J 77, J 78, J 79, J 80, J 81, J 82, J 83, J 84, J 85, J 86, J 87, J 88, J 89, J 90, J 91, J 92, J 93, J 94, J 95, J 96, J 97, J 98, J 99, J 100, J 101, J 102, J 103, J 104, J 105, J 106, J 107, J 108, J 109, J 110, J 111, J 112, J 113]
def RNext (w0 : World) (l : Value) (k : Nat) (row : List Sx) (init : List Sx) (x : Sx) (a' : Act) (w' : World) : Prop :=
  ∃ vr vo J, a' = ⟨rpFrame l k vr vo J, []⟩ ∧ RH w0 vr row vo init x w'

section
variable {w0 : World} {b off n cap k : Nat} {vr vo : Value} {row init : List Sx} {x : Sx}
set_option maxRecDepth 100000 in
set_option maxHeartbeats 4000000 in
theorem rp_word (pos : Int) (text : ByteArray) (hk : k < n) (hn : n ≤ 1000000) (hr : row.length ≤ 1000000) (hil : init.length ≤ 1000000) (hm0 : 0 ≤ x.many) (hm1 : x.many ≤ 1000000) (J : Nat → Value) (w : World) (hP : RH w0 vr row vo init x w)
    (hb0 : b < w0.heap.size) (c0 : w0.cell? ⟨b, off + k * 3, none⟩ = some (.int .i64 1)) (c1 : w0.cell? ⟨b, off + k * 3 + 1, none⟩ = some (.int .i64 pos)) (c2 : w0.cell? ⟨b, off + k * 3 + 2, none⟩ = some (.string text)) :
    rpRound.wp Try.prog (Exit.then (RNext w0 (.slice (some ⟨b, off, none⟩) n cap) (k + 1) (row ++ [⟨0, pos, text⟩]) init ⟨x.many + 1, x.pos, x.word⟩) (fun _ _ _ => False)) ⟨rpFrame (.slice (some ⟨b, off, none⟩) n cap) k vr vo J, []⟩ w := by
  have hb := Nat.lt_of_lt_of_le hb0 hP.low.size
  rw [← under_cell hP.low hb0] at c0 c1 c2
  obtain ⟨g, gc, rfl, hg, hgb, hgl, _, _⟩ := row_block hP.op (by omega)
  obtain ⟨i0, hi, hz0, hz1, hz2⟩ := info_parts Try.info75
  have ak : vr.ownBlock ≠ some b := fun e => by have := (row_lt hP.row e).1; omega
  have hin : (k : Int) < n := by omega
  have hk0 : (0 : Int) ≤ (k : Int) := Int.natCast_nonneg _
  unfold rpRound rpLoop rpText
  simp only [Try.f23, Option.getD_some, fstOf, sndOf, inOf]
  unfold rpFrame
  have hil' : (init.length : Int) ≤ 1000000 := by omega
  have hmx : row.length + 1 ≤ maxLen := by simp only [maxLen]; omega
  have hby : (row.length + 1) * 32 ≤ 140737488355328 := by omega
  have hws : w0.heap.size ≤ w.heap.size := hP.low.size
  have HP := Lib.hid hP
  clear hP
  go_wp2_with fail
  go_region_held3 (fun w' => w'.cell? ⟨b, off + k * 3 + 1, none⟩ = some (.int .i64 pos) ∧ w'.cell? ⟨b, off + k * 3 + 2, none⟩ = some (.string text))
    (first
      | go_keep
      | (go_split_ands
         refine ⟨?_, ?_⟩
         · (rw [hgrow.cell_far _ (by simp; omega) (Ne.symm ak)]; assumption)
         · (rw [hgrow.cell_far _ (by simp; omega) (Ne.symm ak)]; assumption)))
    ((refine step_append_lies _ (by rfl) _ _ _ (by rfl) w0.heap.size 75 i0 _ 3 32 Try.underlying39 hi hz0 hz1 hz2 rfl (by omega) vr row.length (sxCells row) (by rfl) ((HP.out.row.alloc _).drew)
        ⟨w.heap.size, 0, none⟩ 1 1 [.int .i64 0, .int .i64 pos, .string text] (by rfl) (by rfl) (World.news_of_block (cs := #[.int .i64 0, .int .i64 pos, .string text]) (t := 75) (fr := (0, 0)) (heap_alloc_new w _)) (by simp [Value.oneCell'])
        (by omega) hmx hby (by simp; omega) (w.heap.size + 1) (by simp) ?_; intro gg cc w1 hown1 hgrow hat hlt))
  have HP2 := Lib.hid ((HP.out.alloc _).drew.addRow (y := ⟨0, pos, text⟩) hgrow (by
    rcases hat with e | rfl
    · exact .inl (by rw [e]; rfl)
    · exact .inr (by simp [Value.ownBlock])) hown1)
  clear hown1 hgrow hat hlt
  obtain ⟨_, hcm2, hfr2⟩ := HP2.out.topCells hg
  have hfm2 := hfr2 (init.length * 2 + 1)
  clear hfr2 c0 c1 c2
  go_wp2
  exact ⟨_, _, frame_ex (F := rpFrame _ (k + 1) _ _) (by rfl) (HP2.out.top hg _)⟩
set_option maxRecDepth 100000 in
set_option maxHeartbeats 4000000 in
theorem rp_open (pos : Int) (text : ByteArray) (hk : k < n) (hn : n ≤ 1000000) (hil : init.length + 1 ≤ 60) (J : Nat → Value) (w : World) (hP : RH w0 vr row vo init x w)
    (hb0 : b < w0.heap.size) (c0 : w0.cell? ⟨b, off + k * 3, none⟩ = some (.int .i64 2)) (c1 : w0.cell? ⟨b, off + k * 3 + 1, none⟩ = some (.int .i64 pos)) (c2 : w0.cell? ⟨b, off + k * 3 + 2, none⟩ = some (.string text)) :
    rpRound.wp Try.prog (Exit.then (RNext w0 (.slice (some ⟨b, off, none⟩) n cap) (k + 1) row (init ++ [x]) ⟨0, pos, ⟨#[]⟩⟩) (fun _ _ _ => False)) ⟨rpFrame (.slice (some ⟨b, off, none⟩) n cap) k vr vo J, []⟩ w := by
  have hb := Nat.lt_of_lt_of_le hb0 hP.low.size
  rw [← under_cell hP.low hb0] at c0 c1 c2
  obtain ⟨g, gc, rfl, hg, hgb, hgl, _, _⟩ := row_block hP.op (by omega)
  obtain ⟨i0, hi, hz0, hz1, hz2⟩ := info_parts Try.info78
  have hin : (k : Int) < n := by omega
  unfold rpRound rpLoop rpText
  simp only [Try.f23, Option.getD_some, fstOf, sndOf, inOf]
  unfold rpFrame
  have hil' : (init.length : Int) + 1 ≤ 60 := by omega
  have hmx : init.length + 1 + 1 ≤ maxLen := by simp only [maxLen]; omega
  have hby : (init.length + 1 + 1) * 16 ≤ 140737488355328 := by omega
  have HP := Lib.hid hP
  clear hP
  go_wp2_with (at_builtin; refine wpList_append_own_at _ rfl _ _ 79 rfl w0.heap.size 78 i0 _ 2 16 Try.underlying79 hi hz0 hz1 hz2 rfl (by decide) _ _ _ rfl (HP.out.op.alloc _) ⟨w.heap.size, 0, none⟩ 1 1 [.int .i64 pos, .int .i64 0] rfl rfl ?c1 ?c2 hmx hby ?c5 ?_)
  case c1 => 
    intro j u hj
    match j, hj with
    | 0, hj => cases hj; simp [Addr.add]
    | 1, hj => cases hj; simp [Addr.add]
  case c2 => intro u hu; simp at hu; rcases hu with rfl | rfl <;> rfl
  case c5 => have := HP.out.low.size; simp; omega
  intro v' w' hown hgrow hnil hat
  have HP2 := Lib.hid ((HP.out.alloc _).addOpen (y := ⟨0, pos, ⟨#[]⟩⟩) hgrow (by simpa [Value.ownBlock] using hat) hown)
  clear hown hgrow hnil hat
  go_wp2
  exact ⟨vr, v', frame_ex (F := rpFrame _ (k + 1) vr v') (by rfl) HP2.out⟩
set_option maxRecDepth 100000 in
set_option maxHeartbeats 4000000 in
theorem rp_close {y : Sx} (pos : Int) (text : ByteArray) (hk : k < n) (hn : n ≤ 1000000) (hr : row.length ≤ 1000000) (hil : init.length ≤ 1000000) (hm0 : 0 ≤ y.many) (hm1 : y.many ≤ 1000000) (hxw : x.word = ⟨#[]⟩) (J : Nat → Value) (w : World) (hP : RH w0 vr row vo (init ++ [y]) x w)
    (hb0 : b < w0.heap.size) (c0 : w0.cell? ⟨b, off + k * 3, none⟩ = some (.int .i64 3)) (c1 : w0.cell? ⟨b, off + k * 3 + 1, none⟩ = some (.int .i64 pos)) (c2 : w0.cell? ⟨b, off + k * 3 + 2, none⟩ = some (.string text)) :
    rpRound.wp Try.prog (Exit.then (RNext w0 (.slice (some ⟨b, off, none⟩) n cap) (k + 1) (row ++ [x]) init ⟨y.many + 1, y.pos, y.word⟩) (fun _ _ _ => False)) ⟨rpFrame (.slice (some ⟨b, off, none⟩) n cap) k vr vo J, []⟩ w := by
  have hb := Nat.lt_of_lt_of_le hb0 hP.low.size
  rw [← under_cell hP.low hb0] at c0 c1 c2
  obtain ⟨g, gc, hvo, hg, hgb, hgl, hgc, _⟩ := row_block hP.op (by omega)
  rw [List.length_append] at hvo hgc
  simp only [List.length_cons, List.length_nil, Nat.zero_add] at hvo hgc
  subst hvo
  obtain ⟨i0, hi, hz0, hz1, hz2⟩ := info_parts Try.info75
  obtain ⟨hcp, hcm, hfr⟩ := hP.topCells hg
  rw [List.length_append] at hcm hcp
  simp only [List.length_cons, List.length_nil, Nat.zero_add] at hcm hcp
  have ag : vr.ownBlock ≠ some g := by
    rcases hP.ne with e | e
    · rw [e]; simp
    · exact e
  have hin : (k : Int) < n := by omega
  have hk0 : (0 : Int) ≤ (k : Int) := Int.natCast_nonneg _
  unfold rpRound rpLoop rpText
  simp only [Try.f23, Option.getD_some, fstOf, sndOf, inOf]
  unfold rpFrame
  have hil' : (init.length : Int) ≤ 1000000 := by omega
  have hmx : row.length + 1 ≤ maxLen := by simp only [maxLen]; omega
  have hby : (row.length + 1) * 32 ≤ 140737488355328 := by omega
  have hws : w0.heap.size ≤ w.heap.size := hP.low.size
  have HP := Lib.hid hP
  have HXW := Lib.hid hxw
  clear hP hxw
  have ix0 : (0 : Int) ≤ (init.length : Int) + 1 := by omega
  have ix1 : (init.length : Int) + 1 < (init.length : Int) + 1 + 1 := by omega
  have ix2 : (init.length : Int) + 1 < ((init.length + 1 + 1 : Nat) : Int) := by omega
  go_wp2_with fail
  go_region_held3 (fun w' => w'.cell? ⟨g, (init.length + 1) * 2, none⟩ = some (.int .i64 x.pos) ∧ w'.cell? ⟨g, (init.length + 1) * 2 + 1, none⟩ = some (.int .i64 x.many))
    (first
      | go_keep
      | (go_split_ands
         refine ⟨?_, ?_⟩
         · (rw [hgrow.cell_far _ (by simp; omega) (Ne.symm ag)]; assumption)
         · (rw [hgrow.cell_far _ (by simp; omega) (Ne.symm ag)]; assumption)))
    ((refine step_append_lies _ (by rfl) _ _ _ (by rfl) w0.heap.size 75 i0 _ 3 32 Try.underlying39 hi hz0 hz1 hz2 rfl (by omega) vr row.length (sxCells row) (by rfl) ((HP.out.row.alloc _).drew)
        ⟨w.heap.size, 0, none⟩ 1 1 [.int .i64 x.many, .int .i64 x.pos, .string ⟨#[]⟩] (by rfl) (by rfl) (World.news_of_block (cs := #[.int .i64 x.many, .int .i64 x.pos, .string ⟨#[]⟩]) (t := 75) (fr := (0, 0)) (heap_alloc_new w _)) (by simp [Value.oneCell'])
        (by omega) hmx hby (by simp; omega) (w.heap.size + 1) (by simp) ?_; intro gg cc w1 hown1 hgrow hat hlt))
  all_goals (
    have HP2 := Lib.hid ((HP.out.alloc _).drew.addRow (v' := .slice (some ⟨gg, 0, none⟩) (row.length + 1) cc) (y := x) hgrow (by
      rcases hat with e | rfl
      · exact .inl (by rw [e]; rfl)
      · exact .inr (by simp [Value.ownBlock])) (by rw [HXW.out]; exact hown1)).cut
    clear hown1 hgrow hat hlt
    obtain ⟨_, hcm2, hfr2⟩ := HP2.out.topCells rfl
    have hfm2 := hfr2 (init.length * 2 + 1)
    clear hfr hfr2 hcm hcp c0 c1 c2
    go_wp2
    exact ⟨_, _, frame_ex (F := rpFrame _ (k + 1) _ _) (by rfl) (HP2.out.top rfl _)⟩)
def qFrame (e : Int) (p : Int) (J : Nat → Value) : Array Value :=
  #[J 0, J 1, .slice none 0 0, .int .i64 p, .int .i64 e, J 5, J 6, J 7, J 8, J 9, J 10, J 11, J 12, J 13, J 14, J 15, J 16, J 17, J 18, J 19, J 20, J 21, J 22, J 23, J 24, J 25, J 26, J 27, J 28, J 29, J 30, J 31, J 32, J 33, J 34, J 35, J 36, J 37, J 38, J 39, J 40, J 41, J 42, J 43, J 44, J 45, J 46, J 47, J 48, J 49, J 50, J 51, J 52, J 53, J 54, J 55, J 56, J 57, J 58, J 59, J 60, J 61, J 62, J 63, J 64, J 65, J 66, J 67, J 68, J 69, J 70, J 71, J 72, J 73, J 74, J 75, J 76, J 77, J 78, J 79, J 80, J 81, J 82, J 83, J 84, J 85, J 86, J 87, J 88, J 89, J 90, J 91, J 92, J 93, J 94, J 95, J 96, J 97, J 98, J 99, J 100, J 101, J 102, J 103, J 104, J 105, J 106, J 107, J 108, J 109, J 110, J 111, J 112, J 113]
def RBad (w0 : World) (p e : Int) (ex : Exit) (a' : Act) (w' : World) : Prop := ex = .ret ∧ ∃ J, a' = ⟨qFrame e p J, []⟩ ∧ Under w0 w'
set_option maxRecDepth 100000 in
set_option maxHeartbeats 4000000 in
theorem rp_deep (pos : Int) (text : ByteArray) (hk : k < n) (hn : n ≤ 1000000) (hil : init.length = 60) (J : Nat → Value) (w : World) (hP : RH w0 vr row vo init x w)
    (hb0 : b < w0.heap.size) (c0 : w0.cell? ⟨b, off + k * 3, none⟩ = some (.int .i64 2)) (c1 : w0.cell? ⟨b, off + k * 3 + 1, none⟩ = some (.int .i64 pos)) (c2 : w0.cell? ⟨b, off + k * 3 + 2, none⟩ = some (.string text)) :
    rpRound.wp Try.prog (Exit.then (fun _ _ => False) (RBad w0 pos 22)) ⟨rpFrame (.slice (some ⟨b, off, none⟩) n cap) k vr vo J, []⟩ w := by
  have hb := Nat.lt_of_lt_of_le hb0 hP.low.size
  rw [← under_cell hP.low hb0] at c0 c1 c2
  obtain ⟨g, gc, rfl, hg, hgb, hgl, _, _⟩ := row_block hP.op (by omega)
  have hin : (k : Int) < n := by omega
  unfold rpRound rpLoop rpText
  simp only [Try.f23, Option.getD_some, fstOf, sndOf, inOf]
  unfold rpFrame
  have hil' : (init.length : Int) = 60 := by omega
  have HP := Lib.hid hP
  clear hP
  go_wp2
  go_quiet (fail)
  go_wp2
  exact ⟨rfl, frame_ex (F := qFrame 22 pos) (by rfl) (under_drewN HP.out.low _)⟩
set_option maxRecDepth 100000 in
set_option maxHeartbeats 4000000 in
theorem rp_shut (pos : Int) (text : ByteArray) (hk : k < n) (hn : n ≤ 1000000) (J : Nat → Value) (w : World) (hP : RH w0 vr row vo [] x w)
    (hb0 : b < w0.heap.size) (c0 : w0.cell? ⟨b, off + k * 3, none⟩ = some (.int .i64 3)) (c1 : w0.cell? ⟨b, off + k * 3 + 1, none⟩ = some (.int .i64 pos)) (c2 : w0.cell? ⟨b, off + k * 3 + 2, none⟩ = some (.string text)) :
    rpRound.wp Try.prog (Exit.then (fun _ _ => False) (RBad w0 pos 70)) ⟨rpFrame (.slice (some ⟨b, off, none⟩) n cap) k vr vo J, []⟩ w := by
  have hb := Nat.lt_of_lt_of_le hb0 hP.low.size
  rw [← under_cell hP.low hb0] at c0 c1 c2
  obtain ⟨g, gc, rfl, hg, hgb, hgl, _, _⟩ := row_block hP.op (by omega)
  have hin : (k : Int) < n := by omega
  unfold rpRound rpLoop rpText
  simp only [Try.f23, Option.getD_some, fstOf, sndOf, inOf]
  unfold rpFrame
  have HP := Lib.hid hP
  clear hP
  go_wp2
  go_quiet (fail)
  go_wp2
  exact ⟨rfl, frame_ex (F := qFrame 70 pos) (by rfl) (under_drewN HP.out.low _)⟩
def RDone (l : Value) (n : Nat) (vr vo : Value) (w : World) (e : Exit) (a' : Act) (w' : World) : Prop := e = .exit 0 ∧ ∃ J, a' = ⟨rpFrame l n vr vo J, []⟩ ∧ w' = w
set_option maxRecDepth 100000 in
theorem rp_done (p : Option Addr) (J : Nat → Value) (w : World) :
    rpRound.wp Try.prog (Exit.then (fun _ _ => False) (RDone (.slice p n cap) n vr vo w)) ⟨rpFrame (.slice p n cap) n vr vo J, []⟩ w := by
  unfold rpRound rpLoop rpText
  simp only [Try.f23, Option.getD_some, fstOf, sndOf, inOf]
  unfold rpFrame
  go_wp2
  exact ⟨rfl, frame_ex (F := rpFrame (.slice p n cap) n vr vo) (by rfl) rfl⟩
end
end Go.Proofs.Ytjnoffgclibfaaa
