/- surface.Parse, walked: a round. -/
import Derived.Test.YtjnoffgclibfaaaShown
import Derived.Test.YtjnoffgclibfaaaLxG
import Derived.OwnWalk
import Derived.Maps.AppendAt
import Derived.Deep.QuietTactic
import Derived.BigQuiet
set_option linter.unusedSimpArgs false
set_option linter.unusedVariables false
namespace Go.Proofs.Ytjnoffgclibfaaa
open Go.Conc Go.Lx Go.RowKit

structure PTok where
  kind : Int
  pos : Int
  text : ByteArray
structure Sx where
  many : Int
  pos : Int
  word : ByteArray
def sxCells : List Sx → List Value
  | [] => []
  | x :: l => .int .i64 x.many :: .int .i64 x.pos :: .string x.word :: sxCells l
theorem sxCells_app (l r : List Sx) : sxCells (l ++ r) = sxCells l ++ sxCells r := by
  induction l with
  | nil => rfl
  | cons x l ih => simp [sxCells, ih]
theorem sxCells_len (l : List Sx) : (sxCells l).length = l.length * 3 := by
  induction l with
  | nil => rfl
  | cons x l ih => simp [sxCells, ih]; omega

/-- What Parse holds between two tokens: the row, the open lists (the last one apart). -/
structure PH (w0 : World) (vr : Value) (row : List Sx) (vo : Value) (init : List Sx) (x : Sx) (w : World) : Prop where
  row : w.ownsRow w0.heap.size 57 3 vr row.length (sxCells row)
  op : w.ownsRow w0.heap.size 57 3 vo (init.length + 1) (sxCells (init ++ [x]))
  ne : vr.ownBlock = none ∨ vr.ownBlock ≠ vo.ownBlock
  low : Under w0 w

theorem Try.info57 : (Try.prog.info? 57).map (fun i => (i.zero, i.size, i.bytes)) = some (some (.agg #[.int .i64 0, .int .i64 0, .string ⟨#[]⟩]), 3, 32) := by kernel_rfl

theorem under_alloc {W w : World} (h : Under W w) (x : Obj) : Under W (w.alloc x) :=
  ⟨h.os, h.output, by have := h.size; rw [alloc_heap, Array.size_push]; omega, fun b hb => by
    rw [alloc_heap, Array.getElem?_push_lt (Nat.lt_of_lt_of_le hb h.size), ← Array.getElem?_eq_getElem]; exact h.low b hb⟩
theorem under_set {W w : World} (h : Under W w) {g : Nat} (hg : W.heap.size ≤ g) (j : Nat) (u : Value) : Under W (w.setCell ⟨g, j, none⟩ u) :=
  ⟨h.os, h.output, by rw [set_size]; exact h.size, fun b hb => by rw [heap_set w _ u b (by show b ≠ g; omega)]; exact h.low b hb⟩
theorem under_grown {W w w' : World} {row : Option Nat} (h : Under W w) (hg : w.grownBy w' row) (hr : ∀ g, row = some g → W.heap.size ≤ g) : Under W w' :=
  ⟨hg.os.trans h.os, hg.output.trans h.output, Nat.le_trans h.size hg.size, fun b hb => (hg.block b (Nat.lt_of_lt_of_le hb h.size) (fun e => by have := hr b e.symm; omega)).trans (h.low b hb)⟩

theorem under_cell {W w : World} (h : Under W w) {b : Nat} (hb : b < W.heap.size) (j : Nat) : w.cell? ⟨b, j, none⟩ = W.cell? ⟨b, j, none⟩ := by simp only [World.cell?, h.low b hb]
theorem grown_cell {w w' : World} {row : Option Nat} (h : w.grownBy w' row) {b : Nat} (hb : b < w.heap.size) (hr : some b ≠ row) (j : Nat) : w'.cell? ⟨b, j, none⟩ = w.cell? ⟨b, j, none⟩ := by simp only [World.cell?, h.block b hb hr]
theorem grown_frozen {w w' : World} {row : Option Nat} (h : w.grownBy w' row) {b : Nat} (hb : b < w.heap.size) (hr : some b ≠ row) (j : Nat) : w'.frozen? ⟨b, j, none⟩ = w.frozen? ⟨b, j, none⟩ := by simp only [World.frozen?, h.block b hb hr]
theorem row_lt {w : World} {base : Nat} {e : TypeId} {size n : Nat} {v : Value} {xs : List Value} (h : w.ownsRow base e size v n xs) {g : Nat} (hg : v.ownBlock = some g) : base ≤ g ∧ g < w.heap.size := by
  rcases h.2 with ⟨rfl, _⟩ | ⟨g', cap, cur, rfl, hb, hgg, _⟩
  · cases hg
  · cases hg; exact ⟨hb, (Array.getElem?_eq_some_iff.1 hgg).1⟩

section
variable {w0 w w' : World} {vr vo v' : Value} {row init : List Sx} {x y : Sx}
theorem PH.alloc (h : PH w0 vr row vo init x w) (o : Obj) : PH w0 vr row vo init x (w.alloc o) := ⟨h.row.alloc o, h.op.alloc o, h.ne, under_alloc h.low o⟩
theorem PH.addRow (h : PH w0 vr row vo init x w) (hg : w.grownBy w' vr.ownBlock) (hat : v'.ownBlock = vr.ownBlock ∨ v'.ownBlock = some w.heap.size) (hr : w'.ownsRow w0.heap.size 57 3 v' (row.length + 1) (sxCells row ++ [.int .i64 y.many, .int .i64 y.pos, .string y.word])) : PH w0 v' (row ++ [y]) vo init x w' := by
  refine ⟨by rw [List.length_append, sxCells_app]; exact hr, row_grown h.op hg ?_, ?_, under_grown h.low hg fun g e => (row_lt h.row e).1⟩
  · rcases h.ne with e | e
    · rw [e]; cases vo.ownBlock <;> simp
    · exact .inr fun e' => e e'.symm
  · rcases hat with e | e
    · rw [e]; exact h.ne
    · rw [e]; refine .inr fun e' => ?_
      have := (row_lt h.op e'.symm).2; omega
theorem PH.addOpen (h : PH w0 vr row vo init x w) (hg : w.grownBy w' vo.ownBlock) (hat : v'.ownBlock = vo.ownBlock ∨ v'.ownBlock = some w.heap.size) (hr : w'.ownsRow w0.heap.size 57 3 v' (init.length + 1 + 1) (sxCells (init ++ [x]) ++ [.int .i64 y.many, .int .i64 y.pos, .string y.word])) : PH w0 vr row v' (init ++ [x]) y w' := by
  refine ⟨row_grown h.row hg h.ne, by rw [List.length_append, sxCells_app (init ++ [x])]; exact hr, ?_, under_grown h.low hg fun g e => (row_lt h.op e).1⟩
  rcases hat with e | e
  · rw [e]; exact h.ne
  · rw [e]; cases hv : vr.ownBlock with
    | none => exact .inl rfl
    | some g => refine .inr fun e' => ?_; cases e'; have := (row_lt h.row hv).2; omega
theorem PH.top (h : PH w0 vr row vo init x w) {g : Nat} (hg : vo.ownBlock = some g) (m : Int) : PH w0 vr row vo init ⟨m, x.pos, x.word⟩ (w.setCell ⟨g, init.length * 3, none⟩ (.int .i64 m)) := by
  refine ⟨row_other h.row ?_ _ _, ?_, h.ne, under_set h.low (row_lt h.op hg).1 _ _⟩
  · rcases h.ne with e | e
    · rw [e]; simp
    · rw [← hg]; exact e
  · have := row_set h.op hg (j := init.length * 3) (by rw [sxCells_len, List.length_append]; simp) (.int .i64 m)
    rw [sxCells_app, List.set_append_right _ _ (by rw [sxCells_len]; exact Nat.le_refl _), sxCells_len, Nat.sub_self] at this
    rw [sxCells_app]
    exact this
theorem PH.cut {g c : Nat} (h : PH w0 vr row (.slice (some ⟨g, 0, none⟩) (init.length + 1 + 1) c) (init ++ [y]) x w) : PH w0 vr row (.slice (some ⟨g, 0, none⟩) (init.length + 1) c) init y w := by
  have ho := h.op
  rw [List.length_append] at ho
  refine ⟨h.row, ?_, h.ne, h.low⟩
  have := row_cut ho (m := init.length + 1) (by simp)
  rw [sxCells_app (init ++ [y]), List.take_append_of_le_length (by rw [sxCells_len, List.length_append]; exact Nat.le_refl _), List.take_of_length_le (by rw [sxCells_len, List.length_append]; exact Nat.le_refl _)] at this
  exact this
theorem PH.topCells (h : PH w0 vr row vo init x w) {g : Nat} (hg : vo.ownBlock = some g) : w.cell? ⟨g, init.length * 3, none⟩ = some (.int .i64 x.many) ∧ w.cell? ⟨g, init.length * 3 + 1, none⟩ = some (.int .i64 x.pos) ∧ w.cell? ⟨g, init.length * 3 + 2, none⟩ = some (.string x.word) ∧ ∀ j, w.frozen? ⟨g, j, none⟩ = false := by
  have hc : ∀ j u, [Value.int .i64 x.many, Value.int .i64 x.pos, Value.string x.word][j]? = some u → w.cell? ⟨g, init.length * 3 + j, none⟩ = some u := fun j u e => row_cell h.op hg (by rw [sxCells_app, List.getElem?_append_right (by rw [sxCells_len]; omega), sxCells_len, Nat.add_sub_cancel_left]; exact e)
  exact ⟨hc 0 _ rfl, hc 1 _ rfl, hc 2 _ rfl, row_free h.op hg⟩
end

noncomputable def parseText : Code := Try.f22.body.getD .skip
noncomputable def parseLoop : Code := fstOf (sndOf (sndOf (sndOf parseText)))
noncomputable def parseRound : Code := inOf (inOf (sndOf parseLoop))
def pFrame (l : Value) (n k : Nat) (vr vo : Value) (J : Nat → Value) : Array Value :=
  #[l, J 1, J 2, J 3, J 4, vr, vo, J 7, J 8, J 9, J 10, J 11, J 12, l, .int .i64 (n : Int), .int .i64 (k : Int), J 16, J 17, J 18, J 19, J 20, J 21, J 22, J 23, J 24, J 25, J 26, J 27, J 28, J 29, J 30, J 31, J 32, J 33, J 34, J 35, J 36, J 37, J 38, J 39, J 40, J 41, J 42, J 43, J 44, J 45, J 46, J 47, J 48, J 49, J 50, J 51, J 52, J 53, J 54, J 55, J 56, J 57, J 58, J 59, J 60, J 61, J 62, J 63, J 64, J 65, J 66, J 67, J 68, J 69, J 70, J 71, J 72, J 73, J 74, J 75, J 76, J 77, J 78, J 79, J 80, J 81, J 82, J 83, J 84, J 85, J 86, J 87, J 88, J 89, J 90, J 91, J 92, J 93, J 94, J 95, J 96, J 97, J 98, J 99, J 100, J 101, J 102, J 103, J 104, J 105, J 106, J 107, J 108, J 109, J 110, J 111]

/-- Behind a round that went well. -/
def PNext (w0 : World) (l : Value) (n k : Nat) (row : List Sx) (init : List Sx) (x : Sx) (a' : Act) (w' : World) : Prop :=
  ∃ vr vo J, a' = ⟨pFrame l n k vr vo J, []⟩ ∧ PH w0 vr row vo init x w'

section
variable {w0 : World} {b off n cap k : Nat} {vr vo : Value} {row init : List Sx} {x : Sx}
set_option maxRecDepth 100000 in
set_option maxHeartbeats 4000000 in
theorem parse_word (pos : Int) (text : ByteArray) (hk : k < n) (hn : n ≤ 1000000) (hr : row.length ≤ 1000000) (hil : init.length ≤ 1000000) (hm0 : 0 ≤ x.many) (hm1 : x.many ≤ 1000000) (J : Nat → Value) (w : World) (hP : PH w0 vr row vo init x w)
    (hb0 : b < w0.heap.size) (c0 : w0.cell? ⟨b, off + k * 3, none⟩ = some (.int .i64 1)) (c1 : w0.cell? ⟨b, off + k * 3 + 1, none⟩ = some (.int .i64 pos)) (c2 : w0.cell? ⟨b, off + k * 3 + 2, none⟩ = some (.string text)) :
    parseRound.wp Try.prog (Exit.then (PNext w0 (.slice (some ⟨b, off, none⟩) n cap) n (k + 1) (row ++ [⟨0, pos, text⟩]) init ⟨x.many + 1, x.pos, x.word⟩) (fun _ _ _ => False)) ⟨pFrame (.slice (some ⟨b, off, none⟩) n cap) n k vr vo J, []⟩ w := by
  have hb := Nat.lt_of_lt_of_le hb0 hP.low.size
  rw [← under_cell hP.low hb0] at c0 c1 c2
  obtain ⟨g, gc, rfl, hg, hgb, hgl, _, _⟩ := row_block hP.op (by omega)
  obtain ⟨i0, hi, hz0, hz1, hz2⟩ := info_parts Try.info57
  obtain ⟨hcm, _, _, hfr⟩ := hP.topCells hg
  have hfm := hfr (init.length * 3)
  have hin : (k : Int) < n := by omega
  unfold parseRound parseLoop parseText
  simp only [Try.f22, Option.getD_some, fstOf, sndOf, inOf]
  unfold pFrame
  have hil' : (init.length : Int) ≤ 1000000 := by omega
  have hmx : row.length + 1 ≤ maxLen := by simp only [maxLen]; omega
  have hby : (row.length + 1) * 32 ≤ 140737488355328 := by omega
  have HP := Lib.hid hP
  clear hP
  go_wp2_with (at_builtin; refine wpList_append_own_at _ rfl _ _ 36 rfl w0.heap.size 57 i0 _ 3 32 Try.underlying36 hi hz0 hz1 hz2 rfl (by decide) _ _ _ rfl ((HP.out.row.alloc _).alloc _) ⟨w.heap.size + 1, 0, none⟩ 1 1 [.int .i64 0, .int .i64 pos, .string text] rfl rfl ?c1 ?c2 hmx hby ?c5 ?_)
  case c1 => 
    intro j u hj
    match j, hj with
    | 0, hj => cases hj; simp [Addr.add]
    | 1, hj => cases hj; simp [Addr.add]
    | 2, hj => cases hj; simp [Addr.add]
  case c2 => intro u hu; simp at hu; rcases hu with rfl | rfl | rfl <;> rfl
  case c5 => have := HP.out.low.size; simp; omega
  intro v' w' hown hgrow hnil hat
  have HP2 := Lib.hid (((HP.out.alloc _).alloc _).addRow (y := ⟨0, pos, text⟩) hgrow (by simpa using hat) hown)
  clear hown hgrow hnil hat
  obtain ⟨hcm2, _, _, hfr2⟩ := HP2.out.topCells hg
  have hfm2 := hfr2 (init.length * 3)
  clear hcm hfm hfr hfr2 c0 c1 c2
  go_wp2
  exact ⟨v', _, frame_ex (F := pFrame _ n (k + 1) v' _) (by rfl) (HP2.out.top hg _)⟩
set_option maxRecDepth 100000 in
set_option maxHeartbeats 4000000 in
theorem parse_open (pos : Int) (text : ByteArray) (hk : k < n) (hn : n ≤ 1000000) (hil : init.length + 1 ≤ 60) (J : Nat → Value) (w : World) (hP : PH w0 vr row vo init x w)
    (hb0 : b < w0.heap.size) (c0 : w0.cell? ⟨b, off + k * 3, none⟩ = some (.int .i64 2)) (c1 : w0.cell? ⟨b, off + k * 3 + 1, none⟩ = some (.int .i64 pos)) (c2 : w0.cell? ⟨b, off + k * 3 + 2, none⟩ = some (.string text)) :
    parseRound.wp Try.prog (Exit.then (PNext w0 (.slice (some ⟨b, off, none⟩) n cap) n (k + 1) row (init ++ [x]) ⟨0, pos, ⟨#[]⟩⟩) (fun _ _ _ => False)) ⟨pFrame (.slice (some ⟨b, off, none⟩) n cap) n k vr vo J, []⟩ w := by
  have hb := Nat.lt_of_lt_of_le hb0 hP.low.size
  rw [← under_cell hP.low hb0] at c0 c1 c2
  obtain ⟨g, gc, rfl, hg, hgb, hgl, _, _⟩ := row_block hP.op (by omega)
  obtain ⟨i0, hi, hz0, hz1, hz2⟩ := info_parts Try.info57
  have hin : (k : Int) < n := by omega
  unfold parseRound parseLoop parseText
  simp only [Try.f22, Option.getD_some, fstOf, sndOf, inOf]
  unfold pFrame
  have hil' : (init.length : Int) + 1 ≤ 60 := by omega
  have hmx : init.length + 1 + 1 ≤ maxLen := by simp only [maxLen]; omega
  have hby : (init.length + 1 + 1) * 32 ≤ 140737488355328 := by omega
  have HP := Lib.hid hP
  clear hP
  go_wp2_with (at_builtin; refine wpList_append_own_at _ rfl _ _ 36 rfl w0.heap.size 57 i0 _ 3 32 Try.underlying36 hi hz0 hz1 hz2 rfl (by decide) _ _ _ rfl ((HP.out.op.alloc _).alloc _) ⟨w.heap.size + 1, 0, none⟩ 1 1 [.int .i64 0, .int .i64 pos, .string ⟨#[]⟩] rfl rfl ?c1 ?c2 hmx hby ?c5 ?_)
  case c1 => 
    intro j u hj
    match j, hj with
    | 0, hj => cases hj; simp [Addr.add]
    | 1, hj => cases hj; simp [Addr.add]
    | 2, hj => cases hj; simp [Addr.add]
  case c2 => intro u hu; simp at hu; rcases hu with rfl | rfl | rfl <;> rfl
  case c5 => have := HP.out.low.size; simp; omega
  intro v' w' hown hgrow hnil hat
  have HP2 := Lib.hid (((HP.out.alloc _).alloc _).addOpen (y := ⟨0, pos, ⟨#[]⟩⟩) hgrow (by simpa [Value.ownBlock] using hat) hown)
  clear hown hgrow hnil hat
  go_wp2
  exact ⟨vr, v', frame_ex (F := pFrame _ n (k + 1) vr v') (by rfl) HP2.out⟩
set_option maxRecDepth 100000 in
set_option maxHeartbeats 4000000 in
theorem parse_close {y : Sx} (pos : Int) (text : ByteArray) (hk : k < n) (hn : n ≤ 1000000) (hr : row.length ≤ 1000000) (hil : init.length ≤ 1000000) (hm0 : 0 ≤ y.many) (hm1 : y.many ≤ 1000000) (J : Nat → Value) (w : World) (hP : PH w0 vr row vo (init ++ [y]) x w)
    (hb0 : b < w0.heap.size) (c0 : w0.cell? ⟨b, off + k * 3, none⟩ = some (.int .i64 3)) (c1 : w0.cell? ⟨b, off + k * 3 + 1, none⟩ = some (.int .i64 pos)) (c2 : w0.cell? ⟨b, off + k * 3 + 2, none⟩ = some (.string text)) :
    parseRound.wp Try.prog (Exit.then (PNext w0 (.slice (some ⟨b, off, none⟩) n cap) n (k + 1) (row ++ [x]) init ⟨y.many + 1, y.pos, y.word⟩) (fun _ _ _ => False)) ⟨pFrame (.slice (some ⟨b, off, none⟩) n cap) n k vr vo J, []⟩ w := by
  have hb := Nat.lt_of_lt_of_le hb0 hP.low.size
  rw [← under_cell hP.low hb0] at c0 c1 c2
  obtain ⟨g, gc, hvo, hg, hgb, hgl, hgc, _⟩ := row_block hP.op (by omega)
  rw [List.length_append] at hvo hgc
  simp only [List.length_cons, List.length_nil, Nat.zero_add] at hvo hgc
  subst hvo
  obtain ⟨i0, hi, hz0, hz1, hz2⟩ := info_parts Try.info57
  obtain ⟨hcm, hcp, hcw, hfr⟩ := hP.topCells hg
  rw [List.length_append] at hcm hcp hcw
  simp only [List.length_cons, List.length_nil, Nat.zero_add] at hcm hcp hcw
  have hin : (k : Int) < n := by omega
  unfold parseRound parseLoop parseText
  simp only [Try.f22, Option.getD_some, fstOf, sndOf, inOf]
  unfold pFrame
  have hil' : (init.length : Int) ≤ 1000000 := by omega
  have hmx : row.length + 1 ≤ maxLen := by simp only [maxLen]; omega
  have hby : (row.length + 1) * 32 ≤ 140737488355328 := by omega
  have HP := Lib.hid hP
  clear hP
  go_wp2_with (at_builtin; refine wpList_append_own_at _ rfl _ _ 36 rfl w0.heap.size 57 i0 _ 3 32 Try.underlying36 hi hz0 hz1 hz2 rfl (by decide) _ _ _ rfl ((HP.out.row.alloc _).alloc _) ⟨w.heap.size + 1, 0, none⟩ 1 1 [.int .i64 x.many, .int .i64 x.pos, .string x.word] rfl rfl ?c1 ?c2 hmx hby ?c5 ?_)
  case c1 => 
    intro j u hj
    match j, hj with
    | 0, hj => cases hj; simp [Addr.add]
    | 1, hj => cases hj; simp [Addr.add]
    | 2, hj => cases hj; simp [Addr.add]
  case c2 => intro u hu; simp at hu; rcases hu with rfl | rfl | rfl <;> rfl
  case c5 => have := HP.out.low.size; simp; omega
  intro v' w' hown hgrow hnil hat
  have HP2 := Lib.hid (((HP.out.alloc _).alloc _).addRow (y := x) hgrow (by simpa using hat) hown).cut
  clear hown hgrow hnil hat
  obtain ⟨hcm2, _, _, hfr2⟩ := HP2.out.topCells rfl
  have hfm2 := hfr2 (init.length * 3)
  clear hcm hcp hcw hfr hfr2 c0 c1 c2
  go_wp2
  exact ⟨v', _, frame_ex (F := pFrame _ n (k + 1) v' _) (by rfl) (HP2.out.top rfl _)⟩
/-- The errors. -/
def rFrame (e : Int) (p : Int) (J : Nat → Value) : Array Value :=
  #[J 0, J 1, .slice none 0 0, .int .i64 p, .int .i64 e, J 5, J 6, J 7, J 8, J 9, J 10, J 11, J 12, J 13, J 14, J 15, J 16, J 17, J 18, J 19, J 20, J 21, J 22, J 23, J 24, J 25, J 26, J 27, J 28, J 29, J 30, J 31, J 32, J 33, J 34, J 35, J 36, J 37, J 38, J 39, J 40, J 41, J 42, J 43, J 44, J 45, J 46, J 47, J 48, J 49, J 50, J 51, J 52, J 53, J 54, J 55, J 56, J 57, J 58, J 59, J 60, J 61, J 62, J 63, J 64, J 65, J 66, J 67, J 68, J 69, J 70, J 71, J 72, J 73, J 74, J 75, J 76, J 77, J 78, J 79, J 80, J 81, J 82, J 83, J 84, J 85, J 86, J 87, J 88, J 89, J 90, J 91, J 92, J 93, J 94, J 95, J 96, J 97, J 98, J 99, J 100, J 101, J 102, J 103, J 104, J 105, J 106, J 107, J 108, J 109, J 110, J 111]
def PBad (w0 : World) (p e : Int) (ex : Exit) (a' : Act) (w' : World) : Prop := ex = .ret ∧ ∃ J, a' = ⟨rFrame e p J, []⟩ ∧ Under w0 w'
theorem under_drewN {W w : World} (h : Under W w) (n : Nat) : Under W (w.drewN n) := ⟨h.os, h.output, h.size, h.low⟩
set_option maxRecDepth 100000 in
set_option maxHeartbeats 4000000 in
theorem parse_deep (pos : Int) (text : ByteArray) (hk : k < n) (hn : n ≤ 1000000) (hil : init.length = 60) (J : Nat → Value) (w : World) (hP : PH w0 vr row vo init x w)
    (hb0 : b < w0.heap.size) (c0 : w0.cell? ⟨b, off + k * 3, none⟩ = some (.int .i64 2)) (c1 : w0.cell? ⟨b, off + k * 3 + 1, none⟩ = some (.int .i64 pos)) (c2 : w0.cell? ⟨b, off + k * 3 + 2, none⟩ = some (.string text)) :
    parseRound.wp Try.prog (Exit.then (fun _ _ => False) (PBad w0 pos 22)) ⟨pFrame (.slice (some ⟨b, off, none⟩) n cap) n k vr vo J, []⟩ w := by
  have hb := Nat.lt_of_lt_of_le hb0 hP.low.size
  rw [← under_cell hP.low hb0] at c0 c1 c2
  obtain ⟨g, gc, rfl, hg, hgb, hgl, _, _⟩ := row_block hP.op (by omega)
  have hin : (k : Int) < n := by omega
  unfold parseRound parseLoop parseText
  simp only [Try.f22, Option.getD_some, fstOf, sndOf, inOf]
  unfold pFrame
  have hil' : (init.length : Int) = 60 := by omega
  have HP := Lib.hid hP
  clear hP
  go_wp2
  go_quiet (fail)
  go_wp2
  exact ⟨rfl, frame_ex (F := rFrame 22 pos) (by rfl) (under_drewN (under_alloc HP.out.low _) _)⟩
set_option maxRecDepth 100000 in
set_option maxHeartbeats 4000000 in
theorem parse_shut (pos : Int) (text : ByteArray) (hk : k < n) (hn : n ≤ 1000000) (J : Nat → Value) (w : World) (hP : PH w0 vr row vo [] x w)
    (hb0 : b < w0.heap.size) (c0 : w0.cell? ⟨b, off + k * 3, none⟩ = some (.int .i64 3)) (c1 : w0.cell? ⟨b, off + k * 3 + 1, none⟩ = some (.int .i64 pos)) (c2 : w0.cell? ⟨b, off + k * 3 + 2, none⟩ = some (.string text)) :
    parseRound.wp Try.prog (Exit.then (fun _ _ => False) (PBad w0 pos 70)) ⟨pFrame (.slice (some ⟨b, off, none⟩) n cap) n k vr vo J, []⟩ w := by
  have hb := Nat.lt_of_lt_of_le hb0 hP.low.size
  rw [← under_cell hP.low hb0] at c0 c1 c2
  obtain ⟨g, gc, rfl, hg, hgb, hgl, _, _⟩ := row_block hP.op (by omega)
  have hin : (k : Int) < n := by omega
  unfold parseRound parseLoop parseText
  simp only [Try.f22, Option.getD_some, fstOf, sndOf, inOf]
  unfold pFrame
  have HP := Lib.hid hP
  clear hP
  go_wp2
  go_quiet (fail)
  go_wp2
  exact ⟨rfl, frame_ex (F := rFrame 70 pos) (by rfl) (under_drewN (under_alloc HP.out.low _) _)⟩
def PDone (l : Value) (n : Nat) (vr vo : Value) (w : World) (e : Exit) (a' : Act) (w' : World) : Prop := e = .exit 0 ∧ ∃ J, a' = ⟨pFrame l n n vr vo J, []⟩ ∧ w' = w
set_option maxRecDepth 100000 in
theorem parse_done (l : Value) (J : Nat → Value) (w : World) :
    parseRound.wp Try.prog (Exit.then (fun _ _ => False) (PDone l n vr vo w)) ⟨pFrame l n n vr vo J, []⟩ w := by
  unfold parseRound parseLoop parseText
  simp only [Try.f22, Option.getD_some, fstOf, sndOf, inOf]
  unfold pFrame
  go_wp2
  exact ⟨rfl, frame_ex (F := pFrame l n n vr vo) (by rfl) rfl⟩
end
end Go.Proofs.Ytjnoffgclibfaaa
