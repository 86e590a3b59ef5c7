/- term.measured, walked. -/
import Derived.Test.YtiibknlpeodejaaDoorTRight2
import Derived.Deep.RegionHeld3
import Derived.Deep.AppendLies
set_option linter.unusedSimpArgs false
set_option linter.unusedVariables false
namespace Go.Proofs.YtiibknlpeodejaaDoor
open Go.Lx Go.RowKit

def measCells : List (Nat × Nat) → List Value
  | [] => []
  | x :: l => .int .i64 (x.1 : Int) :: .int .i64 (x.2 : Int) :: measCells l
theorem measCells_app (l r : List (Nat × Nat)) : measCells (l ++ r) = measCells l ++ measCells r := by
  induction l with
  | nil => rfl
  | cons x l ih => simp [measCells, ih]
theorem measCells_len (l : List (Nat × Nat)) : (measCells l).length = l.length * 2 := by
  induction l with
  | nil => rfl
  | cons x l ih => simp [measCells, ih]; omega
theorem measCells_at : ∀ {l : List (Nat × Nat)} {k : Nat} {x : Nat × Nat}, l[k]? = some x → (measCells l)[k * 2]? = some (.int .i64 (x.1 : Int)) ∧ (measCells l)[k * 2 + 1]? = some (.int .i64 (x.2 : Int))
  | y :: l, 0, x, h => by cases h; exact ⟨rfl, rfl⟩
  | y :: l, k + 1, x, h => by
    have := measCells_at (l := l) (k := k) (x := x) (by simpa using h)
    rw [show (k + 1) * 2 = k * 2 + 2 by omega]
    exact this
theorem Tryd.info114 : (Tryd.prog.info? 114).map (fun i => (i.zero, i.size, i.bytes)) = some (some (.agg #[.int .i64 0, .int .i64 0]), 2, 16) := by kernel_rfl

theorem meas_le {l : List (Nat × Nat)} {i k : Nat} (h : ∀ y ∈ l, y.2 ≤ k) : (meas i l).2 ≤ k + 1 := by
  have : ∀ (l : List (Nat × Nat)) (d : Nat), d ≤ k + 1 → (∀ y ∈ l, y.2 ≤ k) → l.foldl (fun d x => max d (x.2 + 1)) d ≤ k + 1 := by
    intro l
    induction l with
    | nil => intro d hd _; exact hd
    | cons x l ih =>
      intro d hd hl
      have := hl x (List.mem_cons_self ..)
      exact ih _ (show max d (x.2 + 1) ≤ k + 1 by omega) fun y hy => hl y (List.mem_cons_of_mem _ hy)
  exact this l 1 (by omega) h
/-- What is held between two nodes. -/
structure MI (w0 : World) (t : List Nd) (va vo : Value) (k : Nat) (all op : List (Nat × Nat)) (w : World) : Prop where
  all_ : w.ownsRow w0.heap.size 114 2 va all.length (measCells all)
  op_ : w.ownsRow w0.heap.size 114 2 vo op.length (measCells op)
  ne : va.ownBlock = none ∨ va.ownBlock ≠ vo.ownBlock
  low : Under w0 w
  res : measGo (t.drop k) k all op = measGo t 0 [] []
  al : all.length = k
  ol : op.length ≤ k
  dp : ∀ y ∈ op, y.2 ≤ k
def MRel (w0 : World) (t : List Nd) (va vo i : Value) (w : World) : Prop := ∃ k all op, k ≤ t.length ∧ i = .int .i64 (k : Int) ∧ MI w0 t va vo k all op w
/-- What measured answers. -/
def MOut (w0 : World) (t : List Nd) (e : Ending) (w : World) : Prop :=
  match measGo t 0 [] [] with
  | none => e = .returned (.tuple #[.slice none 0 0, .bool false]) ∧ Under w0 w
  | some (all, op) => ∃ v, e = .returned (.tuple #[v, .bool (decide ((op.length : Int) = 1))]) ∧ w.ownsRow w0.heap.size 114 2 v all.length (measCells all) ∧ Under w0 w

noncomputable def msText : Code := Tryd.f49.body.getD .skip
noncomputable def msLoop : Code := fstOf (sndOf (sndOf msText))
noncomputable def msRound : Code := inOf (inOf (sndOf msLoop))
noncomputable def msIn : Code := fstOf (sndOf (sndOf (sndOf (sndOf (inOf (fstOf (sndOf (sndOf msRound))))))))
noncomputable def miRound : Code := inOf (inOf (sndOf msIn))
def msFrame (l va vo : Value) (n k : Nat) (J : Nat → Value) : Array Value := #[l, J 1, J 2, J 3, va, vo, J 6, J 7, J 8, J 9, J 10, J 11, l, .int .i64 (n : Int), .int .i64 (k : Int), J 15, J 16, J 17, J 18, J 19, J 20, J 21, J 22, J 23, J 24, J 25, J 26, J 27, J 28, J 29, J 30, J 31, J 32, J 33, J 34, J 35, J 36, J 37, J 38, J 39, J 40, J 41, J 42, J 43, J 44, J 45, J 46, J 47, J 48, J 49, J 50, J 51, J 52, J 53, J 54, J 55, J 56, J 57, J 58, J 59, J 60, J 61, J 62, J 63, J 64, J 65, J 66, J 67, J 68, J 69, J 70, J 71, J 72]
def miFrame (l va vo : Value) (n k kk b9 : Nat) (vs : Value) (bl j : Nat) (J : Nat → Value) : Array Value :=
  #[l, J 1, J 2, J 3, va, vo, J 6, J 7, .int .i64 (kk : Int), .pointer (some ⟨b9, 0, none⟩), J 10, J 11, l, .int .i64 (n : Int), .int .i64 (k : Int), J 15, J 16, J 17, J 18, J 19, J 20, J 21, J 22, J 23, J 24, J 25, J 26, J 27, J 28, J 29, J 30, J 31, J 32, J 33, J 34, J 35, J 36, J 37, vs, .int .i64 (bl : Int), .int .i64 (j : Int), J 41, J 42, J 43, J 44, J 45, J 46, J 47, J 48, J 49, J 50, J 51, J 52, J 53, J 54, J 55, J 56, J 57, J 58, J 59, J 60, J 61, J 62, J 63, J 64, J 65, J 66, J 67, J 68, J 69, J 70, J 71, J 72]
/-- Between two parts: the new measure's box. -/
def MIn (W1 : World) (l va vo : Value) (n k kk b9 : Nat) (vs : Value) (bl j : Nat) (f d : Nat) (a : Act) (w : World) : Prop :=
  ∃ J, a = ⟨miFrame l va vo n k kk b9 vs bl j J, []⟩ ∧ Under W1 w ∧ BoxAt w b9 114 #[.int .i64 (f : Int), .int .i64 (d : Int)]
def MInD (W1 : World) (l va vo : Value) (n k kk b9 : Nat) (vs : Value) (bl j : Nat) (f d : Nat) (e : Exit) (a : Act) (w : World) : Prop := e = .exit 2 ∧ MIn W1 l va vo n k kk b9 vs bl j f d a w
theorem box2 {w : World} {b : Nat} {t : TypeId} {a : Value} {y y' : Int} (h : BoxAt w b t #[a, .int .i64 y]) (e : y = y') : BoxAt w b t #[a, .int .i64 y'] := e ▸ h
section
variable {W1 : World} {l va vo : Value} {n k kk b9 bl j f d : Nat}
set_option maxRecDepth 100000 in
theorem mi_done {vs : Value} (J : Nat → Value) (w : World) (hU : Under W1 w) (hB : BoxAt w b9 114 #[.int .i64 (f : Int), .int .i64 (d : Int)]) :
    miRound.wp Tryd.prog (Exit.then (fun _ _ => False) (MInD W1 l va vo n k kk b9 vs bl bl f d)) ⟨miFrame l va vo n k kk b9 vs bl bl J, []⟩ w := by
  have HU := Lib.hid hU
  have HB := Lib.hid hB
  clear hU hB
  unfold miRound msIn msRound msLoop msText
  simp only [Tryd.f49, Option.getD_some, fstOf, sndOf, inOf]
  unfold miFrame
  go_wp2
  exact ⟨rfl, frame_ex (F := miFrame _ va vo n k kk b9 vs bl bl) (by rfl) ⟨HU.out, HB.out⟩⟩
set_option maxRecDepth 100000 in
set_option maxHeartbeats 1000000 in
theorem mi_one {b off c : Nat} {x : Nat × Nat} (hj : j < bl) (hbl : bl ≤ 8) (h9 : W1.heap.size ≤ b9) (J : Nat → Value) (w : World) (hU : Under W1 w) (hB : BoxAt w b9 114 #[.int .i64 (f : Int), .int .i64 (d : Int)])
    (hx2 : x.2 ≤ 4000) (hb : b < W1.heap.size) (c0 : W1.cell? ⟨b, off + j * 2, none⟩ = some (.int .i64 (x.1 : Int))) (c1 : W1.cell? ⟨b, off + j * 2 + 1, none⟩ = some (.int .i64 (x.2 : Int))) :
    miRound.wp Tryd.prog (Exit.then (MIn W1 l va vo n k kk b9 (.slice (some ⟨b, off, none⟩) bl c) bl (j + 1) (if j = 0 then x.1 else f) (max d (x.2 + 1))) (fun _ _ _ => False)) ⟨miFrame l va vo n k kk b9 (.slice (some ⟨b, off, none⟩) bl c) bl j J, []⟩ w := by
  rw [← under_cell hU hb] at c0 c1
  have hb' := Nat.lt_of_lt_of_le hb hU.size
  have e0 := hB.cell 0
  have e1 := hB.cell 1
  have f0 := hB.free 0
  have f1 := hB.free 1
  have h9' := hB.lt
  have hj' : (j : Int) < bl := by omega
  have hj1 : (0 : Int) ≤ j := Int.natCast_nonneg _
  have hj2 : (j : Int) ≤ 8 := by omega
  have hx3 : (x.2 : Int) ≤ 4000 := by omega
  have hx4 : (0 : Int) ≤ x.2 := Int.natCast_nonneg _
  have HU := Lib.hid hU
  have HB := Lib.hid hB
  clear hU hB
  by_cases hz : j = 0
  · rw [if_pos hz]
    subst hz
    rw [Nat.zero_mul, Nat.add_zero] at c0 c1
    unfold miRound msIn msRound msLoop msText
    simp only [Tryd.f49, Option.getD_some, fstOf, sndOf, inOf]
    unfold miFrame
    go_wp2
    all_goals exact frame_ex (F := miFrame _ va vo n k kk b9 _ bl (0 + 1)) (by rfl) ⟨under_alloc (under_set (under_set HU.out h9 _ _) h9 _ _) _, (box2 ((HB.out.set _ _).set _ _) (by omega)).alloc _⟩
  · rw [if_neg hz]
    have hz' : (0 : Int) < j := by omega
    clear hz
    unfold miRound msIn msRound msLoop msText
    simp only [Tryd.f49, Option.getD_some, fstOf, sndOf, inOf]
    unfold miFrame
    go_wp2
    all_goals exact frame_ex (F := miFrame _ va vo n k kk b9 _ bl (j + 1)) (by rfl) ⟨under_alloc (under_set HU.out h9 _ _) _, (box2 (HB.out.set _ _) (by omega)).alloc _⟩
/-- How deep, when so many parts have been seen. -/
def deepTo (l : List (Nat × Nat)) (j : Nat) : Nat := (l.take j).foldl (fun d x => max d (x.2 + 1)) 1
theorem deepTo_succ {l : List (Nat × Nat)} {j : Nat} {x : Nat × Nat} (h : l[j]? = some x) : deepTo l (j + 1) = max (deepTo l j) (x.2 + 1) := by
  obtain ⟨hj, rfl⟩ := List.getElem?_eq_some_iff.1 h
  unfold deepTo
  rw [List.take_succ_eq_append_getElem hj, List.foldl_append]
  rfl
theorem mi_rounds (ls : List (Nat × Nat)) {p : Option Addr} {c i : Nat} (hbl : ls.length ≤ 8) (h9 : W1.heap.size ≤ b9) (hx : ∀ x ∈ ls, x.2 ≤ 4000) (hp : RowArg W1 p (measCells ls)) (m : Nat) (a : Act) (w : World)
    (h0 : ∃ j, m + j = ls.length ∧ MIn W1 l va vo n k kk b9 (.slice p ls.length c) ls.length j (if j = 0 then i else (ls.headD (i, 0)).1) (deepTo ls j) a w) :
    (Code.loop miRound).wp Tryd.prog (MInD W1 l va vo n k kk b9 (.slice p ls.length c) ls.length ls.length (meas i ls).1 (meas i ls).2) a w := by
  refine wp_loop_ghost (fun m a w => ∃ j, m + j = ls.length ∧ MIn W1 l va vo n k kk b9 (.slice p ls.length c) ls.length j (if j = 0 then i else (ls.headD (i, 0)).1) (deepTo ls j) a w) m h0 ?_
  clear h0
  rintro m a w ⟨j, hmj, J, rfl, hU, hB⟩
  by_cases hjn : j = ls.length
  · subst hjn
    have e1 : (if ls.length = 0 then i else (ls.headD (i, 0)).1) = (meas i ls).1 := by cases ls <;> simp [meas]
    have e2 : deepTo ls ls.length = (meas i ls).2 := by unfold deepTo meas; rw [List.take_length]
    rw [e1, e2] at hB
    refine wp_mono (mi_done J w hU hB) ?_
    rintro e a' w' h
    cases e with
    | normal => exact h.elim
    | _ => exact h
  have hlt : j < ls.length := by omega
  obtain ⟨b, off, rfl, hb, hc⟩ := hp (fun e => by have := congrArg List.length e; rw [measCells_len, List.length_nil] at this; omega)
  obtain ⟨c0, c1⟩ := measCells_at (List.getElem?_eq_getElem hlt)
  refine wp_mono (mi_one hlt hbl h9 J w hU hB (hx _ (List.getElem_mem hlt)) hb (hc _ _ c0) (hc _ _ c1)) ?_
  rintro e a' w' h
  cases e with
  | normal =>
    refine ⟨m - 1, by omega, j + 1, by omega, ?_⟩
    rw [deepTo_succ (List.getElem?_eq_getElem hlt), if_neg (by omega)]
    have e1 : (ls.headD (i, 0)).1 = if j = 0 then ls[j].1 else (if j = 0 then i else (ls.headD (i, 0)).1) := by
      by_cases hz : j = 0
      · subst hz
        rw [if_pos rfl]
        cases ls with
        | nil => simp at hlt
        | cons x ls => rfl
      · rw [if_neg hz, if_neg hz]
    rw [e1]
    exact h
  | _ => exact h.elim
end
end Go.Proofs.YtiibknlpeodejaaDoor
