/- Part 23 of what the proof rests on. -/
import Derived.Laws.ResultCell
import Derived.Test.YtkmbmgmfcecfkaaDoorK01
import Derived.Test.YtkmbmgmfcecfkaaDoorK16
import Derived.Test.YtkmbmgmfcecfkaaDoorK22
set_option linter.unusedSimpArgs false
set_option linter.unusedVariables false
namespace Go.Proofs.YtkmbmgmfcecfkaaDoor
open Go.Conc Go.Lx Go.RowKit
def natCells (l : List Nat) : List Value := l.map fun (n : Nat) => .int .i64 (n : Int)
theorem natCells_app (l r : List Nat) : natCells (l ++ r) = natCells l ++ natCells r := List.map_append
theorem natCells_at {l : List Nat} {k n : Nat} (h : l[k]? = some n) : (natCells l)[k]? = some (.int .i64 (n : Int)) := by simp [natCells, h]
theorem Tryd.info3 : (Tryd.prog.info? 3).map (fun i => (i.zero, i.size, i.bytes)) = some (some (.int .i64 0), 1, 8) := by kernel_rfl
noncomputable def bgText : Code := Tryd.f24.body.getD .skip
noncomputable def bgLoop : Code := fstOf (sndOf (sndOf bgText))
noncomputable def bgRound : Code := inOf (inOf (sndOf bgLoop))
def bgFrame (l : Value) (n k : Nat) (va : Value) (J : Nat → Value) : Array Value :=
  #[l, J 1, J 2, J 3, va, J 5, J 6, J 7, l, .int .i64 (n : Int), .int .i64 (k : Int), J 11, J 12, J 13, J 14, J 15, J 16, J 17, J 18, J 19, J 20, J 21, J 22, J 23, J 24, J 25, J 26, J 27, J 28, J 29, J 30, J 31, J 32, J 33, J 34, J 35, J 36, J 37, J 38, J 39, J 40, J 41, J 42, J 43, J 44, J 45, J 46, J 47, J 48, J 49, J 50, J 51, J 52, J 53, J 54, J 55, J 56, J 57, J 58, J 59, J 60, J 61, J 62]
def bgOut (v : Value) (b : Bool) (J : Nat → Value) : Array Value := #[J 0, J 1, v, .bool b, J 4, J 5, J 6, J 7, J 8, J 9, J 10, J 11, J 12, J 13, J 14, J 15, J 16, J 17, J 18, J 19, J 20, J 21, J 22, J 23, J 24, J 25, J 26, J 27, J 28, J 29, J 30, J 31, J 32, J 33, J 34, J 35, J 36, J 37, J 38, J 39, J 40, J 41, J 42, J 43, J 44, J 45, J 46, J 47, J 48, J 49, J 50, J 51, J 52, J 53, J 54, J 55, J 56, J 57, J 58, J 59, J 60, J 61, J 62]
def BNext (w0 : World) (l : Value) (n k : Nat) (st : List Nat) (a' : Act) (w' : World) : Prop :=
  ∃ va J, a' = ⟨bgFrame l n k va J, []⟩ ∧ w'.ownsRow w0.heap.size 3 1 va st.length (natCells st) ∧ Under w0 w'
def BMore (w0 : World) (l : Value) (n k s : Nat) (xs : List Value) (a' : Act) (w' : World) : Prop :=
  ∃ va J, a' = ⟨bgFrame l n k va J, []⟩ ∧ w'.ownsRow w0.heap.size 3 1 va s xs ∧ Under w0 w'
def BBad (w0 : World) (ex : Exit) (a' : Act) (w' : World) : Prop := ex = .ret ∧ ∃ J, a' = ⟨bgOut (.slice none 0 0) false J, []⟩ ∧ Under w0 w'
def BDone (l : Value) (n : Nat) (va : Value) (w : World) (e : Exit) (a' : Act) (w' : World) : Prop := e = .exit 0 ∧ ∃ J, a' = ⟨bgFrame l n n va J, []⟩ ∧ w' = w
section
variable {w0 : World} {b off n cap k : Nat} {va : Value} {st : List Nat} {x : Sx}
set_option maxRecDepth 100000 in
theorem bg_done (l : Value) (J : Nat → Value) (w : World) :
    bgRound.wp Tryd.prog (Exit.then (fun _ _ => False) (BDone l n va w)) ⟨bgFrame l n n va J, []⟩ w := by
  unfold bgRound bgLoop bgText
  simp only [Tryd.f24, Option.getD_some, fstOf, sndOf, inOf]
  unfold bgFrame
  go_wp2
  exact ⟨rfl, frame_ex (F := bgFrame l n n va) (by rfl) rfl⟩
set_option maxRecDepth 100000 in
set_option maxHeartbeats 4000000 in
theorem bg_bad (hx : ¬ GoodSx x st.length) (hk : k < n) (hn : n ≤ 1000000) (hsl : st.length ≤ 1000000) (J : Nat → Value) (w : World) (hP : w.ownsRow w0.heap.size 3 1 va st.length (natCells st)) (hU : Under w0 w)
    (hb0 : b < w0.heap.size) (c0 : w0.cell? ⟨b, off + k * 3, none⟩ = some (.int .i64 x.many)) (c1 : w0.cell? ⟨b, off + k * 3 + 1, none⟩ = some (.int .i64 x.pos)) (c2 : w0.cell? ⟨b, off + k * 3 + 2, none⟩ = some (.string x.word)) :
    bgRound.wp Tryd.prog (Exit.then (fun _ _ => False) (BBad w0)) ⟨bgFrame (.slice (some ⟨b, off, none⟩) n cap) n k va J, []⟩ w := by
  have hb := Nat.lt_of_lt_of_le hb0 hU.size
  rw [← under_cell hU hb0] at c0 c1 c2
  have hin : (k : Int) < n := by omega
  have hk0 : (0 : Int) ≤ k := Int.natCast_nonneg _
  obtain ⟨p, c, rfl⟩ : ∃ p c, va = .slice p st.length c := by
    rcases hP.2 with ⟨rfl, h0⟩ | ⟨g, cap, cur, rfl, _⟩
    · exact ⟨none, 0, by rw [h0]⟩
    · exact ⟨_, _, rfl⟩
  have HU := Lib.hid hU
  clear hU hP
  obtain ⟨m, q, t⟩ := x
  simp only [GoodSx] at hx c0 c1 c2
  unfold bgRound bgLoop bgText
  simp only [Tryd.f24, Option.getD_some, fstOf, sndOf, inOf]
  unfold bgFrame
  by_cases hA : m < 0
  · clear hx
    go_wp2
    exact ⟨rfl, frame_ex (F := bgOut _ _) (by rfl) (under_alloc HU.out _)⟩
  by_cases hD : (st.length : Int) < m
  · have hm0 : (m != 0) = true := by simp; omega
    by_cases hB : t.size = 0
    · have e0 : t = ⟨#[]⟩ := by
        apply ByteArray.ext
        exact Array.eq_empty_of_size_eq_zero hB
      subst e0
      clear hx
      go_wp2
      exact ⟨rfl, frame_ex (F := bgOut _ _) (by rfl) (under_alloc HU.out _)⟩
    · obtain ⟨e1, e2⟩ := toList_ne hB
      clear hx hB
      go_wp2
      exact ⟨rfl, frame_ex (F := bgOut _ _) (by rfl) (under_alloc HU.out _)⟩
  · have hB : t.size ≠ 0 ∧ m ≠ 0 := by
      by_cases h1 : t.size = 0
      · exact absurd ⟨by omega, fun h => absurd h1 h, by omega⟩ hx
      · by_cases h2 : m = 0
        · exact absurd ⟨by omega, fun _ => h2, by omega⟩ hx
        · exact ⟨h1, h2⟩
    have hm0 : (m != 0) = true := by simp; omega
    obtain ⟨e1, e2⟩ := toList_ne hB.1
    clear hx hB
    go_wp2
    exact ⟨rfl, frame_ex (F := bgOut _ _) (by rfl) (under_alloc HU.out _)⟩
set_option maxRecDepth 100000 in
set_option maxHeartbeats 4000000 in
theorem bg_zero (hx : x.many = 0) (hk : k < n) (hn : n ≤ 1000000) (hsl : st.length ≤ 1000000) (J : Nat → Value) (w : World) (hP : w.ownsRow w0.heap.size 3 1 va st.length (natCells st)) (hU : Under w0 w)
    (hb0 : b < w0.heap.size) (c0 : w0.cell? ⟨b, off + k * 3, none⟩ = some (.int .i64 x.many)) (c1 : w0.cell? ⟨b, off + k * 3 + 1, none⟩ = some (.int .i64 x.pos)) (c2 : w0.cell? ⟨b, off + k * 3 + 2, none⟩ = some (.string x.word)) :
    bgRound.wp Tryd.prog (Exit.then (BNext w0 (.slice (some ⟨b, off, none⟩) n cap) n (k + 1) (st ++ [k])) (fun _ _ _ => False)) ⟨bgFrame (.slice (some ⟨b, off, none⟩) n cap) n k va J, []⟩ w := by
  have hb := Nat.lt_of_lt_of_le hb0 hU.size
  rw [← under_cell hU hb0] at c0 c1 c2
  obtain ⟨i0, hi, hz0, hz1, hz2⟩ := info_parts Tryd.info3
  have hin : (k : Int) < n := by omega
  have hk0 : (0 : Int) ≤ k := Int.natCast_nonneg _
  have hmx : st.length + 1 ≤ maxLen := by simp only [maxLen]; omega
  have hby : (st.length + 1) * 8 ≤ 140737488355328 := by omega
  obtain ⟨m, q, t⟩ := x
  simp only at hx c0 c1 c2
  subst hx
  unfold bgRound bgLoop bgText
  simp only [Tryd.f24, Option.getD_some, fstOf, sndOf, inOf]
  unfold bgFrame
  have HU := Lib.hid hU
  clear hU
  have both : t = ⟨#[]⟩ ∨ (¬ t.toList = [] ∧ t.toList.isEmpty = false) := by
    by_cases hB : t.size = 0
    · exact .inl (ByteArray.ext (Array.eq_empty_of_size_eq_zero hB))
    · exact .inr (toList_ne hB)
  have hm0 : ((0 : Int) != 0) = false := by decide
  rcases hP.2 with ⟨rfl, h0⟩ | ⟨g, c, cur, rfl, _, _, hc, _⟩
  · have e := List.length_eq_zero_iff.1 h0
    subst e
    have HP := Lib.hid hP
    clear hP h0
    rcases both with rfl | ⟨e1, e2⟩
    · skip
      go_wp2_with (at_builtin; refine wpList_append_own_at _ rfl _ _ 73 rfl w0.heap.size 3 i0 _ 1 8 Tryd.underlying73 hi hz0 hz1 hz2 rfl (by decide) _ _ _ rfl ((HP.out.alloc _).alloc _) ⟨w.heap.size + 1, 0, none⟩ 1 1 [.int .i64 (k : Int)] rfl rfl ?c1 ?c2 hmx hby ?c5 ?_)
      case c1 =>
        intro j u hj
        match j, hj with
        | 0, hj => cases hj; simp [Addr.add]
      case c2 => intro u hu; simp at hu; rcases hu with rfl; rfl
      case c5 => have := HU.out.size; simp; omega
      intro v' w' hown hgrow hnil hat
      have HW := Lib.hid hown
      have HU2 := Lib.hid (under_grown (under_alloc (under_alloc HU.out _) _) hgrow fun g e => (row_lt HP.out e).1)
      clear hown hgrow hnil hat
      go_wp2
      exact ⟨v', frame_ex (F := bgFrame _ n (k + 1) v') (by rfl) ⟨by rw [natCells_app, List.length_append]; exact HW.out, HU2.out⟩⟩
    · skip
      go_wp2_with (at_builtin; refine wpList_append_own_at _ rfl _ _ 73 rfl w0.heap.size 3 i0 _ 1 8 Tryd.underlying73 hi hz0 hz1 hz2 rfl (by decide) _ _ _ rfl ((HP.out.alloc _).alloc _) ⟨w.heap.size + 1, 0, none⟩ 1 1 [.int .i64 (k : Int)] rfl rfl ?c1 ?c2 hmx hby ?c5 ?_)
      case c1 =>
        intro j u hj
        match j, hj with
        | 0, hj => cases hj; simp [Addr.add]
      case c2 => intro u hu; simp at hu; rcases hu with rfl; rfl
      case c5 => have := HU.out.size; simp; omega
      intro v' w' hown hgrow hnil hat
      have HW := Lib.hid hown
      have HU2 := Lib.hid (under_grown (under_alloc (under_alloc HU.out _) _) hgrow fun g e => (row_lt HP.out e).1)
      clear hown hgrow hnil hat
      go_wp2
      exact ⟨v', frame_ex (F := bgFrame _ n (k + 1) v') (by rfl) ⟨by rw [natCells_app, List.length_append]; exact HW.out, HU2.out⟩⟩
  · have hc' : (st.length : Int) ≤ c := by omega
    have HP := Lib.hid hP
    clear hP
    rcases both with rfl | ⟨e1, e2⟩
    · skip
      go_wp2_with (at_builtin; refine wpList_append_own_at _ rfl _ _ 73 rfl w0.heap.size 3 i0 _ 1 8 Tryd.underlying73 hi hz0 hz1 hz2 rfl (by decide) _ _ _ rfl ((HP.out.alloc _).alloc _) ⟨w.heap.size + 1, 0, none⟩ 1 1 [.int .i64 (k : Int)] rfl rfl ?c1 ?c2 hmx hby ?c5 ?_)
      case c1 =>
        intro j u hj
        match j, hj with
        | 0, hj => cases hj; simp [Addr.add]
      case c2 => intro u hu; simp at hu; rcases hu with rfl; rfl
      case c5 => have := HU.out.size; simp; omega
      intro v' w' hown hgrow hnil hat
      have HW := Lib.hid hown
      have HU2 := Lib.hid (under_grown (under_alloc (under_alloc HU.out _) _) hgrow fun g e => (row_lt HP.out e).1)
      clear hown hgrow hnil hat
      go_wp2
      exact ⟨v', frame_ex (F := bgFrame _ n (k + 1) v') (by rfl) ⟨by rw [natCells_app, List.length_append]; exact HW.out, HU2.out⟩⟩
    · skip
      go_wp2_with (at_builtin; refine wpList_append_own_at _ rfl _ _ 73 rfl w0.heap.size 3 i0 _ 1 8 Tryd.underlying73 hi hz0 hz1 hz2 rfl (by decide) _ _ _ rfl ((HP.out.alloc _).alloc _) ⟨w.heap.size + 1, 0, none⟩ 1 1 [.int .i64 (k : Int)] rfl rfl ?c1 ?c2 hmx hby ?c5 ?_)
      case c1 =>
        intro j u hj
        match j, hj with
        | 0, hj => cases hj; simp [Addr.add]
      case c2 => intro u hu; simp at hu; rcases hu with rfl; rfl
      case c5 => have := HU.out.size; simp; omega
      intro v' w' hown hgrow hnil hat
      have HW := Lib.hid hown
      have HU2 := Lib.hid (under_grown (under_alloc (under_alloc HU.out _) _) hgrow fun g e => (row_lt HP.out e).1)
      clear hown hgrow hnil hat
      go_wp2
      exact ⟨v', frame_ex (F := bgFrame _ n (k + 1) v') (by rfl) ⟨by rw [natCells_app, List.length_append]; exact HW.out, HU2.out⟩⟩
set_option maxRecDepth 100000 in
set_option maxHeartbeats 4000000 in
theorem bg_more {s m h : Nat} {xs : List Value} (hx : x.many = (m : Int)) (hm : 0 < m) (hxw : x.word = ⟨#[]⟩) (hk : k < n) (hn : n ≤ 1000000) (hsl : s + m ≤ 1000000) (J : Nat → Value) (w : World) (hP : w.ownsRow w0.heap.size 3 1 va (s + m) xs) (hh : xs[s]? = some (.int .i64 (h : Int))) (hU : Under w0 w)
    (hb0 : b < w0.heap.size) (c0 : w0.cell? ⟨b, off + k * 3, none⟩ = some (.int .i64 x.many)) (c1 : w0.cell? ⟨b, off + k * 3 + 1, none⟩ = some (.int .i64 x.pos)) (c2 : w0.cell? ⟨b, off + k * 3 + 2, none⟩ = some (.string x.word)) :
    bgRound.wp Tryd.prog (Exit.then (BMore w0 (.slice (some ⟨b, off, none⟩) n cap) n (k + 1) (s + 1) (xs.take s ++ [.int .i64 (h : Int)])) (fun _ _ _ => False)) ⟨bgFrame (.slice (some ⟨b, off, none⟩) n cap) n k va J, []⟩ w := by
  have hb := Nat.lt_of_lt_of_le hb0 hU.size
  rw [← under_cell hU hb0] at c0 c1 c2
  obtain ⟨i0, hi, hz0, hz1, hz2⟩ := info_parts Tryd.info3
  obtain ⟨g, c, rfl, hg, hgb, hgl, hgc, _⟩ := row_block hP (by omega)
  have hcell := row_cell hP hg hh
  have hin : (k : Int) < n := by omega
  have hk0 : (0 : Int) ≤ k := Int.natCast_nonneg _
  have hmx : s + 1 ≤ maxLen := by simp only [maxLen]; omega
  have hby : (s + 1) * 8 ≤ 140737488355328 := by omega
  obtain ⟨mm, q, t⟩ := x
  simp only at hx hxw c0 c1 c2
  subst hx hxw
  unfold bgRound bgLoop bgText
  simp only [Tryd.f24, Option.getD_some, fstOf, sndOf, inOf]
  unfold bgFrame
  have HU := Lib.hid hU
  have HP := Lib.hid hP
  clear hU hP
  have m0 : (0 : Int) < (m : Int) := by omega
  have m1 : ¬ ((m : Int) < 0) := by omega
  have m2 : ¬ ((s : Int) + (m : Int) < (m : Int)) := by omega
  have m3 : (s : Int) ≤ (c : Int) := by omega
  have m4 : (s : Int) < (s : Int) + (m : Int) := by omega
  have m5 : (s : Int) + (m : Int) ≤ 1000000 := by omega
  have m6 : (0 : Int) ≤ (s : Int) := by omega
  go_wp2_with (at_builtin; refine wpList_append_own_at _ rfl _ _ 73 rfl w0.heap.size 3 i0 _ 1 8 Tryd.underlying73 hi hz0 hz1 hz2 rfl (by decide) _ _ _ rfl (((row_cut HP.out (m := s) (by omega)).alloc _).alloc _) ⟨w.heap.size + 1, 0, none⟩ 1 1 [.int .i64 (h : Int)] rfl rfl ?c1 ?c2 hmx hby ?c5 ?_)
  case c2 => rfl
  case c5 => have := HU.out.size; omega
  intro v' w' hown hgrow hnil hat
  have HW := Lib.hid hown
  have HU2 := Lib.hid (under_grown (under_alloc (under_alloc HU.out _) _) hgrow fun g e => (row_lt (row_cut HP.out (m := s) (by omega)) e).1)
  clear hown hgrow hnil hat
  go_wp2
  exact ⟨v', frame_ex (F := bgFrame _ n (k + 1) v') (by rfl) ⟨HW.out, HU2.out⟩⟩
structure BInv (w0 : World) (row : List Sx) (R : Option (List Nat)) (m k : Nat) (va : Value) (st : List Nat) (w : World) : Prop where
  cnt : m + k = row.length
  own : w.ownsRow w0.heap.size 3 1 va st.length (natCells st)
  low : Under w0 w
  go : beginsGo (row.drop k) k st = R
  stL : st.length ≤ k
def BI (w0 : World) (l : Value) (row : List Sx) (R : Option (List Nat)) (m : Nat) (a : Act) (w : World) : Prop :=
  ∃ k va st J, a = ⟨bgFrame l row.length k va J, []⟩ ∧ BInv w0 row R m k va st w
def BEnd (w0 : World) (l : Value) (row : List Sx) (R : Option (List Nat)) (e : Exit) (a : Act) (w : World) : Prop :=
  (e = .exit 0 ∧ ∃ va st J, a = ⟨bgFrame l row.length row.length va J, []⟩ ∧ BInv w0 row R 0 row.length va st w) ∨ (R = none ∧ BBad w0 e a w)
theorem bg_rounds (row : List Sx) {p : Option Addr} (hn : row.length ≤ 1000000) (hp : SxArg w0 p row) (R : Option (List Nat)) (m : Nat) (a : Act) (w : World)
    (h0 : BI w0 (.slice p row.length cap) row R m a w) :
    (Code.loop bgRound).wp Tryd.prog (BEnd w0 (.slice p row.length cap) row R) a w := by
  refine wp_loop_ghost _ m h0 ?_
  clear h0
  rintro m a w ⟨k, va, st, J, rfl, hi⟩
  have hmk := hi.cnt
  by_cases hkn : k = row.length
  · subst hkn
    refine wp_mono (bg_done _ J w) ?_
    rintro e a' w' h
    cases e with
    | normal => exact h.elim
    | _ =>
      obtain ⟨h1, J', rfl, rfl⟩ := h
      have : m = 0 := by omega
      subst this
      exact .inl ⟨h1, va, st, J', rfl, hi⟩
  have hlt : k < row.length := by omega
  obtain ⟨b, off, rfl, hb0, ht⟩ := hp (fun e => by rw [e] at hlt; exact absurd hlt (Nat.not_lt_zero _))
  obtain ⟨x, hx0⟩ : ∃ x, row[k]? = some x := ⟨_, List.getElem?_eq_getElem hlt⟩
  have hd : row.drop k = x :: row.drop (k + 1) := by
    rw [List.drop_eq_getElem_cons hlt]
    rw [List.getElem?_eq_getElem hlt] at hx0
    cases hx0; rfl
  have hgo := hi.go
  rw [hd] at hgo
  simp only [beginsGo] at hgo
  obtain ⟨c0, c1, c2⟩ := ht k x hx0
  have hst := hi.stL
  by_cases hg : GoodSx x st.length
  · rw [if_pos hg] at hgo
    obtain ⟨g1, g2, g3⟩ := hg
    by_cases hm : x.many = 0
    · refine wp_mono (bg_zero (cap := cap) hm hlt hn (by omega) J w hi.own hi.low hb0 c0 c1 c2) ?_
      rintro e a' w' h
      cases e with
      | normal =>
        obtain ⟨va', J', rfl, ho, hU⟩ := h
        refine ⟨m - 1, by omega, k + 1, va', st ++ [k], J', rfl, by omega, ho, hU, ?_, by simp; omega⟩
        rw [← hgo]
        congr 1
        unfold bgStep
        simp [hm]
      | _ => exact h.elim
    · have hw : x.word = ⟨#[]⟩ := by
        apply ByteArray.ext
        apply Array.eq_empty_of_size_eq_zero
        exact Decidable.byContradiction fun h => hm (g2 h)
      obtain ⟨mm, hmm⟩ : ∃ mm : Nat, x.many = mm := ⟨x.many.toNat, by omega⟩
      obtain ⟨s, hs⟩ : ∃ s, st.length = s + mm := ⟨st.length - mm, by omega⟩
      have hsl : s < st.length := by omega
      have own := hi.own
      rw [hs] at own
      refine wp_mono (bg_more (cap := cap) (s := s) (m := mm) (h := st[s]) hmm (by omega) hw hlt hn (by omega) J w own (natCells_at (List.getElem?_eq_getElem hsl)) hi.low hb0 c0 c1 c2) ?_
      rintro e a' w' h
      cases e with
      | normal =>
        obtain ⟨va', J', rfl, ho, hU⟩ := h
        have e1 : bgStep x k st = st.take s ++ [st[s]] := by
          unfold bgStep
          rw [hmm, Int.toNat_natCast, hs, Nat.add_sub_cancel]
          congr 2
          rw [List.drop_eq_getElem_cons hsl]
          rfl
        have e2 : (bgStep x k st).length = s + 1 := by rw [e1, List.length_append, List.length_take]; simp; omega
        refine ⟨m - 1, by omega, k + 1, va', bgStep x k st, J', rfl, by omega, ?_, hU, hgo, by omega⟩
        rw [e2, e1, natCells_app]
        unfold natCells at ho ⊢
        rw [List.map_take]
        exact ho
      | _ => exact h.elim
  · rw [if_neg hg] at hgo
    refine wp_mono (bg_bad (cap := cap) hg hlt hn (by omega) J w hi.own hi.low hb0 c0 c1 c2) ?_
    rintro e a' w' h
    cases e with
    | normal => exact h.elim
    | _ => exact .inr ⟨hgo.symm, h⟩
def BgOut (w0 : World) (n : Nat) (R : Option (List Nat)) (e : Ending) (w' : World) : Prop :=
  Under w0 w' ∧ match R with
    | some st => ∃ va, e = .returned (.tuple #[va, .bool true]) ∧ w'.ownsRow w0.heap.size 3 1 va (st.length + 1) (natCells (st ++ [n]))
    | none => e = .returned (.tuple #[.slice none 0 0, .bool false])
set_option maxRecDepth 100000 in
set_option maxHeartbeats 4000000 in
theorem begins_any (row : List Sx) {p : Option Addr} (hn : row.length ≤ 1000000) (hp : SxArg w0 p row) :
    Calls Tryd.prog 24 #[.slice p row.length cap] w0 (BgOut w0 row.length (beginsGo row 0 [])) := by
  have HL := Lib.hid (fun m a w h => bg_rounds (w0 := w0) (cap := cap) row hn hp (beginsGo row 0 []) m a w h)
  generalize hR : beginsGo row 0 [] = R at *
  have HR := Lib.hid hR
  obtain ⟨i0, hi, hz0, hz1, hz2⟩ := info_parts Tryd.info3
  clear hR hp
  go_enter Tryd.func24, Tryd.ntmps24
  go_wp2
  rename_i K hK
  refine wp_mono (HL.out row.length _ _ ⟨0, .slice none 0 0, [], _, pframe_ex (F := bgFrame _ _ 0 _) (by rfl), ⟨rfl, row_nil _ _ _ _, ⟨rfl, rfl, Nat.le_refl _, fun _ _ => rfl⟩, HR.out, Nat.le_refl _⟩⟩) ?_
  rintro e a' w' (⟨rfl, va, st, J, rfl, hv⟩ | ⟨rfl, rfl, J, rfl, hu⟩)
  · simp only [Exit.inBlock, if_pos, Exit.then]
    refine hK _ _ ?_
    have hgo := hv.go
    rw [List.drop_length] at hgo
    have hst := hv.stL
    have hmx : st.length + 1 ≤ maxLen := by simp only [maxLen]; omega
    have hby : (st.length + 1) * 8 ≤ 140737488355328 := by omega
    have HI := Lib.hid hv
    have HG := Lib.hid hgo
    have hws := hv.low.size
    clear hv hgo
    unfold bgFrame
    go_wp2_with (at_builtin; refine wpList_append_own_at _ rfl _ _ 73 rfl w0.heap.size 3 i0 _ 1 8 Tryd.underlying73 hi hz0 hz1 hz2 rfl (by decide) _ _ _ rfl (HI.out.own.alloc _) ⟨w'.heap.size, 0, none⟩ 1 1 [.int .i64 (row.length : Int)] rfl rfl ?c1 ?c2 hmx hby ?c5 ?_)
    case c1 =>
      intro j u hj
      match j, hj with
      | 0, hj => cases hj; simp [Addr.add]
    case c2 => intro u hu; simp at hu; rcases hu with rfl; rfl
    case c5 => simp; omega
    intro v' w1 hown hgrow hnil hat
    have HW := Lib.hid hown
    have HU2 := Lib.hid (under_grown (under_alloc HI.out.low _) hgrow fun g e => (row_lt HI.out.own e).1)
    clear hown hgrow hnil hat
    go_wp2
    go_ret2
    obtain rfl : some st = R := HG.out
    exact ⟨HU2.out, v', rfl, by rw [natCells_app]; exact HW.out⟩
  · simp only [Exit.inBlock, Exit.then]
    go_ret2
    exact ⟨hu, rfl⟩
end
end Go.Proofs.YtkmbmgmfcecfkaaDoor
namespace Go.Proofs.YtkmbmgmfcecfkaaDoor
open Go.Lx Go.RowKit
def sxV (x : Sx) : Value := .agg #[.int .i64 x.many, .int .i64 x.pos, .string x.word]
section
variable {w0 : World}
set_option maxRecDepth 100000 in
set_option maxHeartbeats 1000000 in
theorem slast_any (T : ST) {q : Option Addr} {cap : Nat} (hn : (flatS T).length ≤ 1000000) (hq : SxArg w0 q (flatS T)) : Calls Tryd.prog 22 #[.slice q (flatS T).length cap] w0 fun e w => e = .returned (sxV T.last) ∧ Under w0 w := by
  obtain ⟨init, hi⟩ := flatS_snoc T
  obtain ⟨b, off, rfl, hb, ht⟩ := hq (by rw [hi]; simp)
  obtain ⟨c0, c1, c2⟩ := ht init.length T.last (by rw [hi]; simp)
  have hl : (flatS T).length = init.length + 1 := by rw [hi]; simp
  rw [hl] at hn ⊢
  generalize T.last = x at *
  generalize init.length = m at *
  have hmi : ((m : Int) + 1 - 1) = (m : Int) := by omega
  have hm1 : (m : Int) ≤ 1000000 := by omega
  have hm0 : (0 : Int) ≤ (m : Int) := by omega
  clear hi ht hl hn
  go_enter Tryd.func22, Tryd.ntmps22
  go_wp2
  refine bodyPost_ret (v := sxV x) ?_ rfl ⟨rfl, under_alloc (Under.refl _) _⟩
  simp [results, Tryd.f22, go_sem, sxV]
set_option maxRecDepth 100000 in
set_option maxHeartbeats 1000000 in
theorem sname_any (x : Sx) {rb m1 m2 : Nat} (hs : x.word.size ≤ maxLen) (hT : Tables w0 rb m1 m2) : Calls Tryd.prog 30 #[.pointer (some ⟨rb, 0, none⟩), sxV x] w0 fun e w => e = .returned (.bool (nameK x.word)) ∧ Under w0 w := by
  have hk : nameK x.word = (nameB x.word && !kwB x.word) := by unfold nameK; rw [kw_eq]
  obtain ⟨m, p, s⟩ := x
  simp only at hk hs
  have HN := Lib.hid (fun w => name_any s w hs)
  have HU0 := Lib.hid (under_alloc (Under.refl w0) (.cells #[.int .i64 m, .int .i64 p, .string s] 63))
  obtain ⟨hlt, c1, c2, h1, h2⟩ := hT
  have hT : Tables (w0.alloc (.cells #[.int .i64 m, .int .i64 p, .string s] 63)) rb m1 m2 := ⟨by rw [World.size_alloc]; omega, by rw [under_cell HU0.out hlt]; exact c1, by rw [under_cell HU0.out hlt]; exact c2, h1.under HU0.out, h2.under HU0.out⟩
  have HK := Lib.hid (keyword_any s hT)
  have HE := Lib.hid hk
  generalize nameK s = R at *
  generalize kwB s = b at *
  generalize nameB s = a at *
  clear hk hT h1 h2 c1 c2 hs
  unfold sxV
  cases a
  · go_enter Tryd.func30, Tryd.ntmps30
    go_wp2_with fail
    refine (HN.out _).mono ?_
    rintro e w1 ⟨rfl, rfl⟩
    go_wp2
    go_ret
    exact ⟨by rw [HE.out]; rfl, HU0.out⟩
  · go_enter Tryd.func30, Tryd.ntmps30
    go_wp2_with fail
    refine (HN.out _).mono ?_
    rintro e w1 ⟨rfl, rfl⟩
    go_wp2_with fail
    refine HK.out.mono ?_
    rintro e w2 ⟨rfl, hU⟩
    have HU := Lib.hid hU
    clear hU
    go_wp2
    go_ret
    exact ⟨by rw [HE.out]; rfl, HU0.out.trans HU.out⟩
end
end Go.Proofs.YtkmbmgmfcecfkaaDoor
