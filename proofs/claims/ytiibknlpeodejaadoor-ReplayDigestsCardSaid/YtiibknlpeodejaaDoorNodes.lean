/- shift.nodes, an iterator: its inner loop. -/
import Derived.Test.YtiibknlpeodejaaDoorTBinds
import Derived.Test.YtiibknlpeodejaaDoorLxM
import Derived.TacticsInMore
import Derived.LoopNIn
import Derived.LoopIn
import Derived.Shelf.Abstract
import Derived.Shelf.RegionOpen
set_option linter.unusedSimpArgs false
set_option linter.unusedVariables false
namespace Go.Proofs.YtiibknlpeodejaaDoor
open Go.Lx Go.RowKit

noncomputable def ndText : Code := Tryd.f50.body.getD .skip
noncomputable def ndRound : Code := inOf (inOf (sndOf (sndOf ndText)))
noncomputable def ndIn : Code := sndOf (sndOf (sndOf (sndOf (inOf (fstOf (sndOf ndRound))))))
noncomputable def niRound : Code := inOf (inOf (sndOf ndIn))
def ndFrame (yf : Value) (tb : Nat) (vo : Value) (k : Int) (J : Nat → Value) : Array Value := #[yf, .pointer (some ⟨tb, 0, none⟩), J 2, vo, .int .i64 k, J 5, J 6, J 7, J 8, J 9, J 10, J 11, J 12, J 13, J 14, J 15, J 16, J 17, J 18, J 19, J 20, J 21, J 22, J 23, J 24, J 25, J 26, J 27, J 28, J 29, J 30, J 31, J 32, J 33, J 34, J 35, J 36, J 37, J 38, J 39, J 40, J 41, J 42, J 43, J 44, J 45, J 46, J 47, J 48, J 49, J 50, J 51, J 52, J 53, J 54]
def niFrame (yf : Value) (tb : Nat) (vo : Value) (k : Int) (u : Nat) (vb : Value) (m j : Nat) (J : Nat → Value) : Array Value :=
  #[yf, .pointer (some ⟨tb, 0, none⟩), J 2, vo, .int .i64 k, .int .i64 (u : Int), J 6, J 7, J 8, J 9, J 10, J 11, J 12, J 13, J 14, J 15, J 16, J 17, J 18, J 19, J 20, J 21, J 22, J 23, J 24, J 25, J 26, J 27, J 28, J 29, J 30, J 31, J 32, J 33, J 34, J 35, J 36, J 37, J 38, J 39, J 40, J 41, vb, .int .i64 (m : Int), .int .i64 (j : Int), J 45, J 46, J 47, J 48, J 49, J 50, J 51, J 52, J 53, J 54]

/-- What the iterator holds: its row of binders, what it reads. -/
structure NH (W0 : World) (tb : Nat) (vt : Value) (B : Nat) (Jc : Option Nat → World → Prop) (vo : Value) (l : List Nat) (A : World) : Prop where
  j : Jc vo.ownBlock A
  row : A.ownsRow B 3 1 vo l.length (intsN l)
  low : Under W0 A
  box : BoxAt A tb 26 #[vt]
  big : B ≤ A.heap.size
section
variable {W0 : World} {tb B : Nat} {vt yf vo : Value} {Jc : Option Nat → World → Prop} {k : Int} {u m j : Nat} {l : List Nat}
/-- What is asked of the caller's invariant. -/
def Abide (Jc : Option Nat → World → Prop) : Prop := ∀ b b' A A', Jc b A → IStep b b' A A' → Jc b' A'
theorem NH.under {A A' : World} (h : NH W0 tb vt B Jc vo l A) (hJ : Abide Jc) (hU : Under A A') : NH W0 tb vt B Jc vo l A' :=
  ⟨hJ _ _ _ _ h.j (IStep.under hU _), row_under h.row hU, h.low.trans hU, h.box.under hU, Nat.le_trans h.big hU.size⟩
theorem NH.grown {A A' : World} {vo' : Value} {l' : List Nat} (h : NH W0 tb vt B Jc vo l A) (hJ : Abide Jc) (hg : A.grownBy A' vo.ownBlock) (hat : vo'.ownBlock = vo.ownBlock ∨ vo'.ownBlock = some A.heap.size) (hr : A'.ownsRow B 3 1 vo' l'.length (intsN l')) (hW : W0.heap.size ≤ B) (ht : tb < B) : NH W0 tb vt B Jc vo' l' A' :=
  ⟨hJ _ _ _ _ h.j (IStep.grown hg hat), hr, under_grown h.low hg fun g e => Nat.le_trans hW (row_lt h.row e).1, h.box.grown hg fun e => by have := (row_lt h.row e.symm).1; omega, Nat.le_trans h.big hg.size⟩

/-- Between two binders. -/
def NIn (W0 : World) (tb : Nat) (vt : Value) (B : Nat) (Jc : Option Nat → World → Prop) (yf : Value) (k : Int) (u : Nat) (vb : Value) (m j : Nat) (A0 : World) (l : List Nat) (bs : List Nat) (a : Act) (A : World) : Prop :=
  ∃ vo J, a = ⟨niFrame yf tb vo k u vb m j J, []⟩ ∧ NH W0 tb vt B Jc vo l A ∧ A.ownsRow A0.heap.size 3 1 vb bs.length (intsN bs) ∧ (vb.ownBlock = none ∨ vb.ownBlock ≠ vo.ownBlock)
def NInD (W0 : World) (tb : Nat) (vt : Value) (B : Nat) (Jc : Option Nat → World → Prop) (yf : Value) (k : Int) (u : Nat) (vb : Value) (m : Nat) (A0 : World) (l : List Nat) (bs : List Nat) (e : Exit) (a : Act) (A : World) : Prop := e = .exit 2 ∧ NIn W0 tb vt B Jc yf k u vb m m A0 l bs a A
set_option maxRecDepth 100000 in
theorem ni_done {A0 : World} {bs : List Nat} {vb : Value} (J : Nat → Value) (A : World) (hH : NH W0 tb vt B Jc vo l A) (hb : A.ownsRow A0.heap.size 3 1 vb bs.length (intsN bs)) (hne : vb.ownBlock = none ∨ vb.ownBlock ≠ vo.ownBlock) :
    niRound.wp Tryd.prog (Exit.then (fun _ _ => False) (NInD W0 tb vt B Jc yf k u vb m A0 l bs)) ⟨niFrame yf tb vo k u vb m m J, []⟩ A := by
  have HH := Lib.hid hH
  have HB := Lib.hid hb
  have HN := Lib.hid hne
  clear hH hb hne
  unfold niRound ndIn ndRound ndText
  simp only [Tryd.f50, Option.getD_some, fstOf, sndOf, inOf]
  unfold niFrame
  go_wp2
  exact ⟨rfl, vo, frame_ex (F := niFrame yf tb vo k u vb m m) (by rfl) ⟨HH.out, HB.out, HN.out⟩⟩
set_option maxRecDepth 100000 in
set_option maxHeartbeats 1000000 in
theorem ni_one {A0 : World} {bs : List Nat} {vb : Value} {x : Nat} (hJ : Abide Jc) (hW : W0.heap.size ≤ B) (ht : tb < B) (hx : bs[j]? = some x) (hm : bs.length ≤ 8) (hu : u ≤ 10000) (hx2 : x ≤ 2) (hl : l.length ≤ 40000) (J : Nat → Value) (A : World) (hH : NH W0 tb vt B Jc vo l A)
    (hb : A.ownsRow A0.heap.size 3 1 vb bs.length (intsN bs)) (hne : vb.ownBlock = none ∨ vb.ownBlock ≠ vo.ownBlock) :
    niRound.wp Tryd.prog (Exit.then (NIn W0 tb vt B Jc yf k u vb bs.length (j + 1) A0 (l ++ [u + x]) bs) (fun _ _ _ => False)) ⟨niFrame yf tb vo k u vb bs.length j J, []⟩ A := by
  obtain ⟨i0, hi, hz0, hz1, hz2⟩ := info_parts Tryd.info3
  obtain ⟨hj, hxe⟩ := List.getElem?_eq_some_iff.1 hx
  obtain ⟨g, gc, hvb, hg, _, hgl, _, _⟩ := row_block hb (by omega)
  have c0 := row_cell hb hg (j := j) (u := .int .i64 (x : Int)) (by unfold intsN; rw [List.getElem?_map, hx]; rfl)
  have hj1 : (j : Int) < bs.length := by omega
  have hj0 : (0 : Int) ≤ j := Int.natCast_nonneg _
  have hj8 : (j : Int) ≤ 8 := by omega
  have hu0 : (0 : Int) ≤ u := Int.natCast_nonneg _
  have hu1 : (u : Int) ≤ 10000 := by omega
  have hx0 : (0 : Int) ≤ x := Int.natCast_nonneg _
  have hx1 : (x : Int) ≤ 2 := by omega
  have hmx : l.length + 1 ≤ maxLen := by simp only [maxLen]; omega
  have hby : (l.length + 1) * 8 ≤ 140737488355328 := by omega
  have HH := Lib.hid hH
  have HB := Lib.hid hb
  have HN := Lib.hid hne
  have HG := Lib.hid hg
  subst hvb
  clear hH hb hne hx hxe hg
  unfold niRound ndIn ndRound ndText
  simp only [Tryd.f50, Option.getD_some, fstOf, sndOf, inOf]
  unfold niFrame
  go_wp2_with (at_builtin; refine wpList_append_own_at _ rfl _ _ 116 rfl B 3 i0 _ 1 8 Tryd.underlying116 hi hz0 hz1 hz2 rfl (by decide) _ _ _ rfl (HH.out.row.alloc _) ⟨A.heap.size, 0, none⟩ 1 1 [.int .i64 ((u : Int) + (x : Int))] rfl rfl ?c1 ?c2 hmx hby ?c5 ?_)
  case c1 =>
    intro j u hj
    match j, hj with
    | 0, hj => cases hj; simp [Addr.add]
  case c2 => intro u hu; simp at hu; subst hu; rfl
  case c5 => have := HH.out.big; simp; omega
  intro v' A1 hown hgrow hnil hat
  have HH1 := Lib.hid ((HH.out.under hJ (under_alloc (Under.refl A) (.cells #[.int .i64 ((u : Int) + (x : Int))] 3))).grown (vo' := v') (l' := l ++ [u + x]) hJ hgrow (by simpa using hat) (by
    rw [List.length_append]
    have : intsN (l ++ [u + x]) = intsN l ++ [.int .i64 ((u : Int) + (x : Int))] := by simp [intsN]
    rw [this]
    exact hown) hW ht)
  have HB1 := Lib.hid (row_grown (HB.out.alloc (.cells #[.int .i64 ((u : Int) + (x : Int))] 3)) hgrow HN.out)
  have hne1 : (Value.slice (some ⟨g, 0, none⟩) bs.length gc).ownBlock = none ∨ (Value.slice (some ⟨g, 0, none⟩) bs.length gc).ownBlock ≠ v'.ownBlock := by
    right
    rcases hat with e | e
    · rw [e]
      rcases HN.out with h | h
      · simp [Value.ownBlock] at h
      · exact h
    · rw [e]; simp [Value.ownBlock]; omega
  have HN1 := Lib.hid hne1
  clear hown hgrow hnil hat hne1
  go_wp2
  exact ⟨v', frame_ex (F := niFrame yf tb v' k u _ bs.length (j + 1)) (by rfl) ⟨HH1.out, HB1.out, HN1.out⟩⟩
theorem ni_rounds {A0 : World} (bs : List Nat) {vb : Value} (hJ : Abide Jc) (hW : W0.heap.size ≤ B) (ht : tb < B) (hm : bs.length ≤ 8) (hu : u ≤ 10000) (hx2 : ∀ x ∈ bs, x ≤ 2) (hl : l.length ≤ 39000) (i : Nat) (a : Act) (A : World)
    (h0 : ∃ j, i + j = bs.length ∧ NIn W0 tb vt B Jc yf k u vb bs.length j A0 (l ++ (bs.take j).map (u + ·)) bs a A) :
    (Code.loop niRound).wp Tryd.prog (NInD W0 tb vt B Jc yf k u vb bs.length A0 (l ++ bs.map (u + ·)) bs) a A := by
  refine wp_loop_ghost (fun i a A => ∃ j, i + j = bs.length ∧ NIn W0 tb vt B Jc yf k u vb bs.length j A0 (l ++ (bs.take j).map (u + ·)) bs a A) i h0 ?_
  clear h0
  rintro i a A ⟨j, hij, vo, J, rfl, hH, hb, hne⟩
  by_cases hjn : j = bs.length
  · subst hjn
    rw [List.take_length] at hH
    refine wp_mono (ni_done J A hH hb hne) ?_
    rintro e a' w' h
    cases e with
    | normal => exact h.elim
    | _ => exact h
  have hlt : j < bs.length := by omega
  refine wp_mono (ni_one hJ hW ht (List.getElem?_eq_getElem hlt) hm hu (hx2 _ (List.getElem_mem hlt)) (by rw [List.length_append, List.length_map, List.length_take]; omega) J A hH hb hne) ?_
  rintro e a' w' h
  cases e with
  | normal =>
    refine ⟨i - 1, by omega, j + 1, by omega, ?_⟩
    rw [List.take_succ_eq_append_getElem hlt, List.map_append, ← List.append_assoc]
    exact h
  | _ => exact h.elim
end
end Go.Proofs.YtiibknlpeodejaaDoor
