/- shift.nodes, an iterator: its rounds. -/
import Derived.Test.YtiibknlpeodejaaDoorNodes
set_option linter.unusedSimpArgs false
set_option linter.unusedVariables false
namespace Go.Proofs.YtiibknlpeodejaaDoor
open Go.Lx Go.RowKit
attribute [local go_sem] Oper.semAt_some

section
variable {W0 : World} {tb B n : Nat} {vt vo : Value} {Jc Jd : Option Nat → World → Prop} {Jx : World → Prop} {R : Nat → Prop} {k u l : Nat} {st : List Nat}
def NNext (W0 : World) (tb : Nat) (vt : Value) (B : Nat) (Jc : Option Nat → World → Prop) (yf : Value) (k : Nat) (st : List Nat) (a : Act) (A : World) : Prop :=
  ∃ vo J, a = ⟨ndFrame yf tb vo ((k : Int) - 1) J, []⟩ ∧ NH W0 tb vt B Jc vo st.reverse A
def NStop (Jx : World → Prop) (e : Exit) (a : Act) (A : World) : Prop := e = .ret ∧ a.defers = [] ∧ Jx A
set_option maxRecDepth 100000 in
set_option maxHeartbeats 1000000 in
theorem nd_one {x : Nd} {b off c N : Nat} (hJd : Abide Jd) (hW : W0.heap.size ≤ B) (ht : tb < B) (hR : ∀ k, k < W0.heap.size → R k) (hRt : R tb) (hk : k < N) (hN : N ≤ 4000) (hcap : N ≤ c) (hu : u ≤ 8000) (hl : st.length ≤ 38000) (hvt : vt = .slice (some ⟨b, off, none⟩) N c)
    (hs : x.s.size ≤ maxLen) (hS : ShapesAt 1 W0) (hb : b < W0.heap.size) (c0 : W0.cell? ⟨b, off + k * 4, none⟩ = some (.int .i64 x.k)) (c1 : W0.cell? ⟨b, off + k * 4 + 1, none⟩ = some (.int .i64 x.n)) (c2 : W0.cell? ⟨b, off + k * 4 + 2, none⟩ = some (.int .i64 x.m)) (c3 : W0.cell? ⟨b, off + k * 4 + 3, none⟩ = some (.string x.s))
    (J : Nat → Value) (A : World) (hH : NH W0 tb vt B Jc vo (u :: st).reverse A)
    (hY : YieldAt Fence.wide (n - 1) Tryd.prog l #[.int .i64 (k : Int), .int .i64 (u : Int)] A fun e A' => (e = .returned (.bool true) ∧ Jd vo.ownBlock A' ∧ Kept R vo.ownBlock A A') ∨ (e = .returned (.bool false) ∧ Jx A')) :
    ndRound.wpIn Fence.wide n Tryd.prog (Exit.then (NNext W0 tb vt B Jd (.func (.yield l) #[] #[]) k (((bindsR x).map (u + ·)).reverse ++ st)) (NStop Jx)) ⟨ndFrame (.func (.yield l) #[] #[]) tb vo (((k + 1 : Nat) : Int) - 1) J, []⟩ A := by
  rw [show (((k + 1 : Nat) : Int) - 1) = (k : Int) by omega]
  have hrl : (u :: st).reverse.length = st.length + 1 := by simp
  have hrow := hH.row
  rw [hrl] at hrow
  obtain ⟨g, gc, hvo, hg, hgB, hgl, hgc, _⟩ := row_block hrow (by omega)
  have ctop := row_cell hrow hg (j := st.length) (u := .int .i64 (u : Int)) (by simp [intsN])
  subst hvo
  obtain ⟨fn, tmps, assign, body, hy, hRd⟩ := hY
  have hk0 : (0 : Int) ≤ k := Int.natCast_nonneg _
  have hk1 : (k : Int) < N := by omega
  have hl0 : (0 : Int) ≤ st.length := Int.natCast_nonneg _
  have hl1 : (st.length : Int) ≤ 38000 := by omega
  have hgc' : (st.length : Int) + 1 ≤ gc := by omega
  have HH := Lib.hid hH
  have HR := Lib.hid hrow
  have HVT := Lib.hid hvt
  have HY := Lib.hid hRd
  clear hH hrow hvt hrl hRd
  unfold ndRound ndText
  simp only [Tryd.f50, Option.getD_some, sndOf, inOf]
  unfold ndFrame
  gi_wp2
  refine ⟨fun h => absurd h (by decide), ?_⟩
  refine HY.out.mono ?_
  rintro e A1 (⟨rfl, hj1, hk1'⟩ | ⟨rfl, hx1⟩)
  · have hH1 : NH W0 tb vt B Jd (.slice (some ⟨g, 0, none⟩) st.length gc) st.reverse A1 := by
      have hr := row_same HR.out (w' := A1) fun g' e => hk1'.same g' (by have := (row_lt HR.out e).2; omega) (.inr e)
      have hcut := row_cut hr (m := st.length) (by omega)
      refine ⟨hj1, ?_, HH.out.low.kept hk1' hR, (hk1'.same tb HH.out.box.lt (.inl hRt)).trans HH.out.box, Nat.le_trans HH.out.big hk1'.size⟩
      rw [List.length_reverse]
      have : intsN st.reverse = (intsN (u :: st).reverse).take (st.length * 1) := by
        rw [List.reverse_cons, Nat.mul_one]; unfold intsN; rw [List.map_append, List.take_left' (by simp)]
      rw [this]
      exact hcut
    have eb := hH1.box.cell 0
    have elt := hH1.box.lt
    rw [HVT.out] at eb
    rw [← under_cell hH1.low hb] at c0 c1 c2 c3
    have hb1 := Nat.lt_of_lt_of_le hb hH1.low.size
    have HB := Lib.hid (binds_any (w0 := A1) x hs (hS.under hH1.low))
    have HH1 := Lib.hid hH1
    clear hj1 hk1' hH1 HY
    gi_wp2
    refine ⟨trivial, fun h => absurd h (by decide), ?_⟩
    refine (callsIn_wide.2 HB.out).mono ?_
    rintro e A2 ⟨vb, rfl, hvb, hU2⟩
    have hvb' : A2.ownsRow A1.heap.size 3 1 vb (bindsR x).length (intsN (bindsR x)) := hvb
    obtain ⟨q, co, rfl, hq1, hq2⟩ := RowArg.of_own hvb'
    clear hq1 hq2
    have hH2 := HH1.out.under hJd hU2
    have hne2 : (Value.slice q (bindsR x).length co).ownBlock = none ∨ (Value.slice q (bindsR x).length co).ownBlock ≠ (Value.slice (some ⟨g, 0, none⟩) st.length gc).ownBlock := by
      cases hq : (Value.slice q (bindsR x).length co).ownBlock with
      | none => exact .inl rfl
      | some g' => right; intro e; cases e; have := (row_lt hvb' hq).1; have := (row_lt HH1.out.row rfl).2; omega
    have HL := Lib.hid (ni_rounds (k := (k : Int)) (u := u) (yf := .func (.yield l) #[] #[]) (vt := vt) (vb := .slice q (bindsR x).length co) (A0 := A1) (l := st.reverse) (bindsR x) hJd hW ht (bindsR_len x) (by omega) bindsR_le (by rw [List.length_reverse]; omega) (bindsR x).length)
    have HH2 := Lib.hid hH2
    have HV := Lib.hid hvb'
    have HN := Lib.hid hne2
    clear hH2 hvb hvb' hne2 hU2 c0 c1 c2 c3 eb
    gi_wp2
    rename_i K hK
    refine wpIn_wide.2 (wp_mono (HL.out _ _ ⟨0, by omega, .slice (some ⟨g, 0, none⟩) st.length gc, frame_ex (F := niFrame _ tb _ k u _ (bindsR x).length 0) (by rfl) ⟨by simpa using HH2.out, HV.out, HN.out⟩⟩) ?_)
    rintro e a' A3 ⟨rfl, vo3, J3, rfl, hH3, _, _⟩
    simp only [Exit.inBlock, if_pos, Exit.then]
    refine hK _ _ ?_
    clear hK
    have HH3 := Lib.hid hH3
    clear hH3
    unfold niFrame
    gi_wp2
    refine ⟨vo3, frame_ex (F := ndFrame _ tb vo3 ((k : Int) - 1)) (by rfl) ?_⟩
    have := HH3.out
    rw [List.reverse_append, List.reverse_reverse]
    exact this
  · gi_wp2
    exact ⟨rfl, rfl, hx1⟩
end
end Go.Proofs.YtiibknlpeodejaaDoor
