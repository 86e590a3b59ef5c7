/- slices.Grow and slices.Concat at lists of terms: their contracts. -/
import Derived.Test.YtiibknlpeodejaaDoorTName
import Derived.Test.YtiibknlpeodejaaDoorLxM
import Derived.Lib.SliceRun
import Derived.Laws.AppendOwnNone
set_option linter.unusedSimpArgs false
set_option linter.unusedVariables false
namespace Go.Proofs.YtiibknlpeodejaaDoor
open Go.Lx Go.RowKit

theorem Tryd.info26 : (Tryd.prog.info? 26).map (fun i => (i.zero, i.size, i.bytes)) = some (some (.slice none 0 0), 1, 24) := by kernel_rfl
section
variable {w0 : World}
set_option maxRecDepth 100000 in
set_option maxHeartbeats 1000000 in
theorem growTerms_nil (n : Nat) (hn : n ≤ 1000000) : Calls Tryd.prog 40 #[.slice none 0 0, .int .i64 (n : Int)] w0 fun e w => ∃ v, e = .returned v ∧ w.ownsRow w0.heap.size 26 1 v 0 [] ∧ Under w0 w := by
  obtain ⟨i0, hi, hz0, hz1, hz2⟩ := info_parts Tryd.info26
  by_cases h0 : n = 0
  · subst h0
    go_enter Tryd.func40, Tryd.ntmps40
    go_wp2
    go_ret
    exact ⟨_, rfl, World.ownsRow_nil _ _ _ _, Under.refl _⟩
  · have h1 : (0 : Int) < n := by omega
    have h2 : (n : Int) ≤ 1000000 := by omega
    have h3 : n * i0.bytes ≤ 140737488355328 := by rw [hz2]; omega
    have h4 : 1 ≤ n := by omega
    clear h0
    go_enter Tryd.func40, Tryd.ntmps40
    go_wp2_with (at_builtin; refine wpList_append_zeros_nil rfl _ _ w0.heap.size 40 3 26 rfl i0 (.slice none 0 0) Tryd.underlying40 Tryd.underlying3 hi hz0 hz1 rfl n rfl rfl h4 h3 hn (Nat.le_refl _) ?_; intro g c w1 hown hgrow)
    have hc := row_cut hown (Nat.zero_le n)
    have HC := Lib.hid hc
    have HU := Lib.hid (under_grown (Under.refl w0) hgrow fun g e => by cases e)
    clear hown hgrow hc
    go_wp2
    go_ret
    refine ⟨_, rfl, ?_, HU.out⟩
    have := HC.out
    rw [Nat.zero_mul, List.take_zero] at this
    exact this

theorem flat_take {α : Type} (css : List (List α)) (k : Nat) (h : k < css.length) : (css.take (k + 1)).flatten = (css.take k).flatten ++ css[k] := by
  rw [List.take_succ_eq_append_getElem h, List.flatten_append]; simp
theorem flat_le {α : Type} (css : List (List α)) (k : Nat) : (css.take k).flatten.length ≤ css.flatten.length := by
  have : css.flatten = (css.take k).flatten ++ (css.drop k).flatten := by rw [← List.flatten_append, List.take_append_drop]
  rw [this, List.length_append]; omega
/-- What is held between two lists. -/
def CI (w0 : World) (css : List (List (List Nd))) (v i : Value) (w : World) : Prop :=
  ∃ k vs N, k ≤ css.length ∧ i = .int .i64 (k : Nat) ∧ N = (css.take k).flatten.length ∧ w.ownsRow w0.heap.size 26 1 v N vs ∧ Zip (TermV w0) vs (css.take k).flatten ∧ Under w0 w
set_option maxRecDepth 100000 in
set_option maxHeartbeats 2000000 in
theorem concatTerms_any (css : List (List (List Nd))) {v : Value} (hn : css.length ≤ 100000) (ht : css.flatten.length ≤ 100000) (hv : ConsV w0 v css) :
    Calls Tryd.prog 31 #[v] w0 fun e w => ∃ v vs, e = .returned v ∧ w.ownsRow w0.heap.size 26 1 v css.flatten.length vs ∧ Zip (TermV w) vs css.flatten ∧ Under w0 w := by
  obtain ⟨i0, hi, hz0, hz1, hz2⟩ := info_parts Tryd.info26
  obtain ⟨p, c, us, rfl, hc, _, hr, hz⟩ := hv
  have HR := Lib.hid hr
  have HZ := Lib.hid hz
  have HT := Lib.hid ht
  clear hr hz ht
  go_enter Tryd.func31, Tryd.ntmps31
  go_wp2
  go_loop [3, 11] (fun sz i => ∃ (k : Nat) (N : Nat), k ≤ css.length ∧ i = .int .i64 k ∧ sz = .int .i64 N ∧ N = (css.take k).flatten.length) (fun _ i => css.length - (intOf i).toNat)
  case atStart => exact ⟨0, 0, Nat.zero_le _, rfl, rfl, rfl⟩
  case round =>
    obtain ⟨k, f, hk, rfl, rfl, hf0⟩ := hrel
    have hb1 : f ≤ 100000 := by rw [hf0]; exact Nat.le_trans (flat_le css k) HT.out
    have hfp : (0 : Int) ≤ f := Int.natCast_nonneg _
    have HF0 := Lib.hid hf0
    clear hf0
    by_cases hlt : k < css.length
    · obtain ⟨u, hu, q, c', us', rfl, hc', h0', hr', hz'⟩ := HZ.out.at (List.getElem?_eq_getElem hlt)
      obtain ⟨b, off, rfl, hb, hcs⟩ := HR.out (fun e => by rw [e] at hu; simp at hu)
      have cc := hcs k _ hu
      have hb2 := Nat.le_trans (flat_le css (k + 1)) HT.out
      have hf := congrArg List.length (flat_take css k hlt)
      rw [List.length_append, ← HF0.out] at hf
      have hb3 : f + css[k].length ≤ 100000 := by omega
      have HF := Lib.hid hf
      clear hcs hr' hz' hf hb2 hu
      generalize css[k].length = m at *
      have hm0 : (0 : Int) ≤ m := Int.natCast_nonneg _
      have hb4 : (f : Int) + m ≤ 100000 := by omega
      have hb5 : ¬ (f : Int) + m < 0 := by omega
      go_wp2
      go_round
      case rel => exact ⟨k + 1, f + m, by omega, by go_num, by go_num, by rw [HF.out]⟩
      case measure => simp [intOf]; omega
    · obtain rfl : k = css.length := by omega
      have HG := Lib.hid (growTerms_nil (w0 := w0) f (by omega))
      clear hlt
      go_wp2_with fail
      refine HG.out.mono ?_
      rintro e w1 ⟨v, rfl, hown, hU⟩
      have HO := Lib.hid hown
      have HU := Lib.hid hU
      clear hown hU
      go_wp2
      go_loopw [6, 27] (fun v i wr => CI w0 css v i wr) (fun _ i _ => css.length - (intOf i).toNat)
      case atStart => exact ⟨0, [], 0, Nat.zero_le _, rfl, rfl, HO.out, Zip.nil _, HU.out⟩
      case round =>
        obtain ⟨k, vs, N, hk, rfl, hN, hown, hzip, hU⟩ := hrel
        by_cases hlt : k < css.length
        · obtain ⟨u, hu, q, c', us', rfl, hc', h0', hr', hz'⟩ := HZ.out.at (List.getElem?_eq_getElem hlt)
          obtain ⟨b, off, rfl, hb, hcs⟩ := HR.out (fun e => by rw [e] at hu; simp at hu)
          have cc := hcs k _ hu
          rw [← under_cell hU hb] at cc
          have hb' := Nat.lt_of_lt_of_le hb hU.size
          have hf := flat_take css k hlt
          have hb2 := Nat.le_trans (flat_le css (k + 1)) HT.out
          rw [hf, List.length_append, ← hN] at hb2
          have HN := Lib.hid hN
          have HF := Lib.hid hf
          have HO2 := Lib.hid hown
          have HU2 := Lib.hid hU
          have HZ2 := Lib.hid hzip
          have HR' := Lib.hid (hr'.under hU)
          have HZ' := Lib.hid hz'
          have hmx : N + css[k].length ≤ maxLen := by simp only [maxLen]; omega
          have hby : (N + css[k].length) * 24 ≤ 140737488355328 := by omega
          have HL := Lib.hid hz'.1
          clear hcs hr' hz' hf hN hown hU hzip hu
          generalize hm : css[k].length = m at *
          have HM := Lib.hid hm
          clear hm
          cases q with
          | none =>
            obtain rfl : c' = 0 := h0' rfl
            obtain rfl : m = 0 := by omega
            go_wp2_with (at_builtin; refine wpList_append_own_none rfl _ _ 40 rfl w0.heap.size 26 i0 1 Tryd.underlying40 hi _ N vs rfl HO2.out rfl ?_)
            go_roundw
            case rel => exact ⟨k + 1, vs, N, by omega, by go_num, by rw [HF.out, List.length_append, ← HN.out, HM.out]; rfl, HO2.out, by rw [HF.out, List.eq_nil_of_length_eq_zero HM.out, List.append_nil]; exact HZ2.out, HU2.out⟩
            case measure => simp [intOf]; omega
          | some a =>
            go_wp2_with (at_builtin; refine wpList_append_own_at _ rfl _ _ 40 rfl w0.heap.size 26 i0 _ 1 24 Tryd.underlying40 hi hz0 hz1 hz2 rfl (by decide) _ N vs rfl HO2.out a m c' us' rfl ?c1 ?c2 ?c3 hmx hby ?c5 ?_)
            case c1 => rw [HL.out]; omega
            case c2 =>
              intro j u hj
              obtain ⟨b2, off2, e, hb2, hc2⟩ := HR'.out (fun e => by rw [e] at hj; cases hj)
              cases e
              rw [add_off]
              exact hc2 j u hj
            case c3 =>
              intro u hu
              obtain ⟨i, hi⟩ := List.getElem?_of_mem hu
              have hil : i < css[k].length := by rw [HM.out, ← HL.out]; exact (List.getElem?_eq_some_iff.1 hi).1
              exact (HZ'.out.2 i u _ hi (List.getElem?_eq_getElem hil)).one
            case c5 => exact HU2.out.size
            intro v' w2 hown2 hgrow2 hnil2 hat2
            have hU3 := under_grown HU2.out hgrow2 fun g e => (row_lt HO2.out e).1
            have HO3 := Lib.hid hown2
            have HU3 := Lib.hid hU3
            clear hown2 hnil2 hat2 hU3
            go_wp2
            go_roundw
            case rel => exact ⟨k + 1, vs ++ us', N + m, by omega, by go_num, by rw [HF.out, List.length_append, ← HN.out, HM.out], HO3.out, by rw [HF.out]; exact HZ2.out.app HZ'.out, HU3.out⟩
            case measure => simp [intOf]; omega
        · obtain rfl : k = css.length := by omega
          have HO2 := Lib.hid hown
          have HU2 := Lib.hid hU
          have HZ2 := Lib.hid hzip
          have HN := Lib.hid hN
          clear hown hU hzip hN
          go_wp2
          go_ret
          have e1 := HN.out
          have e2 := HZ2.out
          have e3 := HO2.out
          rw [List.take_length] at e1 e2
          rw [e1] at e3
          exact ⟨_, vs, rfl, e3, e2.mono fun v x h => TermV.mono _ _ v x HU2.out h, HU2.out⟩
end
end Go.Proofs.YtiibknlpeodejaaDoor
