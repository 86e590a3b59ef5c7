/- slices.Clone of numbers; term.Binds at a Con. -/
import Derived.Test.YtiibknlpeodejaaDoorTCheck
import Derived.Lib.SliceRun
import Derived.Test.YtiibknlpeodejaaDoorLxM
set_option linter.unusedSimpArgs false
set_option linter.unusedVariables false
namespace Go.Proofs.YtiibknlpeodejaaDoor
open Go.Lx Go.RowKit

theorem Tryd.info3 : (Tryd.prog.info? 3).map (fun i => (i.zero, i.size, i.bytes)) = some (some (.int .i64 0), 1, 8) := by kernel_rfl
theorem intsN_len (l : List Nat) : (intsN l).length = l.length := List.length_map ..
theorem intsN_one {l : List Nat} {u : Value} (h : u ∈ intsN l) : u.oneCell' = true := by
  unfold intsN at h
  obtain ⟨n, _, rfl⟩ := List.mem_map.1 h
  rfl
theorem own_new0 (w0 : World) (base : Nat) (e : TypeId) (size : Nat) (hb : base ≤ w0.heap.size) : (w0.alloc (.cells #[] e)).ownsRow base e size (.slice (some ⟨w0.heap.size, 0, none⟩) 0 0) 0 [] :=
  ⟨by simp, .inr ⟨w0.heap.size, 0, #[], rfl, hb, box_new w0 _ _, Nat.le_refl _, by decide, by simp, by simp⟩⟩
section
variable {w0 : World}
set_option maxRecDepth 100000 in
set_option maxHeartbeats 1000000 in
theorem cloneInts_any (l : List Nat) {p : Option Addr} {c : Nat} (hn : l.length ≤ 1000000) (hp : RowArg w0 p (intsN l)) :
    Calls Tryd.prog 54 #[.slice p l.length c] w0 fun e w' => ∃ v, e = .returned v ∧ w'.ownsRow w0.heap.size 3 1 v l.length (intsN l) ∧ Under w0 w' := by
  obtain ⟨i0, hi, hz0, hz1, hz2⟩ := info_parts Tryd.info3
  have eqn := Lib.run_eql_slice_nil (P := Tryd.prog) w0 116 3 p l.length c 0 0 Tryd.underlying116
  cases p with
  | none =>
    have hl : l = [] := Classical.byContradiction fun h => by
      obtain ⟨b, off, e, _⟩ := hp (fun e => h (by simpa [intsN] using e))
      cases e
    subst hl
    clear hp
    rw [List.length_nil] at eqn ⊢
    go_enter Tryd.func54, Tryd.ntmps54
    go_wp2
    go_ret
    exact ⟨_, rfl, World.ownsRow_nil _ _ _ _, Under.refl _⟩
  | some a =>
    have hmx : 0 + l.length ≤ maxLen := by simp only [maxLen]; omega
    have hby : (0 + l.length) * 8 ≤ 140737488355328 := by omega
    have HP := Lib.hid hp
    clear hp
    go_enter Tryd.func54, Tryd.ntmps54
    go_wp2_with (at_builtin; refine wpList_append_own_at _ rfl _ _ 116 rfl w0.heap.size 3 i0 _ 1 8 Tryd.underlying116 hi hz0 hz1 hz2 rfl (by decide) _ _ _ rfl (own_new0 w0 _ _ _ (Nat.le_refl _)) a l.length c (intsN l) rfl (by rw [intsN_len]; omega) ?c1 (fun u hu => intsN_one hu) hmx hby ?c5 ?_)
    case c1 =>
      intro j u hj
      obtain ⟨b, off, e, hb, hc⟩ := HP.out (fun e => by rw [e] at hj; cases hj)
      cases e
      rw [add_off]
      exact (under_cell (W := w0) (under_alloc (Under.refl _) _) hb _).trans (hc j u hj)
    case c5 => simp
    intro v' w1 hown hgrow hnil hat
    have HW := Lib.hid hown
    have HU2 := Lib.hid (under_grown (W := w0) (under_alloc (Under.refl _) _) hgrow fun g e => by cases e; exact Nat.le_refl _)
    clear hown hgrow hnil hat
    go_wp2
    go_ret
    exact ⟨v', rfl, HW.out, HU2.out⟩
/-- What Binds answers. -/
def BindsOut (w0 : World) (x : Nd) (e : Ending) (w : World) : Prop := ∃ v, e = .returned (.tuple #[v, .bool (rightB x)]) ∧ w.ownsRow w0.heap.size 3 1 v (if rightB x then binds x else []).length (intsN (if rightB x then binds x else [])) ∧ Under w0 w
set_option maxRecDepth 100000 in
set_option maxHeartbeats 400000 in
theorem binds_con (n : Int) (m : Nat) (s : ByteArray) (hs : s.size ≤ maxLen) (hS : ShapesAt 1 w0) (hr : rightB ⟨26, n, m, s⟩ = true) (hm : m ≤ 6) : Calls Tryd.prog 51 #[ndV ⟨26, n, m, s⟩] w0 (BindsOut w0 ⟨26, n, m, s⟩) := by
  have HB := Lib.hid (box_new w0 #[.int .i64 26, .int .i64 n, .int .i64 m, .string s] 51)
  have HC := Lib.hid (right_any ⟨26, n, m, s⟩ _ hs (hS.under (under_alloc (Under.refl w0) (.cells #[.int .i64 26, .int .i64 n, .int .i64 m, .string s] 51))))
  have HR := Lib.hid hr
  rw [hr] at HC
  obtain ⟨i0, hi, hz0, hz1, hz2⟩ := info_parts Tryd.info3
  clear hr
  clear hS
  have HBI := Lib.hid (show (if true = true then binds ⟨26, n, m, s⟩ else []) = List.replicate m 0 by rw [if_pos rfl]; rfl)
  unfold ndV
  go_enter Tryd.func51, Tryd.ntmps51
  go_wp2_with fail
  refine HC.out.mono ?_
  rintro e w1 ⟨rfl, hU1⟩
  have hB1 := HB.out.under hU1
  have e0 := hB1.cell 0
  have e1 := hB1.cell 1
  have e2 := hB1.cell 2
  have e3 := hB1.cell 3
  have hlt := hB1.lt
  have m0 : (0 : Int) ≤ m := Int.natCast_nonneg _
  have m6 : (m : Int) ≤ 6 := by omega
  have HU1 := Lib.hid hU1
  have hz1' := ((under_alloc (Under.refl w0) (.cells #[.int .i64 26, .int .i64 n, .int .i64 m, .string s] 51)).trans hU1).size
  clear hU1 hB1
  go_wp2_with (at_make; refine wpList_make_full _ rfl _ _ _ rfl w0.heap.size 3 i0 _ 1 Tryd.underlying116 hi hz0 hz1 .i64 .i64 _ _ m rfl rfl rfl rfl ?c1 ?c2 ?c3 ?_)
  case c1 => rw [hz2]; omega
  case c2 => simp only [maxLen]; omega
  case c3 => omega
  intro w2 hown hgrow
  have HO := Lib.hid hown
  have HU2 := Lib.hid (under_grown (Under.refl w1) hgrow fun g e => by cases e)
  clear hown hgrow
  go_wp2
  go_ret2
  unfold BindsOut
  rw [HR.out]
  refine ⟨.slice (some ⟨w1.heap.size, 0, none⟩) m m, rfl, ?_, ((under_alloc (Under.refl w0) _).trans HU1.out).trans HU2.out⟩
  show w2.ownsRow w0.heap.size 3 1 _ (List.replicate m 0).length (intsN (List.replicate m 0))
  have hcs : (madeCells #[Value.int .i64 0] m).toList = intsN (List.replicate m 0) := by
    apply List.ext_getElem
    · simp [intsN, madeCells]
    · intro j h1 h2
      simp [intsN, madeCells, Nat.mod_one]
  rw [List.length_replicate, ← hcs]
  exact HO.out
set_option maxRecDepth 100000 in
set_option maxHeartbeats 400000 in
theorem binds_elim (n : Int) (m : Nat) (s : ByteArray) (hs : s.size ≤ maxLen) (hS : ShapesAt 1 w0) (hr : rightB ⟨27, n, m, s⟩ = true) (hm : m ≤ 6) : Calls Tryd.prog 51 #[ndV ⟨27, n, m, s⟩] w0 (BindsOut w0 ⟨27, n, m, s⟩) := by
  have HB := Lib.hid (box_new w0 #[.int .i64 27, .int .i64 n, .int .i64 m, .string s] 51)
  have HC := Lib.hid (right_any ⟨27, n, m, s⟩ _ hs (hS.under (under_alloc (Under.refl w0) (.cells #[.int .i64 27, .int .i64 n, .int .i64 m, .string s] 51))))
  have HR := Lib.hid hr
  rw [hr] at HC
  obtain ⟨i0, hi, hz0, hz1, hz2⟩ := info_parts Tryd.info3
  clear hr
  clear hS
  have HBI := Lib.hid (show (if true = true then binds ⟨27, n, m, s⟩ else []) = 1 :: List.replicate (m + 1) 0 by rw [if_pos rfl]; rfl)
  unfold ndV
  go_enter Tryd.func51, Tryd.ntmps51
  go_wp2_with fail
  refine HC.out.mono ?_
  rintro e w1 ⟨rfl, hU1⟩
  have hB1 := HB.out.under hU1
  have e0 := hB1.cell 0
  have e1 := hB1.cell 1
  have e2 := hB1.cell 2
  have e3 := hB1.cell 3
  have hlt := hB1.lt
  have m0 : (0 : Int) ≤ m := Int.natCast_nonneg _
  have m6 : (m : Int) ≤ 6 := by omega
  have HU1 := Lib.hid hU1
  have hz1' := ((under_alloc (Under.refl w0) (.cells #[.int .i64 27, .int .i64 n, .int .i64 m, .string s] 51)).trans hU1).size
  clear hU1 hB1
  go_wp2_with (at_builtin; refine wpList_append_zeros rfl _ _ w0.heap.size 116 3 3 rfl i0 Tryd.underlying116 Tryd.underlying3 hi hz0 hz1 hz2 ⟨w1.heap.size, 0, none⟩ (.int .i64 1) (m + 1) rfl ?c0 ?c1 (by omega) (by omega) ?c3 ?_)
  case c0 => exact congrArg (Value.int .i64) (by omega)
  case c1 => simp
  case c3 => simp; omega
  intro v w2 hown hgrow
  have HO := Lib.hid hown
  have HU2 := Lib.hid (under_grown (under_alloc (Under.refl w1) _) hgrow fun g e => by cases e)
  clear hown hgrow
  go_wp2
  go_ret2
  unfold BindsOut
  rw [HR.out]
  refine ⟨_, rfl, ?_, ((under_alloc (Under.refl w0) _).trans HU1.out).trans HU2.out⟩
  show w2.ownsRow w0.heap.size 3 1 _ (1 :: List.replicate (m + 1) 0).length (intsN (1 :: List.replicate (m + 1) 0))
  have hcs : intsN (1 :: List.replicate (m + 1) 0) = .int .i64 1 :: List.replicate (m + 1) (.int .i64 0) := by simp [intsN]
  rw [hcs, List.length_cons, List.length_replicate, Nat.add_comm (m + 1) 1]
  exact HO.out

end
end Go.Proofs.YtiibknlpeodejaaDoor
