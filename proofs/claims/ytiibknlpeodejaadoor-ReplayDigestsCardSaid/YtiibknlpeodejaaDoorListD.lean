/- cornicelaw21.list: its contract. -/
import Derived.Test.YtiibknlpeodejaaDoorCasts
set_option linter.unusedSimpArgs false
set_option linter.unusedVariables false
namespace Go.Proofs.YtiibknlpeodejaaDoor
open Go.Lx Go.RowKit

theorem Tryd.infoDecl10 : (Tryd.prog.info? 53).map (fun i => (i.zero, i.size, i.bytes)) = some (some (.agg #[.int .i64 0, .int .i64 0, .string ⟨#[]⟩, .slice none 0 0, .slice none 0 0, .slice none 0 0]), 6, 104) := by kernel_rfl
theorem arg_atL (w : World) {n : Nat} (cs : List Value) (t : TypeId) (h : w.heap.size = n) : RowArg (w.alloc (.cells cs.toArray t)) (some ⟨n, 0, none⟩) cs := h ▸ arg_new w cs t (0, 0)
def LdRel (w0 : World) (ds : List Dc) (v i : Value) (wr : World) : Prop := ∃ (k : Nat) (rows : List (List Value)), k ≤ ds.length ∧ i = .int .i64 (k : Int) ∧ wr.ownsRow w0.heap.size 53 6 v k rows.flatten ∧ (∀ r ∈ rows, r.length = 6) ∧ Zip (DcRow w0) rows (ds.take k) ∧ Under w0 wr
section
variable {w0 : World} {ds : List Dc}
set_option maxRecDepth 100000 in
set_option maxHeartbeats 2000000 in
theorem list_any {p : Option Addr} {c : Nat} (hn : ds.length ≤ 100000) (hp : RowsV 6 DcRow w0 p ds) : Calls Tryd.prog 10 #[.slice p ds.length c] w0 fun e w => ∃ q c', e = .returned (.slice q ds.length c') ∧ RowsV 6 DcRow w q ds ∧ Under w0 w := by
  obtain ⟨i0, hi, hz0, hz1, hz2⟩ := info_parts Tryd.infoDecl10
  have HP := Lib.hid hp
  have hn0 : (0 : Int) ≤ (ds.length : Int) := by omega
  clear hp
  go_enter Tryd.func10, Tryd.ntmps10
  go_wp2
  have HE := Lib.hid (row_empty w0 w0.heap.size 53 6 (Nat.le_refl _))
  have HU0 := Lib.hid (under_alloc (Under.refl w0) (.cells #[] 53))
  go_loopw [3, 4] (fun v i wr => LdRel w0 ds v i wr) (fun _ i _ => ds.length - (intOf i).toNat)
  case atStart => exact ⟨0, [], Nat.zero_le _, rfl, HE.out, fun r h => (List.not_mem_nil h).elim, by simpa using Zip.nil _, HU0.out⟩
  case round =>
    obtain ⟨k, rows, hk, rfl, hown, hrows, hzip, hU⟩ := hrel
    have hrk : rows.length = k := by rw [hzip.1, List.length_take]; omega
    by_cases hlt : k < ds.length
    · obtain ⟨b, off, r, rfl, hb, hrl, hr, hc⟩ := HP.out.at (List.getElem?_eq_getElem hlt) (by decide)
      have HRr := Lib.hid hr
      obtain ⟨v1, v2, v3, rfl, ⟨p1, c1, rfl, _⟩, ⟨p2, c2, rfl, _⟩, ⟨p3, c3, us3, rfl, _⟩⟩ := hr
      have cc0 := hc 0 _ rfl
      have cc1 := hc 1 _ rfl
      have cc2 := hc 2 _ rfl
      have cc3 := hc 3 _ rfl
      have cc4 := hc 4 _ rfl
      have cc5 := hc 5 _ rfl
      simp only [Nat.add_zero, ← Nat.add_assoc] at cc0 cc1 cc2 cc3 cc4 cc5
      rw [← under_cell hU hb] at cc0 cc1 cc2 cc3 cc4 cc5
      have hb' := Nat.lt_of_lt_of_le hb hU.size
      have htk : ds.take (k + 1) = ds.take k ++ [ds[k]] := List.take_succ_eq_append_getElem hlt
      have HTK := Lib.hid htk
      have HO := Lib.hid hown
      have HU := Lib.hid hU
      have HZ := Lib.hid hzip
      have HRw := Lib.hid hrows
      clear hc hU hown hzip hrows htk hrk hrl
      generalize ds[k] = d at *
      go_wp2_with (at_builtin; refine wpList_append_read rfl _ _ 42 rfl w0.heap.size 53 i0 _ 6 104 Tryd.underlying42 hi hz0 hz1 hz2 rfl (by decide) _ _ _ rfl (HO.out.alloc _) _ 1 1 _ rfl rfl (Nat.le_refl _) (fun h => by cases h) (arg_atL _ [.int .i64 d.kind, .int .i64 d.level, .string d.name, .slice p1 d.type.length c1, .slice p2 d.body.length c2, .slice p3 d.cons.length c3] 53 rfl) ?c3 (by simp only [maxLen]; omega) (by omega) ?c5 ?_)
      case c3 => intro u hu; simp at hu; rcases hu with rfl | rfl | rfl | rfl | rfl | rfl <;> rfl
      case c5 => have := HU.out.size; simp; omega
      intro v' w' hown hgrow
      have HW := Lib.hid hown
      have HU2 := Lib.hid (under_grown (under_alloc HU.out _) hgrow fun g e => (row_lt HO.out e).1)
      clear hown hgrow
      go_wp2
      go_roundw
      case rel => exact ⟨k + 1, rows ++ [_], by omega, by go_num, by rw [List.flatten_append]; simpa using HW.out, by
        intro r hr
        rcases List.mem_append.1 hr with hr | hr
        · exact HRw.out r hr
        · rw [List.mem_singleton.1 hr]; rfl, by rw [HTK.out]; exact HZ.out.app (Zip.one HRr.out), HU2.out⟩
      case measure => simp [intOf]; omega
    · obtain rfl : k = ds.length := by omega
      rw [List.take_length] at hzip
      obtain ⟨q, c', rfl, hc', hr'⟩ := RowsV.of_own (R := DcRow) hown hrows (hzip.mono fun v x hx => DcRow.mono _ _ _ _ hU hx)
      have HX := Lib.hid hr'
      have HU := Lib.hid hU
      clear hown hrows hzip hU hc' hr'
      go_wp2
      go_ret
      exact ⟨_, _, rfl, HX.out, HU.out⟩
end
end Go.Proofs.YtiibknlpeodejaaDoor
