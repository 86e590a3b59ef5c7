/- cornicelaw21.ReplayDigests: it answers yes. -/
import Derived.Test.YtiibknlpeodejaaDoorHeavyD
set_option linter.unusedSimpArgs false
set_option linter.unusedVariables false
namespace Go.Proofs.YtiibknlpeodejaaDoor
open Go.Lx Go.RowKit

theorem Tryd.infoEntry : (Tryd.prog.info? 32).map (fun i => (i.zero, i.size, i.bytes)) = some (some (.agg #[.int .i64 0, .int .i64 0, .string ⟨#[]⟩, .slice none 0 0, .slice none 0 0, .slice none 0 0, .bool false, .slice none 0 0]), 8, 136) := by kernel_rfl
def LwRel (w0 : World) (ds : List Dc) (v i : Value) (wr : World) : Prop := ∃ (k : Nat) (rows : List (List Value)), k ≤ ds.length ∧ i = .int .i64 (k : Int) ∧ wr.ownsRow w0.heap.size 32 8 v k rows.flatten ∧ (∀ r ∈ rows, r.length = 8) ∧ Zip (EntRow w0) rows (ds.take k) ∧ Under w0 wr
theorem expB_nil : expB [] = ⟨#[0]⟩ := rfl
theorem expE_nil : expE [] = 0 := rfl
theorem digE_nil : digE [] = 84696351 := by kernel_rfl
section
variable {w0 : World} {ds : List Dc}
set_option maxRecDepth 100000 in
theorem shown_any (hS : ShapesAt 1 w0) (hF : FieldsAt 0 w0) : Calls Tryd.prog 5 #[] w0 fun e w => e = .returned (.bool true) ∧ Under w0 w := by
  have HE := Lib.hid (export_any (w0 := w0) (ds := []) (p := none) (c := 0) (by simp) (fun d h => (List.not_mem_nil h).elim) RowsV.nil hS hF)
  rw [expB_nil, expE_nil] at HE
  clear hS hF
  go_enter Tryd.func5, Tryd.ntmps5
  go_wp2_with fail
  refine HE.out.mono ?_
  rintro e w1 ⟨rfl, hU1⟩
  have HU1 := Lib.hid hU1
  clear hU1
  go_wp2
  go_ret
  exact ⟨rfl, HU1.out⟩
set_option maxRecDepth 100000 in
set_option maxHeartbeats 4000000 in
theorem law_any {p : Option Addr} {c : Nat} (hp : RowsV 6 DcRow w0 p ds) (hS : ShapesAt 1 w0) (hF : FieldsAt 0 w0) :
    Calls Tryd.prog 3 #[.slice p ds.length c] w0 fun e w => e = .returned (.bool true) ∧ Under w0 w := by
  have HH := Lib.hid (heavy_any (c := c) hp)
  have HP := Lib.hid hp
  have HS := Lib.hid hS
  have HF := Lib.hid hF
  have HSh := Lib.hid (fun w (h : Under w0 w) => shown_any (hS.under h) (hF.under h))
  obtain ⟨i0, hi, hz0, hz1, hz2⟩ := info_parts Tryd.infoEntry
  clear hp hS hF
  go_enter Tryd.func3, Tryd.ntmps3
  go_wp2_with fail
  refine HH.out.mono ?_
  rintro e w1 ⟨hb, rfl, hU1, hlight⟩
  have HU1 := Lib.hid hU1
  cases hb
  case true =>
    clear hU1 hlight
    go_wp2_with fail
    refine (HSh.out w1 HU1.out).mono ?_
    rintro e w2 ⟨rfl, hU2⟩
    have HU2 := Lib.hid (HU1.out.trans hU2)
    clear hU2
    go_wp2
    go_ret
    exact ⟨rfl, HU2.out⟩
  case false =>
    obtain ⟨h6, hl⟩ := hlight rfl
    have HL := Lib.hid hl
    clear hU1 hl
    go_wp2_with fail
    refine (HSh.out w1 HU1.out).mono ?_
    rintro e w2 ⟨rfl, hU2⟩
    have HU2 := Lib.hid (HU1.out.trans hU2)
    clear hU2
    have hn0 : (0 : Int) ≤ (ds.length : Int) := by omega
    go_wp2
    have HE := Lib.hid (row_empty w2 w2.heap.size 32 8 (Nat.le_refl _))
    have HU20 := Lib.hid (under_alloc (Under.refl w2) (.cells #[] 32))
    have HP2 := Lib.hid (HP.out.under DcRow.mono HU2.out)
    go_loopw [3, 4] (fun v i wr => LwRel w2 ds v i wr) (fun _ i _ => ds.length - (intOf i).toNat)
    case atStart => exact ⟨0, [], Nat.zero_le _, rfl, HE.out, fun r h => (List.not_mem_nil h).elim, by simpa using Zip.nil _, HU20.out⟩
    case round =>
      obtain ⟨k, rows, hk, rfl, hown, hrows, hzip, hU⟩ := hrel
      by_cases hlt : k < ds.length
      · obtain ⟨b, off, r, rfl, hb, hrl, hr, hc⟩ := HP2.out.at (List.getElem?_eq_getElem hlt) (by decide)
        obtain ⟨v1, v2, v3, rfl, h1, h2, h3⟩ := hr
        have HRr := Lib.hid (fun st q n c => (show EntRow w2 [.int .i64 ds[k].kind, .int .i64 ds[k].level, .string ds[k].name, v1, v2, v3, .bool st, .slice q n c] ds[k] from ⟨v1, v2, v3, st, q, n, c, rfl, h1, h2, h3⟩))
        obtain ⟨p1, c1, rfl, _⟩ := h1
        obtain ⟨p2, c2, rfl, _⟩ := h2
        obtain ⟨p3, c3, us3, rfl, _⟩ := h3
        have cc0 := hc 0 _ rfl
        have cc1 := hc 1 _ rfl
        have cc2 := hc 2 _ rfl
        have cc3 := hc 3 _ rfl
        have cc4 := hc 4 _ rfl
        have cc5 := hc 5 _ rfl
        simp only [Nat.add_zero, ← Nat.add_assoc] at cc0 cc1 cc2 cc3 cc4 cc5
        rw [← under_cell hU hb] at cc0 cc1 cc2 cc3 cc4 cc5
        have hb' := Nat.lt_of_lt_of_le hb hU.size
        have htk : ds.take (k + 1) = ds.take k ++ [ds[k]] := List.take_succ_eq_append_getElem hlt
        have HTK := Lib.hid htk
        have HO := Lib.hid hown
        have HU := Lib.hid hU
        have HZ := Lib.hid hzip
        have HRw := Lib.hid hrows
        clear hc hU hown hzip hrows htk hrl
        generalize ds[k] = d at *
        go_wp2_with (at_builtin; refine wpList_append_read rfl _ _ 25 rfl w2.heap.size 32 i0 _ 8 136 Tryd.underlying25 hi hz0 hz1 hz2 rfl (by decide) _ _ _ rfl (HO.out.alloc _) _ 1 1 _ rfl rfl (Nat.le_refl _) (fun h => by cases h) (arg_atL _ [.int .i64 d.kind, .int .i64 d.level, .string d.name, .slice p1 d.type.length c1, .slice p2 d.body.length c2, .slice p3 d.cons.length c3, .bool _, .slice none 0 0] 32 rfl) ?c3 (by simp only [maxLen]; omega) (by omega) ?c5 ?_)
        case c3 => intro u hu; simp at hu; rcases hu with rfl | rfl | rfl | rfl | rfl | rfl | rfl | rfl <;> rfl
        case c5 => have := HU.out.size; simp; omega
        intro v' w' hown hgrow
        have HW := Lib.hid hown
        have HU2 := Lib.hid (under_grown (under_alloc HU.out _) hgrow fun g e => (row_lt HO.out e).1)
        clear hown hgrow
        go_wp2
        go_roundw
        case rel => exact ⟨k + 1, rows ++ [_], by omega, by go_num, by rw [List.flatten_append]; simpa using HW.out, by
          intro r hr
          rcases List.mem_append.1 hr with hr | hr
          · exact HRw.out r hr
          · rw [List.mem_singleton.1 hr]; rfl, by rw [HTK.out]; exact HZ.out.app (Zip.one (HRr.out _ _ _ _)), HU2.out⟩
        case measure => simp [intOf]; omega
      · obtain rfl : k = ds.length := by omega
        rw [List.take_length] at hzip
        obtain ⟨q, c', rfl, hc', hr'⟩ := RowsV.of_own (R := EntRow) hown hrows (hzip.mono fun v x hx => EntRow.mono _ _ _ _ hU hx)
        have HSw := Lib.hid ((HS.out.under HU2.out).under hU)
        have HFw := Lib.hid ((HF.out.under HU2.out).under hU)
        have HX := Lib.hid (export_any (c := c') (by omega) (fun d hd => (HL.out d hd).fair) hr' HSw.out HFw.out)
        have HDg := Lib.hid (fun w (h : Under wr w) => digest_any (c := c') (by omega) (fun d hd => (HL.out d hd).fair) (hr'.under EntRow.mono h) (HSw.out.under h) (HFw.out.under h))
        have HDn := Lib.hid (fun w (h : Under wr w) => digest_any (w0 := w) (ds := []) (p := none) (c := 0) (by simp) (fun d h => (List.not_mem_nil h).elim) RowsV.nil (HSw.out.under h) (HFw.out.under h))
        rw [digE_nil, expE_nil] at HDn
        have HU := Lib.hid (HU2.out.trans hU)
        have hsz : ((expB ds).size : Int) ≤ 5200000 := by have := expB_size ds; omega
        have hE0 : expE ds ≠ 0 → digE ds = 0 := fun h => if_neg h
        have hE1 : expE ds = 0 → digE ds = fnv 2166136261 (expB ds).data.toList := fun h => if_pos h
        clear hown hrows hzip hU hc' hr'
        generalize digE ds = dg at *
        generalize expE ds = ee at *
        generalize expB ds = B at *
        go_wp2_with fail
        refine HX.out.mono ?_
        rintro e w3 ⟨rfl, hU3⟩
        have HU3 := Lib.hid hU3
        clear hU3
        go_wp2_with fail
        refine (HDg.out w3 HU3.out).mono ?_
        rintro e w4 ⟨rfl, hU4⟩
        have HU4 := Lib.hid (HU3.out.trans hU4)
        clear hU4
        by_cases h0 : ee = 0
        · have HE1 := Lib.hid (hE1 h0)
          clear hE0 hE1
          subst h0
          have HLen := Lib.hid (show B.data.toList.length = B.size by rw [Array.length_toList]; rfl)
          have hB0 : (0 : Int) ≤ (B.size : Int) := by omega
          go_wp2
          go_loopw [9, 10] (fun v i wr => FnRel w4 B.data.toList v i wr) (fun _ i _ => B.size - (intOf i).toNat)
          case atStart => exact ⟨0, _, Nat.zero_le _, rfl, rfl, rfl, Under.refl _⟩
          case round =>
            obtain ⟨k, n, hk, rfl, rfl, hN, hU⟩ := hrel
            rw [HLen.out] at hk
            by_cases hlt : k < B.size
            · have hk' : k < B.data.toList.length := by rw [HLen.out]; exact hlt
              have HD := Lib.hid (fnv_drop hk' n)
              have HN := Lib.hid hN
              have HU := Lib.hid hU
              clear hN hU
              go_wp2
              go_roundw
              case rel => exact ⟨k + 1, fnvStep n (B.data.toList[k].toNat : Int), by rw [HLen.out]; omega, by go_num, rfl, by rw [HN.out, HD.out], HU.out⟩
              case measure => simp [intOf]; omega
            · obtain rfl : k = B.size := by omega
              rw [← HLen.out, List.drop_length] at hN
              have HN := Lib.hid (HE1.out.trans hN)
              have HDn4 := Lib.hid (HDn.out _ (HU4.out.trans hU))
              have HUr := Lib.hid (HU.out.trans (HU4.out.trans hU))
              clear hN hU
              have hdn : dg = n := HN.out
              go_wp2_with fail
              refine HDn4.out.mono ?_
              rintro e w5 ⟨rfl, hU5⟩
              have HU5 := Lib.hid (HUr.out.trans hU5)
              clear hU5
              subst hdn
              go_wp2
              go_ret
              exact ⟨rfl, HU5.out⟩
        · have hE := hE0 h0
          have h0' : (ee == 0) = false := by simpa using h0
          clear hE0 hE1 h0
          subst hE
          go_wp2
          go_ret
          exact ⟨rfl, HU.out.trans HU4.out⟩
end
end Go.Proofs.YtiibknlpeodejaaDoor
