/- Part 26 of what the proof rests on. -/
import Derived.Test.YtkmbmgmfcecfkaaDoorK25
set_option linter.unusedSimpArgs false
set_option linter.unusedVariables false
namespace Go.Proofs.YtkmbmgmfcecfkaaDoor
open Go.Lx Go.RowKit
section
variable {W0 w : World} {rb m1 m2 : Nat} {cv dv ov : Value} {acc : List Nd} {p e : Int}
set_option maxRecDepth 100000 in
set_option maxHeartbeats 2000000 in
theorem word_name (x : Sx) (cs : List ByteArray) (st : List ByteArray) {bv : Value} (hl : leafW x.word = none) (hk : nameK x.word = false) (hw : x.word.size ≤ 1000000) (h : ReS W0 rb m1 m2 cv dv ov acc p e w) (hb : TextsV w bv st) (hn : st.length ≤ 100000) (ha : acc.length ≤ 1000000) (hcs : TextsV W0 cv cs) (hcn : cs.length ≤ 1000000) :
    Calls Tryd.prog 26 #[.pointer (some ⟨rb, 0, none⟩), sxV x, bv] w (ReOut W0 rb m1 m2 cv dv ov acc w (.error (71, x.pos))) := by
  obtain ⟨i0, hi, hz0, hz1, hz2⟩ := info_parts Tryd.infoNode8
  obtain ⟨mm, pp, s⟩ := x
  simp only at *
  have hU0 := under_alloc (Under.refl w) (.cells #[.int .i64 mm, .int .i64 pp, .string s] 63)
  have hR := h.under hU0
  have d1 := hR.box.cell 3
  have d2 : (w.alloc (.cells #[.int .i64 mm, .int .i64 pp, .string s] 63)).cell? ⟨w.heap.size, 2, none⟩ = some (.string s) := (box_new w _ _).cell 2
  have d3 := hR.a
  have HLk : ∀ (w' : World), MapAt w' m2 aloneL → (Instr.lookup 45 (.map (some m2)) (.string s) true).run Tryd.prog w' = .ok (.tuple #[.agg #[.int .i64 0, .int .i64 0, .int .i64 0, .string ⟨#[]⟩], .bool false]) w' := fun w' h => by
    rw [alone_look h s, hl]; rfl
  have HD := Lib.hid (show rb < (w.alloc (.cells #[.int .i64 mm, .int .i64 pp, .string s] 63)).heap.size ∧ w.heap.size < (w.alloc (.cells #[.int .i64 mm, .int .i64 pp, .string s] 63)).heap.size ∧ _ from ⟨hR.box.lt, by simp, And.intro d1 (And.intro d2 d3)⟩)
  have dd := And.intro d1 (And.intro d2 d3)
  have HB := Lib.hid hb
  have HR := Lib.hid h
  have HU0 := Lib.hid hU0
  have HCs := Lib.hid hcs
  clear d1 d2 d3 hR hb hU0 hl hcs
  unfold sxV
  simp only
  clear h
  go_enter Tryd.func26, Tryd.ntmps26
  go_wp2_with fail
  go_region_held3 (fun w' => w'.cell? ⟨rb, 3, none⟩ = some (.map (some m2)) ∧ w'.cell? ⟨w.heap.size, 2, none⟩ = some (.string s) ∧ MapAt w' m2 aloneL)
    (first
      | exact dd
      | exact keep3 (under_drew (under_alloc (Under.refl _) _)) HD.out
      | go_keep)
    (fail)
  · rename_i K hK hHeld
    clear hHeld dd HLk
    have HUx := Lib.hid (show Under w (((w.alloc (.cells #[.int .i64 mm, .int .i64 pp, .string s] 63)).alloc (.cells #[.int .i64 0, .int .i64 0, .int .i64 0, .string ⟨#[]⟩] 32)).drew) from under_drew (under_alloc HU0.out _))
    have HNb := Lib.hid (show BoxAt (((w.alloc (.cells #[.int .i64 mm, .int .i64 pp, .string s] 63)).alloc (.cells #[.int .i64 0, .int .i64 0, .int .i64 0, .string ⟨#[]⟩] 32)).drew) (w.heap.size + 1) 32 (ndCs ⟨0, 0, 0, ⟨#[]⟩⟩) by
      have := box_new (w.alloc (.cells #[.int .i64 mm, .int .i64 pp, .string s] 63)) #[.int .i64 0, .int .i64 0, .int .i64 0, .string ⟨#[]⟩] 32
      rw [World.size_alloc] at this
      exact this)
    have HSx := Lib.hid (show BoxAt (((w.alloc (.cells #[.int .i64 mm, .int .i64 pp, .string s] 63)).alloc (.cells #[.int .i64 0, .int .i64 0, .int .i64 0, .string ⟨#[]⟩] 32)).drew) w.heap.size 63 #[.int .i64 mm, .int .i64 pp, .string s] from (box_new w _ _).alloc _)
    generalize ((w.alloc (.cells #[.int .i64 mm, .int .i64 pp, .string s] 63)).alloc (.cells #[.int .i64 0, .int .i64 0, .int .i64 0, .string ⟨#[]⟩] 32)).drew = wx at *
    have HC := Lib.hid (cloneT_any (HB.out.under HUx.out) (by omega))
    go_wp2_with fail
    refine HC.out.mono ?_
    rintro e w2 ⟨u, rfl, hu, hU2⟩
    have HRv := Lib.hid (reverseT_any (W := wx) hu (by omega) (Nat.le_refl _) hU2)
    clear hu hU2 HC
    go_wp2_with fail
    refine HRv.out.mono ?_
    rintro e w3 ⟨rfl, hu3, hU3⟩
    have HT3 := TextsV.of_own (ss := st.reverse) (by rw [List.length_reverse]; exact hu3)
    have HI := Lib.hid (indexT_any s HT3 (by rw [List.length_reverse]; omega))
    obtain ⟨q3, c3, rfl, _, _, _⟩ := HT3
    rw [List.length_reverse] at HI ⊢
    generalize st.length = stn at *
    have HIx := Lib.hid (idx_fromEnd st s)
    generalize Lib.idxOfS st.reverse s = ix at *
    have HUz := Lib.hid (HUx.out.trans hU3)
    have HUy := Lib.hid hU3
    have hNy := HNb.out.under hU3
    have hSy := HSx.out.under hU3
    have s0 := hSy.cell 0
    have s1 := hSy.cell 1
    have s2 := hSy.cell 2
    have sl := hSy.lt
    have HSy := Lib.hid hSy
    have HNy := Lib.hid hNy
    clear hSy hNy
    clear hu3 hU3 HRv
    go_wp2_with fail
    refine HI.out.mono ?_
    rintro e w4 ⟨rfl, rfl⟩
    clear HI
    have HNm := Lib.hid (sname_any (w0 := w4) ⟨mm, pp, s⟩ (rb := rb) (m1 := m1) (m2 := m2) (by simp only [maxLen]; omega) (HR.out.under HUz.out).tables)
    simp only [hk, sxV] at HNm
    go_wp2_with fail
    refine HNm.out.mono ?_
    rintro e w5 ⟨rfl, hU5⟩
    have HUw := Lib.hid (HUz.out.trans hU5)
    have s1' := (HSy.out.under hU5).cell 1
    have s2' := (HSy.out.under hU5).cell 2
    have sl' := (HSy.out.under hU5).lt
    have HNz := Lib.hid (HNy.out.under hU5)
    have hUs := (under_drew (W := w4) (w := w5) (hU5))
    clear hU5 s0 s1 s2 sl HNm
    have HWr := Lib.hid (wrong_any (HR.out.under HUw.out) pp 71)
    go_wp2_with fail
    refine HWr.out.mono ?_
    rintro e w6 hO
    have HO := Lib.hid (ReOut.back HUw.out hO)
    obtain ⟨_, _, _, _, _, _, _, rfl, _, _⟩ := hO
    go_wp2
    go_ret
    exact HO.out
  · rename_i K hK hHeld
    clear hHeld dd HLk
    have HUx := Lib.hid (show Under w (((w.alloc (.cells #[.int .i64 mm, .int .i64 pp, .string s] 63)).alloc (.cells #[.int .i64 0, .int .i64 0, .int .i64 0, .string ⟨#[]⟩] 32)).drew) from under_drew (under_alloc HU0.out _))
    have HNb := Lib.hid (show BoxAt (((w.alloc (.cells #[.int .i64 mm, .int .i64 pp, .string s] 63)).alloc (.cells #[.int .i64 0, .int .i64 0, .int .i64 0, .string ⟨#[]⟩] 32)).drew) (w.heap.size + 1) 32 (ndCs ⟨0, 0, 0, ⟨#[]⟩⟩) by
      have := box_new (w.alloc (.cells #[.int .i64 mm, .int .i64 pp, .string s] 63)) #[.int .i64 0, .int .i64 0, .int .i64 0, .string ⟨#[]⟩] 32
      rw [World.size_alloc] at this
      exact this)
    have HSx := Lib.hid (show BoxAt (((w.alloc (.cells #[.int .i64 mm, .int .i64 pp, .string s] 63)).alloc (.cells #[.int .i64 0, .int .i64 0, .int .i64 0, .string ⟨#[]⟩] 32)).drew) w.heap.size 63 #[.int .i64 mm, .int .i64 pp, .string s] from (box_new w _ _).alloc _)
    generalize ((w.alloc (.cells #[.int .i64 mm, .int .i64 pp, .string s] 63)).alloc (.cells #[.int .i64 0, .int .i64 0, .int .i64 0, .string ⟨#[]⟩] 32)).drew = wx at *
    have HC := Lib.hid (cloneT_any (HB.out.under HUx.out) (by omega))
    go_wp2_with fail
    refine HC.out.mono ?_
    rintro e w2 ⟨u, rfl, hu, hU2⟩
    have HRv := Lib.hid (reverseT_any (W := wx) hu (by omega) (Nat.le_refl _) hU2)
    clear hu hU2 HC
    go_wp2_with fail
    refine HRv.out.mono ?_
    rintro e w3 ⟨rfl, hu3, hU3⟩
    have HT3 := TextsV.of_own (ss := st.reverse) (by rw [List.length_reverse]; exact hu3)
    have HI := Lib.hid (indexT_any s HT3 (by rw [List.length_reverse]; omega))
    obtain ⟨q3, c3, rfl, _, _, _⟩ := HT3
    rw [List.length_reverse] at HI ⊢
    generalize st.length = stn at *
    have HIx := Lib.hid (idx_fromEnd st s)
    generalize Lib.idxOfS st.reverse s = ix at *
    have HUz := Lib.hid (HUx.out.trans hU3)
    have HUy := Lib.hid hU3
    have hNy := HNb.out.under hU3
    have hSy := HSx.out.under hU3
    have s0 := hSy.cell 0
    have s1 := hSy.cell 1
    have s2 := hSy.cell 2
    have sl := hSy.lt
    have HSy := Lib.hid hSy
    have HNy := Lib.hid hNy
    clear hSy hNy
    clear hu3 hU3 HRv
    go_wp2_with fail
    refine HI.out.mono ?_
    rintro e w4 ⟨rfl, rfl⟩
    clear HI
    have HNm := Lib.hid (sname_any (w0 := w4) ⟨mm, pp, s⟩ (rb := rb) (m1 := m1) (m2 := m2) (by simp only [maxLen]; omega) (HR.out.under HUz.out).tables)
    simp only [hk, sxV] at HNm
    go_wp2_with fail
    refine HNm.out.mono ?_
    rintro e w5 ⟨rfl, hU5⟩
    have HUw := Lib.hid (HUz.out.trans hU5)
    have s1' := (HSy.out.under hU5).cell 1
    have s2' := (HSy.out.under hU5).cell 2
    have sl' := (HSy.out.under hU5).lt
    have HNz := Lib.hid (HNy.out.under hU5)
    have hUs := (under_drew (W := w4) (w := w5) (hU5))
    clear hU5 s0 s1 s2 sl HNm
    have HWr := Lib.hid (wrong_any (HR.out.under HUw.out) pp 71)
    go_wp2_with fail
    refine HWr.out.mono ?_
    rintro e w6 hO
    have HO := Lib.hid (ReOut.back HUw.out hO)
    obtain ⟨_, _, _, _, _, _, _, rfl, _, _⟩ := hO
    go_wp2
    go_ret
    exact HO.out
set_option maxRecDepth 100000 in
set_option maxHeartbeats 2000000 in
theorem word_far (x : Sx) (cs : List ByteArray) (st : List ByteArray) {bv : Value} (hl : leafW x.word = none) (hk : nameK x.word = true) {ii : Nat} (hf : fromEnd st x.word = some ii) (h9 : 99 < ii) (hw : x.word.size ≤ 1000000) (h : ReS W0 rb m1 m2 cv dv ov acc p e w) (hb : TextsV w bv st) (hn : st.length ≤ 100000) (ha : acc.length ≤ 1000000) (hcs : TextsV W0 cv cs) (hcn : cs.length ≤ 1000000) :
    Calls Tryd.prog 26 #[.pointer (some ⟨rb, 0, none⟩), sxV x, bv] w (ReOut W0 rb m1 m2 cv dv ov acc w (.error (2, x.pos))) := by
  obtain ⟨i0, hi, hz0, hz1, hz2⟩ := info_parts Tryd.infoNode8
  obtain ⟨mm, pp, s⟩ := x
  simp only at *
  have hU0 := under_alloc (Under.refl w) (.cells #[.int .i64 mm, .int .i64 pp, .string s] 63)
  have hR := h.under hU0
  have d1 := hR.box.cell 3
  have d2 : (w.alloc (.cells #[.int .i64 mm, .int .i64 pp, .string s] 63)).cell? ⟨w.heap.size, 2, none⟩ = some (.string s) := (box_new w _ _).cell 2
  have d3 := hR.a
  have HLk : ∀ (w' : World), MapAt w' m2 aloneL → (Instr.lookup 45 (.map (some m2)) (.string s) true).run Tryd.prog w' = .ok (.tuple #[.agg #[.int .i64 0, .int .i64 0, .int .i64 0, .string ⟨#[]⟩], .bool false]) w' := fun w' h => by
    rw [alone_look h s, hl]; rfl
  have HD := Lib.hid (show rb < (w.alloc (.cells #[.int .i64 mm, .int .i64 pp, .string s] 63)).heap.size ∧ w.heap.size < (w.alloc (.cells #[.int .i64 mm, .int .i64 pp, .string s] 63)).heap.size ∧ _ from ⟨hR.box.lt, by simp, And.intro d1 (And.intro d2 d3)⟩)
  have dd := And.intro d1 (And.intro d2 d3)
  have HB := Lib.hid hb
  have HR := Lib.hid h
  have HU0 := Lib.hid hU0
  have HCs := Lib.hid hcs
  clear d1 d2 d3 hR hb hU0 hl hcs
  unfold sxV
  simp only
  clear h
  go_enter Tryd.func26, Tryd.ntmps26
  go_wp2_with fail
  go_region_held3 (fun w' => w'.cell? ⟨rb, 3, none⟩ = some (.map (some m2)) ∧ w'.cell? ⟨w.heap.size, 2, none⟩ = some (.string s) ∧ MapAt w' m2 aloneL)
    (first
      | exact dd
      | exact keep3 (under_drew (under_alloc (Under.refl _) _)) HD.out
      | go_keep)
    (fail)
  · rename_i K hK hHeld
    clear hHeld dd HLk
    have HUx := Lib.hid (show Under w (((w.alloc (.cells #[.int .i64 mm, .int .i64 pp, .string s] 63)).alloc (.cells #[.int .i64 0, .int .i64 0, .int .i64 0, .string ⟨#[]⟩] 32)).drew) from under_drew (under_alloc HU0.out _))
    have HNb := Lib.hid (show BoxAt (((w.alloc (.cells #[.int .i64 mm, .int .i64 pp, .string s] 63)).alloc (.cells #[.int .i64 0, .int .i64 0, .int .i64 0, .string ⟨#[]⟩] 32)).drew) (w.heap.size + 1) 32 (ndCs ⟨0, 0, 0, ⟨#[]⟩⟩) by
      have := box_new (w.alloc (.cells #[.int .i64 mm, .int .i64 pp, .string s] 63)) #[.int .i64 0, .int .i64 0, .int .i64 0, .string ⟨#[]⟩] 32
      rw [World.size_alloc] at this
      exact this)
    have HSx := Lib.hid (show BoxAt (((w.alloc (.cells #[.int .i64 mm, .int .i64 pp, .string s] 63)).alloc (.cells #[.int .i64 0, .int .i64 0, .int .i64 0, .string ⟨#[]⟩] 32)).drew) w.heap.size 63 #[.int .i64 mm, .int .i64 pp, .string s] from (box_new w _ _).alloc _)
    generalize ((w.alloc (.cells #[.int .i64 mm, .int .i64 pp, .string s] 63)).alloc (.cells #[.int .i64 0, .int .i64 0, .int .i64 0, .string ⟨#[]⟩] 32)).drew = wx at *
    have HC := Lib.hid (cloneT_any (HB.out.under HUx.out) (by omega))
    go_wp2_with fail
    refine HC.out.mono ?_
    rintro e w2 ⟨u, rfl, hu, hU2⟩
    have HRv := Lib.hid (reverseT_any (W := wx) hu (by omega) (Nat.le_refl _) hU2)
    clear hu hU2 HC
    go_wp2_with fail
    refine HRv.out.mono ?_
    rintro e w3 ⟨rfl, hu3, hU3⟩
    have HT3 := TextsV.of_own (ss := st.reverse) (by rw [List.length_reverse]; exact hu3)
    have HI := Lib.hid (indexT_any s HT3 (by rw [List.length_reverse]; omega))
    obtain ⟨q3, c3, rfl, _, _, _⟩ := HT3
    rw [List.length_reverse] at HI ⊢
    generalize st.length = stn at *
    have HIx := Lib.hid (idx_fromEnd st s)
    generalize Lib.idxOfS st.reverse s = ix at *
    have HUz := Lib.hid (HUx.out.trans hU3)
    have HUy := Lib.hid hU3
    have hNy := HNb.out.under hU3
    have hSy := HSx.out.under hU3
    have s0 := hSy.cell 0
    have s1 := hSy.cell 1
    have s2 := hSy.cell 2
    have sl := hSy.lt
    have HSy := Lib.hid hSy
    have HNy := Lib.hid hNy
    clear hSy hNy
    clear hu3 hU3 HRv
    go_wp2_with fail
    refine HI.out.mono ?_
    rintro e w4 ⟨rfl, rfl⟩
    clear HI
    have HNm := Lib.hid (sname_any (w0 := w4) ⟨mm, pp, s⟩ (rb := rb) (m1 := m1) (m2 := m2) (by simp only [maxLen]; omega) (HR.out.under HUz.out).tables)
    simp only [hk, sxV] at HNm
    go_wp2_with fail
    refine HNm.out.mono ?_
    rintro e w5 ⟨rfl, hU5⟩
    have HUw := Lib.hid (HUz.out.trans hU5)
    have s1' := (HSy.out.under hU5).cell 1
    have s2' := (HSy.out.under hU5).cell 2
    have sl' := (HSy.out.under hU5).lt
    have HNz := Lib.hid (HNy.out.under hU5)
    have hUs := (under_drew (W := w4) (w := w5) (hU5))
    clear hU5 s0 s1 s2 sl HNm
    obtain rfl : ix = (ii : Int) := by have := HIx.out; rw [hf] at this; exact this
    have hi9 : (99 : Int) < (ii : Int) := by omega
    have HWr := Lib.hid (wrong_any (HR.out.under HUw.out) pp 2)
    go_wp2_with fail
    refine HWr.out.mono ?_
    rintro e w6 hO
    have HO := Lib.hid (ReOut.back HUw.out hO)
    obtain ⟨_, _, _, _, _, _, _, rfl, _, _⟩ := hO
    go_wp2
    go_ret
    exact HO.out
  · rename_i K hK hHeld
    clear hHeld dd HLk
    have HUx := Lib.hid (show Under w (((w.alloc (.cells #[.int .i64 mm, .int .i64 pp, .string s] 63)).alloc (.cells #[.int .i64 0, .int .i64 0, .int .i64 0, .string ⟨#[]⟩] 32)).drew) from under_drew (under_alloc HU0.out _))
    have HNb := Lib.hid (show BoxAt (((w.alloc (.cells #[.int .i64 mm, .int .i64 pp, .string s] 63)).alloc (.cells #[.int .i64 0, .int .i64 0, .int .i64 0, .string ⟨#[]⟩] 32)).drew) (w.heap.size + 1) 32 (ndCs ⟨0, 0, 0, ⟨#[]⟩⟩) by
      have := box_new (w.alloc (.cells #[.int .i64 mm, .int .i64 pp, .string s] 63)) #[.int .i64 0, .int .i64 0, .int .i64 0, .string ⟨#[]⟩] 32
      rw [World.size_alloc] at this
      exact this)
    have HSx := Lib.hid (show BoxAt (((w.alloc (.cells #[.int .i64 mm, .int .i64 pp, .string s] 63)).alloc (.cells #[.int .i64 0, .int .i64 0, .int .i64 0, .string ⟨#[]⟩] 32)).drew) w.heap.size 63 #[.int .i64 mm, .int .i64 pp, .string s] from (box_new w _ _).alloc _)
    generalize ((w.alloc (.cells #[.int .i64 mm, .int .i64 pp, .string s] 63)).alloc (.cells #[.int .i64 0, .int .i64 0, .int .i64 0, .string ⟨#[]⟩] 32)).drew = wx at *
    have HC := Lib.hid (cloneT_any (HB.out.under HUx.out) (by omega))
    go_wp2_with fail
    refine HC.out.mono ?_
    rintro e w2 ⟨u, rfl, hu, hU2⟩
    have HRv := Lib.hid (reverseT_any (W := wx) hu (by omega) (Nat.le_refl _) hU2)
    clear hu hU2 HC
    go_wp2_with fail
    refine HRv.out.mono ?_
    rintro e w3 ⟨rfl, hu3, hU3⟩
    have HT3 := TextsV.of_own (ss := st.reverse) (by rw [List.length_reverse]; exact hu3)
    have HI := Lib.hid (indexT_any s HT3 (by rw [List.length_reverse]; omega))
    obtain ⟨q3, c3, rfl, _, _, _⟩ := HT3
    rw [List.length_reverse] at HI ⊢
    generalize st.length = stn at *
    have HIx := Lib.hid (idx_fromEnd st s)
    generalize Lib.idxOfS st.reverse s = ix at *
    have HUz := Lib.hid (HUx.out.trans hU3)
    have HUy := Lib.hid hU3
    have hNy := HNb.out.under hU3
    have hSy := HSx.out.under hU3
    have s0 := hSy.cell 0
    have s1 := hSy.cell 1
    have s2 := hSy.cell 2
    have sl := hSy.lt
    have HSy := Lib.hid hSy
    have HNy := Lib.hid hNy
    clear hSy hNy
    clear hu3 hU3 HRv
    go_wp2_with fail
    refine HI.out.mono ?_
    rintro e w4 ⟨rfl, rfl⟩
    clear HI
    have HNm := Lib.hid (sname_any (w0 := w4) ⟨mm, pp, s⟩ (rb := rb) (m1 := m1) (m2 := m2) (by simp only [maxLen]; omega) (HR.out.under HUz.out).tables)
    simp only [hk, sxV] at HNm
    go_wp2_with fail
    refine HNm.out.mono ?_
    rintro e w5 ⟨rfl, hU5⟩
    have HUw := Lib.hid (HUz.out.trans hU5)
    have s1' := (HSy.out.under hU5).cell 1
    have s2' := (HSy.out.under hU5).cell 2
    have sl' := (HSy.out.under hU5).lt
    have HNz := Lib.hid (HNy.out.under hU5)
    have hUs := (under_drew (W := w4) (w := w5) (hU5))
    clear hU5 s0 s1 s2 sl HNm
    obtain rfl : ix = (ii : Int) := by have := HIx.out; rw [hf] at this; exact this
    have hi9 : (99 : Int) < (ii : Int) := by omega
    have HWr := Lib.hid (wrong_any (HR.out.under HUw.out) pp 2)
    go_wp2_with fail
    refine HWr.out.mono ?_
    rintro e w6 hO
    have HO := Lib.hid (ReOut.back HUw.out hO)
    obtain ⟨_, _, _, _, _, _, _, rfl, _, _⟩ := hO
    go_wp2
    go_ret
    exact HO.out
end
end Go.Proofs.YtkmbmgmfcecfkaaDoor
