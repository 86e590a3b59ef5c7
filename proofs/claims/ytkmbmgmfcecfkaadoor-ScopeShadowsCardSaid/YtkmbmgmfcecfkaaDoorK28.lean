/- Part 28 of what the proof rests on. -/
import Derived.Test.YtkmbmgmfcecfkaaDoorK26
import Derived.Test.YtkmbmgmfcecfkaaDoorK27
set_option linter.unusedSimpArgs false
set_option linter.unusedVariables false
namespace Go.Proofs.YtkmbmgmfcecfkaaDoor
open Go.Lx Go.RowKit
section
variable {W0 w : World} {rb m1 m2 : Nat} {cv dv ov : Value} {acc : List Nd} {p e : Int}
set_option maxRecDepth 100000 in
set_option maxHeartbeats 2000000 in
theorem word_open (x : Sx) (cs : List ByteArray) (st : List ByteArray) {bv : Value} (hl : leafW x.word = none) (hk : nameK x.word = true) (hf : fromEnd st x.word = none) (hc : amongB cs x.word = false) (hw : x.word.size ≤ 1000000) (h : ReS W0 rb m1 m2 cv dv ov acc p e w) (hb : TextsV w bv st) (hn : st.length ≤ 100000) (ha : acc.length ≤ 1000000) (hcs : TextsV W0 cv cs) (hcn : cs.length ≤ 1000000) :
    Calls Tryd.prog 26 #[.pointer (some ⟨rb, 0, none⟩), sxV x, bv] w (ReOut W0 rb m1 m2 cv dv ov acc w (.error (80, x.pos))) := by
  obtain ⟨i0, hi, hz0, hz1, hz2⟩ := info_parts Tryd.infoNode8
  obtain ⟨mm, pp, s⟩ := x
  simp only at *
  have hU0 := under_alloc (Under.refl w) (.cells #[.int .i64 mm, .int .i64 pp, .string s] 63)
  have hR := h.under hU0
  have d1 := hR.box.cell 3
  have d2 : (w.alloc (.cells #[.int .i64 mm, .int .i64 pp, .string s] 63)).cell? ⟨w.heap.size, 2, none⟩ = some (.string s) := (box_new w _ _).cell 2
  have d3 := hR.a
  have HLk : ∀ (w' : World), MapAt w' m2 aloneL → (Instr.lookup 45 (.map (some m2)) (.string s) true).run Tryd.prog w' = .ok (.tuple #[.agg #[.int .i64 0, .int .i64 0, .int .i64 0, .string ⟨#[]⟩], .bool false]) w' := fun w' h => by
    rw [alone_look h s, hl]; rfl
  have HD := Lib.hid (show rb < (w.alloc (.cells #[.int .i64 mm, .int .i64 pp, .string s] 63)).heap.size ∧ w.heap.size < (w.alloc (.cells #[.int .i64 mm, .int .i64 pp, .string s] 63)).heap.size ∧ _ from ⟨hR.box.lt, by simp, And.intro d1 (And.intro d2 d3)⟩)
  have dd := And.intro d1 (And.intro d2 d3)
  have HB := Lib.hid hb
  have HR := Lib.hid h
  have HU0 := Lib.hid hU0
  have HCs := Lib.hid hcs
  clear d1 d2 d3 hR hb hU0 hl hcs
  unfold sxV
  simp only
  clear h
  go_enter Tryd.func26, Tryd.ntmps26
  go_wp2_with fail
  go_region_held3 (fun w' => w'.cell? ⟨rb, 3, none⟩ = some (.map (some m2)) ∧ w'.cell? ⟨w.heap.size, 2, none⟩ = some (.string s) ∧ MapAt w' m2 aloneL)
    (first
      | exact dd
      | exact keep3 (under_drew (under_alloc (Under.refl _) _)) HD.out
      | go_keep)
    (fail)
  · rename_i K hK hHeld
    clear hHeld dd HLk
    have HUx := Lib.hid (show Under w (((w.alloc (.cells #[.int .i64 mm, .int .i64 pp, .string s] 63)).alloc (.cells #[.int .i64 0, .int .i64 0, .int .i64 0, .string ⟨#[]⟩] 32)).drew) from under_drew (under_alloc HU0.out _))
    have HNb := Lib.hid (show BoxAt (((w.alloc (.cells #[.int .i64 mm, .int .i64 pp, .string s] 63)).alloc (.cells #[.int .i64 0, .int .i64 0, .int .i64 0, .string ⟨#[]⟩] 32)).drew) (w.heap.size + 1) 32 (ndCs ⟨0, 0, 0, ⟨#[]⟩⟩) by
      have := box_new (w.alloc (.cells #[.int .i64 mm, .int .i64 pp, .string s] 63)) #[.int .i64 0, .int .i64 0, .int .i64 0, .string ⟨#[]⟩] 32
      rw [World.size_alloc] at this
      exact this)
    have HSx := Lib.hid (show BoxAt (((w.alloc (.cells #[.int .i64 mm, .int .i64 pp, .string s] 63)).alloc (.cells #[.int .i64 0, .int .i64 0, .int .i64 0, .string ⟨#[]⟩] 32)).drew) w.heap.size 63 #[.int .i64 mm, .int .i64 pp, .string s] from (box_new w _ _).alloc _)
    generalize ((w.alloc (.cells #[.int .i64 mm, .int .i64 pp, .string s] 63)).alloc (.cells #[.int .i64 0, .int .i64 0, .int .i64 0, .string ⟨#[]⟩] 32)).drew = wx at *
    have HC := Lib.hid (cloneT_any (HB.out.under HUx.out) (by omega))
    go_wp2_with fail
    refine HC.out.mono ?_
    rintro e w2 ⟨u, rfl, hu, hU2⟩
    have HRv := Lib.hid (reverseT_any (W := wx) hu (by omega) (Nat.le_refl _) hU2)
    clear hu hU2 HC
    go_wp2_with fail
    refine HRv.out.mono ?_
    rintro e w3 ⟨rfl, hu3, hU3⟩
    have HT3 := TextsV.of_own (ss := st.reverse) (by rw [List.length_reverse]; exact hu3)
    have HI := Lib.hid (indexT_any s HT3 (by rw [List.length_reverse]; omega))
    obtain ⟨q3, c3, rfl, _, _, _⟩ := HT3
    rw [List.length_reverse] at HI ⊢
    generalize st.length = stn at *
    have HIx := Lib.hid (idx_fromEnd st s)
    generalize Lib.idxOfS st.reverse s = ix at *
    have HUz := Lib.hid (HUx.out.trans hU3)
    have HUy := Lib.hid hU3
    have hNy := HNb.out.under hU3
    have hSy := HSx.out.under hU3
    have s0 := hSy.cell 0
    have s1 := hSy.cell 1
    have s2 := hSy.cell 2
    have sl := hSy.lt
    have HSy := Lib.hid hSy
    have HNy := Lib.hid hNy
    clear hSy hNy
    clear hu3 hU3 HRv
    go_wp2_with fail
    refine HI.out.mono ?_
    rintro e w4 ⟨rfl, rfl⟩
    clear HI
    have HNm := Lib.hid (sname_any (w0 := w4) ⟨mm, pp, s⟩ (rb := rb) (m1 := m1) (m2 := m2) (by simp only [maxLen]; omega) (HR.out.under HUz.out).tables)
    simp only [hk, sxV] at HNm
    go_wp2_with fail
    refine HNm.out.mono ?_
    rintro e w5 ⟨rfl, hU5⟩
    have HUw := Lib.hid (HUz.out.trans hU5)
    have s1' := (HSy.out.under hU5).cell 1
    have s2' := (HSy.out.under hU5).cell 2
    have sl' := (HSy.out.under hU5).lt
    have HNz := Lib.hid (HNy.out.under hU5)
    have hUs := (under_drew (W := w4) (w := w5) (hU5))
    clear hU5 s0 s1 s2 sl HNm
    obtain rfl : ix = (-1 : Int) := by have := HIx.out; rw [hf] at this; exact this
    have c0 := (HR.out.under HUw.out).box.cell 0
    have cl := (HR.out.under HUw.out).box.lt
    have HCt := Lib.hid (fun w' (hU : Under w5 w') => containsT_any s (HCs.out.under ((HR.out.und.trans HUw.out).trans hU)) hcn)
    rw [hc] at HCt
    have ccd := And.intro c0 s2'
    go_wp2_with fail
    go_region_held3 (fun w' => w'.cell? ⟨rb, 0, none⟩ = some cv ∧ w'.cell? ⟨w.heap.size, 2, none⟩ = some (.string s))
      (first
        | exact ccd
        | go_keep)
      ((go_at_call 32; refine (HCt.out _ (by first | exact under_drew (Under.refl _) | exact Under.refl _)).mono ?_; rintro e w7 ⟨rfl, rfl⟩))
    rename_i K hK hHeld
    clear hHeld ccd c0 cl
    have HUw := Lib.hid (HUw.out.trans (under_drew (Under.refl _)))
    have HSz := Lib.hid (HSy.out.under (hUs))
    have HNz := Lib.hid (HNz.out.under (under_drew (Under.refl _)))
    have s1' := HSz.out.cell 1
    have s2' := HSz.out.cell 2
    have sl' := HSz.out.lt
    generalize w5.drew = w5 at *
    have HWr := Lib.hid (wrong_any (HR.out.under HUw.out) pp 80)
    go_wp2_with fail
    refine HWr.out.mono ?_
    rintro e w6 hO
    have HO := Lib.hid (ReOut.back HUw.out hO)
    obtain ⟨_, _, _, _, _, _, _, rfl, _, _⟩ := hO
    go_wp2
    go_ret
    exact HO.out
  · rename_i K hK hHeld
    clear hHeld dd HLk
    have HUx := Lib.hid (show Under w (((w.alloc (.cells #[.int .i64 mm, .int .i64 pp, .string s] 63)).alloc (.cells #[.int .i64 0, .int .i64 0, .int .i64 0, .string ⟨#[]⟩] 32)).drew) from under_drew (under_alloc HU0.out _))
    have HNb := Lib.hid (show BoxAt (((w.alloc (.cells #[.int .i64 mm, .int .i64 pp, .string s] 63)).alloc (.cells #[.int .i64 0, .int .i64 0, .int .i64 0, .string ⟨#[]⟩] 32)).drew) (w.heap.size + 1) 32 (ndCs ⟨0, 0, 0, ⟨#[]⟩⟩) by
      have := box_new (w.alloc (.cells #[.int .i64 mm, .int .i64 pp, .string s] 63)) #[.int .i64 0, .int .i64 0, .int .i64 0, .string ⟨#[]⟩] 32
      rw [World.size_alloc] at this
      exact this)
    have HSx := Lib.hid (show BoxAt (((w.alloc (.cells #[.int .i64 mm, .int .i64 pp, .string s] 63)).alloc (.cells #[.int .i64 0, .int .i64 0, .int .i64 0, .string ⟨#[]⟩] 32)).drew) w.heap.size 63 #[.int .i64 mm, .int .i64 pp, .string s] from (box_new w _ _).alloc _)
    generalize ((w.alloc (.cells #[.int .i64 mm, .int .i64 pp, .string s] 63)).alloc (.cells #[.int .i64 0, .int .i64 0, .int .i64 0, .string ⟨#[]⟩] 32)).drew = wx at *
    have HC := Lib.hid (cloneT_any (HB.out.under HUx.out) (by omega))
    go_wp2_with fail
    refine HC.out.mono ?_
    rintro e w2 ⟨u, rfl, hu, hU2⟩
    have HRv := Lib.hid (reverseT_any (W := wx) hu (by omega) (Nat.le_refl _) hU2)
    clear hu hU2 HC
    go_wp2_with fail
    refine HRv.out.mono ?_
    rintro e w3 ⟨rfl, hu3, hU3⟩
    have HT3 := TextsV.of_own (ss := st.reverse) (by rw [List.length_reverse]; exact hu3)
    have HI := Lib.hid (indexT_any s HT3 (by rw [List.length_reverse]; omega))
    obtain ⟨q3, c3, rfl, _, _, _⟩ := HT3
    rw [List.length_reverse] at HI ⊢
    generalize st.length = stn at *
    have HIx := Lib.hid (idx_fromEnd st s)
    generalize Lib.idxOfS st.reverse s = ix at *
    have HUz := Lib.hid (HUx.out.trans hU3)
    have HUy := Lib.hid hU3
    have hNy := HNb.out.under hU3
    have hSy := HSx.out.under hU3
    have s0 := hSy.cell 0
    have s1 := hSy.cell 1
    have s2 := hSy.cell 2
    have sl := hSy.lt
    have HSy := Lib.hid hSy
    have HNy := Lib.hid hNy
    clear hSy hNy
    clear hu3 hU3 HRv
    go_wp2_with fail
    refine HI.out.mono ?_
    rintro e w4 ⟨rfl, rfl⟩
    clear HI
    have HNm := Lib.hid (sname_any (w0 := w4) ⟨mm, pp, s⟩ (rb := rb) (m1 := m1) (m2 := m2) (by simp only [maxLen]; omega) (HR.out.under HUz.out).tables)
    simp only [hk, sxV] at HNm
    go_wp2_with fail
    refine HNm.out.mono ?_
    rintro e w5 ⟨rfl, hU5⟩
    have HUw := Lib.hid (HUz.out.trans hU5)
    have s1' := (HSy.out.under hU5).cell 1
    have s2' := (HSy.out.under hU5).cell 2
    have sl' := (HSy.out.under hU5).lt
    have HNz := Lib.hid (HNy.out.under hU5)
    have hUs := (under_drew (W := w4) (w := w5) (hU5))
    clear hU5 s0 s1 s2 sl HNm
    obtain rfl : ix = (-1 : Int) := by have := HIx.out; rw [hf] at this; exact this
    have c0 := (HR.out.under HUw.out).box.cell 0
    have cl := (HR.out.under HUw.out).box.lt
    have HCt := Lib.hid (fun w' (hU : Under w5 w') => containsT_any s (HCs.out.under ((HR.out.und.trans HUw.out).trans hU)) hcn)
    rw [hc] at HCt
    have ccd := And.intro c0 s2'
    go_wp2_with fail
    go_region_held3 (fun w' => w'.cell? ⟨rb, 0, none⟩ = some cv ∧ w'.cell? ⟨w.heap.size, 2, none⟩ = some (.string s))
      (first
        | exact ccd
        | go_keep)
      ((go_at_call 32; refine (HCt.out _ (by first | exact under_drew (Under.refl _) | exact Under.refl _)).mono ?_; rintro e w7 ⟨rfl, rfl⟩))
    rename_i K hK hHeld
    clear hHeld ccd c0 cl
    have HUw := Lib.hid (HUw.out.trans (under_drew (Under.refl _)))
    have HSz := Lib.hid (HSy.out.under (hUs))
    have HNz := Lib.hid (HNz.out.under (under_drew (Under.refl _)))
    have s1' := HSz.out.cell 1
    have s2' := HSz.out.cell 2
    have sl' := HSz.out.lt
    generalize w5.drew = w5 at *
    have HWr := Lib.hid (wrong_any (HR.out.under HUw.out) pp 80)
    go_wp2_with fail
    refine HWr.out.mono ?_
    rintro e w6 hO
    have HO := Lib.hid (ReOut.back HUw.out hO)
    obtain ⟨_, _, _, _, _, _, _, rfl, _, _⟩ := hO
    go_wp2
    go_ret
    exact HO.out
set_option maxRecDepth 100000 in
set_option maxHeartbeats 2000000 in
theorem word_const (x : Sx) (cs : List ByteArray) (st : List ByteArray) {bv : Value} (hl : leafW x.word = none) (hk : nameK x.word = true) (hf : fromEnd st x.word = none) (hc : amongB cs x.word = true) (hw : x.word.size ≤ 1000000) (h : ReS W0 rb m1 m2 cv dv ov acc p e w) (hb : TextsV w bv st) (hn : st.length ≤ 100000) (ha : acc.length ≤ 1000000) (hcs : TextsV W0 cv cs) (hcn : cs.length ≤ 1000000) :
    Calls Tryd.prog 26 #[.pointer (some ⟨rb, 0, none⟩), sxV x, bv] w (ReOut W0 rb m1 m2 cv dv ov acc w (.ok [⟨1, 0, 0, x.word⟩])) := by
  obtain ⟨i0, hi, hz0, hz1, hz2⟩ := info_parts Tryd.infoNode8
  obtain ⟨mm, pp, s⟩ := x
  simp only at *
  have hU0 := under_alloc (Under.refl w) (.cells #[.int .i64 mm, .int .i64 pp, .string s] 63)
  have hR := h.under hU0
  have d1 := hR.box.cell 3
  have d2 : (w.alloc (.cells #[.int .i64 mm, .int .i64 pp, .string s] 63)).cell? ⟨w.heap.size, 2, none⟩ = some (.string s) := (box_new w _ _).cell 2
  have d3 := hR.a
  have HLk : ∀ (w' : World), MapAt w' m2 aloneL → (Instr.lookup 45 (.map (some m2)) (.string s) true).run Tryd.prog w' = .ok (.tuple #[.agg #[.int .i64 0, .int .i64 0, .int .i64 0, .string ⟨#[]⟩], .bool false]) w' := fun w' h => by
    rw [alone_look h s, hl]; rfl
  have HD := Lib.hid (show rb < (w.alloc (.cells #[.int .i64 mm, .int .i64 pp, .string s] 63)).heap.size ∧ w.heap.size < (w.alloc (.cells #[.int .i64 mm, .int .i64 pp, .string s] 63)).heap.size ∧ _ from ⟨hR.box.lt, by simp, And.intro d1 (And.intro d2 d3)⟩)
  have dd := And.intro d1 (And.intro d2 d3)
  have HB := Lib.hid hb
  have HR := Lib.hid h
  have HU0 := Lib.hid hU0
  have HCs := Lib.hid hcs
  clear d1 d2 d3 hR hb hU0 hl hcs
  unfold sxV
  simp only
  clear h
  go_enter Tryd.func26, Tryd.ntmps26
  go_wp2_with fail
  go_region_held3 (fun w' => w'.cell? ⟨rb, 3, none⟩ = some (.map (some m2)) ∧ w'.cell? ⟨w.heap.size, 2, none⟩ = some (.string s) ∧ MapAt w' m2 aloneL)
    (first
      | exact dd
      | exact keep3 (under_drew (under_alloc (Under.refl _) _)) HD.out
      | go_keep)
    (fail)
  · rename_i K hK hHeld
    clear hHeld dd HLk
    have HUx := Lib.hid (show Under w (((w.alloc (.cells #[.int .i64 mm, .int .i64 pp, .string s] 63)).alloc (.cells #[.int .i64 0, .int .i64 0, .int .i64 0, .string ⟨#[]⟩] 32)).drew) from under_drew (under_alloc HU0.out _))
    have HNb := Lib.hid (show BoxAt (((w.alloc (.cells #[.int .i64 mm, .int .i64 pp, .string s] 63)).alloc (.cells #[.int .i64 0, .int .i64 0, .int .i64 0, .string ⟨#[]⟩] 32)).drew) (w.heap.size + 1) 32 (ndCs ⟨0, 0, 0, ⟨#[]⟩⟩) by
      have := box_new (w.alloc (.cells #[.int .i64 mm, .int .i64 pp, .string s] 63)) #[.int .i64 0, .int .i64 0, .int .i64 0, .string ⟨#[]⟩] 32
      rw [World.size_alloc] at this
      exact this)
    have HSx := Lib.hid (show BoxAt (((w.alloc (.cells #[.int .i64 mm, .int .i64 pp, .string s] 63)).alloc (.cells #[.int .i64 0, .int .i64 0, .int .i64 0, .string ⟨#[]⟩] 32)).drew) w.heap.size 63 #[.int .i64 mm, .int .i64 pp, .string s] from (box_new w _ _).alloc _)
    generalize ((w.alloc (.cells #[.int .i64 mm, .int .i64 pp, .string s] 63)).alloc (.cells #[.int .i64 0, .int .i64 0, .int .i64 0, .string ⟨#[]⟩] 32)).drew = wx at *
    have HC := Lib.hid (cloneT_any (HB.out.under HUx.out) (by omega))
    go_wp2_with fail
    refine HC.out.mono ?_
    rintro e w2 ⟨u, rfl, hu, hU2⟩
    have HRv := Lib.hid (reverseT_any (W := wx) hu (by omega) (Nat.le_refl _) hU2)
    clear hu hU2 HC
    go_wp2_with fail
    refine HRv.out.mono ?_
    rintro e w3 ⟨rfl, hu3, hU3⟩
    have HT3 := TextsV.of_own (ss := st.reverse) (by rw [List.length_reverse]; exact hu3)
    have HI := Lib.hid (indexT_any s HT3 (by rw [List.length_reverse]; omega))
    obtain ⟨q3, c3, rfl, _, _, _⟩ := HT3
    rw [List.length_reverse] at HI ⊢
    generalize st.length = stn at *
    have HIx := Lib.hid (idx_fromEnd st s)
    generalize Lib.idxOfS st.reverse s = ix at *
    have HUz := Lib.hid (HUx.out.trans hU3)
    have HUy := Lib.hid hU3
    have hNy := HNb.out.under hU3
    have hSy := HSx.out.under hU3
    have s0 := hSy.cell 0
    have s1 := hSy.cell 1
    have s2 := hSy.cell 2
    have sl := hSy.lt
    have HSy := Lib.hid hSy
    have HNy := Lib.hid hNy
    clear hSy hNy
    clear hu3 hU3 HRv
    go_wp2_with fail
    refine HI.out.mono ?_
    rintro e w4 ⟨rfl, rfl⟩
    clear HI
    have HNm := Lib.hid (sname_any (w0 := w4) ⟨mm, pp, s⟩ (rb := rb) (m1 := m1) (m2 := m2) (by simp only [maxLen]; omega) (HR.out.under HUz.out).tables)
    simp only [hk, sxV] at HNm
    go_wp2_with fail
    refine HNm.out.mono ?_
    rintro e w5 ⟨rfl, hU5⟩
    have HUw := Lib.hid (HUz.out.trans hU5)
    have s1' := (HSy.out.under hU5).cell 1
    have s2' := (HSy.out.under hU5).cell 2
    have sl' := (HSy.out.under hU5).lt
    have HNz := Lib.hid (HNy.out.under hU5)
    have hUs := (under_drew (W := w4) (w := w5) (hU5))
    clear hU5 s0 s1 s2 sl HNm
    obtain rfl : ix = (-1 : Int) := by have := HIx.out; rw [hf] at this; exact this
    have c0 := (HR.out.under HUw.out).box.cell 0
    have cl := (HR.out.under HUw.out).box.lt
    have HCt := Lib.hid (fun w' (hU : Under w5 w') => containsT_any s (HCs.out.under ((HR.out.und.trans HUw.out).trans hU)) hcn)
    rw [hc] at HCt
    have ccd := And.intro c0 s2'
    go_wp2_with fail
    go_region_held3 (fun w' => w'.cell? ⟨rb, 0, none⟩ = some cv ∧ w'.cell? ⟨w.heap.size, 2, none⟩ = some (.string s))
      (first
        | exact ccd
        | go_keep)
      ((go_at_call 32; refine (HCt.out _ (by first | exact under_drew (Under.refl _) | exact Under.refl _)).mono ?_; rintro e w7 ⟨rfl, rfl⟩))
    rename_i K hK hHeld
    clear hHeld ccd c0 cl
    have HUw := Lib.hid (HUw.out.trans (under_drew (Under.refl _)))
    have HSz := Lib.hid (HSy.out.under (hUs))
    have HNz := Lib.hid (HNz.out.under (under_drew (Under.refl _)))
    have s1' := HSz.out.cell 1
    have s2' := HSz.out.cell 2
    have sl' := HSz.out.lt
    generalize w5.drew = w5 at *
    have n0 : w5.cell? ⟨w.heap.size + 1, 0, none⟩ = some (.int .i64 0) := HNz.out.cell 0
    have n1 : w5.cell? ⟨w.heap.size + 1, 1, none⟩ = some (.int .i64 0) := HNz.out.cell 1
    have n2 : w5.cell? ⟨w.heap.size + 1, 2, none⟩ = some (.int .i64 0) := HNz.out.cell 2
    have n3 : w5.cell? ⟨w.heap.size + 1, 3, none⟩ = some (.string ⟨#[]⟩) := HNz.out.cell 3
    have nl := HNz.out.lt
    have nf0 := HNz.out.free 0
    have nf1 := HNz.out.free 1
    have nf2 := HNz.out.free 2
    have nf3 := HNz.out.free 3
    go_wp2_with fail
    obtain ⟨w6, hw6⟩ : ∃ w6, w6 = (((w5.setCell ⟨w.heap.size + 1, 0, none⟩ (.int .i64 (1))).setCell ⟨w.heap.size + 1, 1, none⟩ (.int .i64 (0))).setCell ⟨w.heap.size + 1, 2, none⟩ (.int .i64 (0))).setCell ⟨w.heap.size + 1, 3, none⟩ (.string s) := ⟨_, rfl⟩
    have HNq : RowKit.Hid (BoxAt w6 (w.heap.size + 1) 32 (ndCs ⟨1, 0, 0, s⟩)) := Lib.hid (by rw [hw6]; exact (((HNz.out.set 0 _).set 1 _).set 2 _).set 3 _)
    have HUz := Lib.hid (show Under w w6 by rw [hw6]; exact under_set (under_set (under_set (under_set HUw.out (by omega) _ _) (by omega) _ _) (by omega) _ _) (by omega) _ _)
    rw [← hw6]
    clear hw6 n0 n1 n2 n3 nl nf0 nf1 nf2 nf3 HNz s1' s2' sl'
    have hRy := HR.out.under HUz.out
    have y4 := hRy.box.cell 4
    have yl := hRy.box.lt
    have HRy := Lib.hid hRy
    have nd0 := ndAt_box (x := ⟨1, 0, 0, s⟩) (HNq.out)
    have HNv : RowKit.Hid (ov.ownBlock ≠ some (w.heap.size + 1)) := Lib.hid fun e => by have := (row_lt HR.out.row e).2; omega
    have hmx : acc.length + 1 ≤ maxLen := by simp only [maxLen]; omega
    have hby : (acc.length + 1) * 40 ≤ 140737488355328 := by omega
    have HNr : RowKit.Hid (rb ≠ w.heap.size + 1) := Lib.hid fun e => by have := HR.out.box.lt; omega
    have hlo : W0.heap.size ≤ w6.heap.size := Nat.le_trans HR.out.und.size HUz.out.size
    clear hRy
    go_wp2_with fail
    refine wp_region_noPanic ?_
    refine wp_region_held_drew (S := fun w' => w'.cell? ⟨w.heap.size + 1, 0, none⟩ = some (.int .i64 (1)) ∧ w'.cell? ⟨w.heap.size + 1, 1, none⟩ = some (.int .i64 (0)) ∧ w'.cell? ⟨w.heap.size + 1, 2, none⟩ = some (.int .i64 (0)) ∧ w'.cell? ⟨w.heap.size + 1, 3, none⟩ = some (.string s)) (by kernel_rfl) nd0 (fun hHeld => ?_)
    refine wpAnyH_take (i := 0) (v := ?v0a) rfl (by kernel_rfl) (by kernel_rfl) (by kernel_rfl) (fun _ _ _ h => h) (Or.inl ⟨by (first | kernel_rfl | rfl), ?hy0a⟩) (by assumption) ?rest0a
    case hy0a => (intro w hSw; (try dsimp only at hSw); go_simp; try with_reducible rfl)
    try simp only [Act.put, List.setIfInBounds_toArray, List.set_cons_zero, List.set_cons_succ]
    refine wpAnyH_take (i := 1) (v := ?v1a) rfl (by kernel_rfl) (by kernel_rfl) (by kernel_rfl) (fun _ _ _ h => h) (Or.inl ⟨by (first | kernel_rfl | rfl), ?hy1a⟩) (by assumption) ?rest1a
    case hy1a => (intro w hSw; (try dsimp only at hSw); go_simp; try with_reducible rfl)
    try simp only [Act.put, List.setIfInBounds_toArray, List.set_cons_zero, List.set_cons_succ]
    refine wpAnyH_take (i := 2) (v := ?v2a) rfl (by kernel_rfl) (by kernel_rfl) (by kernel_rfl) (fun _ _ _ h => h) (Or.inl ⟨by (first | kernel_rfl | rfl), ?hy2a⟩) (by assumption) ?rest2a
    case hy2a => (intro w hSw; (try dsimp only at hSw); go_simp; try with_reducible rfl)
    try simp only [Act.put, List.setIfInBounds_toArray, List.set_cons_zero, List.set_cons_succ]
    refine wpAnyH_take (i := 3) (v := ?v3a) rfl (by kernel_rfl) (by kernel_rfl) (by kernel_rfl) (fun _ _ _ h => h) (Or.inl ⟨by (first | kernel_rfl | rfl), ?hy3a⟩) (by assumption) ?rest3a
    case hy3a => (intro w hSw; (try dsimp only at hSw); go_simp; try with_reducible rfl)
    try simp only [Act.put, List.setIfInBounds_toArray, List.set_cons_zero, List.set_cons_succ]
    refine wpAnyH_take (i := 5) (v := ?v5a) rfl (by kernel_rfl) (by kernel_rfl) (by kernel_rfl) (fun _ _ _ h => h) (Or.inl ⟨by (first | kernel_rfl | rfl), ?hy5a⟩) (by assumption) ?rest5a
    case hy5a => (intro w hSw; (try dsimp only at hSw); go_simp; try with_reducible rfl)
    try simp only [Act.put, List.setIfInBounds_toArray, List.set_cons_zero, List.set_cons_succ]
    refine wpAnyH_ready (rs := [4, 6]) (by kernel_rfl) (by simp) ?_
    refine AllReadyH.cons rfl (fun K hK => ?_) (AllReadyH.cons rfl (fun K hK => ?_) AllReadyH.nil)
    · go_simp
      refine hK.out _ _ hHeld (fun hHeld' => ?_)
      clear hK K hHeld
      have hHeld := hHeld'
      clear hHeld'
      try simp only [Act.put, List.setIfInBounds_toArray, List.set_cons_zero, List.set_cons_succ]
      refine wpAnyH_ready (rs := [6]) (by kernel_rfl) (by simp) ?_
      refine AllReadyH.cons rfl (fun K hK => ?_) AllReadyH.nil
      go_simp
      refine hK.out _ _ ?_ (fun hHeld' => ?_)
      · exact ndAt_box (x := ⟨1, 0, 0, s⟩) ((HNq.out).under (by first | exact under_drew (Under.refl _) | exact under_drew (under_alloc (Under.refl _) _) | exact under_alloc (under_drew (Under.refl _)) _))
      clear hK K hHeld
      have hHeld := hHeld'
      clear hHeld'
      try simp only [Act.put, List.setIfInBounds_toArray, List.set_cons_zero, List.set_cons_succ]
      refine wpAnyH_ready (rs := [7]) (by kernel_rfl) (by simp) ?_
      refine AllReadyH.cons rfl (fun K hK => ?_) AllReadyH.nil
      refine step_append_lies _ (by rfl) _ _ _ (by rfl) W0.heap.size 32 i0 _ 4 40 Tryd.underlying25 hi hz0 hz1 hz2 rfl (by omega) ov acc.length (ndCells acc) (by rfl) (row_under HRy.out.row (by first | exact under_drew (under_alloc (Under.refl _) _) | exact under_alloc (under_drew (Under.refl _)) _))
            ⟨w6.heap.size, 0, none⟩ 1 1 [.int .i64 1, .int .i64 0, .int .i64 0, .string s] (by rfl) (by rfl) (World.news_of_block (cs := #[.int .i64 1, .int .i64 0, .int .i64 0, .string s]) (t := 32) (fr := (0, 0)) (heap_alloc_new _ _)) (by simp [Value.oneCell'])
            (by omega) hmx hby (by simp; omega) (w6.heap.size + 1) (by simp) ?_
      intro gg cc w5 hown5 hgrow5 hat5 hlt5
      have HPd := Lib.hid (push_done (x := ⟨1, 0, 0, s⟩) HRy.out (by first | exact under_drew (under_alloc (Under.refl _) _) | exact under_alloc (under_drew (Under.refl _)) _) hgrow5 (by rcases hat5 with h | h; exact .inl h; exact .inr (by rw [h]; simp)) hown5)
      have HN5 := Lib.hid (ov_nb (x := ⟨1, 0, 0, s⟩) HRy.out (HNq.out) HNv.out (by first | exact under_drew (under_alloc (Under.refl _) _) | exact under_alloc (under_drew (Under.refl _)) _) hgrow5)
      have HB5 := Lib.hid ((HRy.out.box.under (by first | exact under_drew (under_alloc (Under.refl _) _) | exact under_alloc (under_drew (Under.refl _)) _)).grown hgrow5 (fun e => HRy.out.ov_rb e.symm))
      have y5 := HB5.out.lt
      have y6 := HB5.out.free 4
      have y7 := HB5.out.cell 4
      have HN6 := Lib.hid (HN5.out.other (g := rb) (fun e => HNr.out e.symm) 4 (.slice (some ⟨gg, 0, none⟩) (acc.length + 1) cc))
      clear hown5 hgrow5 hat5 hlt5
      refine hK.out _ _ (ndAt_box (x := ⟨1, 0, 0, s⟩) HN5.out) (fun hHeld' => ?_)
      clear hK K hHeld
      have hHeld := hHeld'
      clear hHeld'
      try simp only [Act.put, List.setIfInBounds_toArray, List.set_cons_zero, List.set_cons_succ]
      refine wpAnyH_take (i := 8) (v := ?v8ap) rfl (by kernel_rfl) (by kernel_rfl) (by kernel_rfl) (fun _ _ _ h => h) (Or.inl ⟨by (first | kernel_rfl | rfl), ?hy8ap⟩) (by assumption) ?rest8ap
      case hy8ap => (intro w hSw; (try dsimp only at hSw); go_simp; try with_reducible rfl)
      try simp only [Act.put, List.setIfInBounds_toArray, List.set_cons_zero, List.set_cons_succ]
      refine wpAnyH_take (i := 9) (v := ?v9ap) rfl (by kernel_rfl) (by kernel_rfl) (by kernel_rfl) (fun _ _ _ h => h) (Or.inl ⟨by (first | kernel_rfl | rfl), ?hy9ap⟩) (by assumption) ?rest9ap
      case hy9ap => (intro w hSw; (try dsimp only at hSw); go_simp; try with_reducible rfl)
      try simp only [Act.put, List.setIfInBounds_toArray, List.set_cons_zero, List.set_cons_succ]
      refine wpAnyH_ready (rs := [10]) (by kernel_rfl) (by simp) ?_
      refine AllReadyH.cons rfl (fun K hK => ?_) AllReadyH.nil
      go_simp
      refine hK.out _ _ (ndAt_box (x := ⟨1, 0, 0, s⟩) HN6.out) (fun hHeld' => ?_)
      clear hK K hHeld
      have hHeld := hHeld'
      clear hHeld'
      try simp only [Act.put, List.setIfInBounds_toArray, List.set_cons_zero, List.set_cons_succ]
      refine wpAnyH_done (by kernel_rfl) ?_ _
      refine NoPanic.normal ?_
      clear hHeld y5 y6 y7
      go_wp2
      go_ret
      exact ⟨_, _, _, _, HPd.out.1, (Ch.of_under HUz.out).trans (C := ResC rb ov) (D := ResC rb ov) HPd.out.2.1 (fun i _ h => h), fun b hb e => HPd.out.2.2 b (by have := HUz.out.size; omega) e, rfl, rfl⟩
    · go_simp
      refine hK.out _ _ ?_ (fun hHeld' => ?_)
      · exact ndAt_box (x := ⟨1, 0, 0, s⟩) ((HNq.out).under (by first | exact under_drew (Under.refl _) | exact under_drew (under_alloc (Under.refl _) _) | exact under_alloc (under_drew (Under.refl _)) _))
      clear hK K hHeld
      have hHeld := hHeld'
      clear hHeld'
      try simp only [Act.put, List.setIfInBounds_toArray, List.set_cons_zero, List.set_cons_succ]
      refine wpAnyH_ready (rs := [4]) (by kernel_rfl) (by simp) ?_
      refine AllReadyH.cons rfl (fun K hK => ?_) AllReadyH.nil
      go_simp
      refine hK.out _ _ hHeld (fun hHeld' => ?_)
      clear hK K hHeld
      have hHeld := hHeld'
      clear hHeld'
      try simp only [Act.put, List.setIfInBounds_toArray, List.set_cons_zero, List.set_cons_succ]
      refine wpAnyH_ready (rs := [7]) (by kernel_rfl) (by simp) ?_
      refine AllReadyH.cons rfl (fun K hK => ?_) AllReadyH.nil
      refine step_append_lies _ (by rfl) _ _ _ (by rfl) W0.heap.size 32 i0 _ 4 40 Tryd.underlying25 hi hz0 hz1 hz2 rfl (by omega) ov acc.length (ndCells acc) (by rfl) (row_under HRy.out.row (by first | exact under_drew (under_alloc (Under.refl _) _) | exact under_alloc (under_drew (Under.refl _)) _))
            ⟨w6.heap.size, 0, none⟩ 1 1 [.int .i64 1, .int .i64 0, .int .i64 0, .string s] (by rfl) (by rfl) (World.news_of_block (cs := #[.int .i64 1, .int .i64 0, .int .i64 0, .string s]) (t := 32) (fr := (0, 0)) (heap_alloc_new _ _)) (by simp [Value.oneCell'])
            (by omega) hmx hby (by simp; omega) (w6.heap.size + 1) (by simp) ?_
      intro gg cc w5 hown5 hgrow5 hat5 hlt5
      have HPd := Lib.hid (push_done (x := ⟨1, 0, 0, s⟩) HRy.out (by first | exact under_drew (under_alloc (Under.refl _) _) | exact under_alloc (under_drew (Under.refl _)) _) hgrow5 (by rcases hat5 with h | h; exact .inl h; exact .inr (by rw [h]; simp)) hown5)
      have HN5 := Lib.hid (ov_nb (x := ⟨1, 0, 0, s⟩) HRy.out (HNq.out) HNv.out (by first | exact under_drew (under_alloc (Under.refl _) _) | exact under_alloc (under_drew (Under.refl _)) _) hgrow5)
      have HB5 := Lib.hid ((HRy.out.box.under (by first | exact under_drew (under_alloc (Under.refl _) _) | exact under_alloc (under_drew (Under.refl _)) _)).grown hgrow5 (fun e => HRy.out.ov_rb e.symm))
      have y5 := HB5.out.lt
      have y6 := HB5.out.free 4
      have y7 := HB5.out.cell 4
      have HN6 := Lib.hid (HN5.out.other (g := rb) (fun e => HNr.out e.symm) 4 (.slice (some ⟨gg, 0, none⟩) (acc.length + 1) cc))
      clear hown5 hgrow5 hat5 hlt5
      refine hK.out _ _ (ndAt_box (x := ⟨1, 0, 0, s⟩) HN5.out) (fun hHeld' => ?_)
      clear hK K hHeld
      have hHeld := hHeld'
      clear hHeld'
      try simp only [Act.put, List.setIfInBounds_toArray, List.set_cons_zero, List.set_cons_succ]
      refine wpAnyH_take (i := 8) (v := ?v8aq) rfl (by kernel_rfl) (by kernel_rfl) (by kernel_rfl) (fun _ _ _ h => h) (Or.inl ⟨by (first | kernel_rfl | rfl), ?hy8aq⟩) (by assumption) ?rest8aq
      case hy8aq => (intro w hSw; (try dsimp only at hSw); go_simp; try with_reducible rfl)
      try simp only [Act.put, List.setIfInBounds_toArray, List.set_cons_zero, List.set_cons_succ]
      refine wpAnyH_take (i := 9) (v := ?v9aq) rfl (by kernel_rfl) (by kernel_rfl) (by kernel_rfl) (fun _ _ _ h => h) (Or.inl ⟨by (first | kernel_rfl | rfl), ?hy9aq⟩) (by assumption) ?rest9aq
      case hy9aq => (intro w hSw; (try dsimp only at hSw); go_simp; try with_reducible rfl)
      try simp only [Act.put, List.setIfInBounds_toArray, List.set_cons_zero, List.set_cons_succ]
      refine wpAnyH_ready (rs := [10]) (by kernel_rfl) (by simp) ?_
      refine AllReadyH.cons rfl (fun K hK => ?_) AllReadyH.nil
      go_simp
      refine hK.out _ _ (ndAt_box (x := ⟨1, 0, 0, s⟩) HN6.out) (fun hHeld' => ?_)
      clear hK K hHeld
      have hHeld := hHeld'
      clear hHeld'
      try simp only [Act.put, List.setIfInBounds_toArray, List.set_cons_zero, List.set_cons_succ]
      refine wpAnyH_done (by kernel_rfl) ?_ _
      refine NoPanic.normal ?_
      clear hHeld y5 y6 y7
      go_wp2
      go_ret
      exact ⟨_, _, _, _, HPd.out.1, (Ch.of_under HUz.out).trans (C := ResC rb ov) (D := ResC rb ov) HPd.out.2.1 (fun i _ h => h), fun b hb e => HPd.out.2.2 b (by have := HUz.out.size; omega) e, rfl, rfl⟩
  · rename_i K hK hHeld
    clear hHeld dd HLk
    have HUx := Lib.hid (show Under w (((w.alloc (.cells #[.int .i64 mm, .int .i64 pp, .string s] 63)).alloc (.cells #[.int .i64 0, .int .i64 0, .int .i64 0, .string ⟨#[]⟩] 32)).drew) from under_drew (under_alloc HU0.out _))
    have HNb := Lib.hid (show BoxAt (((w.alloc (.cells #[.int .i64 mm, .int .i64 pp, .string s] 63)).alloc (.cells #[.int .i64 0, .int .i64 0, .int .i64 0, .string ⟨#[]⟩] 32)).drew) (w.heap.size + 1) 32 (ndCs ⟨0, 0, 0, ⟨#[]⟩⟩) by
      have := box_new (w.alloc (.cells #[.int .i64 mm, .int .i64 pp, .string s] 63)) #[.int .i64 0, .int .i64 0, .int .i64 0, .string ⟨#[]⟩] 32
      rw [World.size_alloc] at this
      exact this)
    have HSx := Lib.hid (show BoxAt (((w.alloc (.cells #[.int .i64 mm, .int .i64 pp, .string s] 63)).alloc (.cells #[.int .i64 0, .int .i64 0, .int .i64 0, .string ⟨#[]⟩] 32)).drew) w.heap.size 63 #[.int .i64 mm, .int .i64 pp, .string s] from (box_new w _ _).alloc _)
    generalize ((w.alloc (.cells #[.int .i64 mm, .int .i64 pp, .string s] 63)).alloc (.cells #[.int .i64 0, .int .i64 0, .int .i64 0, .string ⟨#[]⟩] 32)).drew = wx at *
    have HC := Lib.hid (cloneT_any (HB.out.under HUx.out) (by omega))
    go_wp2_with fail
    refine HC.out.mono ?_
    rintro e w2 ⟨u, rfl, hu, hU2⟩
    have HRv := Lib.hid (reverseT_any (W := wx) hu (by omega) (Nat.le_refl _) hU2)
    clear hu hU2 HC
    go_wp2_with fail
    refine HRv.out.mono ?_
    rintro e w3 ⟨rfl, hu3, hU3⟩
    have HT3 := TextsV.of_own (ss := st.reverse) (by rw [List.length_reverse]; exact hu3)
    have HI := Lib.hid (indexT_any s HT3 (by rw [List.length_reverse]; omega))
    obtain ⟨q3, c3, rfl, _, _, _⟩ := HT3
    rw [List.length_reverse] at HI ⊢
    generalize st.length = stn at *
    have HIx := Lib.hid (idx_fromEnd st s)
    generalize Lib.idxOfS st.reverse s = ix at *
    have HUz := Lib.hid (HUx.out.trans hU3)
    have HUy := Lib.hid hU3
    have hNy := HNb.out.under hU3
    have hSy := HSx.out.under hU3
    have s0 := hSy.cell 0
    have s1 := hSy.cell 1
    have s2 := hSy.cell 2
    have sl := hSy.lt
    have HSy := Lib.hid hSy
    have HNy := Lib.hid hNy
    clear hSy hNy
    clear hu3 hU3 HRv
    go_wp2_with fail
    refine HI.out.mono ?_
    rintro e w4 ⟨rfl, rfl⟩
    clear HI
    have HNm := Lib.hid (sname_any (w0 := w4) ⟨mm, pp, s⟩ (rb := rb) (m1 := m1) (m2 := m2) (by simp only [maxLen]; omega) (HR.out.under HUz.out).tables)
    simp only [hk, sxV] at HNm
    go_wp2_with fail
    refine HNm.out.mono ?_
    rintro e w5 ⟨rfl, hU5⟩
    have HUw := Lib.hid (HUz.out.trans hU5)
    have s1' := (HSy.out.under hU5).cell 1
    have s2' := (HSy.out.under hU5).cell 2
    have sl' := (HSy.out.under hU5).lt
    have HNz := Lib.hid (HNy.out.under hU5)
    have hUs := (under_drew (W := w4) (w := w5) (hU5))
    clear hU5 s0 s1 s2 sl HNm
    obtain rfl : ix = (-1 : Int) := by have := HIx.out; rw [hf] at this; exact this
    have c0 := (HR.out.under HUw.out).box.cell 0
    have cl := (HR.out.under HUw.out).box.lt
    have HCt := Lib.hid (fun w' (hU : Under w5 w') => containsT_any s (HCs.out.under ((HR.out.und.trans HUw.out).trans hU)) hcn)
    rw [hc] at HCt
    have ccd := And.intro c0 s2'
    go_wp2_with fail
    go_region_held3 (fun w' => w'.cell? ⟨rb, 0, none⟩ = some cv ∧ w'.cell? ⟨w.heap.size, 2, none⟩ = some (.string s))
      (first
        | exact ccd
        | go_keep)
      ((go_at_call 32; refine (HCt.out _ (by first | exact under_drew (Under.refl _) | exact Under.refl _)).mono ?_; rintro e w7 ⟨rfl, rfl⟩))
    rename_i K hK hHeld
    clear hHeld ccd c0 cl
    have HUw := Lib.hid (HUw.out.trans (under_drew (Under.refl _)))
    have HSz := Lib.hid (HSy.out.under (hUs))
    have HNz := Lib.hid (HNz.out.under (under_drew (Under.refl _)))
    have s1' := HSz.out.cell 1
    have s2' := HSz.out.cell 2
    have sl' := HSz.out.lt
    generalize w5.drew = w5 at *
    have n0 : w5.cell? ⟨w.heap.size + 1, 0, none⟩ = some (.int .i64 0) := HNz.out.cell 0
    have n1 : w5.cell? ⟨w.heap.size + 1, 1, none⟩ = some (.int .i64 0) := HNz.out.cell 1
    have n2 : w5.cell? ⟨w.heap.size + 1, 2, none⟩ = some (.int .i64 0) := HNz.out.cell 2
    have n3 : w5.cell? ⟨w.heap.size + 1, 3, none⟩ = some (.string ⟨#[]⟩) := HNz.out.cell 3
    have nl := HNz.out.lt
    have nf0 := HNz.out.free 0
    have nf1 := HNz.out.free 1
    have nf2 := HNz.out.free 2
    have nf3 := HNz.out.free 3
    go_wp2_with fail
    obtain ⟨w6, hw6⟩ : ∃ w6, w6 = (((w5.setCell ⟨w.heap.size + 1, 0, none⟩ (.int .i64 (1))).setCell ⟨w.heap.size + 1, 1, none⟩ (.int .i64 (0))).setCell ⟨w.heap.size + 1, 2, none⟩ (.int .i64 (0))).setCell ⟨w.heap.size + 1, 3, none⟩ (.string s) := ⟨_, rfl⟩
    have HNq : RowKit.Hid (BoxAt w6 (w.heap.size + 1) 32 (ndCs ⟨1, 0, 0, s⟩)) := Lib.hid (by rw [hw6]; exact (((HNz.out.set 0 _).set 1 _).set 2 _).set 3 _)
    have HUz := Lib.hid (show Under w w6 by rw [hw6]; exact under_set (under_set (under_set (under_set HUw.out (by omega) _ _) (by omega) _ _) (by omega) _ _) (by omega) _ _)
    rw [← hw6]
    clear hw6 n0 n1 n2 n3 nl nf0 nf1 nf2 nf3 HNz s1' s2' sl'
    have hRy := HR.out.under HUz.out
    have y4 := hRy.box.cell 4
    have yl := hRy.box.lt
    have HRy := Lib.hid hRy
    have nd0 := ndAt_box (x := ⟨1, 0, 0, s⟩) (HNq.out)
    have HNv : RowKit.Hid (ov.ownBlock ≠ some (w.heap.size + 1)) := Lib.hid fun e => by have := (row_lt HR.out.row e).2; omega
    have hmx : acc.length + 1 ≤ maxLen := by simp only [maxLen]; omega
    have hby : (acc.length + 1) * 40 ≤ 140737488355328 := by omega
    have HNr : RowKit.Hid (rb ≠ w.heap.size + 1) := Lib.hid fun e => by have := HR.out.box.lt; omega
    have hlo : W0.heap.size ≤ w6.heap.size := Nat.le_trans HR.out.und.size HUz.out.size
    clear hRy
    go_wp2_with fail
    refine wp_region_noPanic ?_
    refine wp_region_held_drew (S := fun w' => w'.cell? ⟨w.heap.size + 1, 0, none⟩ = some (.int .i64 (1)) ∧ w'.cell? ⟨w.heap.size + 1, 1, none⟩ = some (.int .i64 (0)) ∧ w'.cell? ⟨w.heap.size + 1, 2, none⟩ = some (.int .i64 (0)) ∧ w'.cell? ⟨w.heap.size + 1, 3, none⟩ = some (.string s)) (by kernel_rfl) nd0 (fun hHeld => ?_)
    refine wpAnyH_take (i := 0) (v := ?v0b) rfl (by kernel_rfl) (by kernel_rfl) (by kernel_rfl) (fun _ _ _ h => h) (Or.inl ⟨by (first | kernel_rfl | rfl), ?hy0b⟩) (by assumption) ?rest0b
    case hy0b => (intro w hSw; (try dsimp only at hSw); go_simp; try with_reducible rfl)
    try simp only [Act.put, List.setIfInBounds_toArray, List.set_cons_zero, List.set_cons_succ]
    refine wpAnyH_take (i := 1) (v := ?v1b) rfl (by kernel_rfl) (by kernel_rfl) (by kernel_rfl) (fun _ _ _ h => h) (Or.inl ⟨by (first | kernel_rfl | rfl), ?hy1b⟩) (by assumption) ?rest1b
    case hy1b => (intro w hSw; (try dsimp only at hSw); go_simp; try with_reducible rfl)
    try simp only [Act.put, List.setIfInBounds_toArray, List.set_cons_zero, List.set_cons_succ]
    refine wpAnyH_take (i := 2) (v := ?v2b) rfl (by kernel_rfl) (by kernel_rfl) (by kernel_rfl) (fun _ _ _ h => h) (Or.inl ⟨by (first | kernel_rfl | rfl), ?hy2b⟩) (by assumption) ?rest2b
    case hy2b => (intro w hSw; (try dsimp only at hSw); go_simp; try with_reducible rfl)
    try simp only [Act.put, List.setIfInBounds_toArray, List.set_cons_zero, List.set_cons_succ]
    refine wpAnyH_take (i := 3) (v := ?v3b) rfl (by kernel_rfl) (by kernel_rfl) (by kernel_rfl) (fun _ _ _ h => h) (Or.inl ⟨by (first | kernel_rfl | rfl), ?hy3b⟩) (by assumption) ?rest3b
    case hy3b => (intro w hSw; (try dsimp only at hSw); go_simp; try with_reducible rfl)
    try simp only [Act.put, List.setIfInBounds_toArray, List.set_cons_zero, List.set_cons_succ]
    refine wpAnyH_take (i := 5) (v := ?v5b) rfl (by kernel_rfl) (by kernel_rfl) (by kernel_rfl) (fun _ _ _ h => h) (Or.inl ⟨by (first | kernel_rfl | rfl), ?hy5b⟩) (by assumption) ?rest5b
    case hy5b => (intro w hSw; (try dsimp only at hSw); go_simp; try with_reducible rfl)
    try simp only [Act.put, List.setIfInBounds_toArray, List.set_cons_zero, List.set_cons_succ]
    refine wpAnyH_ready (rs := [4, 6]) (by kernel_rfl) (by simp) ?_
    refine AllReadyH.cons rfl (fun K hK => ?_) (AllReadyH.cons rfl (fun K hK => ?_) AllReadyH.nil)
    · go_simp
      refine hK.out _ _ hHeld (fun hHeld' => ?_)
      clear hK K hHeld
      have hHeld := hHeld'
      clear hHeld'
      try simp only [Act.put, List.setIfInBounds_toArray, List.set_cons_zero, List.set_cons_succ]
      refine wpAnyH_ready (rs := [6]) (by kernel_rfl) (by simp) ?_
      refine AllReadyH.cons rfl (fun K hK => ?_) AllReadyH.nil
      go_simp
      refine hK.out _ _ ?_ (fun hHeld' => ?_)
      · exact ndAt_box (x := ⟨1, 0, 0, s⟩) ((HNq.out).under (by first | exact under_drew (Under.refl _) | exact under_drew (under_alloc (Under.refl _) _) | exact under_alloc (under_drew (Under.refl _)) _))
      clear hK K hHeld
      have hHeld := hHeld'
      clear hHeld'
      try simp only [Act.put, List.setIfInBounds_toArray, List.set_cons_zero, List.set_cons_succ]
      refine wpAnyH_ready (rs := [7]) (by kernel_rfl) (by simp) ?_
      refine AllReadyH.cons rfl (fun K hK => ?_) AllReadyH.nil
      refine step_append_lies _ (by rfl) _ _ _ (by rfl) W0.heap.size 32 i0 _ 4 40 Tryd.underlying25 hi hz0 hz1 hz2 rfl (by omega) ov acc.length (ndCells acc) (by rfl) (row_under HRy.out.row (by first | exact under_drew (under_alloc (Under.refl _) _) | exact under_alloc (under_drew (Under.refl _)) _))
            ⟨w6.heap.size, 0, none⟩ 1 1 [.int .i64 1, .int .i64 0, .int .i64 0, .string s] (by rfl) (by rfl) (World.news_of_block (cs := #[.int .i64 1, .int .i64 0, .int .i64 0, .string s]) (t := 32) (fr := (0, 0)) (heap_alloc_new _ _)) (by simp [Value.oneCell'])
            (by omega) hmx hby (by simp; omega) (w6.heap.size + 1) (by simp) ?_
      intro gg cc w5 hown5 hgrow5 hat5 hlt5
      have HPd := Lib.hid (push_done (x := ⟨1, 0, 0, s⟩) HRy.out (by first | exact under_drew (under_alloc (Under.refl _) _) | exact under_alloc (under_drew (Under.refl _)) _) hgrow5 (by rcases hat5 with h | h; exact .inl h; exact .inr (by rw [h]; simp)) hown5)
      have HN5 := Lib.hid (ov_nb (x := ⟨1, 0, 0, s⟩) HRy.out (HNq.out) HNv.out (by first | exact under_drew (under_alloc (Under.refl _) _) | exact under_alloc (under_drew (Under.refl _)) _) hgrow5)
      have HB5 := Lib.hid ((HRy.out.box.under (by first | exact under_drew (under_alloc (Under.refl _) _) | exact under_alloc (under_drew (Under.refl _)) _)).grown hgrow5 (fun e => HRy.out.ov_rb e.symm))
      have y5 := HB5.out.lt
      have y6 := HB5.out.free 4
      have y7 := HB5.out.cell 4
      have HN6 := Lib.hid (HN5.out.other (g := rb) (fun e => HNr.out e.symm) 4 (.slice (some ⟨gg, 0, none⟩) (acc.length + 1) cc))
      clear hown5 hgrow5 hat5 hlt5
      refine hK.out _ _ (ndAt_box (x := ⟨1, 0, 0, s⟩) HN5.out) (fun hHeld' => ?_)
      clear hK K hHeld
      have hHeld := hHeld'
      clear hHeld'
      try simp only [Act.put, List.setIfInBounds_toArray, List.set_cons_zero, List.set_cons_succ]
      refine wpAnyH_take (i := 8) (v := ?v8bp) rfl (by kernel_rfl) (by kernel_rfl) (by kernel_rfl) (fun _ _ _ h => h) (Or.inl ⟨by (first | kernel_rfl | rfl), ?hy8bp⟩) (by assumption) ?rest8bp
      case hy8bp => (intro w hSw; (try dsimp only at hSw); go_simp; try with_reducible rfl)
      try simp only [Act.put, List.setIfInBounds_toArray, List.set_cons_zero, List.set_cons_succ]
      refine wpAnyH_take (i := 9) (v := ?v9bp) rfl (by kernel_rfl) (by kernel_rfl) (by kernel_rfl) (fun _ _ _ h => h) (Or.inl ⟨by (first | kernel_rfl | rfl), ?hy9bp⟩) (by assumption) ?rest9bp
      case hy9bp => (intro w hSw; (try dsimp only at hSw); go_simp; try with_reducible rfl)
      try simp only [Act.put, List.setIfInBounds_toArray, List.set_cons_zero, List.set_cons_succ]
      refine wpAnyH_ready (rs := [10]) (by kernel_rfl) (by simp) ?_
      refine AllReadyH.cons rfl (fun K hK => ?_) AllReadyH.nil
      go_simp
      refine hK.out _ _ (ndAt_box (x := ⟨1, 0, 0, s⟩) HN6.out) (fun hHeld' => ?_)
      clear hK K hHeld
      have hHeld := hHeld'
      clear hHeld'
      try simp only [Act.put, List.setIfInBounds_toArray, List.set_cons_zero, List.set_cons_succ]
      refine wpAnyH_done (by kernel_rfl) ?_ _
      refine NoPanic.normal ?_
      clear hHeld y5 y6 y7
      go_wp2
      go_ret
      exact ⟨_, _, _, _, HPd.out.1, (Ch.of_under HUz.out).trans (C := ResC rb ov) (D := ResC rb ov) HPd.out.2.1 (fun i _ h => h), fun b hb e => HPd.out.2.2 b (by have := HUz.out.size; omega) e, rfl, rfl⟩
    · go_simp
      refine hK.out _ _ ?_ (fun hHeld' => ?_)
      · exact ndAt_box (x := ⟨1, 0, 0, s⟩) ((HNq.out).under (by first | exact under_drew (Under.refl _) | exact under_drew (under_alloc (Under.refl _) _) | exact under_alloc (under_drew (Under.refl _)) _))
      clear hK K hHeld
      have hHeld := hHeld'
      clear hHeld'
      try simp only [Act.put, List.setIfInBounds_toArray, List.set_cons_zero, List.set_cons_succ]
      refine wpAnyH_ready (rs := [4]) (by kernel_rfl) (by simp) ?_
      refine AllReadyH.cons rfl (fun K hK => ?_) AllReadyH.nil
      go_simp
      refine hK.out _ _ hHeld (fun hHeld' => ?_)
      clear hK K hHeld
      have hHeld := hHeld'
      clear hHeld'
      try simp only [Act.put, List.setIfInBounds_toArray, List.set_cons_zero, List.set_cons_succ]
      refine wpAnyH_ready (rs := [7]) (by kernel_rfl) (by simp) ?_
      refine AllReadyH.cons rfl (fun K hK => ?_) AllReadyH.nil
      refine step_append_lies _ (by rfl) _ _ _ (by rfl) W0.heap.size 32 i0 _ 4 40 Tryd.underlying25 hi hz0 hz1 hz2 rfl (by omega) ov acc.length (ndCells acc) (by rfl) (row_under HRy.out.row (by first | exact under_drew (under_alloc (Under.refl _) _) | exact under_alloc (under_drew (Under.refl _)) _))
            ⟨w6.heap.size, 0, none⟩ 1 1 [.int .i64 1, .int .i64 0, .int .i64 0, .string s] (by rfl) (by rfl) (World.news_of_block (cs := #[.int .i64 1, .int .i64 0, .int .i64 0, .string s]) (t := 32) (fr := (0, 0)) (heap_alloc_new _ _)) (by simp [Value.oneCell'])
            (by omega) hmx hby (by simp; omega) (w6.heap.size + 1) (by simp) ?_
      intro gg cc w5 hown5 hgrow5 hat5 hlt5
      have HPd := Lib.hid (push_done (x := ⟨1, 0, 0, s⟩) HRy.out (by first | exact under_drew (under_alloc (Under.refl _) _) | exact under_alloc (under_drew (Under.refl _)) _) hgrow5 (by rcases hat5 with h | h; exact .inl h; exact .inr (by rw [h]; simp)) hown5)
      have HN5 := Lib.hid (ov_nb (x := ⟨1, 0, 0, s⟩) HRy.out (HNq.out) HNv.out (by first | exact under_drew (under_alloc (Under.refl _) _) | exact under_alloc (under_drew (Under.refl _)) _) hgrow5)
      have HB5 := Lib.hid ((HRy.out.box.under (by first | exact under_drew (under_alloc (Under.refl _) _) | exact under_alloc (under_drew (Under.refl _)) _)).grown hgrow5 (fun e => HRy.out.ov_rb e.symm))
      have y5 := HB5.out.lt
      have y6 := HB5.out.free 4
      have y7 := HB5.out.cell 4
      have HN6 := Lib.hid (HN5.out.other (g := rb) (fun e => HNr.out e.symm) 4 (.slice (some ⟨gg, 0, none⟩) (acc.length + 1) cc))
      clear hown5 hgrow5 hat5 hlt5
      refine hK.out _ _ (ndAt_box (x := ⟨1, 0, 0, s⟩) HN5.out) (fun hHeld' => ?_)
      clear hK K hHeld
      have hHeld := hHeld'
      clear hHeld'
      try simp only [Act.put, List.setIfInBounds_toArray, List.set_cons_zero, List.set_cons_succ]
      refine wpAnyH_take (i := 8) (v := ?v8bq) rfl (by kernel_rfl) (by kernel_rfl) (by kernel_rfl) (fun _ _ _ h => h) (Or.inl ⟨by (first | kernel_rfl | rfl), ?hy8bq⟩) (by assumption) ?rest8bq
      case hy8bq => (intro w hSw; (try dsimp only at hSw); go_simp; try with_reducible rfl)
      try simp only [Act.put, List.setIfInBounds_toArray, List.set_cons_zero, List.set_cons_succ]
      refine wpAnyH_take (i := 9) (v := ?v9bq) rfl (by kernel_rfl) (by kernel_rfl) (by kernel_rfl) (fun _ _ _ h => h) (Or.inl ⟨by (first | kernel_rfl | rfl), ?hy9bq⟩) (by assumption) ?rest9bq
      case hy9bq => (intro w hSw; (try dsimp only at hSw); go_simp; try with_reducible rfl)
      try simp only [Act.put, List.setIfInBounds_toArray, List.set_cons_zero, List.set_cons_succ]
      refine wpAnyH_ready (rs := [10]) (by kernel_rfl) (by simp) ?_
      refine AllReadyH.cons rfl (fun K hK => ?_) AllReadyH.nil
      go_simp
      refine hK.out _ _ (ndAt_box (x := ⟨1, 0, 0, s⟩) HN6.out) (fun hHeld' => ?_)
      clear hK K hHeld
      have hHeld := hHeld'
      clear hHeld'
      try simp only [Act.put, List.setIfInBounds_toArray, List.set_cons_zero, List.set_cons_succ]
      refine wpAnyH_done (by kernel_rfl) ?_ _
      refine NoPanic.normal ?_
      clear hHeld y5 y6 y7
      go_wp2
      go_ret
      exact ⟨_, _, _, _, HPd.out.1, (Ch.of_under HUz.out).trans (C := ResC rb ov) (D := ResC rb ov) HPd.out.2.1 (fun i _ h => h), fun b hb e => HPd.out.2.2 b (by have := HUz.out.size; omega) e, rfl, rfl⟩
theorem rword_any (x : Sx) (cs : List ByteArray) (st : List ByteArray) {bv : Value} (hw : x.word.size ≤ 1000000) (h : ReS W0 rb m1 m2 cv dv ov acc p e w) (hb : TextsV w bv st) (hn : st.length ≤ 100000) (ha : acc.length ≤ 1000000) (hcs : TextsV W0 cv cs) (hcn : cs.length ≤ 1000000) :
    Calls Tryd.prog 26 #[.pointer (some ⟨rb, 0, none⟩), sxV x, bv] w (ReOut W0 rb m1 m2 cv dv ov acc w (wordS cs x.pos x.word st)) := by
  cases hl : leafW x.word with
  | some k => exact word_leaf x cs st hl hw h hb hn ha
  | none =>
    cases hk : nameK x.word with
    | false =>
      rw [show wordS cs x.pos x.word st = .error (71, x.pos) by simp [wordS, hl, hk]]
      exact word_name x cs st hl hk hw h hb hn ha hcs hcn
    | true =>
      cases hf : fromEnd st x.word with
      | some ii =>
        by_cases h9 : 99 < ii
        · rw [show wordS cs x.pos x.word st = .error (2, x.pos) by simp [wordS, hl, hk, hf, h9]]
          exact word_far x cs st hl hk hf h9 hw h hb hn ha hcs hcn
        · rw [show wordS cs x.pos x.word st = .ok [⟨0, (ii : Int), 0, ⟨#[]⟩⟩] by simp only [wordS, hl, hk, hf, if_true, if_neg h9]]
          exact word_var x cs st hl hk hf h9 hw h hb hn ha hcs hcn
      | none =>
        cases hc : amongB cs x.word with
        | false =>
          rw [show wordS cs x.pos x.word st = .error (80, x.pos) by simp [wordS, hl, hk, hf, hc]]
          exact word_open x cs st hl hk hf hc hw h hb hn ha hcs hcn
        | true =>
          rw [show wordS cs x.pos x.word st = .ok [⟨1, 0, 0, x.word⟩] by simp [wordS, hl, hk, hf, hc]]
          exact word_const x cs st hl hk hf hc hw h hb hn ha hcs hcn
end
end Go.Proofs.YtkmbmgmfcecfkaaDoor
