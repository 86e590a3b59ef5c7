/- Part 6 of what the proof rests on. -/
import Derived.Deep.RegionLaw
import Derived.Deep.RegionHeld3
import Derived.Sort.KeysCollected
import Derived.Maps.OwnSet
import Derived.Sort.Walk0
import Derived.Shelf.SlIter.Nil
import Derived.Shelf.SortM.Plain
import Derived.Shelf.SortM.SortNone
import Derived.Ground.GgzProg
import Derived.Ground.SlgmProg
import Derived.Test.YtiibknlpeodejaaGreatDoorProg
import Derived.Test.YtiibknlpeodejaaGreatDoorQ5
set_option linter.unusedSimpArgs false
set_option linter.unusedVariables false
/- pretty.(*printer).words: lambdas. Printed by pwords.py. -/
namespace Go.Proofs.YtiibknlpeodejaaGreatDoor
open Go.Lx Go.RowKit
attribute [local go_sem] store_func

set_option maxRecDepth 100000 in
set_option maxHeartbeats 2000000 in
theorem words_lam (x : Nd) (l : List Tm) (f0 : (x.k == 0) = false) (f1 : (x.k == 1) = false) (f2 : (x.k == 2) = false) (fp : plainK x = false) (f3 : (x.k == 3) = false) (f6 : (x.k == 6) = false) (f4 : (x.k == 4) = true) (f26 : (x.k == 26) = false) (fs : (x.s.toList == []) = true) (ih : ∀ a ∈ l, WordsOk a) : WordsOk (.mk x l) := by
  obtain ⟨i0, hi, hz0, hz1, hz2'⟩ := info_parts Tryz.infoStrZ
  have g0 : x.k ≠ 0 := by simpa using f0
  have g1 : x.k ≠ 1 := by simpa using f1
  have g2 : x.k ≠ 2 := by simpa using f2
  have g4 : x.k = 4 := by simpa using f4
  have hb01 : binds x = [0, 1] := by simp [binds, g4, bindsOf]
  rintro hok hd hn W0 w pb hq tb ks st av sv tv hW hS hP hT hv hA ha hst hss hin
  have hx := hok.1
  have hte : (flat (.mk x l))[(flat (.mk x l)).length - 1]? = some x := by rw [flat]; simp
  have hpos : 1 ≤ (flat (.mk x l)).length := by rw [flat]; simp
  have hsl := sayT_len av (by omega) (.mk x l) hok st hss (by omega)
  have hlen := hok.2.1
  have hl8 := binds_len hx
  have hbr : (if rightB x then binds x else []) = binds x := if_pos hx
  have hb2 : ∀ b ∈ binds x, b ≤ 2 := fun b hb => by have := bindsR_le (x := x); unfold bindsR at this; rw [hbr] at this; exact this b hb
  unfold inT at hin
  rw [if_neg (by omega)] at hin
  obtain ⟨p, c, rfl, hc, hp0, hr⟩ := hv
  obtain ⟨b, off, rfl, hb, c0, c1, c2, c3⟩ := RowArg.node hr hte
  have HAr := Lib.hid (fun w1 (hU : Under w w1) => args_any (w0 := w1) x l (t := flat (.mk x l)) (b := b) (off := off) (c := c) rfl hok hd hn hc (hr.under hU) ((hS.under hP.und).under hU))
  have HBn := Lib.hid (fun w1 (hU : Under w w1) => binds_any (w0 := w1) x (by have := rightB_s hx; simp only [maxLen]; omega) ((hS.under hP.und).under hU))
  have HUn := Lib.hid (fun a (ha' : a ∈ l) => under_any a (okTs_mem.1 hok.2.2 a ha') (Nat.le_trans (deep_part ha') hd) (by have := flat_part ha'; rw [flat, List.length_append] at hn; omega) (ih a ha'))
  have hfl : (flat (.mk x l)).length = (flats l).length + 1 := by rw [flat]; simp
  obtain ⟨M, hM⟩ : ∃ M, (flat (.mk x l)).length = M + 1 := ⟨(flat (.mk x l)).length - 1, by omega⟩
  rw [hM] at c0 c1 c2 c3
  simp only [Nat.add_sub_cancel] at c0 c1 c2 c3
  have hM0 : (0 : Int) ≤ (M : Int) := by omega
  have hM4 : (M : Int) ≤ 4000 := by omega
  have hMi : ((M : Int) + 1 - 1) = (M : Int) := by omega
  have hk := rightB_k hx
  obtain ⟨w1, hw1⟩ : ∃ w1, w1 = (w.alloc (.cells #[.pointer (some ⟨pb, 0, none⟩)] 41)).alloc (.cells #[.int .i64 x.k, .int .i64 x.n, .int .i64 x.m, .string x.s] 38) := ⟨_, rfl⟩
  have hU1 : Under w w1 := by rw [hw1]; exact under_alloc (under_alloc (Under.refl w) _) _
  have hB1 : BoxAt w1 w.heap.size 41 #[.pointer (some ⟨pb, 0, none⟩)] := by rw [hw1]; exact (box_new w _ _).alloc _
  have hB2 : BoxAt w1 (w.heap.size + 1) 38 #[.int .i64 x.k, .int .i64 x.n, .int .i64 x.m, .string x.s] := by
    have := box_new (w.alloc (.cells #[.pointer (some ⟨pb, 0, none⟩)] 41)) #[.int .i64 x.k, .int .i64 x.n, .int .i64 x.m, .string x.s] 38
    rw [World.size_alloc] at this
    rw [hw1]
    exact this
  have hP1 := hP.under hU1
  have d0 : w1.cell? ⟨w.heap.size, 0, none⟩ = some (.pointer (some ⟨pb, 0, none⟩)) := hB1.cell 0
  have d1 : w1.cell? ⟨pb, 0, none⟩ = some (.map (some hq)) := hP1.box.cell 0
  have d2 : w1.cell? ⟨w.heap.size + 1, 0, none⟩ = some (.int .i64 x.k) := hB2.cell 0
  have d3 : MapIAt w1 hq headsL := hP1.heads
  have hsz1 : w1.heap.size = w.heap.size + 2 := by rw [hw1]; simp
  have HFd := head_field
  have HLk := fun (w' : World) (h : MapIAt w' hq headsL) => heads_look h hk.1 hk.2
  rw [hM]
  have HU1 := Lib.hid hU1
  have HB1 := Lib.hid hB1
  have HB2 := Lib.hid hB2
  have HP1 := Lib.hid hP1
  have HP := Lib.hid hP
  have HT0 := Lib.hid hT
  have dd := And.intro d0 (And.intro d1 (And.intro d2 d3))
  have HK := Lib.hid hk
  have HIn := Lib.hid hin
  have HLen := Lib.hid hlen
  have HL8 := Lib.hid hl8
  have HBr := Lib.hid hbr
  have HB22b := Lib.hid hb2
  have HX := Lib.hid hx
  have HSS := Lib.hid hss
  have HW := Lib.hid hW
  have HS := Lib.hid hS
  have HFl := Lib.hid hfl
  have HSt := Lib.hid hst
  have HHa := Lib.hid ha
  have HM := Lib.hid hM
  rw [hM] at hc hsl HAr hn
  have HSl := Lib.hid hsl
  have HN4 := Lib.hid hn
  clear hte hr hok hin hst hss hA hT hS hW hP hU1 hB1 hB2 hP1 hpos hn hM hp0 hx hd d0 d1 d2 d3 hk hsl hlen hl8 hbr hb2 hfl ha ih
  obtain ⟨ta, tb', hlab⟩ : ∃ ta tb', l = [ta, tb'] := by
    have h2 : l.length = 2 := by rw [HLen.out, hb01]; rfl
    match l, h2 with
    | [a, b], _ => exact ⟨a, b, rfl⟩
  obtain ⟨nm, hnm⟩ : ∃ nm, nm = nameN (freshN (av ++ st) st.length) := ⟨_, rfl⟩
  have HT : RowKit.Hid (sayT av (.mk x l) st = 40 :: Lib.join ([wordsB x, nm, ⟨(sayT av ta st).toArray⟩, ⟨(sayT av tb' (st ++ [nm])).toArray⟩].map (·.data.toList)) [32] ++ [41]) := Lib.hid (by
    rw [hlab, hnm]
    exact say_first g0 g1 g2 fp (by simp [firstK, g4]) fs hb01 (by simpa using f26))
  have HNm := Lib.hid hnm
  have HLab := Lib.hid hlab
  have HB01 := Lib.hid hb01
  have fl : ((l.length : Int) == 0) = false := by rw [hlab]; rfl
  clear hnm hlab hb01
  have HWd : RowKit.Hid (headB x.k.toNat = wordsB x) := Lib.hid (by unfold wordsB; rw [if_neg (by have := f3; have := f6; simp at *; omega)])
  rw [HWd.out] at HLk
  generalize wordsB x = W at *
  subst hw1
  clear g0 g1 g2 g4 fp HWd HX
  obtain ⟨k, n, m, s⟩ := x
  simp only at *
  go_enter Tryz.func21, Tryz.ntmps21
  go_wp2_with fail
  go_region_held3 (fun w' => w'.cell? ⟨w.heap.size, 0, none⟩ = some (.pointer (some ⟨pb, 0, none⟩)) ∧ w'.cell? ⟨pb, 0, none⟩ = some (.map (some hq)) ∧ w'.cell? ⟨w.heap.size + 1, 0, none⟩ = some (.int .i64 k) ∧ MapIAt w' hq headsL)
    (first
      | exact dd
      | go_keep)
    (fail)
  rename_i hHeld
  clear dd hHeld HLk HFd c0 c1 c2 c3
  go_wp2_with fail
  refine (HBn.out _ (HU1.out.trans (under_drew (Under.refl _)))).mono ?_
  rintro e w2 ⟨vb, rfl, hrb, hU2⟩
  rw [HBr.out] at hrb
  have HU2 := Lib.hid ((HU1.out.trans (under_drew (Under.refl _))).trans hU2)
  have HB12 := Lib.hid (HB1.out.under ((under_drew (Under.refl _)).trans hU2))
  have hB22 := HB2.out.under ((under_drew (Under.refl _)).trans hU2)
  have HB22 := Lib.hid hB22
  have HRb := Lib.hid hrb
  obtain ⟨qb, cb, rfl, _, _⟩ := RowArg.of_own hrb
  rw [← HLen.out]
  have e3 : w2.cell? ⟨w.heap.size + 1, 3, none⟩ = some (.string s) := hB22.cell 3
  have e1 : w2.cell? ⟨w.heap.size + 1, 1, none⟩ = some (.int .i64 n) := hB22.cell 1
  have e0 : w2.cell? ⟨w.heap.size + 1, 0, none⟩ = some (.int .i64 k) := hB22.cell 0
  have el := hB22.lt
  have hU3 : Under w2 ((w2.alloc (.cells #[.string W] 9)).alloc (.cells #[.slice (some ⟨w2.heap.size, 0, none⟩) 1 1] 23)) := under_alloc (under_alloc (Under.refl _) _) _
  have hB3 := hB22.under hU3
  have m3 : ((w2.alloc (.cells #[.string W] 9)).alloc (.cells #[.slice (some ⟨w2.heap.size, 0, none⟩) 1 1] 23)).cell? ⟨w.heap.size + 1, 3, none⟩ = some (.string s) := hB3.cell 3
  have m1 : ((w2.alloc (.cells #[.string W] 9)).alloc (.cells #[.slice (some ⟨w2.heap.size, 0, none⟩) 1 1] 23)).cell? ⟨w.heap.size + 1, 1, none⟩ = some (.int .i64 n) := hB3.cell 1
  have m0 : ((w2.alloc (.cells #[.string W] 9)).alloc (.cells #[.slice (some ⟨w2.heap.size, 0, none⟩) 1 1] 23)).cell? ⟨w.heap.size + 1, 0, none⟩ = some (.int .i64 k) := hB3.cell 0
  have ml := hB3.lt
  have hL3 := box_new (w2.alloc (.cells #[.string W] 9)) #[.slice (some ⟨w2.heap.size, 0, none⟩) 1 1] 23
  rw [World.size_alloc] at hL3
  have l0 : ((w2.alloc (.cells #[.string W] 9)).alloc (.cells #[.slice (some ⟨w2.heap.size, 0, none⟩) 1 1] 23)).cell? ⟨w2.heap.size + 1, 0, none⟩ = some (.slice (some ⟨w2.heap.size, 0, none⟩) 1 1) := hL3.cell 0
  have ll := hL3.lt
  have hz2 : w.heap.size ≤ w2.heap.size := HU2.out.size
  have hbs : W0.heap.size ≤ w2.heap.size := (HP.out.und.trans HU2.out).size
  have hR3 := row_under (own_one w2 W0.heap.size 9 (.string W) hbs) (under_alloc (Under.refl _) (.cells #[.slice (some ⟨w2.heap.size, 0, none⟩) 1 1] 23))
  have hv3 : ∀ i, (Value.slice (some ⟨w2.heap.size, 0, none⟩) 1 1).ownBlock = some i → w2.heap.size ≤ i := fun i h => by cases h; exact Nat.le_refl _
  have HU23 := Lib.hid hU3
  have HL3 := Lib.hid hL3
  have HR3 := Lib.hid hR3
  have HV3 := Lib.hid hv3
  clear hrb hU2 hB22 hU3 hB3 hL3 hR3 hv3
  go_wp2_with fail
  refine (HAr.out _ (HU2.out.trans HU23.out)).mono ?_
  clear e3 e1 e0 el m3 m1 m0 ml l0 ll
  generalize ((w2.alloc (.cells #[.string W] 9)).alloc (.cells #[.slice (some ⟨w2.heap.size, 0, none⟩) 1 1] 23)) = w3 at HU23 HL3 HR3 ⊢
  rintro e w4 ⟨vr, vs, rfl, hU4, hvr, hz⟩
  have HU3 := Lib.hid (HU2.out.trans HU23.out)
  have HU4 := Lib.hid (HU3.out.trans hU4)
  have HU24 := Lib.hid (HU23.out.trans hU4)
  have h0 : WdI W0 w4 pb hq tb (w2.heap.size + 1) ks st sv (.slice (some ⟨w2.heap.size, 0, none⟩) 1 1) [W] sv (.slice (some ⟨w2.heap.size, 0, none⟩) 1 1) w4 := ⟨HP.out.under HU4.out, HL3.out.under hU4, row_under HR3.out hU4, by
    cases ho : ((.slice (some ⟨w2.heap.size, 0, none⟩) 1 1) : Value).ownBlock with
    | none => exact .inl rfl
    | some g =>
      right
      intro e
      have h1 := (row_lt HP.out.row (g := g) e.symm).2
      have h2 := HV3.out g ho
      omega, by omega, Ch.refl _, fun b _ e => e, fun b _ e => e⟩
  have H0 := Lib.hid h0
  have HB14 := Lib.hid (HB12.out.under HU24.out)
  have HB24 := Lib.hid (HB22.out.under HU24.out)
  have HRb4 := Lib.hid (row_under HRb.out HU24.out)
  have HVr := Lib.hid hvr
  have HZ := Lib.hid hz
  have hbase := HU4.out.size
  have hvl : vs.length = l.length := by have := hvr.1; omega
  obtain ⟨qp, cp, rfl, _, _⟩ := RowArg.of_own hvr
  have HVl := Lib.hid hvl
  have HLb := Lib.hid (show w.heap.size ≤ w2.heap.size + 1 by omega)
  have HLv := Lib.hid (fun i (h : ((.slice (some ⟨w2.heap.size, 0, none⟩) 1 1) : Value).ownBlock = some i) => (show w.heap.size ≤ i from Nat.le_trans hz2 (HV3.out i h)))
  have HB34 := Lib.hid (show W0.heap.size ≤ w3.heap.size from (HP.out.und.trans HU3.out).size)
  clear h0 hvr hz hU4 hvl HB12 HB22 HU23 HRb HL3 HR3
  go_wp2
  go_loopw [130] (fun i wr => WdRel W0 w4 pb hq tb (w2.heap.size + 1) ks st av sv (.slice (some ⟨w2.heap.size, 0, none⟩) 1 1) l (binds ⟨k, n, m, s⟩) [W] i wr) (fun i _ => l.length - (intOf i).toNat)
  case atStart => exact ⟨0, [], sv, (.slice (some ⟨w2.heap.size, 0, none⟩) 1 1), Nat.zero_le _, rfl, Nat.zero_le _, rfl, by rw [List.append_nil]; exact H0.out⟩
  case round =>
    obtain ⟨j, os, sv', lv', hj, rfl, hos, hpa, hI⟩ := hrel
    have HI := Lib.hid hI
    have HPa := Lib.hid hpa
    have HOs := Lib.hid hos
    have hj0 : (0 : Int) ≤ (j : Int) := by omega
    have hj8 : l.length ≤ 8 := by rw [HLen.out]; exact HL8.out
    clear hpa hos
    by_cases hjl : j < l.length
    · have hjb : j < (binds ⟨k, n, m, s⟩).length := by rw [← HLen.out]; exact hjl
      have hjl' : (j : Int) < (l.length : Int) := by omega
      have hjv : j < vs.length := by rw [HVl.out]; exact hjl
      have hrv := HI.out.row H0.out HVr.out (by decide) (by decide) (by decide)
      obtain ⟨gp, cp', ep, hgp, _, hgl, _, _⟩ := row_block hrv (by omega)
      obtain ⟨rfl, rfl⟩ : qp = some ⟨gp, 0, none⟩ ∧ cp = cp' := by cases ep; exact ⟨rfl, rfl⟩
      clear ep
      have v0 := row_cell hrv hgp (List.getElem?_eq_getElem hjv)
      have hrb := HI.out.row H0.out HRb4.out (by decide) (by decide) (by decide)
      obtain ⟨gb, cb', eb, hgb, _, hbl, _, _⟩ := row_block hrb (by omega)
      rw [← HLen.out] at eb
      obtain ⟨rfl, rfl⟩ : qb = some ⟨gb, 0, none⟩ ∧ cb = cb' := by cases eb; exact ⟨rfl, rfl⟩
      clear eb
      have hbi := intsN_at (List.getElem?_eq_getElem hjb)
      have hpart := row_base (HI.out.row H0.out (HZ.out.2 j _ _ (List.getElem?_eq_getElem hjv) (List.getElem?_eq_getElem hjl)) (by decide) (by decide) (by decide)) (base' := W0.heap.size) HB34.out
      have HPt := Lib.hid hpart
      have hin := inTs_at hjl hjb HIn.out
      have hb2 := HB22b.out _ (List.getElem_mem hjb)
      have hfp := flat_part (List.getElem_mem hjl)
      have HPl := Lib.hid (partsL_at (av := av) (st := st) hjl hjb)
      have HQ := HUn.out _ (List.getElem_mem hjl) (binds ⟨k, n, m, s⟩)[j]
      generalize hTT : l[j] = T at *
      generalize (binds ⟨k, n, m, s⟩)[j] = bj at *
      generalize vs[j] = xv at *
      obtain ⟨qx, cx, rfl, _, _⟩ := RowArg.of_own hpart
      have hbj0 : (0 : Int) ≤ (bj : Int) := by omega
      obtain ⟨W5, hW5⟩ : ∃ W5, W5 = ((wr.alloc (.cells #[.slice qx (flat T).length cx] 22)).alloc (.cells #[(.func (.func 37) #[] #[.pointer (some ⟨w2.heap.size + 1, 0, none⟩), .pointer (some ⟨w.heap.size, 0, none⟩), .pointer (some ⟨wr.heap.size, 0, none⟩), .pointer (some ⟨wr.heap.size + 1, 0, none⟩)])] 58)).drew := ⟨_, rfl⟩
      have hU5 : Under wr W5 := by rw [hW5]; exact under_drew (under_alloc (under_alloc (Under.refl _) _) _)
      have hUn : UnS W0 ⟨pb, hq, tb, w2.heap.size + 1, w.heap.size, wr.heap.size, wr.heap.size + 1⟩ ks st sv' ([W] ++ os) lv' (.slice qx (flat T).length cx) T W5 := by
        refine ⟨HI.out.pr.under hU5, HI.out.lbx.under hU5, row_under HI.out.lrow hU5, HI.out.apart, (HI.out.box H0.out HB14.out (by decide) (by decide) (by decide)).under hU5, ?_, ?_, row_under HPt.out hU5, HI.out.lo⟩
        · rw [hW5]; exact ((box_new wr _ _).alloc _).drew
        · rw [hW5]
          have := box_new (wr.alloc (.cells #[.slice qx (flat T).length cx] 22)) #[(.func (.func 37) #[] #[.pointer (some ⟨w2.heap.size + 1, 0, none⟩), .pointer (some ⟨w.heap.size, 0, none⟩), .pointer (some ⟨wr.heap.size, 0, none⟩), .pointer (some ⟨wr.heap.size + 1, 0, none⟩)])] 58
          rw [World.size_alloc] at this
          exact this.drew
      have HC := Lib.hid (HQ W0 W5 ⟨pb, hq, tb, w2.heap.size + 1, w.heap.size, wr.heap.size, wr.heap.size + 1⟩ ks st av ([W] ++ os) sv' lv' _ HW.out HS.out hUn HT0.out HHa.out (by have := HSt.out; have := HFl.out; omega) (by have := HOs.out; simp; omega) HSS.out hin)
      have u0 : W5.cell? ⟨wr.heap.size + 1, 0, none⟩ = some (.func (.func 37) #[] #[.pointer (some ⟨w2.heap.size + 1, 0, none⟩), .pointer (some ⟨w.heap.size, 0, none⟩), .pointer (some ⟨wr.heap.size, 0, none⟩), .pointer (some ⟨wr.heap.size + 1, 0, none⟩)]) := hUn.ubx.cell 0
      have b5 : W5.cell? ⟨gb, j, none⟩ = some (.int .i64 (bj : Int)) := row_cell (row_under hrb hU5) hgb hbi
      have tt := And.intro u0 b5
      have HBi := Lib.hid hbi
      have hb2' := hb2
      have HUn5 := Lib.hid hUn
      have HU5 := Lib.hid hU5
      have HE5 := Lib.hid hW5
      clear u0 b5 hrb hUn hU5 hpart hrv hbi hin HQ hb2 hfp hgb hgp hW5
      subst hTT
      go_wp2_with fail
      rw [HE5.out] at tt
      go_region_held3 (fun w' => w'.cell? ⟨wr.heap.size + 1, 0, none⟩ = some (.func (.func 37) #[] #[.pointer (some ⟨w2.heap.size + 1, 0, none⟩), .pointer (some ⟨w.heap.size, 0, none⟩), .pointer (some ⟨wr.heap.size, 0, none⟩), .pointer (some ⟨wr.heap.size + 1, 0, none⟩)]) ∧ w'.cell? ⟨gb, j, none⟩ = some (.int .i64 (bj : Int)))
        (first
          | exact tt
          | go_keep
          | exact ⟨q0, q1⟩)
        ((go_simp; go_at_call 37; rw [← HE5.out]; refine HC.out.mono ?_; rintro e w6 ⟨⟨v6, rfl⟩, sv6, lv6, hU6, hC6, hO6, hL6⟩
          have q0 : w6.cell? ⟨wr.heap.size + 1, 0, none⟩ = some (.func (.func 37) #[] #[.pointer (some ⟨w2.heap.size + 1, 0, none⟩), .pointer (some ⟨w.heap.size, 0, none⟩), .pointer (some ⟨wr.heap.size, 0, none⟩), .pointer (some ⟨wr.heap.size + 1, 0, none⟩)]) := hU6.ubx.cell 0
          have HW6 := Lib.hid ((HI.out.und HU5.out).step hU6 rfl rfl rfl rfl hC6 hO6 hL6)
          have q1 : w6.cell? ⟨gb, j, none⟩ = some (.int .i64 (bj : Int)) := row_cell (HW6.out.row H0.out HRb4.out (by decide) (by decide) (by decide)) rfl HBi.out))
      rename_i hHeld
      clear hHeld q0 q1 tt hU6 hC6 hO6 hL6
      go_wp2
      go_roundw
      case rel =>
        refine ⟨j + 1, os ++ bindN av st bj ++ [⟨(sayT av l[j] (st ++ bindN av st bj)).toArray⟩], sv6, lv6, by omega, by go_num, ?_, ?_, ?_⟩
        · have := HOs.out
          rw [List.length_append, List.length_append, bindN_len, List.length_singleton]
          omega
        · rw [HPa.out, HPl.out]
          simp
        · have := HW6.out
          simp only [List.append_assoc] at this ⊢
          exact this
      case measure => simp [intOf]; omega
    · obtain rfl : j = l.length := by omega
      have hos : os = partsL av l (binds ⟨k, n, m, s⟩) st := by rw [HPa.out, List.drop_length]; simp [partsL]
      rw [HB01.out, HLab.out] at hos
      obtain ⟨g9, c9, e9, hg9, _, hl9, hc9, _⟩ := row_block HI.out.lrow (by simp)
      subst e9
      have hos3 : os = [⟨(sayT av ta st).toArray⟩, nm, ⟨(sayT av tb' (st ++ [nm])).toArray⟩] := by rw [hos, HNm.out]; simp [partsL, bindN]
      generalize hTA : (⟨(sayT av ta st).toArray⟩ : ByteArray) = TA at hos3 HT
      generalize hTB : (⟨(sayT av tb' (st ++ [nm])).toArray⟩ : ByteArray) = TB at hos3 HT
      subst hos3
      have hrow := HI.out.lrow
      have z0 : wr.cell? ⟨w2.heap.size + 1, 0, none⟩ = some (.slice (some ⟨g9, 0, none⟩) 4 c9) := HI.out.lbx.cell 0
      have z1 := HI.out.lbx.lt
      have hnb := HI.out.box H0.out HB24.out (by decide) (by decide) (by decide)
      have z4 : wr.cell? ⟨w.heap.size + 1, 0, none⟩ = some (.int .i64 k) := hnb.cell 0
      have z5 := hnb.lt
      have y1 : wr.cell? ⟨g9, 1, none⟩ = some (.string TA) := row_cell hrow rfl rfl
      have y2 : wr.cell? ⟨g9, 2, none⟩ = some (.string nm) := row_cell hrow rfl rfl
      have y3 := row_free hrow (g := g9) rfl 1
      have y4 := row_free hrow (g := g9) rfl 2
      have y5 : g9 < wr.heap.size := (row_lt hrow rfl).2
      have hne : w2.heap.size + 1 ≠ g9 := fun e => box_own_ne HI.out.lbx hrow (by decide) (by rw [e]; rfl)
      have HNe := Lib.hid hne
      have i1 : (1 : Int) < 4 := by omega
      go_wp2_with fail
      have hrow1 := row_set hrow (g := g9) rfl (j := 1) (by simp) (.string nm)
      have y6 : (wr.setCell ⟨g9, 1, none⟩ (.string nm)).cell? ⟨g9, 2, none⟩ = some (.string nm) := row_cell hrow1 rfl rfl
      have y7 := row_free hrow1 (g := g9) rfl 2
      have y8 := (row_lt hrow1 (g := g9) rfl).2
      have hrow2 := row_set hrow1 (g := g9) rfl (j := 2) (by simp) (.string TA)
      have HR2 := Lib.hid hrow2
      have hl1 := HI.out.lbx.other hne 1 (.string nm)
      have hl2 := hl1.other hne 2 (.string TA)
      have HL2 := Lib.hid hl2
      refine wp_region_noPanic ?_
      refine wp_region_held_drew (S := fun w' => w'.cell? ⟨w2.heap.size + 1, 0, none⟩ = some (.slice (some ⟨g9, 0, none⟩) 4 c9)) (by kernel_rfl) z0 (fun hHeld => ?_)
      refine wpAnyH_take (i := 0) (v := ?v0) rfl (by kernel_rfl) (by kernel_rfl) (by kernel_rfl) (fun _ _ _ h => h) (Or.inl ⟨by (first | kernel_rfl | rfl), ?hy0⟩) (by assumption) ?rest0
      case hy0 => (intro w hSw; (try dsimp only at hSw); go_simp; try with_reducible rfl)
      try simp only [Act.put, List.setIfInBounds_toArray, List.set_cons_zero, List.set_cons_succ]
      refine wpAnyH_take (i := 1) (v := ?v1) rfl (by kernel_rfl) (by kernel_rfl) (by kernel_rfl) (fun _ _ _ h => h) (Or.inl ⟨by (first | kernel_rfl | rfl), ?hy1⟩) (by assumption) ?rest1
      case hy1 => (intro w hSw; (try dsimp only at hSw); go_simp; try with_reducible rfl)
      try simp only [Act.put, List.setIfInBounds_toArray, List.set_cons_zero, List.set_cons_succ]
      refine wpAnyH_take (i := 2) (v := ?v2) rfl (by kernel_rfl) (by kernel_rfl) (by kernel_rfl) (fun _ _ _ h => h) (Or.inl ⟨by (first | kernel_rfl | rfl), ?hy2⟩) (by assumption) ?rest2
      case hy2 => (intro w hSw; (try dsimp only at hSw); go_simp; try with_reducible rfl)
      try simp only [Act.put, List.setIfInBounds_toArray, List.set_cons_zero, List.set_cons_succ]
      refine wpAnyH_take (i := 3) (v := ?v3) rfl (by kernel_rfl) (by kernel_rfl) (by kernel_rfl) (fun _ _ _ h => h) (Or.inl ⟨by (first | kernel_rfl | rfl), ?hy3⟩) (by assumption) ?rest3
      case hy3 => (intro w hSw; (try dsimp only at hSw); go_simp; try with_reducible rfl)
      try simp only [Act.put, List.setIfInBounds_toArray, List.set_cons_zero, List.set_cons_succ]
      refine wpAnyH_take (i := 5) (v := ?v5) rfl (by kernel_rfl) (by kernel_rfl) (by kernel_rfl) (fun _ _ _ h => h) (Or.inl ⟨by (first | kernel_rfl | rfl), ?hy5⟩) (by assumption) ?rest5
      case hy5 => (intro w hSw; (try dsimp only at hSw); go_simp; try with_reducible rfl)
      try simp only [Act.put, List.setIfInBounds_toArray, List.set_cons_zero, List.set_cons_succ]
      refine wpAnyH_take (i := 6) (v := ?v6) rfl (by kernel_rfl) (by kernel_rfl) (by kernel_rfl) (fun _ _ _ h => h) (Or.inl ⟨by (first | kernel_rfl | rfl), ?hy6⟩) (by assumption) ?rest6
      case hy6 => (intro w hSw; (try dsimp only at hSw); go_simp; try with_reducible rfl)
      try simp only [Act.put, List.setIfInBounds_toArray, List.set_cons_zero, List.set_cons_succ]
      refine wpAnyH_ready (rs := [4, 7]) (by kernel_rfl) (by simp) ?_
      refine AllReadyH.cons rfl (fun K hK => ?_) (AllReadyH.cons rfl (fun K hK => ?_) AllReadyH.nil)
      · go_simp
        refine hK.out _ _ hHeld (fun hHeld' => ?_)
        clear hK K hHeld
        have hHeld := hHeld'
        clear hHeld'
        try simp only [Act.put, List.setIfInBounds_toArray, List.set_cons_zero, List.set_cons_succ]
        refine wpAnyH_ready (rs := [7]) (by kernel_rfl) (by simp) ?_
        refine AllReadyH.cons rfl (fun K hK => ?_) AllReadyH.nil
        go_simp
        refine hK.out _ _ hHeld (fun hHeld' => ?_)
        clear hK K hHeld
        have hHeld := hHeld'
        clear hHeld'
        try simp only [Act.put, List.setIfInBounds_toArray, List.set_cons_zero, List.set_cons_succ]
        refine wpAnyH_take (i := 8) (v := ?v8a) rfl (by kernel_rfl) (by kernel_rfl) (by kernel_rfl) (fun _ _ _ h => h) (Or.inl ⟨by (first | kernel_rfl | rfl), ?hy8a⟩) (by assumption) ?rest8a
        case hy8a => (intro w hSw; (try dsimp only at hSw); go_simp; try with_reducible rfl)
        try simp only [Act.put, List.setIfInBounds_toArray, List.set_cons_zero, List.set_cons_succ]
        refine wpAnyH_ready (rs := [9]) (by kernel_rfl) (by simp) ?_
        refine AllReadyH.cons rfl (fun K hK => ?_) AllReadyH.nil
        go_simp
        refine hK.out _ _ (by exact hl1.cell 0) (fun hHeld' => ?_)
        clear hK K hHeld
        have hHeld := hHeld'
        clear hHeld'
        try simp only [Act.put, List.setIfInBounds_toArray, List.set_cons_zero, List.set_cons_succ]
        refine wpAnyH_take (i := 10) (v := ?v10a) rfl (by kernel_rfl) (by kernel_rfl) (by kernel_rfl) (fun _ _ _ h => h) (Or.inl ⟨by (first | kernel_rfl | rfl), ?hy10a⟩) (by assumption) ?rest10a
        case hy10a => (intro w hSw; (try dsimp only at hSw); go_simp; try with_reducible rfl)
        try simp only [Act.put, List.setIfInBounds_toArray, List.set_cons_zero, List.set_cons_succ]
        refine wpAnyH_ready (rs := [11]) (by kernel_rfl) (by simp) ?_
        refine AllReadyH.cons rfl (fun K hK => ?_) AllReadyH.nil
        go_simp
        refine hK.out _ _ (by exact hl2.cell 0) (fun hHeld' => ?_)
        clear hK K hHeld
        have hHeld := hHeld'
        clear hHeld'
        try simp only [Act.put, List.setIfInBounds_toArray, List.set_cons_zero, List.set_cons_succ]
        refine wpAnyH_done (by kernel_rfl) ?_ _
        refine NoPanic.normal ?_
        clear z0 z1 hnb z4 z5 y1 y2 y3 y4 y5 y6 y7 y8 hrow1 hrow2 hl1 hl2 hHeld i1
        have hW8 : Under ((wr.setCell ⟨g9, 1, none⟩ (.string nm)).setCell ⟨g9, 2, none⟩ (.string TA)) ((wr.setCell ⟨g9, 1, none⟩ (.string nm)).setCell ⟨g9, 2, none⟩ (.string TA)).drew := under_drew (Under.refl _)
        have hr8 := row_under HR2.out hW8
        have hb8 := HL2.out.under hW8
        have hc8 : Ch (fun i => (Value.slice (some ⟨g9, 0, none⟩) 4 c9).ownBlock = some i) wr ((wr.setCell ⟨g9, 1, none⟩ (.string nm)).setCell ⟨g9, 2, none⟩ (.string TA)).drew := (((Ch.refl (C := fun i => (Value.slice (some ⟨g9, 0, none⟩) 4 c9).ownBlock = some i) wr).set (g := g9) (fun _ => rfl) 1 _).set (g := g9) (fun _ => rfl) 2 _).under hW8
        have HPJ := Lib.hid (pr_set HI.out.pr HI.out.lrow HI.out.apart hc8)
        have HCJ := Lib.hid (((Ch.of_under HU4.out).trans HI.out.ch (D := fun b => PrC pb tb sv b ∨ b = w2.heap.size + 1 ∨ ((.slice (some ⟨w2.heap.size, 0, none⟩) 1 1) : Value).ownBlock = some b) (C := PrC pb tb sv) (fun i hi h => by
          rcases h with h | h | h
          · exact h
          · have := HLb.out; omega
          · have := HLv.out i h; omega)).trans hc8 (fun i hi h => by
          have h1 := HI.out.lown i (by have := HU4.out.size; omega) h
          have := HLv.out i h1
          omega))
        have x0 : ((wr.setCell ⟨g9, 1, none⟩ (.string nm)).setCell ⟨g9, 2, none⟩ (.string TA)).drew.cell? ⟨w2.heap.size + 1, 0, none⟩ = some (.slice (some ⟨g9, 0, none⟩) 4 c9) := hb8.cell 0
        have x1 := hb8.lt
        have hJ : ∀ jj u, [W, nm, TA, TB][jj]? = some u → ((wr.setCell ⟨g9, 1, none⟩ (.string nm)).setCell ⟨g9, 2, none⟩ (.string TA)).drew.cell? ⟨g9, 0 + jj, none⟩ = some (.string u) := fun jj u hu => by
          rw [Nat.zero_add]
          refine row_cell hr8 rfl ?_
          show ([W, nm, TA, TB].map Value.string)[jj]? = _
          rw [List.getElem?_map, hu]
          rfl
        have HTs := HT.out
        obtain ⟨J, hJd⟩ : ∃ J, J = Lib.join ([W, nm, TA, TB].map (·.data.toList)) (⟨#[32]⟩ : ByteArray).data.toList := ⟨_, rfl⟩
        have hTJ : sayT av (.mk ⟨k, n, m, s⟩ l) st = 40 :: J ++ [41] := by rw [HTs, hJd]
        have hJl : J.length + 2 ≤ 1000000 := by
          have h1 := HSl.out
          have h2 := HN4.out
          rw [hTJ] at h1
          simp at h1
          omega
        have HJc := Lib.hid (Tryz.strings_Join g9 0 c9 [W, nm, TA, TB] ⟨#[32]⟩ ((wr.setCell ⟨g9, 1, none⟩ (.string nm)).setCell ⟨g9, 2, none⟩ (.string TA)).drew hJ (row_lt hr8 rfl).2 (by simp) hc9 (by rw [← hJd]; omega))
        rw [← hJd] at HJc
        have HTJ := Lib.hid hTJ
        have z2 : ¬ 9223372036854775807 < 1 + J.toArray.size := by simp; omega
        have z3 : ¬ 9223372036854775807 < 1 + J.toArray.size + 1 := by simp; omega
        clear hos hJ HTs hJd hTJ hJl HT hW8 hr8 hb8 hc8
        go_wp2_with fail
        clear x0 x1
        refine HJc.out.mono ?_
        rintro e w7 ⟨rfl, hBl⟩
        have HU7 := Lib.hid (under_below hBl)
        clear hBl HJc
        go_wp2
        go_ret
        exact ⟨ret_str (by rw [HTJ.out]; exact ByteArray.ext (by simp)), sv', HPJ.out.under HU7.out, HCJ.out.under HU7.out, fun b hb e => HI.out.own b (by have := HU4.out.size; omega) e⟩
      · go_simp
        refine hK.out _ _ hHeld (fun hHeld' => ?_)
        clear hK K hHeld
        have hHeld := hHeld'
        clear hHeld'
        try simp only [Act.put, List.setIfInBounds_toArray, List.set_cons_zero, List.set_cons_succ]
        refine wpAnyH_ready (rs := [4]) (by kernel_rfl) (by simp) ?_
        refine AllReadyH.cons rfl (fun K hK => ?_) AllReadyH.nil
        go_simp
        refine hK.out _ _ hHeld (fun hHeld' => ?_)
        clear hK K hHeld
        have hHeld := hHeld'
        clear hHeld'
        try simp only [Act.put, List.setIfInBounds_toArray, List.set_cons_zero, List.set_cons_succ]
        refine wpAnyH_take (i := 8) (v := ?v8b) rfl (by kernel_rfl) (by kernel_rfl) (by kernel_rfl) (fun _ _ _ h => h) (Or.inl ⟨by (first | kernel_rfl | rfl), ?hy8b⟩) (by assumption) ?rest8b
        case hy8b => (intro w hSw; (try dsimp only at hSw); go_simp; try with_reducible rfl)
        try simp only [Act.put, List.setIfInBounds_toArray, List.set_cons_zero, List.set_cons_succ]
        refine wpAnyH_ready (rs := [9]) (by kernel_rfl) (by simp) ?_
        refine AllReadyH.cons rfl (fun K hK => ?_) AllReadyH.nil
        go_simp
        refine hK.out _ _ (by exact hl1.cell 0) (fun hHeld' => ?_)
        clear hK K hHeld
        have hHeld := hHeld'
        clear hHeld'
        try simp only [Act.put, List.setIfInBounds_toArray, List.set_cons_zero, List.set_cons_succ]
        refine wpAnyH_take (i := 10) (v := ?v10b) rfl (by kernel_rfl) (by kernel_rfl) (by kernel_rfl) (fun _ _ _ h => h) (Or.inl ⟨by (first | kernel_rfl | rfl), ?hy10b⟩) (by assumption) ?rest10b
        case hy10b => (intro w hSw; (try dsimp only at hSw); go_simp; try with_reducible rfl)
        try simp only [Act.put, List.setIfInBounds_toArray, List.set_cons_zero, List.set_cons_succ]
        refine wpAnyH_ready (rs := [11]) (by kernel_rfl) (by simp) ?_
        refine AllReadyH.cons rfl (fun K hK => ?_) AllReadyH.nil
        go_simp
        refine hK.out _ _ (by exact hl2.cell 0) (fun hHeld' => ?_)
        clear hK K hHeld
        have hHeld := hHeld'
        clear hHeld'
        try simp only [Act.put, List.setIfInBounds_toArray, List.set_cons_zero, List.set_cons_succ]
        refine wpAnyH_done (by kernel_rfl) ?_ _
        refine NoPanic.normal ?_
        clear z0 z1 hnb z4 z5 y1 y2 y3 y4 y5 y6 y7 y8 hrow1 hrow2 hl1 hl2 hHeld i1
        have hW8 : Under ((wr.setCell ⟨g9, 1, none⟩ (.string nm)).setCell ⟨g9, 2, none⟩ (.string TA)) ((wr.setCell ⟨g9, 1, none⟩ (.string nm)).setCell ⟨g9, 2, none⟩ (.string TA)).drew := under_drew (Under.refl _)
        have hr8 := row_under HR2.out hW8
        have hb8 := HL2.out.under hW8
        have hc8 : Ch (fun i => (Value.slice (some ⟨g9, 0, none⟩) 4 c9).ownBlock = some i) wr ((wr.setCell ⟨g9, 1, none⟩ (.string nm)).setCell ⟨g9, 2, none⟩ (.string TA)).drew := (((Ch.refl (C := fun i => (Value.slice (some ⟨g9, 0, none⟩) 4 c9).ownBlock = some i) wr).set (g := g9) (fun _ => rfl) 1 _).set (g := g9) (fun _ => rfl) 2 _).under hW8
        have HPJ := Lib.hid (pr_set HI.out.pr HI.out.lrow HI.out.apart hc8)
        have HCJ := Lib.hid (((Ch.of_under HU4.out).trans HI.out.ch (D := fun b => PrC pb tb sv b ∨ b = w2.heap.size + 1 ∨ ((.slice (some ⟨w2.heap.size, 0, none⟩) 1 1) : Value).ownBlock = some b) (C := PrC pb tb sv) (fun i hi h => by
          rcases h with h | h | h
          · exact h
          · have := HLb.out; omega
          · have := HLv.out i h; omega)).trans hc8 (fun i hi h => by
          have h1 := HI.out.lown i (by have := HU4.out.size; omega) h
          have := HLv.out i h1
          omega))
        have x0 : ((wr.setCell ⟨g9, 1, none⟩ (.string nm)).setCell ⟨g9, 2, none⟩ (.string TA)).drew.cell? ⟨w2.heap.size + 1, 0, none⟩ = some (.slice (some ⟨g9, 0, none⟩) 4 c9) := hb8.cell 0
        have x1 := hb8.lt
        have hJ : ∀ jj u, [W, nm, TA, TB][jj]? = some u → ((wr.setCell ⟨g9, 1, none⟩ (.string nm)).setCell ⟨g9, 2, none⟩ (.string TA)).drew.cell? ⟨g9, 0 + jj, none⟩ = some (.string u) := fun jj u hu => by
          rw [Nat.zero_add]
          refine row_cell hr8 rfl ?_
          show ([W, nm, TA, TB].map Value.string)[jj]? = _
          rw [List.getElem?_map, hu]
          rfl
        have HTs := HT.out
        obtain ⟨J, hJd⟩ : ∃ J, J = Lib.join ([W, nm, TA, TB].map (·.data.toList)) (⟨#[32]⟩ : ByteArray).data.toList := ⟨_, rfl⟩
        have hTJ : sayT av (.mk ⟨k, n, m, s⟩ l) st = 40 :: J ++ [41] := by rw [HTs, hJd]
        have hJl : J.length + 2 ≤ 1000000 := by
          have h1 := HSl.out
          have h2 := HN4.out
          rw [hTJ] at h1
          simp at h1
          omega
        have HJc := Lib.hid (Tryz.strings_Join g9 0 c9 [W, nm, TA, TB] ⟨#[32]⟩ ((wr.setCell ⟨g9, 1, none⟩ (.string nm)).setCell ⟨g9, 2, none⟩ (.string TA)).drew hJ (row_lt hr8 rfl).2 (by simp) hc9 (by rw [← hJd]; omega))
        rw [← hJd] at HJc
        have HTJ := Lib.hid hTJ
        have z2 : ¬ 9223372036854775807 < 1 + J.toArray.size := by simp; omega
        have z3 : ¬ 9223372036854775807 < 1 + J.toArray.size + 1 := by simp; omega
        clear hos hJ HTs hJd hTJ hJl HT hW8 hr8 hb8 hc8
        go_wp2_with fail
        clear x0 x1
        refine HJc.out.mono ?_
        rintro e w7 ⟨rfl, hBl⟩
        have HU7 := Lib.hid (under_below hBl)
        clear hBl HJc
        go_wp2
        go_ret
        exact ⟨ret_str (by rw [HTJ.out]; exact ByteArray.ext (by simp)), sv', HPJ.out.under HU7.out, HCJ.out.under HU7.out, fun b hb e => HI.out.own b (by have := HU4.out.size; omega) e⟩
end Go.Proofs.YtiibknlpeodejaaGreatDoor

/- pretty.(*printer).words: binders of types without a number, kind 3. Printed by pwords.py. -/
namespace Go.Proofs.YtiibknlpeodejaaGreatDoor
open Go.Lx Go.RowKit
attribute [local go_sem] store_func

set_option maxRecDepth 100000 in
set_option maxHeartbeats 2000000 in
theorem words_three0 (x : Nd) (l : List Tm) (f0 : (x.k == 0) = false) (f1 : (x.k == 1) = false) (f2 : (x.k == 2) = false) (fp : plainK x = false) (f3 : (x.k == 3) = true) (fn : x.n = 0) (ih : ∀ a ∈ l, WordsOk a) : WordsOk (.mk x l) := by
  obtain ⟨i0, hi, hz0, hz1, hz2'⟩ := info_parts Tryz.infoStrZ
  have g0 : x.k ≠ 0 := by simpa using f0
  have g1 : x.k ≠ 1 := by simpa using f1
  have g2 : x.k ≠ 2 := by simpa using f2
  have g4 : x.k = 3 := by simpa using f3
  have f26 : (x.k == 26) = false := by rw [g4]; rfl
  have hb01 : binds x = [0, 1] := by simp [binds, g4, bindsOf]
  rintro hok hd hn W0 w pb hq tb ks st av sv tv hW hS hP hT hv hA ha hst hss hin
  have hx := hok.1
  have hte : (flat (.mk x l))[(flat (.mk x l)).length - 1]? = some x := by rw [flat]; simp
  have hpos : 1 ≤ (flat (.mk x l)).length := by rw [flat]; simp
  have hsl := sayT_len av (by omega) (.mk x l) hok st hss (by omega)
  have hlen := hok.2.1
  have hl8 := binds_len hx
  have hbr : (if rightB x then binds x else []) = binds x := if_pos hx
  have hb2 : ∀ b ∈ binds x, b ≤ 2 := fun b hb => by have := bindsR_le (x := x); unfold bindsR at this; rw [hbr] at this; exact this b hb
  unfold inT at hin
  rw [if_neg (by omega)] at hin
  obtain ⟨p, c, rfl, hc, hp0, hr⟩ := hv
  obtain ⟨b, off, rfl, hb, c0, c1, c2, c3⟩ := RowArg.node hr hte
  have HAr := Lib.hid (fun w1 (hU : Under w w1) => args_any (w0 := w1) x l (t := flat (.mk x l)) (b := b) (off := off) (c := c) rfl hok hd hn hc (hr.under hU) ((hS.under hP.und).under hU))
  have HBn := Lib.hid (fun w1 (hU : Under w w1) => binds_any (w0 := w1) x (by have := rightB_s hx; simp only [maxLen]; omega) ((hS.under hP.und).under hU))
  have HUn := Lib.hid (fun a (ha' : a ∈ l) => under_any a (okTs_mem.1 hok.2.2 a ha') (Nat.le_trans (deep_part ha') hd) (by have := flat_part ha'; rw [flat, List.length_append] at hn; omega) (ih a ha'))
  have hfl : (flat (.mk x l)).length = (flats l).length + 1 := by rw [flat]; simp
  obtain ⟨M, hM⟩ : ∃ M, (flat (.mk x l)).length = M + 1 := ⟨(flat (.mk x l)).length - 1, by omega⟩
  rw [hM] at c0 c1 c2 c3
  simp only [Nat.add_sub_cancel] at c0 c1 c2 c3
  have hM0 : (0 : Int) ≤ (M : Int) := by omega
  have hM4 : (M : Int) ≤ 4000 := by omega
  have hMi : ((M : Int) + 1 - 1) = (M : Int) := by omega
  have hk := rightB_k hx
  obtain ⟨w1, hw1⟩ : ∃ w1, w1 = (w.alloc (.cells #[.pointer (some ⟨pb, 0, none⟩)] 41)).alloc (.cells #[.int .i64 x.k, .int .i64 x.n, .int .i64 x.m, .string x.s] 38) := ⟨_, rfl⟩
  have hU1 : Under w w1 := by rw [hw1]; exact under_alloc (under_alloc (Under.refl w) _) _
  have hB1 : BoxAt w1 w.heap.size 41 #[.pointer (some ⟨pb, 0, none⟩)] := by rw [hw1]; exact (box_new w _ _).alloc _
  have hB2 : BoxAt w1 (w.heap.size + 1) 38 #[.int .i64 x.k, .int .i64 x.n, .int .i64 x.m, .string x.s] := by
    have := box_new (w.alloc (.cells #[.pointer (some ⟨pb, 0, none⟩)] 41)) #[.int .i64 x.k, .int .i64 x.n, .int .i64 x.m, .string x.s] 38
    rw [World.size_alloc] at this
    rw [hw1]
    exact this
  have hP1 := hP.under hU1
  have d0 : w1.cell? ⟨w.heap.size, 0, none⟩ = some (.pointer (some ⟨pb, 0, none⟩)) := hB1.cell 0
  have d1 : w1.cell? ⟨pb, 0, none⟩ = some (.map (some hq)) := hP1.box.cell 0
  have d2 : w1.cell? ⟨w.heap.size + 1, 0, none⟩ = some (.int .i64 x.k) := hB2.cell 0
  have d3 : MapIAt w1 hq headsL := hP1.heads
  have hsz1 : w1.heap.size = w.heap.size + 2 := by rw [hw1]; simp
  have HFd := head_field
  have HLk := fun (w' : World) (h : MapIAt w' hq headsL) => heads_look h hk.1 hk.2
  rw [hM]
  have HU1 := Lib.hid hU1
  have HB1 := Lib.hid hB1
  have HB2 := Lib.hid hB2
  have HP1 := Lib.hid hP1
  have HP := Lib.hid hP
  have HT0 := Lib.hid hT
  have dd := And.intro d0 (And.intro d1 (And.intro d2 d3))
  have HK := Lib.hid hk
  have HIn := Lib.hid hin
  have HLen := Lib.hid hlen
  have HL8 := Lib.hid hl8
  have HBr := Lib.hid hbr
  have HB22b := Lib.hid hb2
  have HX := Lib.hid hx
  have HSS := Lib.hid hss
  have HW := Lib.hid hW
  have HS := Lib.hid hS
  have HFl := Lib.hid hfl
  have HSt := Lib.hid hst
  have HHa := Lib.hid ha
  have HM := Lib.hid hM
  rw [hM] at hc hsl HAr hn
  have HSl := Lib.hid hsl
  have HN4 := Lib.hid hn
  clear hte hr hok hin hst hss hA hT hS hW hP hU1 hB1 hB2 hP1 hpos hn hM hp0 hx hd d0 d1 d2 d3 hk hsl hlen hl8 hbr hb2 hfl ha ih
  have fs : (x.s.toList == []) = true := by
    rcases rightB_name HX.out with ⟨h, _⟩ | ⟨_, h⟩
    · rw [h]; rfl
    · rw [g4] at h; cases h
  obtain ⟨ta, tb', hlab⟩ : ∃ ta tb', l = [ta, tb'] := by
    have h2 : l.length = 2 := by rw [HLen.out, hb01]; rfl
    match l, h2 with
    | [a, b], _ => exact ⟨a, b, rfl⟩
  obtain ⟨nm, hnm⟩ : ∃ nm, nm = nameN (freshN (av ++ st) st.length) := ⟨_, rfl⟩
  have HT : RowKit.Hid (sayT av (.mk x l) st = 40 :: Lib.join ([wordsB x, nm, ⟨(sayT av ta st).toArray⟩, ⟨(sayT av tb' (st ++ [nm])).toArray⟩].map (·.data.toList)) [32] ++ [41]) := Lib.hid (by
    rw [hlab, hnm]
    exact say_first g0 g1 g2 fp (by simp [firstK, g4]) fs hb01 (by simpa using f26))
  have HNm := Lib.hid hnm
  have HLab := Lib.hid hlab
  have HB01 := Lib.hid hb01
  have fl : ((l.length : Int) == 0) = false := by rw [hlab]; rfl
  clear hnm hlab hb01
  have HWd : RowKit.Hid (headB x.k.toNat = wordsB x) := Lib.hid (by unfold wordsB; rw [if_neg (by omega)])
  rw [HWd.out] at HLk
  generalize wordsB x = W at *
  subst hw1
  clear g0 g1 g2 g4 fp HWd HX
  obtain ⟨k, n, m, s⟩ := x
  simp only at *
  subst fn
  go_enter Tryz.func21, Tryz.ntmps21
  go_wp2_with fail
  go_region_held3 (fun w' => w'.cell? ⟨w.heap.size, 0, none⟩ = some (.pointer (some ⟨pb, 0, none⟩)) ∧ w'.cell? ⟨pb, 0, none⟩ = some (.map (some hq)) ∧ w'.cell? ⟨w.heap.size + 1, 0, none⟩ = some (.int .i64 k) ∧ MapIAt w' hq headsL)
    (first
      | exact dd
      | go_keep)
    (fail)
  rename_i hHeld
  clear dd hHeld HLk HFd c0 c1 c2 c3
  go_wp2_with fail
  refine (HBn.out _ (HU1.out.trans (under_drew (Under.refl _)))).mono ?_
  rintro e w2 ⟨vb, rfl, hrb, hU2⟩
  rw [HBr.out] at hrb
  have HU2 := Lib.hid ((HU1.out.trans (under_drew (Under.refl _))).trans hU2)
  have HB12 := Lib.hid (HB1.out.under ((under_drew (Under.refl _)).trans hU2))
  have hB22 := HB2.out.under ((under_drew (Under.refl _)).trans hU2)
  have HB22 := Lib.hid hB22
  have HRb := Lib.hid hrb
  obtain ⟨qb, cb, rfl, _, _⟩ := RowArg.of_own hrb
  rw [← HLen.out]
  have e3 : w2.cell? ⟨w.heap.size + 1, 3, none⟩ = some (.string s) := hB22.cell 3
  have e1 : w2.cell? ⟨w.heap.size + 1, 1, none⟩ = some (.int .i64 0) := hB22.cell 1
  have e0 : w2.cell? ⟨w.heap.size + 1, 0, none⟩ = some (.int .i64 k) := hB22.cell 0
  have el := hB22.lt
  have hU3 : Under w2 ((w2.alloc (.cells #[.string W] 9)).alloc (.cells #[.slice (some ⟨w2.heap.size, 0, none⟩) 1 1] 23)) := under_alloc (under_alloc (Under.refl _) _) _
  have hB3 := hB22.under hU3
  have m3 : ((w2.alloc (.cells #[.string W] 9)).alloc (.cells #[.slice (some ⟨w2.heap.size, 0, none⟩) 1 1] 23)).cell? ⟨w.heap.size + 1, 3, none⟩ = some (.string s) := hB3.cell 3
  have m1 : ((w2.alloc (.cells #[.string W] 9)).alloc (.cells #[.slice (some ⟨w2.heap.size, 0, none⟩) 1 1] 23)).cell? ⟨w.heap.size + 1, 1, none⟩ = some (.int .i64 0) := hB3.cell 1
  have m0 : ((w2.alloc (.cells #[.string W] 9)).alloc (.cells #[.slice (some ⟨w2.heap.size, 0, none⟩) 1 1] 23)).cell? ⟨w.heap.size + 1, 0, none⟩ = some (.int .i64 k) := hB3.cell 0
  have ml := hB3.lt
  have hL3 := box_new (w2.alloc (.cells #[.string W] 9)) #[.slice (some ⟨w2.heap.size, 0, none⟩) 1 1] 23
  rw [World.size_alloc] at hL3
  have l0 : ((w2.alloc (.cells #[.string W] 9)).alloc (.cells #[.slice (some ⟨w2.heap.size, 0, none⟩) 1 1] 23)).cell? ⟨w2.heap.size + 1, 0, none⟩ = some (.slice (some ⟨w2.heap.size, 0, none⟩) 1 1) := hL3.cell 0
  have ll := hL3.lt
  have hz2 : w.heap.size ≤ w2.heap.size := HU2.out.size
  have hbs : W0.heap.size ≤ w2.heap.size := (HP.out.und.trans HU2.out).size
  have hR3 := row_under (own_one w2 W0.heap.size 9 (.string W) hbs) (under_alloc (Under.refl _) (.cells #[.slice (some ⟨w2.heap.size, 0, none⟩) 1 1] 23))
  have hv3 : ∀ i, (Value.slice (some ⟨w2.heap.size, 0, none⟩) 1 1).ownBlock = some i → w2.heap.size ≤ i := fun i h => by cases h; exact Nat.le_refl _
  have HU23 := Lib.hid hU3
  have HL3 := Lib.hid hL3
  have HR3 := Lib.hid hR3
  have HV3 := Lib.hid hv3
  clear hrb hU2 hB22 hU3 hB3 hL3 hR3 hv3
  go_wp2_with fail
  refine (HAr.out _ (HU2.out.trans HU23.out)).mono ?_
  clear e3 e1 e0 el m3 m1 m0 ml l0 ll
  generalize ((w2.alloc (.cells #[.string W] 9)).alloc (.cells #[.slice (some ⟨w2.heap.size, 0, none⟩) 1 1] 23)) = w3 at HU23 HL3 HR3 ⊢
  rintro e w4 ⟨vr, vs, rfl, hU4, hvr, hz⟩
  have HU3 := Lib.hid (HU2.out.trans HU23.out)
  have HU4 := Lib.hid (HU3.out.trans hU4)
  have HU24 := Lib.hid (HU23.out.trans hU4)
  have h0 : WdI W0 w4 pb hq tb (w2.heap.size + 1) ks st sv (.slice (some ⟨w2.heap.size, 0, none⟩) 1 1) [W] sv (.slice (some ⟨w2.heap.size, 0, none⟩) 1 1) w4 := ⟨HP.out.under HU4.out, HL3.out.under hU4, row_under HR3.out hU4, by
    cases ho : ((.slice (some ⟨w2.heap.size, 0, none⟩) 1 1) : Value).ownBlock with
    | none => exact .inl rfl
    | some g =>
      right
      intro e
      have h1 := (row_lt HP.out.row (g := g) e.symm).2
      have h2 := HV3.out g ho
      omega, by omega, Ch.refl _, fun b _ e => e, fun b _ e => e⟩
  have H0 := Lib.hid h0
  have HB14 := Lib.hid (HB12.out.under HU24.out)
  have HB24 := Lib.hid (HB22.out.under HU24.out)
  have HRb4 := Lib.hid (row_under HRb.out HU24.out)
  have HVr := Lib.hid hvr
  have HZ := Lib.hid hz
  have hbase := HU4.out.size
  have hvl : vs.length = l.length := by have := hvr.1; omega
  obtain ⟨qp, cp, rfl, _, _⟩ := RowArg.of_own hvr
  have HVl := Lib.hid hvl
  have HLb := Lib.hid (show w.heap.size ≤ w2.heap.size + 1 by omega)
  have HLv := Lib.hid (fun i (h : ((.slice (some ⟨w2.heap.size, 0, none⟩) 1 1) : Value).ownBlock = some i) => (show w.heap.size ≤ i from Nat.le_trans hz2 (HV3.out i h)))
  have HB34 := Lib.hid (show W0.heap.size ≤ w3.heap.size from (HP.out.und.trans HU3.out).size)
  clear h0 hvr hz hU4 hvl HB12 HB22 HU23 HRb HL3 HR3
  go_wp2
  go_loopw [130] (fun i wr => WdRel W0 w4 pb hq tb (w2.heap.size + 1) ks st av sv (.slice (some ⟨w2.heap.size, 0, none⟩) 1 1) l (binds ⟨k, 0, m, s⟩) [W] i wr) (fun i _ => l.length - (intOf i).toNat)
  case atStart => exact ⟨0, [], sv, (.slice (some ⟨w2.heap.size, 0, none⟩) 1 1), Nat.zero_le _, rfl, Nat.zero_le _, rfl, by rw [List.append_nil]; exact H0.out⟩
  case round =>
    obtain ⟨j, os, sv', lv', hj, rfl, hos, hpa, hI⟩ := hrel
    have HI := Lib.hid hI
    have HPa := Lib.hid hpa
    have HOs := Lib.hid hos
    have hj0 : (0 : Int) ≤ (j : Int) := by omega
    have hj8 : l.length ≤ 8 := by rw [HLen.out]; exact HL8.out
    clear hpa hos
    by_cases hjl : j < l.length
    · have hjb : j < (binds ⟨k, 0, m, s⟩).length := by rw [← HLen.out]; exact hjl
      have hjl' : (j : Int) < (l.length : Int) := by omega
      have hjv : j < vs.length := by rw [HVl.out]; exact hjl
      have hrv := HI.out.row H0.out HVr.out (by decide) (by decide) (by decide)
      obtain ⟨gp, cp', ep, hgp, _, hgl, _, _⟩ := row_block hrv (by omega)
      obtain ⟨rfl, rfl⟩ : qp = some ⟨gp, 0, none⟩ ∧ cp = cp' := by cases ep; exact ⟨rfl, rfl⟩
      clear ep
      have v0 := row_cell hrv hgp (List.getElem?_eq_getElem hjv)
      have hrb := HI.out.row H0.out HRb4.out (by decide) (by decide) (by decide)
      obtain ⟨gb, cb', eb, hgb, _, hbl, _, _⟩ := row_block hrb (by omega)
      rw [← HLen.out] at eb
      obtain ⟨rfl, rfl⟩ : qb = some ⟨gb, 0, none⟩ ∧ cb = cb' := by cases eb; exact ⟨rfl, rfl⟩
      clear eb
      have hbi := intsN_at (List.getElem?_eq_getElem hjb)
      have hpart := row_base (HI.out.row H0.out (HZ.out.2 j _ _ (List.getElem?_eq_getElem hjv) (List.getElem?_eq_getElem hjl)) (by decide) (by decide) (by decide)) (base' := W0.heap.size) HB34.out
      have HPt := Lib.hid hpart
      have hin := inTs_at hjl hjb HIn.out
      have hb2 := HB22b.out _ (List.getElem_mem hjb)
      have hfp := flat_part (List.getElem_mem hjl)
      have HPl := Lib.hid (partsL_at (av := av) (st := st) hjl hjb)
      have HQ := HUn.out _ (List.getElem_mem hjl) (binds ⟨k, 0, m, s⟩)[j]
      generalize hTT : l[j] = T at *
      generalize (binds ⟨k, 0, m, s⟩)[j] = bj at *
      generalize vs[j] = xv at *
      obtain ⟨qx, cx, rfl, _, _⟩ := RowArg.of_own hpart
      have hbj0 : (0 : Int) ≤ (bj : Int) := by omega
      obtain ⟨W5, hW5⟩ : ∃ W5, W5 = ((wr.alloc (.cells #[.slice qx (flat T).length cx] 22)).alloc (.cells #[(.func (.func 37) #[] #[.pointer (some ⟨w2.heap.size + 1, 0, none⟩), .pointer (some ⟨w.heap.size, 0, none⟩), .pointer (some ⟨wr.heap.size, 0, none⟩), .pointer (some ⟨wr.heap.size + 1, 0, none⟩)])] 58)).drew := ⟨_, rfl⟩
      have hU5 : Under wr W5 := by rw [hW5]; exact under_drew (under_alloc (under_alloc (Under.refl _) _) _)
      have hUn : UnS W0 ⟨pb, hq, tb, w2.heap.size + 1, w.heap.size, wr.heap.size, wr.heap.size + 1⟩ ks st sv' ([W] ++ os) lv' (.slice qx (flat T).length cx) T W5 := by
        refine ⟨HI.out.pr.under hU5, HI.out.lbx.under hU5, row_under HI.out.lrow hU5, HI.out.apart, (HI.out.box H0.out HB14.out (by decide) (by decide) (by decide)).under hU5, ?_, ?_, row_under HPt.out hU5, HI.out.lo⟩
        · rw [hW5]; exact ((box_new wr _ _).alloc _).drew
        · rw [hW5]
          have := box_new (wr.alloc (.cells #[.slice qx (flat T).length cx] 22)) #[(.func (.func 37) #[] #[.pointer (some ⟨w2.heap.size + 1, 0, none⟩), .pointer (some ⟨w.heap.size, 0, none⟩), .pointer (some ⟨wr.heap.size, 0, none⟩), .pointer (some ⟨wr.heap.size + 1, 0, none⟩)])] 58
          rw [World.size_alloc] at this
          exact this.drew
      have HC := Lib.hid (HQ W0 W5 ⟨pb, hq, tb, w2.heap.size + 1, w.heap.size, wr.heap.size, wr.heap.size + 1⟩ ks st av ([W] ++ os) sv' lv' _ HW.out HS.out hUn HT0.out HHa.out (by have := HSt.out; have := HFl.out; omega) (by have := HOs.out; simp; omega) HSS.out hin)
      have u0 : W5.cell? ⟨wr.heap.size + 1, 0, none⟩ = some (.func (.func 37) #[] #[.pointer (some ⟨w2.heap.size + 1, 0, none⟩), .pointer (some ⟨w.heap.size, 0, none⟩), .pointer (some ⟨wr.heap.size, 0, none⟩), .pointer (some ⟨wr.heap.size + 1, 0, none⟩)]) := hUn.ubx.cell 0
      have b5 : W5.cell? ⟨gb, j, none⟩ = some (.int .i64 (bj : Int)) := row_cell (row_under hrb hU5) hgb hbi
      have tt := And.intro u0 b5
      have HBi := Lib.hid hbi
      have hb2' := hb2
      have HUn5 := Lib.hid hUn
      have HU5 := Lib.hid hU5
      have HE5 := Lib.hid hW5
      clear u0 b5 hrb hUn hU5 hpart hrv hbi hin HQ hb2 hfp hgb hgp hW5
      subst hTT
      go_wp2_with fail
      rw [HE5.out] at tt
      go_region_held3 (fun w' => w'.cell? ⟨wr.heap.size + 1, 0, none⟩ = some (.func (.func 37) #[] #[.pointer (some ⟨w2.heap.size + 1, 0, none⟩), .pointer (some ⟨w.heap.size, 0, none⟩), .pointer (some ⟨wr.heap.size, 0, none⟩), .pointer (some ⟨wr.heap.size + 1, 0, none⟩)]) ∧ w'.cell? ⟨gb, j, none⟩ = some (.int .i64 (bj : Int)))
        (first
          | exact tt
          | go_keep
          | exact ⟨q0, q1⟩)
        ((go_simp; go_at_call 37; rw [← HE5.out]; refine HC.out.mono ?_; rintro e w6 ⟨⟨v6, rfl⟩, sv6, lv6, hU6, hC6, hO6, hL6⟩
          have q0 : w6.cell? ⟨wr.heap.size + 1, 0, none⟩ = some (.func (.func 37) #[] #[.pointer (some ⟨w2.heap.size + 1, 0, none⟩), .pointer (some ⟨w.heap.size, 0, none⟩), .pointer (some ⟨wr.heap.size, 0, none⟩), .pointer (some ⟨wr.heap.size + 1, 0, none⟩)]) := hU6.ubx.cell 0
          have HW6 := Lib.hid ((HI.out.und HU5.out).step hU6 rfl rfl rfl rfl hC6 hO6 hL6)
          have q1 : w6.cell? ⟨gb, j, none⟩ = some (.int .i64 (bj : Int)) := row_cell (HW6.out.row H0.out HRb4.out (by decide) (by decide) (by decide)) rfl HBi.out))
      rename_i hHeld
      clear hHeld q0 q1 tt hU6 hC6 hO6 hL6
      go_wp2
      go_roundw
      case rel =>
        refine ⟨j + 1, os ++ bindN av st bj ++ [⟨(sayT av l[j] (st ++ bindN av st bj)).toArray⟩], sv6, lv6, by omega, by go_num, ?_, ?_, ?_⟩
        · have := HOs.out
          rw [List.length_append, List.length_append, bindN_len, List.length_singleton]
          omega
        · rw [HPa.out, HPl.out]
          simp
        · have := HW6.out
          simp only [List.append_assoc] at this ⊢
          exact this
      case measure => simp [intOf]; omega
    · obtain rfl : j = l.length := by omega
      have hos : os = partsL av l (binds ⟨k, 0, m, s⟩) st := by rw [HPa.out, List.drop_length]; simp [partsL]
      rw [HB01.out, HLab.out] at hos
      obtain ⟨g9, c9, e9, hg9, _, hl9, hc9, _⟩ := row_block HI.out.lrow (by simp)
      subst e9
      have hos3 : os = [⟨(sayT av ta st).toArray⟩, nm, ⟨(sayT av tb' (st ++ [nm])).toArray⟩] := by rw [hos, HNm.out]; simp [partsL, bindN]
      generalize hTA : (⟨(sayT av ta st).toArray⟩ : ByteArray) = TA at hos3 HT
      generalize hTB : (⟨(sayT av tb' (st ++ [nm])).toArray⟩ : ByteArray) = TB at hos3 HT
      subst hos3
      have hrow := HI.out.lrow
      have z0 : wr.cell? ⟨w2.heap.size + 1, 0, none⟩ = some (.slice (some ⟨g9, 0, none⟩) 4 c9) := HI.out.lbx.cell 0
      have z1 := HI.out.lbx.lt
      have hnb := HI.out.box H0.out HB24.out (by decide) (by decide) (by decide)
      have z4 : wr.cell? ⟨w.heap.size + 1, 0, none⟩ = some (.int .i64 k) := hnb.cell 0
      have z5 := hnb.lt
      have y1 : wr.cell? ⟨g9, 1, none⟩ = some (.string TA) := row_cell hrow rfl rfl
      have y2 : wr.cell? ⟨g9, 2, none⟩ = some (.string nm) := row_cell hrow rfl rfl
      have y3 := row_free hrow (g := g9) rfl 1
      have y4 := row_free hrow (g := g9) rfl 2
      have y5 : g9 < wr.heap.size := (row_lt hrow rfl).2
      have hne : w2.heap.size + 1 ≠ g9 := fun e => box_own_ne HI.out.lbx hrow (by decide) (by rw [e]; rfl)
      have HNe := Lib.hid hne
      have i1 : (1 : Int) < 4 := by omega
      go_wp2_with fail
      have hrow1 := row_set hrow (g := g9) rfl (j := 1) (by simp) (.string nm)
      have y6 : (wr.setCell ⟨g9, 1, none⟩ (.string nm)).cell? ⟨g9, 2, none⟩ = some (.string nm) := row_cell hrow1 rfl rfl
      have y7 := row_free hrow1 (g := g9) rfl 2
      have y8 := (row_lt hrow1 (g := g9) rfl).2
      have hrow2 := row_set hrow1 (g := g9) rfl (j := 2) (by simp) (.string TA)
      have HR2 := Lib.hid hrow2
      have hl1 := HI.out.lbx.other hne 1 (.string nm)
      have hl2 := hl1.other hne 2 (.string TA)
      have HL2 := Lib.hid hl2
      refine wp_region_noPanic ?_
      refine wp_region_held_drew (S := fun w' => w'.cell? ⟨w2.heap.size + 1, 0, none⟩ = some (.slice (some ⟨g9, 0, none⟩) 4 c9)) (by kernel_rfl) z0 (fun hHeld => ?_)
      refine wpAnyH_take (i := 0) (v := ?v0) rfl (by kernel_rfl) (by kernel_rfl) (by kernel_rfl) (fun _ _ _ h => h) (Or.inl ⟨by (first | kernel_rfl | rfl), ?hy0⟩) (by assumption) ?rest0
      case hy0 => (intro w hSw; (try dsimp only at hSw); go_simp; try with_reducible rfl)
      try simp only [Act.put, List.setIfInBounds_toArray, List.set_cons_zero, List.set_cons_succ]
      refine wpAnyH_take (i := 1) (v := ?v1) rfl (by kernel_rfl) (by kernel_rfl) (by kernel_rfl) (fun _ _ _ h => h) (Or.inl ⟨by (first | kernel_rfl | rfl), ?hy1⟩) (by assumption) ?rest1
      case hy1 => (intro w hSw; (try dsimp only at hSw); go_simp; try with_reducible rfl)
      try simp only [Act.put, List.setIfInBounds_toArray, List.set_cons_zero, List.set_cons_succ]
      refine wpAnyH_take (i := 2) (v := ?v2) rfl (by kernel_rfl) (by kernel_rfl) (by kernel_rfl) (fun _ _ _ h => h) (Or.inl ⟨by (first | kernel_rfl | rfl), ?hy2⟩) (by assumption) ?rest2
      case hy2 => (intro w hSw; (try dsimp only at hSw); go_simp; try with_reducible rfl)
      try simp only [Act.put, List.setIfInBounds_toArray, List.set_cons_zero, List.set_cons_succ]
      refine wpAnyH_take (i := 3) (v := ?v3) rfl (by kernel_rfl) (by kernel_rfl) (by kernel_rfl) (fun _ _ _ h => h) (Or.inl ⟨by (first | kernel_rfl | rfl), ?hy3⟩) (by assumption) ?rest3
      case hy3 => (intro w hSw; (try dsimp only at hSw); go_simp; try with_reducible rfl)
      try simp only [Act.put, List.setIfInBounds_toArray, List.set_cons_zero, List.set_cons_succ]
      refine wpAnyH_take (i := 5) (v := ?v5) rfl (by kernel_rfl) (by kernel_rfl) (by kernel_rfl) (fun _ _ _ h => h) (Or.inl ⟨by (first | kernel_rfl | rfl), ?hy5⟩) (by assumption) ?rest5
      case hy5 => (intro w hSw; (try dsimp only at hSw); go_simp; try with_reducible rfl)
      try simp only [Act.put, List.setIfInBounds_toArray, List.set_cons_zero, List.set_cons_succ]
      refine wpAnyH_take (i := 6) (v := ?v6) rfl (by kernel_rfl) (by kernel_rfl) (by kernel_rfl) (fun _ _ _ h => h) (Or.inl ⟨by (first | kernel_rfl | rfl), ?hy6⟩) (by assumption) ?rest6
      case hy6 => (intro w hSw; (try dsimp only at hSw); go_simp; try with_reducible rfl)
      try simp only [Act.put, List.setIfInBounds_toArray, List.set_cons_zero, List.set_cons_succ]
      refine wpAnyH_ready (rs := [4, 7]) (by kernel_rfl) (by simp) ?_
      refine AllReadyH.cons rfl (fun K hK => ?_) (AllReadyH.cons rfl (fun K hK => ?_) AllReadyH.nil)
      · go_simp
        refine hK.out _ _ hHeld (fun hHeld' => ?_)
        clear hK K hHeld
        have hHeld := hHeld'
        clear hHeld'
        try simp only [Act.put, List.setIfInBounds_toArray, List.set_cons_zero, List.set_cons_succ]
        refine wpAnyH_ready (rs := [7]) (by kernel_rfl) (by simp) ?_
        refine AllReadyH.cons rfl (fun K hK => ?_) AllReadyH.nil
        go_simp
        refine hK.out _ _ hHeld (fun hHeld' => ?_)
        clear hK K hHeld
        have hHeld := hHeld'
        clear hHeld'
        try simp only [Act.put, List.setIfInBounds_toArray, List.set_cons_zero, List.set_cons_succ]
        refine wpAnyH_take (i := 8) (v := ?v8a) rfl (by kernel_rfl) (by kernel_rfl) (by kernel_rfl) (fun _ _ _ h => h) (Or.inl ⟨by (first | kernel_rfl | rfl), ?hy8a⟩) (by assumption) ?rest8a
        case hy8a => (intro w hSw; (try dsimp only at hSw); go_simp; try with_reducible rfl)
        try simp only [Act.put, List.setIfInBounds_toArray, List.set_cons_zero, List.set_cons_succ]
        refine wpAnyH_ready (rs := [9]) (by kernel_rfl) (by simp) ?_
        refine AllReadyH.cons rfl (fun K hK => ?_) AllReadyH.nil
        go_simp
        refine hK.out _ _ (by exact hl1.cell 0) (fun hHeld' => ?_)
        clear hK K hHeld
        have hHeld := hHeld'
        clear hHeld'
        try simp only [Act.put, List.setIfInBounds_toArray, List.set_cons_zero, List.set_cons_succ]
        refine wpAnyH_take (i := 10) (v := ?v10a) rfl (by kernel_rfl) (by kernel_rfl) (by kernel_rfl) (fun _ _ _ h => h) (Or.inl ⟨by (first | kernel_rfl | rfl), ?hy10a⟩) (by assumption) ?rest10a
        case hy10a => (intro w hSw; (try dsimp only at hSw); go_simp; try with_reducible rfl)
        try simp only [Act.put, List.setIfInBounds_toArray, List.set_cons_zero, List.set_cons_succ]
        refine wpAnyH_ready (rs := [11]) (by kernel_rfl) (by simp) ?_
        refine AllReadyH.cons rfl (fun K hK => ?_) AllReadyH.nil
        go_simp
        refine hK.out _ _ (by exact hl2.cell 0) (fun hHeld' => ?_)
        clear hK K hHeld
        have hHeld := hHeld'
        clear hHeld'
        try simp only [Act.put, List.setIfInBounds_toArray, List.set_cons_zero, List.set_cons_succ]
        refine wpAnyH_done (by kernel_rfl) ?_ _
        refine NoPanic.normal ?_
        clear z0 z1 hnb z4 z5 y1 y2 y3 y4 y5 y6 y7 y8 hrow1 hrow2 hl1 hl2 hHeld i1
        have hW8 : Under ((wr.setCell ⟨g9, 1, none⟩ (.string nm)).setCell ⟨g9, 2, none⟩ (.string TA)) ((wr.setCell ⟨g9, 1, none⟩ (.string nm)).setCell ⟨g9, 2, none⟩ (.string TA)).drew := under_drew (Under.refl _)
        have hr8 := row_under HR2.out hW8
        have hb8 := HL2.out.under hW8
        have hc8 : Ch (fun i => (Value.slice (some ⟨g9, 0, none⟩) 4 c9).ownBlock = some i) wr ((wr.setCell ⟨g9, 1, none⟩ (.string nm)).setCell ⟨g9, 2, none⟩ (.string TA)).drew := (((Ch.refl (C := fun i => (Value.slice (some ⟨g9, 0, none⟩) 4 c9).ownBlock = some i) wr).set (g := g9) (fun _ => rfl) 1 _).set (g := g9) (fun _ => rfl) 2 _).under hW8
        have HPJ := Lib.hid (pr_set HI.out.pr HI.out.lrow HI.out.apart hc8)
        have HCJ := Lib.hid (((Ch.of_under HU4.out).trans HI.out.ch (D := fun b => PrC pb tb sv b ∨ b = w2.heap.size + 1 ∨ ((.slice (some ⟨w2.heap.size, 0, none⟩) 1 1) : Value).ownBlock = some b) (C := PrC pb tb sv) (fun i hi h => by
          rcases h with h | h | h
          · exact h
          · have := HLb.out; omega
          · have := HLv.out i h; omega)).trans hc8 (fun i hi h => by
          have h1 := HI.out.lown i (by have := HU4.out.size; omega) h
          have := HLv.out i h1
          omega))
        have x0 : ((wr.setCell ⟨g9, 1, none⟩ (.string nm)).setCell ⟨g9, 2, none⟩ (.string TA)).drew.cell? ⟨w2.heap.size + 1, 0, none⟩ = some (.slice (some ⟨g9, 0, none⟩) 4 c9) := hb8.cell 0
        have x1 := hb8.lt
        have hJ : ∀ jj u, [W, nm, TA, TB][jj]? = some u → ((wr.setCell ⟨g9, 1, none⟩ (.string nm)).setCell ⟨g9, 2, none⟩ (.string TA)).drew.cell? ⟨g9, 0 + jj, none⟩ = some (.string u) := fun jj u hu => by
          rw [Nat.zero_add]
          refine row_cell hr8 rfl ?_
          show ([W, nm, TA, TB].map Value.string)[jj]? = _
          rw [List.getElem?_map, hu]
          rfl
        have HTs := HT.out
        obtain ⟨J, hJd⟩ : ∃ J, J = Lib.join ([W, nm, TA, TB].map (·.data.toList)) (⟨#[32]⟩ : ByteArray).data.toList := ⟨_, rfl⟩
        have hTJ : sayT av (.mk ⟨k, 0, m, s⟩ l) st = 40 :: J ++ [41] := by rw [HTs, hJd]
        have hJl : J.length + 2 ≤ 1000000 := by
          have h1 := HSl.out
          have h2 := HN4.out
          rw [hTJ] at h1
          simp at h1
          omega
        have HJc := Lib.hid (Tryz.strings_Join g9 0 c9 [W, nm, TA, TB] ⟨#[32]⟩ ((wr.setCell ⟨g9, 1, none⟩ (.string nm)).setCell ⟨g9, 2, none⟩ (.string TA)).drew hJ (row_lt hr8 rfl).2 (by simp) hc9 (by rw [← hJd]; omega))
        rw [← hJd] at HJc
        have HTJ := Lib.hid hTJ
        have z2 : ¬ 9223372036854775807 < 1 + J.toArray.size := by simp; omega
        have z3 : ¬ 9223372036854775807 < 1 + J.toArray.size + 1 := by simp; omega
        clear hos hJ HTs hJd hTJ hJl HT hW8 hr8 hb8 hc8
        go_wp2_with fail
        clear x0 x1
        refine HJc.out.mono ?_
        rintro e w7 ⟨rfl, hBl⟩
        have HU7 := Lib.hid (under_below hBl)
        clear hBl HJc
        go_wp2
        go_ret
        exact ⟨ret_str (by rw [HTJ.out]; exact ByteArray.ext (by simp)), sv', HPJ.out.under HU7.out, HCJ.out.under HU7.out, fun b hb e => HI.out.own b (by have := HU4.out.size; omega) e⟩
      · go_simp
        refine hK.out _ _ hHeld (fun hHeld' => ?_)
        clear hK K hHeld
        have hHeld := hHeld'
        clear hHeld'
        try simp only [Act.put, List.setIfInBounds_toArray, List.set_cons_zero, List.set_cons_succ]
        refine wpAnyH_ready (rs := [4]) (by kernel_rfl) (by simp) ?_
        refine AllReadyH.cons rfl (fun K hK => ?_) AllReadyH.nil
        go_simp
        refine hK.out _ _ hHeld (fun hHeld' => ?_)
        clear hK K hHeld
        have hHeld := hHeld'
        clear hHeld'
        try simp only [Act.put, List.setIfInBounds_toArray, List.set_cons_zero, List.set_cons_succ]
        refine wpAnyH_take (i := 8) (v := ?v8b) rfl (by kernel_rfl) (by kernel_rfl) (by kernel_rfl) (fun _ _ _ h => h) (Or.inl ⟨by (first | kernel_rfl | rfl), ?hy8b⟩) (by assumption) ?rest8b
        case hy8b => (intro w hSw; (try dsimp only at hSw); go_simp; try with_reducible rfl)
        try simp only [Act.put, List.setIfInBounds_toArray, List.set_cons_zero, List.set_cons_succ]
        refine wpAnyH_ready (rs := [9]) (by kernel_rfl) (by simp) ?_
        refine AllReadyH.cons rfl (fun K hK => ?_) AllReadyH.nil
        go_simp
        refine hK.out _ _ (by exact hl1.cell 0) (fun hHeld' => ?_)
        clear hK K hHeld
        have hHeld := hHeld'
        clear hHeld'
        try simp only [Act.put, List.setIfInBounds_toArray, List.set_cons_zero, List.set_cons_succ]
        refine wpAnyH_take (i := 10) (v := ?v10b) rfl (by kernel_rfl) (by kernel_rfl) (by kernel_rfl) (fun _ _ _ h => h) (Or.inl ⟨by (first | kernel_rfl | rfl), ?hy10b⟩) (by assumption) ?rest10b
        case hy10b => (intro w hSw; (try dsimp only at hSw); go_simp; try with_reducible rfl)
        try simp only [Act.put, List.setIfInBounds_toArray, List.set_cons_zero, List.set_cons_succ]
        refine wpAnyH_ready (rs := [11]) (by kernel_rfl) (by simp) ?_
        refine AllReadyH.cons rfl (fun K hK => ?_) AllReadyH.nil
        go_simp
        refine hK.out _ _ (by exact hl2.cell 0) (fun hHeld' => ?_)
        clear hK K hHeld
        have hHeld := hHeld'
        clear hHeld'
        try simp only [Act.put, List.setIfInBounds_toArray, List.set_cons_zero, List.set_cons_succ]
        refine wpAnyH_done (by kernel_rfl) ?_ _
        refine NoPanic.normal ?_
        clear z0 z1 hnb z4 z5 y1 y2 y3 y4 y5 y6 y7 y8 hrow1 hrow2 hl1 hl2 hHeld i1
        have hW8 : Under ((wr.setCell ⟨g9, 1, none⟩ (.string nm)).setCell ⟨g9, 2, none⟩ (.string TA)) ((wr.setCell ⟨g9, 1, none⟩ (.string nm)).setCell ⟨g9, 2, none⟩ (.string TA)).drew := under_drew (Under.refl _)
        have hr8 := row_under HR2.out hW8
        have hb8 := HL2.out.under hW8
        have hc8 : Ch (fun i => (Value.slice (some ⟨g9, 0, none⟩) 4 c9).ownBlock = some i) wr ((wr.setCell ⟨g9, 1, none⟩ (.string nm)).setCell ⟨g9, 2, none⟩ (.string TA)).drew := (((Ch.refl (C := fun i => (Value.slice (some ⟨g9, 0, none⟩) 4 c9).ownBlock = some i) wr).set (g := g9) (fun _ => rfl) 1 _).set (g := g9) (fun _ => rfl) 2 _).under hW8
        have HPJ := Lib.hid (pr_set HI.out.pr HI.out.lrow HI.out.apart hc8)
        have HCJ := Lib.hid (((Ch.of_under HU4.out).trans HI.out.ch (D := fun b => PrC pb tb sv b ∨ b = w2.heap.size + 1 ∨ ((.slice (some ⟨w2.heap.size, 0, none⟩) 1 1) : Value).ownBlock = some b) (C := PrC pb tb sv) (fun i hi h => by
          rcases h with h | h | h
          · exact h
          · have := HLb.out; omega
          · have := HLv.out i h; omega)).trans hc8 (fun i hi h => by
          have h1 := HI.out.lown i (by have := HU4.out.size; omega) h
          have := HLv.out i h1
          omega))
        have x0 : ((wr.setCell ⟨g9, 1, none⟩ (.string nm)).setCell ⟨g9, 2, none⟩ (.string TA)).drew.cell? ⟨w2.heap.size + 1, 0, none⟩ = some (.slice (some ⟨g9, 0, none⟩) 4 c9) := hb8.cell 0
        have x1 := hb8.lt
        have hJ : ∀ jj u, [W, nm, TA, TB][jj]? = some u → ((wr.setCell ⟨g9, 1, none⟩ (.string nm)).setCell ⟨g9, 2, none⟩ (.string TA)).drew.cell? ⟨g9, 0 + jj, none⟩ = some (.string u) := fun jj u hu => by
          rw [Nat.zero_add]
          refine row_cell hr8 rfl ?_
          show ([W, nm, TA, TB].map Value.string)[jj]? = _
          rw [List.getElem?_map, hu]
          rfl
        have HTs := HT.out
        obtain ⟨J, hJd⟩ : ∃ J, J = Lib.join ([W, nm, TA, TB].map (·.data.toList)) (⟨#[32]⟩ : ByteArray).data.toList := ⟨_, rfl⟩
        have hTJ : sayT av (.mk ⟨k, 0, m, s⟩ l) st = 40 :: J ++ [41] := by rw [HTs, hJd]
        have hJl : J.length + 2 ≤ 1000000 := by
          have h1 := HSl.out
          have h2 := HN4.out
          rw [hTJ] at h1
          simp at h1
          omega
        have HJc := Lib.hid (Tryz.strings_Join g9 0 c9 [W, nm, TA, TB] ⟨#[32]⟩ ((wr.setCell ⟨g9, 1, none⟩ (.string nm)).setCell ⟨g9, 2, none⟩ (.string TA)).drew hJ (row_lt hr8 rfl).2 (by simp) hc9 (by rw [← hJd]; omega))
        rw [← hJd] at HJc
        have HTJ := Lib.hid hTJ
        have z2 : ¬ 9223372036854775807 < 1 + J.toArray.size := by simp; omega
        have z3 : ¬ 9223372036854775807 < 1 + J.toArray.size + 1 := by simp; omega
        clear hos hJ HTs hJd hTJ hJl HT hW8 hr8 hb8 hc8
        go_wp2_with fail
        clear x0 x1
        refine HJc.out.mono ?_
        rintro e w7 ⟨rfl, hBl⟩
        have HU7 := Lib.hid (under_below hBl)
        clear hBl HJc
        go_wp2
        go_ret
        exact ⟨ret_str (by rw [HTJ.out]; exact ByteArray.ext (by simp)), sv', HPJ.out.under HU7.out, HCJ.out.under HU7.out, fun b hb e => HI.out.own b (by have := HU4.out.size; omega) e⟩
end Go.Proofs.YtiibknlpeodejaaGreatDoor

/- pretty.(*printer).words: binders of types with a number, kind 3. Printed by pwords.py. -/
namespace Go.Proofs.YtiibknlpeodejaaGreatDoor
open Go.Lx Go.RowKit
attribute [local go_sem] store_func

set_option maxRecDepth 100000 in
set_option maxHeartbeats 2000000 in
theorem words_three1 (x : Nd) (l : List Tm) (f0 : (x.k == 0) = false) (f1 : (x.k == 1) = false) (f2 : (x.k == 2) = false) (fp : plainK x = false) (f3 : (x.k == 3) = true) (fn : 0 < x.n) (ih : ∀ a ∈ l, WordsOk a) : WordsOk (.mk x l) := by
  obtain ⟨i0, hi, hz0, hz1, hz2'⟩ := info_parts Tryz.infoStrZ
  have g0 : x.k ≠ 0 := by simpa using f0
  have g1 : x.k ≠ 1 := by simpa using f1
  have g2 : x.k ≠ 2 := by simpa using f2
  have g4 : x.k = 3 := by simpa using f3
  have f26 : (x.k == 26) = false := by rw [g4]; rfl
  have hb01 : binds x = [0, 1] := by simp [binds, g4, bindsOf]
  rintro hok hd hn W0 w pb hq tb ks st av sv tv hW hS hP hT hv hA ha hst hss hin
  have hx := hok.1
  have hte : (flat (.mk x l))[(flat (.mk x l)).length - 1]? = some x := by rw [flat]; simp
  have hpos : 1 ≤ (flat (.mk x l)).length := by rw [flat]; simp
  have hsl := sayT_len av (by omega) (.mk x l) hok st hss (by omega)
  have hlen := hok.2.1
  have hl8 := binds_len hx
  have hbr : (if rightB x then binds x else []) = binds x := if_pos hx
  have hb2 : ∀ b ∈ binds x, b ≤ 2 := fun b hb => by have := bindsR_le (x := x); unfold bindsR at this; rw [hbr] at this; exact this b hb
  unfold inT at hin
  rw [if_neg (by omega)] at hin
  obtain ⟨p, c, rfl, hc, hp0, hr⟩ := hv
  obtain ⟨b, off, rfl, hb, c0, c1, c2, c3⟩ := RowArg.node hr hte
  have HAr := Lib.hid (fun w1 (hU : Under w w1) => args_any (w0 := w1) x l (t := flat (.mk x l)) (b := b) (off := off) (c := c) rfl hok hd hn hc (hr.under hU) ((hS.under hP.und).under hU))
  have HBn := Lib.hid (fun w1 (hU : Under w w1) => binds_any (w0 := w1) x (by have := rightB_s hx; simp only [maxLen]; omega) ((hS.under hP.und).under hU))
  have HUn := Lib.hid (fun a (ha' : a ∈ l) => under_any a (okTs_mem.1 hok.2.2 a ha') (Nat.le_trans (deep_part ha') hd) (by have := flat_part ha'; rw [flat, List.length_append] at hn; omega) (ih a ha'))
  have hfl : (flat (.mk x l)).length = (flats l).length + 1 := by rw [flat]; simp
  obtain ⟨M, hM⟩ : ∃ M, (flat (.mk x l)).length = M + 1 := ⟨(flat (.mk x l)).length - 1, by omega⟩
  rw [hM] at c0 c1 c2 c3
  simp only [Nat.add_sub_cancel] at c0 c1 c2 c3
  have hM0 : (0 : Int) ≤ (M : Int) := by omega
  have hM4 : (M : Int) ≤ 4000 := by omega
  have hMi : ((M : Int) + 1 - 1) = (M : Int) := by omega
  have hk := rightB_k hx
  obtain ⟨w1, hw1⟩ : ∃ w1, w1 = (w.alloc (.cells #[.pointer (some ⟨pb, 0, none⟩)] 41)).alloc (.cells #[.int .i64 x.k, .int .i64 x.n, .int .i64 x.m, .string x.s] 38) := ⟨_, rfl⟩
  have hU1 : Under w w1 := by rw [hw1]; exact under_alloc (under_alloc (Under.refl w) _) _
  have hB1 : BoxAt w1 w.heap.size 41 #[.pointer (some ⟨pb, 0, none⟩)] := by rw [hw1]; exact (box_new w _ _).alloc _
  have hB2 : BoxAt w1 (w.heap.size + 1) 38 #[.int .i64 x.k, .int .i64 x.n, .int .i64 x.m, .string x.s] := by
    have := box_new (w.alloc (.cells #[.pointer (some ⟨pb, 0, none⟩)] 41)) #[.int .i64 x.k, .int .i64 x.n, .int .i64 x.m, .string x.s] 38
    rw [World.size_alloc] at this
    rw [hw1]
    exact this
  have hP1 := hP.under hU1
  have d0 : w1.cell? ⟨w.heap.size, 0, none⟩ = some (.pointer (some ⟨pb, 0, none⟩)) := hB1.cell 0
  have d1 : w1.cell? ⟨pb, 0, none⟩ = some (.map (some hq)) := hP1.box.cell 0
  have d2 : w1.cell? ⟨w.heap.size + 1, 0, none⟩ = some (.int .i64 x.k) := hB2.cell 0
  have d3 : MapIAt w1 hq headsL := hP1.heads
  have hsz1 : w1.heap.size = w.heap.size + 2 := by rw [hw1]; simp
  have HFd := head_field
  have HLk := fun (w' : World) (h : MapIAt w' hq headsL) => heads_look h hk.1 hk.2
  rw [hM]
  have HU1 := Lib.hid hU1
  have HB1 := Lib.hid hB1
  have HB2 := Lib.hid hB2
  have HP1 := Lib.hid hP1
  have HP := Lib.hid hP
  have HT0 := Lib.hid hT
  have dd := And.intro d0 (And.intro d1 (And.intro d2 d3))
  have HK := Lib.hid hk
  have HIn := Lib.hid hin
  have HLen := Lib.hid hlen
  have HL8 := Lib.hid hl8
  have HBr := Lib.hid hbr
  have HB22b := Lib.hid hb2
  have HX := Lib.hid hx
  have HSS := Lib.hid hss
  have HW := Lib.hid hW
  have HS := Lib.hid hS
  have HFl := Lib.hid hfl
  have HSt := Lib.hid hst
  have HHa := Lib.hid ha
  have HM := Lib.hid hM
  rw [hM] at hc hsl HAr hn
  have HSl := Lib.hid hsl
  have HN4 := Lib.hid hn
  clear hte hr hok hin hst hss hA hT hS hW hP hU1 hB1 hB2 hP1 hpos hn hM hp0 hx hd d0 d1 d2 d3 hk hsl hlen hl8 hbr hb2 hfl ha ih
  have fs : (x.s.toList == []) = true := by
    rcases rightB_name HX.out with ⟨h, _⟩ | ⟨_, h⟩
    · rw [h]; rfl
    · rw [g4] at h; cases h
  obtain ⟨ta, tb', hlab⟩ : ∃ ta tb', l = [ta, tb'] := by
    have h2 : l.length = 2 := by rw [HLen.out, hb01]; rfl
    match l, h2 with
    | [a, b], _ => exact ⟨a, b, rfl⟩
  obtain ⟨nm, hnm⟩ : ∃ nm, nm = nameN (freshN (av ++ st) st.length) := ⟨_, rfl⟩
  have HT : RowKit.Hid (sayT av (.mk x l) st = 40 :: Lib.join ([wordsB x, nm, ⟨(sayT av ta st).toArray⟩, ⟨(sayT av tb' (st ++ [nm])).toArray⟩].map (·.data.toList)) [32] ++ [41]) := Lib.hid (by
    rw [hlab, hnm]
    exact say_first g0 g1 g2 fp (by simp [firstK, g4]) fs hb01 (by simpa using f26))
  have HNm := Lib.hid hnm
  have HLab := Lib.hid hlab
  have HB01 := Lib.hid hb01
  have fl : ((l.length : Int) == 0) = false := by rw [hlab]; rfl
  clear hnm hlab hb01
  have hn9 := rightB_n HX.out
  obtain ⟨u, hu⟩ : ∃ u : Nat, x.n = u := ⟨x.n.toNat, by omega⟩
  obtain ⟨D, hD⟩ : ∃ D, D = Lib.decDigits u := ⟨_, rfl⟩
  have HI20 := Lib.hid (fun w => Tryz.strconv_Itoa_small u (by omega) w)
  have hDl := dec_len u (by omega)
  have hHl := headB_len x.k.toNat
  have hcat : headB x.k.toNat ++ (⟨D.toArray⟩ : ByteArray) = wordsB x := by
    unfold wordsB
    rw [if_pos ⟨by omega, fn⟩, hu, Int.toNat_natCast, ← hD]
    exact ByteArray.ext (by simp)
  rw [← hD] at HI20 hDl
  generalize headB x.k.toNat = H0 at *
  generalize wordsB x = W at *
  have hD1 : ¬ 9223372036854775807 < H0.size + D.toArray.size := by simp; omega
  subst hw1
  clear g0 g1 g2 g4 fp HX hD hDl hHl
  obtain ⟨k, n, m, s⟩ := x
  simp only at *
  subst hu
  have hu0 : (0 : Int) ≤ (u : Int) := by omega
  go_enter Tryz.func21, Tryz.ntmps21
  go_wp2_with fail
  go_region_held3 (fun w' => w'.cell? ⟨w.heap.size, 0, none⟩ = some (.pointer (some ⟨pb, 0, none⟩)) ∧ w'.cell? ⟨pb, 0, none⟩ = some (.map (some hq)) ∧ w'.cell? ⟨w.heap.size + 1, 0, none⟩ = some (.int .i64 k) ∧ MapIAt w' hq headsL)
    (first
      | exact dd
      | go_keep)
    (fail)
  rename_i hHeld
  clear dd hHeld HLk HFd c0 c1 c2 c3
  go_wp2_with fail
  refine (HBn.out _ (HU1.out.trans (under_drew (Under.refl _)))).mono ?_
  rintro e w2 ⟨vb, rfl, hrb, hU2⟩
  rw [HBr.out] at hrb
  have HU2 := Lib.hid ((HU1.out.trans (under_drew (Under.refl _))).trans hU2)
  have HB12 := Lib.hid (HB1.out.under ((under_drew (Under.refl _)).trans hU2))
  have hB22 := HB2.out.under ((under_drew (Under.refl _)).trans hU2)
  have HB22 := Lib.hid hB22
  have HRb := Lib.hid hrb
  obtain ⟨qb, cb, rfl, _, _⟩ := RowArg.of_own hrb
  rw [← HLen.out]
  have e3 : w2.cell? ⟨w.heap.size + 1, 3, none⟩ = some (.string s) := hB22.cell 3
  have e1 : w2.cell? ⟨w.heap.size + 1, 1, none⟩ = some (.int .i64 (u : Int)) := hB22.cell 1
  have e0 : w2.cell? ⟨w.heap.size + 1, 0, none⟩ = some (.int .i64 k) := hB22.cell 0
  have el := hB22.lt
  have hU3 : Under w2 ((w2.alloc (.cells #[.string W] 9)).alloc (.cells #[.slice (some ⟨w2.heap.size, 0, none⟩) 1 1] 23)) := under_alloc (under_alloc (Under.refl _) _) _
  have hB3 := hB22.under hU3
  have m3 : ((w2.alloc (.cells #[.string W] 9)).alloc (.cells #[.slice (some ⟨w2.heap.size, 0, none⟩) 1 1] 23)).cell? ⟨w.heap.size + 1, 3, none⟩ = some (.string s) := hB3.cell 3
  have m1 : ((w2.alloc (.cells #[.string W] 9)).alloc (.cells #[.slice (some ⟨w2.heap.size, 0, none⟩) 1 1] 23)).cell? ⟨w.heap.size + 1, 1, none⟩ = some (.int .i64 (u : Int)) := hB3.cell 1
  have m0 : ((w2.alloc (.cells #[.string W] 9)).alloc (.cells #[.slice (some ⟨w2.heap.size, 0, none⟩) 1 1] 23)).cell? ⟨w.heap.size + 1, 0, none⟩ = some (.int .i64 k) := hB3.cell 0
  have ml := hB3.lt
  have hL3 := box_new (w2.alloc (.cells #[.string W] 9)) #[.slice (some ⟨w2.heap.size, 0, none⟩) 1 1] 23
  rw [World.size_alloc] at hL3
  have l0 : ((w2.alloc (.cells #[.string W] 9)).alloc (.cells #[.slice (some ⟨w2.heap.size, 0, none⟩) 1 1] 23)).cell? ⟨w2.heap.size + 1, 0, none⟩ = some (.slice (some ⟨w2.heap.size, 0, none⟩) 1 1) := hL3.cell 0
  have ll := hL3.lt
  have hz2 : w.heap.size ≤ w2.heap.size := HU2.out.size
  have hbs : W0.heap.size ≤ w2.heap.size := (HP.out.und.trans HU2.out).size
  have hR3 := row_under (own_one w2 W0.heap.size 9 (.string W) hbs) (under_alloc (Under.refl _) (.cells #[.slice (some ⟨w2.heap.size, 0, none⟩) 1 1] 23))
  have hv3 : ∀ i, (Value.slice (some ⟨w2.heap.size, 0, none⟩) 1 1).ownBlock = some i → w2.heap.size ≤ i := fun i h => by cases h; exact Nat.le_refl _
  have HU23 := Lib.hid hU3
  have HL3 := Lib.hid hL3
  have HR3 := Lib.hid hR3
  have HV3 := Lib.hid hv3
  clear hrb hU2 hB22 hU3 hB3 hL3 hR3 hv3
  go_wp2_with fail
  refine (HI20.out _).mono ?_
  rintro e wI ⟨rfl, hwI⟩
  obtain rfl : w2 = wI := hwI.symm
  go_wp2_with fail
  refine (HAr.out _ (HU2.out.trans HU23.out)).mono ?_
  clear e3 e1 e0 el m3 m1 m0 ml l0 ll
  generalize ((w2.alloc (.cells #[.string W] 9)).alloc (.cells #[.slice (some ⟨w2.heap.size, 0, none⟩) 1 1] 23)) = w3 at HU23 HL3 HR3 ⊢
  rintro e w4 ⟨vr, vs, rfl, hU4, hvr, hz⟩
  have HU3 := Lib.hid (HU2.out.trans HU23.out)
  have HU4 := Lib.hid (HU3.out.trans hU4)
  have HU24 := Lib.hid (HU23.out.trans hU4)
  have h0 : WdI W0 w4 pb hq tb (w2.heap.size + 1) ks st sv (.slice (some ⟨w2.heap.size, 0, none⟩) 1 1) [W] sv (.slice (some ⟨w2.heap.size, 0, none⟩) 1 1) w4 := ⟨HP.out.under HU4.out, HL3.out.under hU4, row_under HR3.out hU4, by
    cases ho : ((.slice (some ⟨w2.heap.size, 0, none⟩) 1 1) : Value).ownBlock with
    | none => exact .inl rfl
    | some g =>
      right
      intro e
      have h1 := (row_lt HP.out.row (g := g) e.symm).2
      have h2 := HV3.out g ho
      omega, by omega, Ch.refl _, fun b _ e => e, fun b _ e => e⟩
  have H0 := Lib.hid h0
  have HB14 := Lib.hid (HB12.out.under HU24.out)
  have HB24 := Lib.hid (HB22.out.under HU24.out)
  have HRb4 := Lib.hid (row_under HRb.out HU24.out)
  have HVr := Lib.hid hvr
  have HZ := Lib.hid hz
  have hbase := HU4.out.size
  have hvl : vs.length = l.length := by have := hvr.1; omega
  obtain ⟨qp, cp, rfl, _, _⟩ := RowArg.of_own hvr
  have HVl := Lib.hid hvl
  have HLb := Lib.hid (show w.heap.size ≤ w2.heap.size + 1 by omega)
  have HLv := Lib.hid (fun i (h : ((.slice (some ⟨w2.heap.size, 0, none⟩) 1 1) : Value).ownBlock = some i) => (show w.heap.size ≤ i from Nat.le_trans hz2 (HV3.out i h)))
  have HB34 := Lib.hid (show W0.heap.size ≤ w3.heap.size from (HP.out.und.trans HU3.out).size)
  clear h0 hvr hz hU4 hvl HB12 HB22 HU23 HRb HL3 HR3
  go_wp2
  go_loopw [130] (fun i wr => WdRel W0 w4 pb hq tb (w2.heap.size + 1) ks st av sv (.slice (some ⟨w2.heap.size, 0, none⟩) 1 1) l (binds ⟨k, (u : Int), m, s⟩) [W] i wr) (fun i _ => l.length - (intOf i).toNat)
  case atStart => exact ⟨0, [], sv, (.slice (some ⟨w2.heap.size, 0, none⟩) 1 1), Nat.zero_le _, rfl, Nat.zero_le _, rfl, by rw [List.append_nil]; exact H0.out⟩
  case round =>
    obtain ⟨j, os, sv', lv', hj, rfl, hos, hpa, hI⟩ := hrel
    have HI := Lib.hid hI
    have HPa := Lib.hid hpa
    have HOs := Lib.hid hos
    have hj0 : (0 : Int) ≤ (j : Int) := by omega
    have hj8 : l.length ≤ 8 := by rw [HLen.out]; exact HL8.out
    clear hpa hos
    by_cases hjl : j < l.length
    · have hjb : j < (binds ⟨k, (u : Int), m, s⟩).length := by rw [← HLen.out]; exact hjl
      have hjl' : (j : Int) < (l.length : Int) := by omega
      have hjv : j < vs.length := by rw [HVl.out]; exact hjl
      have hrv := HI.out.row H0.out HVr.out (by decide) (by decide) (by decide)
      obtain ⟨gp, cp', ep, hgp, _, hgl, _, _⟩ := row_block hrv (by omega)
      obtain ⟨rfl, rfl⟩ : qp = some ⟨gp, 0, none⟩ ∧ cp = cp' := by cases ep; exact ⟨rfl, rfl⟩
      clear ep
      have v0 := row_cell hrv hgp (List.getElem?_eq_getElem hjv)
      have hrb := HI.out.row H0.out HRb4.out (by decide) (by decide) (by decide)
      obtain ⟨gb, cb', eb, hgb, _, hbl, _, _⟩ := row_block hrb (by omega)
      rw [← HLen.out] at eb
      obtain ⟨rfl, rfl⟩ : qb = some ⟨gb, 0, none⟩ ∧ cb = cb' := by cases eb; exact ⟨rfl, rfl⟩
      clear eb
      have hbi := intsN_at (List.getElem?_eq_getElem hjb)
      have hpart := row_base (HI.out.row H0.out (HZ.out.2 j _ _ (List.getElem?_eq_getElem hjv) (List.getElem?_eq_getElem hjl)) (by decide) (by decide) (by decide)) (base' := W0.heap.size) HB34.out
      have HPt := Lib.hid hpart
      have hin := inTs_at hjl hjb HIn.out
      have hb2 := HB22b.out _ (List.getElem_mem hjb)
      have hfp := flat_part (List.getElem_mem hjl)
      have HPl := Lib.hid (partsL_at (av := av) (st := st) hjl hjb)
      have HQ := HUn.out _ (List.getElem_mem hjl) (binds ⟨k, (u : Int), m, s⟩)[j]
      generalize hTT : l[j] = T at *
      generalize (binds ⟨k, (u : Int), m, s⟩)[j] = bj at *
      generalize vs[j] = xv at *
      obtain ⟨qx, cx, rfl, _, _⟩ := RowArg.of_own hpart
      have hbj0 : (0 : Int) ≤ (bj : Int) := by omega
      obtain ⟨W5, hW5⟩ : ∃ W5, W5 = ((wr.alloc (.cells #[.slice qx (flat T).length cx] 22)).alloc (.cells #[(.func (.func 37) #[] #[.pointer (some ⟨w2.heap.size + 1, 0, none⟩), .pointer (some ⟨w.heap.size, 0, none⟩), .pointer (some ⟨wr.heap.size, 0, none⟩), .pointer (some ⟨wr.heap.size + 1, 0, none⟩)])] 58)).drew := ⟨_, rfl⟩
      have hU5 : Under wr W5 := by rw [hW5]; exact under_drew (under_alloc (under_alloc (Under.refl _) _) _)
      have hUn : UnS W0 ⟨pb, hq, tb, w2.heap.size + 1, w.heap.size, wr.heap.size, wr.heap.size + 1⟩ ks st sv' ([W] ++ os) lv' (.slice qx (flat T).length cx) T W5 := by
        refine ⟨HI.out.pr.under hU5, HI.out.lbx.under hU5, row_under HI.out.lrow hU5, HI.out.apart, (HI.out.box H0.out HB14.out (by decide) (by decide) (by decide)).under hU5, ?_, ?_, row_under HPt.out hU5, HI.out.lo⟩
        · rw [hW5]; exact ((box_new wr _ _).alloc _).drew
        · rw [hW5]
          have := box_new (wr.alloc (.cells #[.slice qx (flat T).length cx] 22)) #[(.func (.func 37) #[] #[.pointer (some ⟨w2.heap.size + 1, 0, none⟩), .pointer (some ⟨w.heap.size, 0, none⟩), .pointer (some ⟨wr.heap.size, 0, none⟩), .pointer (some ⟨wr.heap.size + 1, 0, none⟩)])] 58
          rw [World.size_alloc] at this
          exact this.drew
      have HC := Lib.hid (HQ W0 W5 ⟨pb, hq, tb, w2.heap.size + 1, w.heap.size, wr.heap.size, wr.heap.size + 1⟩ ks st av ([W] ++ os) sv' lv' _ HW.out HS.out hUn HT0.out HHa.out (by have := HSt.out; have := HFl.out; omega) (by have := HOs.out; simp; omega) HSS.out hin)
      have u0 : W5.cell? ⟨wr.heap.size + 1, 0, none⟩ = some (.func (.func 37) #[] #[.pointer (some ⟨w2.heap.size + 1, 0, none⟩), .pointer (some ⟨w.heap.size, 0, none⟩), .pointer (some ⟨wr.heap.size, 0, none⟩), .pointer (some ⟨wr.heap.size + 1, 0, none⟩)]) := hUn.ubx.cell 0
      have b5 : W5.cell? ⟨gb, j, none⟩ = some (.int .i64 (bj : Int)) := row_cell (row_under hrb hU5) hgb hbi
      have tt := And.intro u0 b5
      have HBi := Lib.hid hbi
      have hb2' := hb2
      have HUn5 := Lib.hid hUn
      have HU5 := Lib.hid hU5
      have HE5 := Lib.hid hW5
      clear u0 b5 hrb hUn hU5 hpart hrv hbi hin HQ hb2 hfp hgb hgp hW5
      subst hTT
      go_wp2_with fail
      rw [HE5.out] at tt
      go_region_held3 (fun w' => w'.cell? ⟨wr.heap.size + 1, 0, none⟩ = some (.func (.func 37) #[] #[.pointer (some ⟨w2.heap.size + 1, 0, none⟩), .pointer (some ⟨w.heap.size, 0, none⟩), .pointer (some ⟨wr.heap.size, 0, none⟩), .pointer (some ⟨wr.heap.size + 1, 0, none⟩)]) ∧ w'.cell? ⟨gb, j, none⟩ = some (.int .i64 (bj : Int)))
        (first
          | exact tt
          | go_keep
          | exact ⟨q0, q1⟩)
        ((go_simp; go_at_call 37; rw [← HE5.out]; refine HC.out.mono ?_; rintro e w6 ⟨⟨v6, rfl⟩, sv6, lv6, hU6, hC6, hO6, hL6⟩
          have q0 : w6.cell? ⟨wr.heap.size + 1, 0, none⟩ = some (.func (.func 37) #[] #[.pointer (some ⟨w2.heap.size + 1, 0, none⟩), .pointer (some ⟨w.heap.size, 0, none⟩), .pointer (some ⟨wr.heap.size, 0, none⟩), .pointer (some ⟨wr.heap.size + 1, 0, none⟩)]) := hU6.ubx.cell 0
          have HW6 := Lib.hid ((HI.out.und HU5.out).step hU6 rfl rfl rfl rfl hC6 hO6 hL6)
          have q1 : w6.cell? ⟨gb, j, none⟩ = some (.int .i64 (bj : Int)) := row_cell (HW6.out.row H0.out HRb4.out (by decide) (by decide) (by decide)) rfl HBi.out))
      rename_i hHeld
      clear hHeld q0 q1 tt hU6 hC6 hO6 hL6
      go_wp2
      go_roundw
      case rel =>
        refine ⟨j + 1, os ++ bindN av st bj ++ [⟨(sayT av l[j] (st ++ bindN av st bj)).toArray⟩], sv6, lv6, by omega, by go_num, ?_, ?_, ?_⟩
        · have := HOs.out
          rw [List.length_append, List.length_append, bindN_len, List.length_singleton]
          omega
        · rw [HPa.out, HPl.out]
          simp
        · have := HW6.out
          simp only [List.append_assoc] at this ⊢
          exact this
      case measure => simp [intOf]; omega
    · obtain rfl : j = l.length := by omega
      have hos : os = partsL av l (binds ⟨k, (u : Int), m, s⟩) st := by rw [HPa.out, List.drop_length]; simp [partsL]
      rw [HB01.out, HLab.out] at hos
      obtain ⟨g9, c9, e9, hg9, _, hl9, hc9, _⟩ := row_block HI.out.lrow (by simp)
      subst e9
      have hos3 : os = [⟨(sayT av ta st).toArray⟩, nm, ⟨(sayT av tb' (st ++ [nm])).toArray⟩] := by rw [hos, HNm.out]; simp [partsL, bindN]
      generalize hTA : (⟨(sayT av ta st).toArray⟩ : ByteArray) = TA at hos3 HT
      generalize hTB : (⟨(sayT av tb' (st ++ [nm])).toArray⟩ : ByteArray) = TB at hos3 HT
      subst hos3
      have hrow := HI.out.lrow
      have z0 : wr.cell? ⟨w2.heap.size + 1, 0, none⟩ = some (.slice (some ⟨g9, 0, none⟩) 4 c9) := HI.out.lbx.cell 0
      have z1 := HI.out.lbx.lt
      have hnb := HI.out.box H0.out HB24.out (by decide) (by decide) (by decide)
      have z4 : wr.cell? ⟨w.heap.size + 1, 0, none⟩ = some (.int .i64 k) := hnb.cell 0
      have z5 := hnb.lt
      have y1 : wr.cell? ⟨g9, 1, none⟩ = some (.string TA) := row_cell hrow rfl rfl
      have y2 : wr.cell? ⟨g9, 2, none⟩ = some (.string nm) := row_cell hrow rfl rfl
      have y3 := row_free hrow (g := g9) rfl 1
      have y4 := row_free hrow (g := g9) rfl 2
      have y5 : g9 < wr.heap.size := (row_lt hrow rfl).2
      have hne : w2.heap.size + 1 ≠ g9 := fun e => box_own_ne HI.out.lbx hrow (by decide) (by rw [e]; rfl)
      have HNe := Lib.hid hne
      have i1 : (1 : Int) < 4 := by omega
      go_wp2_with fail
      have hrow1 := row_set hrow (g := g9) rfl (j := 1) (by simp) (.string nm)
      have y6 : (wr.setCell ⟨g9, 1, none⟩ (.string nm)).cell? ⟨g9, 2, none⟩ = some (.string nm) := row_cell hrow1 rfl rfl
      have y7 := row_free hrow1 (g := g9) rfl 2
      have y8 := (row_lt hrow1 (g := g9) rfl).2
      have hrow2 := row_set hrow1 (g := g9) rfl (j := 2) (by simp) (.string TA)
      have HR2 := Lib.hid hrow2
      have hl1 := HI.out.lbx.other hne 1 (.string nm)
      have hl2 := hl1.other hne 2 (.string TA)
      have HL2 := Lib.hid hl2
      refine wp_region_noPanic ?_
      refine wp_region_held_drew (S := fun w' => w'.cell? ⟨w2.heap.size + 1, 0, none⟩ = some (.slice (some ⟨g9, 0, none⟩) 4 c9)) (by kernel_rfl) z0 (fun hHeld => ?_)
      refine wpAnyH_take (i := 0) (v := ?v0) rfl (by kernel_rfl) (by kernel_rfl) (by kernel_rfl) (fun _ _ _ h => h) (Or.inl ⟨by (first | kernel_rfl | rfl), ?hy0⟩) (by assumption) ?rest0
      case hy0 => (intro w hSw; (try dsimp only at hSw); go_simp; try with_reducible rfl)
      try simp only [Act.put, List.setIfInBounds_toArray, List.set_cons_zero, List.set_cons_succ]
      refine wpAnyH_take (i := 1) (v := ?v1) rfl (by kernel_rfl) (by kernel_rfl) (by kernel_rfl) (fun _ _ _ h => h) (Or.inl ⟨by (first | kernel_rfl | rfl), ?hy1⟩) (by assumption) ?rest1
      case hy1 => (intro w hSw; (try dsimp only at hSw); go_simp; try with_reducible rfl)
      try simp only [Act.put, List.setIfInBounds_toArray, List.set_cons_zero, List.set_cons_succ]
      refine wpAnyH_take (i := 2) (v := ?v2) rfl (by kernel_rfl) (by kernel_rfl) (by kernel_rfl) (fun _ _ _ h => h) (Or.inl ⟨by (first | kernel_rfl | rfl), ?hy2⟩) (by assumption) ?rest2
      case hy2 => (intro w hSw; (try dsimp only at hSw); go_simp; try with_reducible rfl)
      try simp only [Act.put, List.setIfInBounds_toArray, List.set_cons_zero, List.set_cons_succ]
      refine wpAnyH_take (i := 3) (v := ?v3) rfl (by kernel_rfl) (by kernel_rfl) (by kernel_rfl) (fun _ _ _ h => h) (Or.inl ⟨by (first | kernel_rfl | rfl), ?hy3⟩) (by assumption) ?rest3
      case hy3 => (intro w hSw; (try dsimp only at hSw); go_simp; try with_reducible rfl)
      try simp only [Act.put, List.setIfInBounds_toArray, List.set_cons_zero, List.set_cons_succ]
      refine wpAnyH_take (i := 5) (v := ?v5) rfl (by kernel_rfl) (by kernel_rfl) (by kernel_rfl) (fun _ _ _ h => h) (Or.inl ⟨by (first | kernel_rfl | rfl), ?hy5⟩) (by assumption) ?rest5
      case hy5 => (intro w hSw; (try dsimp only at hSw); go_simp; try with_reducible rfl)
      try simp only [Act.put, List.setIfInBounds_toArray, List.set_cons_zero, List.set_cons_succ]
      refine wpAnyH_take (i := 6) (v := ?v6) rfl (by kernel_rfl) (by kernel_rfl) (by kernel_rfl) (fun _ _ _ h => h) (Or.inl ⟨by (first | kernel_rfl | rfl), ?hy6⟩) (by assumption) ?rest6
      case hy6 => (intro w hSw; (try dsimp only at hSw); go_simp; try with_reducible rfl)
      try simp only [Act.put, List.setIfInBounds_toArray, List.set_cons_zero, List.set_cons_succ]
      refine wpAnyH_ready (rs := [4, 7]) (by kernel_rfl) (by simp) ?_
      refine AllReadyH.cons rfl (fun K hK => ?_) (AllReadyH.cons rfl (fun K hK => ?_) AllReadyH.nil)
      · go_simp
        refine hK.out _ _ hHeld (fun hHeld' => ?_)
        clear hK K hHeld
        have hHeld := hHeld'
        clear hHeld'
        try simp only [Act.put, List.setIfInBounds_toArray, List.set_cons_zero, List.set_cons_succ]
        refine wpAnyH_ready (rs := [7]) (by kernel_rfl) (by simp) ?_
        refine AllReadyH.cons rfl (fun K hK => ?_) AllReadyH.nil
        go_simp
        refine hK.out _ _ hHeld (fun hHeld' => ?_)
        clear hK K hHeld
        have hHeld := hHeld'
        clear hHeld'
        try simp only [Act.put, List.setIfInBounds_toArray, List.set_cons_zero, List.set_cons_succ]
        refine wpAnyH_take (i := 8) (v := ?v8a) rfl (by kernel_rfl) (by kernel_rfl) (by kernel_rfl) (fun _ _ _ h => h) (Or.inl ⟨by (first | kernel_rfl | rfl), ?hy8a⟩) (by assumption) ?rest8a
        case hy8a => (intro w hSw; (try dsimp only at hSw); go_simp; try with_reducible rfl)
        try simp only [Act.put, List.setIfInBounds_toArray, List.set_cons_zero, List.set_cons_succ]
        refine wpAnyH_ready (rs := [9]) (by kernel_rfl) (by simp) ?_
        refine AllReadyH.cons rfl (fun K hK => ?_) AllReadyH.nil
        go_simp
        refine hK.out _ _ (by exact hl1.cell 0) (fun hHeld' => ?_)
        clear hK K hHeld
        have hHeld := hHeld'
        clear hHeld'
        try simp only [Act.put, List.setIfInBounds_toArray, List.set_cons_zero, List.set_cons_succ]
        refine wpAnyH_take (i := 10) (v := ?v10a) rfl (by kernel_rfl) (by kernel_rfl) (by kernel_rfl) (fun _ _ _ h => h) (Or.inl ⟨by (first | kernel_rfl | rfl), ?hy10a⟩) (by assumption) ?rest10a
        case hy10a => (intro w hSw; (try dsimp only at hSw); go_simp; try with_reducible rfl)
        try simp only [Act.put, List.setIfInBounds_toArray, List.set_cons_zero, List.set_cons_succ]
        refine wpAnyH_ready (rs := [11]) (by kernel_rfl) (by simp) ?_
        refine AllReadyH.cons rfl (fun K hK => ?_) AllReadyH.nil
        go_simp
        refine hK.out _ _ (by exact hl2.cell 0) (fun hHeld' => ?_)
        clear hK K hHeld
        have hHeld := hHeld'
        clear hHeld'
        try simp only [Act.put, List.setIfInBounds_toArray, List.set_cons_zero, List.set_cons_succ]
        refine wpAnyH_done (by kernel_rfl) ?_ _
        refine NoPanic.normal ?_
        clear z0 z1 hnb z4 z5 y1 y2 y3 y4 y5 y6 y7 y8 hrow1 hrow2 hl1 hl2 hHeld i1
        have hW8 : Under ((wr.setCell ⟨g9, 1, none⟩ (.string nm)).setCell ⟨g9, 2, none⟩ (.string TA)) ((wr.setCell ⟨g9, 1, none⟩ (.string nm)).setCell ⟨g9, 2, none⟩ (.string TA)).drew := under_drew (Under.refl _)
        have hr8 := row_under HR2.out hW8
        have hb8 := HL2.out.under hW8
        have hc8 : Ch (fun i => (Value.slice (some ⟨g9, 0, none⟩) 4 c9).ownBlock = some i) wr ((wr.setCell ⟨g9, 1, none⟩ (.string nm)).setCell ⟨g9, 2, none⟩ (.string TA)).drew := (((Ch.refl (C := fun i => (Value.slice (some ⟨g9, 0, none⟩) 4 c9).ownBlock = some i) wr).set (g := g9) (fun _ => rfl) 1 _).set (g := g9) (fun _ => rfl) 2 _).under hW8
        have HPJ := Lib.hid (pr_set HI.out.pr HI.out.lrow HI.out.apart hc8)
        have HCJ := Lib.hid (((Ch.of_under HU4.out).trans HI.out.ch (D := fun b => PrC pb tb sv b ∨ b = w2.heap.size + 1 ∨ ((.slice (some ⟨w2.heap.size, 0, none⟩) 1 1) : Value).ownBlock = some b) (C := PrC pb tb sv) (fun i hi h => by
          rcases h with h | h | h
          · exact h
          · have := HLb.out; omega
          · have := HLv.out i h; omega)).trans hc8 (fun i hi h => by
          have h1 := HI.out.lown i (by have := HU4.out.size; omega) h
          have := HLv.out i h1
          omega))
        have x0 : ((wr.setCell ⟨g9, 1, none⟩ (.string nm)).setCell ⟨g9, 2, none⟩ (.string TA)).drew.cell? ⟨w2.heap.size + 1, 0, none⟩ = some (.slice (some ⟨g9, 0, none⟩) 4 c9) := hb8.cell 0
        have x1 := hb8.lt
        have hJ : ∀ jj u, [W, nm, TA, TB][jj]? = some u → ((wr.setCell ⟨g9, 1, none⟩ (.string nm)).setCell ⟨g9, 2, none⟩ (.string TA)).drew.cell? ⟨g9, 0 + jj, none⟩ = some (.string u) := fun jj u hu => by
          rw [Nat.zero_add]
          refine row_cell hr8 rfl ?_
          show ([W, nm, TA, TB].map Value.string)[jj]? = _
          rw [List.getElem?_map, hu]
          rfl
        have HTs := HT.out
        obtain ⟨J, hJd⟩ : ∃ J, J = Lib.join ([W, nm, TA, TB].map (·.data.toList)) (⟨#[32]⟩ : ByteArray).data.toList := ⟨_, rfl⟩
        have hTJ : sayT av (.mk ⟨k, (u : Int), m, s⟩ l) st = 40 :: J ++ [41] := by rw [HTs, hJd]
        have hJl : J.length + 2 ≤ 1000000 := by
          have h1 := HSl.out
          have h2 := HN4.out
          rw [hTJ] at h1
          simp at h1
          omega
        have HJc := Lib.hid (Tryz.strings_Join g9 0 c9 [W, nm, TA, TB] ⟨#[32]⟩ ((wr.setCell ⟨g9, 1, none⟩ (.string nm)).setCell ⟨g9, 2, none⟩ (.string TA)).drew hJ (row_lt hr8 rfl).2 (by simp) hc9 (by rw [← hJd]; omega))
        rw [← hJd] at HJc
        have HTJ := Lib.hid hTJ
        have z2 : ¬ 9223372036854775807 < 1 + J.toArray.size := by simp; omega
        have z3 : ¬ 9223372036854775807 < 1 + J.toArray.size + 1 := by simp; omega
        clear hos hJ HTs hJd hTJ hJl HT hW8 hr8 hb8 hc8
        go_wp2_with fail
        clear x0 x1
        refine HJc.out.mono ?_
        rintro e w7 ⟨rfl, hBl⟩
        have HU7 := Lib.hid (under_below hBl)
        clear hBl HJc
        go_wp2
        go_ret
        exact ⟨ret_str (by rw [HTJ.out]; exact ByteArray.ext (by simp)), sv', HPJ.out.under HU7.out, HCJ.out.under HU7.out, fun b hb e => HI.out.own b (by have := HU4.out.size; omega) e⟩
      · go_simp
        refine hK.out _ _ hHeld (fun hHeld' => ?_)
        clear hK K hHeld
        have hHeld := hHeld'
        clear hHeld'
        try simp only [Act.put, List.setIfInBounds_toArray, List.set_cons_zero, List.set_cons_succ]
        refine wpAnyH_ready (rs := [4]) (by kernel_rfl) (by simp) ?_
        refine AllReadyH.cons rfl (fun K hK => ?_) AllReadyH.nil
        go_simp
        refine hK.out _ _ hHeld (fun hHeld' => ?_)
        clear hK K hHeld
        have hHeld := hHeld'
        clear hHeld'
        try simp only [Act.put, List.setIfInBounds_toArray, List.set_cons_zero, List.set_cons_succ]
        refine wpAnyH_take (i := 8) (v := ?v8b) rfl (by kernel_rfl) (by kernel_rfl) (by kernel_rfl) (fun _ _ _ h => h) (Or.inl ⟨by (first | kernel_rfl | rfl), ?hy8b⟩) (by assumption) ?rest8b
        case hy8b => (intro w hSw; (try dsimp only at hSw); go_simp; try with_reducible rfl)
        try simp only [Act.put, List.setIfInBounds_toArray, List.set_cons_zero, List.set_cons_succ]
        refine wpAnyH_ready (rs := [9]) (by kernel_rfl) (by simp) ?_
        refine AllReadyH.cons rfl (fun K hK => ?_) AllReadyH.nil
        go_simp
        refine hK.out _ _ (by exact hl1.cell 0) (fun hHeld' => ?_)
        clear hK K hHeld
        have hHeld := hHeld'
        clear hHeld'
        try simp only [Act.put, List.setIfInBounds_toArray, List.set_cons_zero, List.set_cons_succ]
        refine wpAnyH_take (i := 10) (v := ?v10b) rfl (by kernel_rfl) (by kernel_rfl) (by kernel_rfl) (fun _ _ _ h => h) (Or.inl ⟨by (first | kernel_rfl | rfl), ?hy10b⟩) (by assumption) ?rest10b
        case hy10b => (intro w hSw; (try dsimp only at hSw); go_simp; try with_reducible rfl)
        try simp only [Act.put, List.setIfInBounds_toArray, List.set_cons_zero, List.set_cons_succ]
        refine wpAnyH_ready (rs := [11]) (by kernel_rfl) (by simp) ?_
        refine AllReadyH.cons rfl (fun K hK => ?_) AllReadyH.nil
        go_simp
        refine hK.out _ _ (by exact hl2.cell 0) (fun hHeld' => ?_)
        clear hK K hHeld
        have hHeld := hHeld'
        clear hHeld'
        try simp only [Act.put, List.setIfInBounds_toArray, List.set_cons_zero, List.set_cons_succ]
        refine wpAnyH_done (by kernel_rfl) ?_ _
        refine NoPanic.normal ?_
        clear z0 z1 hnb z4 z5 y1 y2 y3 y4 y5 y6 y7 y8 hrow1 hrow2 hl1 hl2 hHeld i1
        have hW8 : Under ((wr.setCell ⟨g9, 1, none⟩ (.string nm)).setCell ⟨g9, 2, none⟩ (.string TA)) ((wr.setCell ⟨g9, 1, none⟩ (.string nm)).setCell ⟨g9, 2, none⟩ (.string TA)).drew := under_drew (Under.refl _)
        have hr8 := row_under HR2.out hW8
        have hb8 := HL2.out.under hW8
        have hc8 : Ch (fun i => (Value.slice (some ⟨g9, 0, none⟩) 4 c9).ownBlock = some i) wr ((wr.setCell ⟨g9, 1, none⟩ (.string nm)).setCell ⟨g9, 2, none⟩ (.string TA)).drew := (((Ch.refl (C := fun i => (Value.slice (some ⟨g9, 0, none⟩) 4 c9).ownBlock = some i) wr).set (g := g9) (fun _ => rfl) 1 _).set (g := g9) (fun _ => rfl) 2 _).under hW8
        have HPJ := Lib.hid (pr_set HI.out.pr HI.out.lrow HI.out.apart hc8)
        have HCJ := Lib.hid (((Ch.of_under HU4.out).trans HI.out.ch (D := fun b => PrC pb tb sv b ∨ b = w2.heap.size + 1 ∨ ((.slice (some ⟨w2.heap.size, 0, none⟩) 1 1) : Value).ownBlock = some b) (C := PrC pb tb sv) (fun i hi h => by
          rcases h with h | h | h
          · exact h
          · have := HLb.out; omega
          · have := HLv.out i h; omega)).trans hc8 (fun i hi h => by
          have h1 := HI.out.lown i (by have := HU4.out.size; omega) h
          have := HLv.out i h1
          omega))
        have x0 : ((wr.setCell ⟨g9, 1, none⟩ (.string nm)).setCell ⟨g9, 2, none⟩ (.string TA)).drew.cell? ⟨w2.heap.size + 1, 0, none⟩ = some (.slice (some ⟨g9, 0, none⟩) 4 c9) := hb8.cell 0
        have x1 := hb8.lt
        have hJ : ∀ jj u, [W, nm, TA, TB][jj]? = some u → ((wr.setCell ⟨g9, 1, none⟩ (.string nm)).setCell ⟨g9, 2, none⟩ (.string TA)).drew.cell? ⟨g9, 0 + jj, none⟩ = some (.string u) := fun jj u hu => by
          rw [Nat.zero_add]
          refine row_cell hr8 rfl ?_
          show ([W, nm, TA, TB].map Value.string)[jj]? = _
          rw [List.getElem?_map, hu]
          rfl
        have HTs := HT.out
        obtain ⟨J, hJd⟩ : ∃ J, J = Lib.join ([W, nm, TA, TB].map (·.data.toList)) (⟨#[32]⟩ : ByteArray).data.toList := ⟨_, rfl⟩
        have hTJ : sayT av (.mk ⟨k, (u : Int), m, s⟩ l) st = 40 :: J ++ [41] := by rw [HTs, hJd]
        have hJl : J.length + 2 ≤ 1000000 := by
          have h1 := HSl.out
          have h2 := HN4.out
          rw [hTJ] at h1
          simp at h1
          omega
        have HJc := Lib.hid (Tryz.strings_Join g9 0 c9 [W, nm, TA, TB] ⟨#[32]⟩ ((wr.setCell ⟨g9, 1, none⟩ (.string nm)).setCell ⟨g9, 2, none⟩ (.string TA)).drew hJ (row_lt hr8 rfl).2 (by simp) hc9 (by rw [← hJd]; omega))
        rw [← hJd] at HJc
        have HTJ := Lib.hid hTJ
        have z2 : ¬ 9223372036854775807 < 1 + J.toArray.size := by simp; omega
        have z3 : ¬ 9223372036854775807 < 1 + J.toArray.size + 1 := by simp; omega
        clear hos hJ HTs hJd hTJ hJl HT hW8 hr8 hb8 hc8
        go_wp2_with fail
        clear x0 x1
        refine HJc.out.mono ?_
        rintro e w7 ⟨rfl, hBl⟩
        have HU7 := Lib.hid (under_below hBl)
        clear hBl HJc
        go_wp2
        go_ret
        exact ⟨ret_str (by rw [HTJ.out]; exact ByteArray.ext (by simp)), sv', HPJ.out.under HU7.out, HCJ.out.under HU7.out, fun b hb e => HI.out.own b (by have := HU4.out.size; omega) e⟩
end Go.Proofs.YtiibknlpeodejaaGreatDoor

/- pretty.(*printer).words: binders of types without a number, kind 6. Printed by pwords.py. -/
namespace Go.Proofs.YtiibknlpeodejaaGreatDoor
open Go.Lx Go.RowKit
attribute [local go_sem] store_func

set_option maxRecDepth 100000 in
set_option maxHeartbeats 2000000 in
theorem words_six0 (x : Nd) (l : List Tm) (f0 : (x.k == 0) = false) (f1 : (x.k == 1) = false) (f2 : (x.k == 2) = false) (fp : plainK x = false) (f3 : (x.k == 3) = false) (f6 : (x.k == 6) = true) (fn : x.n = 0) (ih : ∀ a ∈ l, WordsOk a) : WordsOk (.mk x l) := by
  obtain ⟨i0, hi, hz0, hz1, hz2'⟩ := info_parts Tryz.infoStrZ
  have g0 : x.k ≠ 0 := by simpa using f0
  have g1 : x.k ≠ 1 := by simpa using f1
  have g2 : x.k ≠ 2 := by simpa using f2
  have g4 : x.k = 6 := by simpa using f6
  have f26 : (x.k == 26) = false := by rw [g4]; rfl
  have hb01 : binds x = [0, 1] := by simp [binds, g4, bindsOf]
  rintro hok hd hn W0 w pb hq tb ks st av sv tv hW hS hP hT hv hA ha hst hss hin
  have hx := hok.1
  have hte : (flat (.mk x l))[(flat (.mk x l)).length - 1]? = some x := by rw [flat]; simp
  have hpos : 1 ≤ (flat (.mk x l)).length := by rw [flat]; simp
  have hsl := sayT_len av (by omega) (.mk x l) hok st hss (by omega)
  have hlen := hok.2.1
  have hl8 := binds_len hx
  have hbr : (if rightB x then binds x else []) = binds x := if_pos hx
  have hb2 : ∀ b ∈ binds x, b ≤ 2 := fun b hb => by have := bindsR_le (x := x); unfold bindsR at this; rw [hbr] at this; exact this b hb
  unfold inT at hin
  rw [if_neg (by omega)] at hin
  obtain ⟨p, c, rfl, hc, hp0, hr⟩ := hv
  obtain ⟨b, off, rfl, hb, c0, c1, c2, c3⟩ := RowArg.node hr hte
  have HAr := Lib.hid (fun w1 (hU : Under w w1) => args_any (w0 := w1) x l (t := flat (.mk x l)) (b := b) (off := off) (c := c) rfl hok hd hn hc (hr.under hU) ((hS.under hP.und).under hU))
  have HBn := Lib.hid (fun w1 (hU : Under w w1) => binds_any (w0 := w1) x (by have := rightB_s hx; simp only [maxLen]; omega) ((hS.under hP.und).under hU))
  have HUn := Lib.hid (fun a (ha' : a ∈ l) => under_any a (okTs_mem.1 hok.2.2 a ha') (Nat.le_trans (deep_part ha') hd) (by have := flat_part ha'; rw [flat, List.length_append] at hn; omega) (ih a ha'))
  have hfl : (flat (.mk x l)).length = (flats l).length + 1 := by rw [flat]; simp
  obtain ⟨M, hM⟩ : ∃ M, (flat (.mk x l)).length = M + 1 := ⟨(flat (.mk x l)).length - 1, by omega⟩
  rw [hM] at c0 c1 c2 c3
  simp only [Nat.add_sub_cancel] at c0 c1 c2 c3
  have hM0 : (0 : Int) ≤ (M : Int) := by omega
  have hM4 : (M : Int) ≤ 4000 := by omega
  have hMi : ((M : Int) + 1 - 1) = (M : Int) := by omega
  have hk := rightB_k hx
  obtain ⟨w1, hw1⟩ : ∃ w1, w1 = (w.alloc (.cells #[.pointer (some ⟨pb, 0, none⟩)] 41)).alloc (.cells #[.int .i64 x.k, .int .i64 x.n, .int .i64 x.m, .string x.s] 38) := ⟨_, rfl⟩
  have hU1 : Under w w1 := by rw [hw1]; exact under_alloc (under_alloc (Under.refl w) _) _
  have hB1 : BoxAt w1 w.heap.size 41 #[.pointer (some ⟨pb, 0, none⟩)] := by rw [hw1]; exact (box_new w _ _).alloc _
  have hB2 : BoxAt w1 (w.heap.size + 1) 38 #[.int .i64 x.k, .int .i64 x.n, .int .i64 x.m, .string x.s] := by
    have := box_new (w.alloc (.cells #[.pointer (some ⟨pb, 0, none⟩)] 41)) #[.int .i64 x.k, .int .i64 x.n, .int .i64 x.m, .string x.s] 38
    rw [World.size_alloc] at this
    rw [hw1]
    exact this
  have hP1 := hP.under hU1
  have d0 : w1.cell? ⟨w.heap.size, 0, none⟩ = some (.pointer (some ⟨pb, 0, none⟩)) := hB1.cell 0
  have d1 : w1.cell? ⟨pb, 0, none⟩ = some (.map (some hq)) := hP1.box.cell 0
  have d2 : w1.cell? ⟨w.heap.size + 1, 0, none⟩ = some (.int .i64 x.k) := hB2.cell 0
  have d3 : MapIAt w1 hq headsL := hP1.heads
  have hsz1 : w1.heap.size = w.heap.size + 2 := by rw [hw1]; simp
  have HFd := head_field
  have HLk := fun (w' : World) (h : MapIAt w' hq headsL) => heads_look h hk.1 hk.2
  rw [hM]
  have HU1 := Lib.hid hU1
  have HB1 := Lib.hid hB1
  have HB2 := Lib.hid hB2
  have HP1 := Lib.hid hP1
  have HP := Lib.hid hP
  have HT0 := Lib.hid hT
  have dd := And.intro d0 (And.intro d1 (And.intro d2 d3))
  have HK := Lib.hid hk
  have HIn := Lib.hid hin
  have HLen := Lib.hid hlen
  have HL8 := Lib.hid hl8
  have HBr := Lib.hid hbr
  have HB22b := Lib.hid hb2
  have HX := Lib.hid hx
  have HSS := Lib.hid hss
  have HW := Lib.hid hW
  have HS := Lib.hid hS
  have HFl := Lib.hid hfl
  have HSt := Lib.hid hst
  have HHa := Lib.hid ha
  have HM := Lib.hid hM
  rw [hM] at hc hsl HAr hn
  have HSl := Lib.hid hsl
  have HN4 := Lib.hid hn
  clear hte hr hok hin hst hss hA hT hS hW hP hU1 hB1 hB2 hP1 hpos hn hM hp0 hx hd d0 d1 d2 d3 hk hsl hlen hl8 hbr hb2 hfl ha ih
  have fs : (x.s.toList == []) = true := by
    rcases rightB_name HX.out with ⟨h, _⟩ | ⟨_, h⟩
    · rw [h]; rfl
    · rw [g4] at h; cases h
  obtain ⟨ta, tb', hlab⟩ : ∃ ta tb', l = [ta, tb'] := by
    have h2 : l.length = 2 := by rw [HLen.out, hb01]; rfl
    match l, h2 with
    | [a, b], _ => exact ⟨a, b, rfl⟩
  obtain ⟨nm, hnm⟩ : ∃ nm, nm = nameN (freshN (av ++ st) st.length) := ⟨_, rfl⟩
  have HT : RowKit.Hid (sayT av (.mk x l) st = 40 :: Lib.join ([wordsB x, nm, ⟨(sayT av ta st).toArray⟩, ⟨(sayT av tb' (st ++ [nm])).toArray⟩].map (·.data.toList)) [32] ++ [41]) := Lib.hid (by
    rw [hlab, hnm]
    exact say_first g0 g1 g2 fp (by simp [firstK, g4]) fs hb01 (by simpa using f26))
  have HNm := Lib.hid hnm
  have HLab := Lib.hid hlab
  have HB01 := Lib.hid hb01
  have fl : ((l.length : Int) == 0) = false := by rw [hlab]; rfl
  clear hnm hlab hb01
  have HWd : RowKit.Hid (headB x.k.toNat = wordsB x) := Lib.hid (by unfold wordsB; rw [if_neg (by omega)])
  rw [HWd.out] at HLk
  generalize wordsB x = W at *
  subst hw1
  clear g0 g1 g2 g4 fp HWd HX
  obtain ⟨k, n, m, s⟩ := x
  simp only at *
  subst fn
  go_enter Tryz.func21, Tryz.ntmps21
  go_wp2_with fail
  go_region_held3 (fun w' => w'.cell? ⟨w.heap.size, 0, none⟩ = some (.pointer (some ⟨pb, 0, none⟩)) ∧ w'.cell? ⟨pb, 0, none⟩ = some (.map (some hq)) ∧ w'.cell? ⟨w.heap.size + 1, 0, none⟩ = some (.int .i64 k) ∧ MapIAt w' hq headsL)
    (first
      | exact dd
      | go_keep)
    (fail)
  rename_i hHeld
  clear dd hHeld HLk HFd c0 c1 c2 c3
  go_wp2_with fail
  refine (HBn.out _ (HU1.out.trans (under_drew (Under.refl _)))).mono ?_
  rintro e w2 ⟨vb, rfl, hrb, hU2⟩
  rw [HBr.out] at hrb
  have HU2 := Lib.hid ((HU1.out.trans (under_drew (Under.refl _))).trans hU2)
  have HB12 := Lib.hid (HB1.out.under ((under_drew (Under.refl _)).trans hU2))
  have hB22 := HB2.out.under ((under_drew (Under.refl _)).trans hU2)
  have HB22 := Lib.hid hB22
  have HRb := Lib.hid hrb
  obtain ⟨qb, cb, rfl, _, _⟩ := RowArg.of_own hrb
  rw [← HLen.out]
  have e3 : w2.cell? ⟨w.heap.size + 1, 3, none⟩ = some (.string s) := hB22.cell 3
  have e1 : w2.cell? ⟨w.heap.size + 1, 1, none⟩ = some (.int .i64 0) := hB22.cell 1
  have e0 : w2.cell? ⟨w.heap.size + 1, 0, none⟩ = some (.int .i64 k) := hB22.cell 0
  have el := hB22.lt
  have hU3 : Under w2 ((w2.alloc (.cells #[.string W] 9)).alloc (.cells #[.slice (some ⟨w2.heap.size, 0, none⟩) 1 1] 23)) := under_alloc (under_alloc (Under.refl _) _) _
  have hB3 := hB22.under hU3
  have m3 : ((w2.alloc (.cells #[.string W] 9)).alloc (.cells #[.slice (some ⟨w2.heap.size, 0, none⟩) 1 1] 23)).cell? ⟨w.heap.size + 1, 3, none⟩ = some (.string s) := hB3.cell 3
  have m1 : ((w2.alloc (.cells #[.string W] 9)).alloc (.cells #[.slice (some ⟨w2.heap.size, 0, none⟩) 1 1] 23)).cell? ⟨w.heap.size + 1, 1, none⟩ = some (.int .i64 0) := hB3.cell 1
  have m0 : ((w2.alloc (.cells #[.string W] 9)).alloc (.cells #[.slice (some ⟨w2.heap.size, 0, none⟩) 1 1] 23)).cell? ⟨w.heap.size + 1, 0, none⟩ = some (.int .i64 k) := hB3.cell 0
  have ml := hB3.lt
  have hL3 := box_new (w2.alloc (.cells #[.string W] 9)) #[.slice (some ⟨w2.heap.size, 0, none⟩) 1 1] 23
  rw [World.size_alloc] at hL3
  have l0 : ((w2.alloc (.cells #[.string W] 9)).alloc (.cells #[.slice (some ⟨w2.heap.size, 0, none⟩) 1 1] 23)).cell? ⟨w2.heap.size + 1, 0, none⟩ = some (.slice (some ⟨w2.heap.size, 0, none⟩) 1 1) := hL3.cell 0
  have ll := hL3.lt
  have hz2 : w.heap.size ≤ w2.heap.size := HU2.out.size
  have hbs : W0.heap.size ≤ w2.heap.size := (HP.out.und.trans HU2.out).size
  have hR3 := row_under (own_one w2 W0.heap.size 9 (.string W) hbs) (under_alloc (Under.refl _) (.cells #[.slice (some ⟨w2.heap.size, 0, none⟩) 1 1] 23))
  have hv3 : ∀ i, (Value.slice (some ⟨w2.heap.size, 0, none⟩) 1 1).ownBlock = some i → w2.heap.size ≤ i := fun i h => by cases h; exact Nat.le_refl _
  have HU23 := Lib.hid hU3
  have HL3 := Lib.hid hL3
  have HR3 := Lib.hid hR3
  have HV3 := Lib.hid hv3
  clear hrb hU2 hB22 hU3 hB3 hL3 hR3 hv3
  go_wp2_with fail
  refine (HAr.out _ (HU2.out.trans HU23.out)).mono ?_
  clear e3 e1 e0 el m3 m1 m0 ml l0 ll
  generalize ((w2.alloc (.cells #[.string W] 9)).alloc (.cells #[.slice (some ⟨w2.heap.size, 0, none⟩) 1 1] 23)) = w3 at HU23 HL3 HR3 ⊢
  rintro e w4 ⟨vr, vs, rfl, hU4, hvr, hz⟩
  have HU3 := Lib.hid (HU2.out.trans HU23.out)
  have HU4 := Lib.hid (HU3.out.trans hU4)
  have HU24 := Lib.hid (HU23.out.trans hU4)
  have h0 : WdI W0 w4 pb hq tb (w2.heap.size + 1) ks st sv (.slice (some ⟨w2.heap.size, 0, none⟩) 1 1) [W] sv (.slice (some ⟨w2.heap.size, 0, none⟩) 1 1) w4 := ⟨HP.out.under HU4.out, HL3.out.under hU4, row_under HR3.out hU4, by
    cases ho : ((.slice (some ⟨w2.heap.size, 0, none⟩) 1 1) : Value).ownBlock with
    | none => exact .inl rfl
    | some g =>
      right
      intro e
      have h1 := (row_lt HP.out.row (g := g) e.symm).2
      have h2 := HV3.out g ho
      omega, by omega, Ch.refl _, fun b _ e => e, fun b _ e => e⟩
  have H0 := Lib.hid h0
  have HB14 := Lib.hid (HB12.out.under HU24.out)
  have HB24 := Lib.hid (HB22.out.under HU24.out)
  have HRb4 := Lib.hid (row_under HRb.out HU24.out)
  have HVr := Lib.hid hvr
  have HZ := Lib.hid hz
  have hbase := HU4.out.size
  have hvl : vs.length = l.length := by have := hvr.1; omega
  obtain ⟨qp, cp, rfl, _, _⟩ := RowArg.of_own hvr
  have HVl := Lib.hid hvl
  have HLb := Lib.hid (show w.heap.size ≤ w2.heap.size + 1 by omega)
  have HLv := Lib.hid (fun i (h : ((.slice (some ⟨w2.heap.size, 0, none⟩) 1 1) : Value).ownBlock = some i) => (show w.heap.size ≤ i from Nat.le_trans hz2 (HV3.out i h)))
  have HB34 := Lib.hid (show W0.heap.size ≤ w3.heap.size from (HP.out.und.trans HU3.out).size)
  clear h0 hvr hz hU4 hvl HB12 HB22 HU23 HRb HL3 HR3
  go_wp2
  go_loopw [130] (fun i wr => WdRel W0 w4 pb hq tb (w2.heap.size + 1) ks st av sv (.slice (some ⟨w2.heap.size, 0, none⟩) 1 1) l (binds ⟨k, 0, m, s⟩) [W] i wr) (fun i _ => l.length - (intOf i).toNat)
  case atStart => exact ⟨0, [], sv, (.slice (some ⟨w2.heap.size, 0, none⟩) 1 1), Nat.zero_le _, rfl, Nat.zero_le _, rfl, by rw [List.append_nil]; exact H0.out⟩
  case round =>
    obtain ⟨j, os, sv', lv', hj, rfl, hos, hpa, hI⟩ := hrel
    have HI := Lib.hid hI
    have HPa := Lib.hid hpa
    have HOs := Lib.hid hos
    have hj0 : (0 : Int) ≤ (j : Int) := by omega
    have hj8 : l.length ≤ 8 := by rw [HLen.out]; exact HL8.out
    clear hpa hos
    by_cases hjl : j < l.length
    · have hjb : j < (binds ⟨k, 0, m, s⟩).length := by rw [← HLen.out]; exact hjl
      have hjl' : (j : Int) < (l.length : Int) := by omega
      have hjv : j < vs.length := by rw [HVl.out]; exact hjl
      have hrv := HI.out.row H0.out HVr.out (by decide) (by decide) (by decide)
      obtain ⟨gp, cp', ep, hgp, _, hgl, _, _⟩ := row_block hrv (by omega)
      obtain ⟨rfl, rfl⟩ : qp = some ⟨gp, 0, none⟩ ∧ cp = cp' := by cases ep; exact ⟨rfl, rfl⟩
      clear ep
      have v0 := row_cell hrv hgp (List.getElem?_eq_getElem hjv)
      have hrb := HI.out.row H0.out HRb4.out (by decide) (by decide) (by decide)
      obtain ⟨gb, cb', eb, hgb, _, hbl, _, _⟩ := row_block hrb (by omega)
      rw [← HLen.out] at eb
      obtain ⟨rfl, rfl⟩ : qb = some ⟨gb, 0, none⟩ ∧ cb = cb' := by cases eb; exact ⟨rfl, rfl⟩
      clear eb
      have hbi := intsN_at (List.getElem?_eq_getElem hjb)
      have hpart := row_base (HI.out.row H0.out (HZ.out.2 j _ _ (List.getElem?_eq_getElem hjv) (List.getElem?_eq_getElem hjl)) (by decide) (by decide) (by decide)) (base' := W0.heap.size) HB34.out
      have HPt := Lib.hid hpart
      have hin := inTs_at hjl hjb HIn.out
      have hb2 := HB22b.out _ (List.getElem_mem hjb)
      have hfp := flat_part (List.getElem_mem hjl)
      have HPl := Lib.hid (partsL_at (av := av) (st := st) hjl hjb)
      have HQ := HUn.out _ (List.getElem_mem hjl) (binds ⟨k, 0, m, s⟩)[j]
      generalize hTT : l[j] = T at *
      generalize (binds ⟨k, 0, m, s⟩)[j] = bj at *
      generalize vs[j] = xv at *
      obtain ⟨qx, cx, rfl, _, _⟩ := RowArg.of_own hpart
      have hbj0 : (0 : Int) ≤ (bj : Int) := by omega
      obtain ⟨W5, hW5⟩ : ∃ W5, W5 = ((wr.alloc (.cells #[.slice qx (flat T).length cx] 22)).alloc (.cells #[(.func (.func 37) #[] #[.pointer (some ⟨w2.heap.size + 1, 0, none⟩), .pointer (some ⟨w.heap.size, 0, none⟩), .pointer (some ⟨wr.heap.size, 0, none⟩), .pointer (some ⟨wr.heap.size + 1, 0, none⟩)])] 58)).drew := ⟨_, rfl⟩
      have hU5 : Under wr W5 := by rw [hW5]; exact under_drew (under_alloc (under_alloc (Under.refl _) _) _)
      have hUn : UnS W0 ⟨pb, hq, tb, w2.heap.size + 1, w.heap.size, wr.heap.size, wr.heap.size + 1⟩ ks st sv' ([W] ++ os) lv' (.slice qx (flat T).length cx) T W5 := by
        refine ⟨HI.out.pr.under hU5, HI.out.lbx.under hU5, row_under HI.out.lrow hU5, HI.out.apart, (HI.out.box H0.out HB14.out (by decide) (by decide) (by decide)).under hU5, ?_, ?_, row_under HPt.out hU5, HI.out.lo⟩
        · rw [hW5]; exact ((box_new wr _ _).alloc _).drew
        · rw [hW5]
          have := box_new (wr.alloc (.cells #[.slice qx (flat T).length cx] 22)) #[(.func (.func 37) #[] #[.pointer (some ⟨w2.heap.size + 1, 0, none⟩), .pointer (some ⟨w.heap.size, 0, none⟩), .pointer (some ⟨wr.heap.size, 0, none⟩), .pointer (some ⟨wr.heap.size + 1, 0, none⟩)])] 58
          rw [World.size_alloc] at this
          exact this.drew
      have HC := Lib.hid (HQ W0 W5 ⟨pb, hq, tb, w2.heap.size + 1, w.heap.size, wr.heap.size, wr.heap.size + 1⟩ ks st av ([W] ++ os) sv' lv' _ HW.out HS.out hUn HT0.out HHa.out (by have := HSt.out; have := HFl.out; omega) (by have := HOs.out; simp; omega) HSS.out hin)
      have u0 : W5.cell? ⟨wr.heap.size + 1, 0, none⟩ = some (.func (.func 37) #[] #[.pointer (some ⟨w2.heap.size + 1, 0, none⟩), .pointer (some ⟨w.heap.size, 0, none⟩), .pointer (some ⟨wr.heap.size, 0, none⟩), .pointer (some ⟨wr.heap.size + 1, 0, none⟩)]) := hUn.ubx.cell 0
      have b5 : W5.cell? ⟨gb, j, none⟩ = some (.int .i64 (bj : Int)) := row_cell (row_under hrb hU5) hgb hbi
      have tt := And.intro u0 b5
      have HBi := Lib.hid hbi
      have hb2' := hb2
      have HUn5 := Lib.hid hUn
      have HU5 := Lib.hid hU5
      have HE5 := Lib.hid hW5
      clear u0 b5 hrb hUn hU5 hpart hrv hbi hin HQ hb2 hfp hgb hgp hW5
      subst hTT
      go_wp2_with fail
      rw [HE5.out] at tt
      go_region_held3 (fun w' => w'.cell? ⟨wr.heap.size + 1, 0, none⟩ = some (.func (.func 37) #[] #[.pointer (some ⟨w2.heap.size + 1, 0, none⟩), .pointer (some ⟨w.heap.size, 0, none⟩), .pointer (some ⟨wr.heap.size, 0, none⟩), .pointer (some ⟨wr.heap.size + 1, 0, none⟩)]) ∧ w'.cell? ⟨gb, j, none⟩ = some (.int .i64 (bj : Int)))
        (first
          | exact tt
          | go_keep
          | exact ⟨q0, q1⟩)
        ((go_simp; go_at_call 37; rw [← HE5.out]; refine HC.out.mono ?_; rintro e w6 ⟨⟨v6, rfl⟩, sv6, lv6, hU6, hC6, hO6, hL6⟩
          have q0 : w6.cell? ⟨wr.heap.size + 1, 0, none⟩ = some (.func (.func 37) #[] #[.pointer (some ⟨w2.heap.size + 1, 0, none⟩), .pointer (some ⟨w.heap.size, 0, none⟩), .pointer (some ⟨wr.heap.size, 0, none⟩), .pointer (some ⟨wr.heap.size + 1, 0, none⟩)]) := hU6.ubx.cell 0
          have HW6 := Lib.hid ((HI.out.und HU5.out).step hU6 rfl rfl rfl rfl hC6 hO6 hL6)
          have q1 : w6.cell? ⟨gb, j, none⟩ = some (.int .i64 (bj : Int)) := row_cell (HW6.out.row H0.out HRb4.out (by decide) (by decide) (by decide)) rfl HBi.out))
      rename_i hHeld
      clear hHeld q0 q1 tt hU6 hC6 hO6 hL6
      go_wp2
      go_roundw
      case rel =>
        refine ⟨j + 1, os ++ bindN av st bj ++ [⟨(sayT av l[j] (st ++ bindN av st bj)).toArray⟩], sv6, lv6, by omega, by go_num, ?_, ?_, ?_⟩
        · have := HOs.out
          rw [List.length_append, List.length_append, bindN_len, List.length_singleton]
          omega
        · rw [HPa.out, HPl.out]
          simp
        · have := HW6.out
          simp only [List.append_assoc] at this ⊢
          exact this
      case measure => simp [intOf]; omega
    · obtain rfl : j = l.length := by omega
      have hos : os = partsL av l (binds ⟨k, 0, m, s⟩) st := by rw [HPa.out, List.drop_length]; simp [partsL]
      rw [HB01.out, HLab.out] at hos
      obtain ⟨g9, c9, e9, hg9, _, hl9, hc9, _⟩ := row_block HI.out.lrow (by simp)
      subst e9
      have hos3 : os = [⟨(sayT av ta st).toArray⟩, nm, ⟨(sayT av tb' (st ++ [nm])).toArray⟩] := by rw [hos, HNm.out]; simp [partsL, bindN]
      generalize hTA : (⟨(sayT av ta st).toArray⟩ : ByteArray) = TA at hos3 HT
      generalize hTB : (⟨(sayT av tb' (st ++ [nm])).toArray⟩ : ByteArray) = TB at hos3 HT
      subst hos3
      have hrow := HI.out.lrow
      have z0 : wr.cell? ⟨w2.heap.size + 1, 0, none⟩ = some (.slice (some ⟨g9, 0, none⟩) 4 c9) := HI.out.lbx.cell 0
      have z1 := HI.out.lbx.lt
      have hnb := HI.out.box H0.out HB24.out (by decide) (by decide) (by decide)
      have z4 : wr.cell? ⟨w.heap.size + 1, 0, none⟩ = some (.int .i64 k) := hnb.cell 0
      have z5 := hnb.lt
      have y1 : wr.cell? ⟨g9, 1, none⟩ = some (.string TA) := row_cell hrow rfl rfl
      have y2 : wr.cell? ⟨g9, 2, none⟩ = some (.string nm) := row_cell hrow rfl rfl
      have y3 := row_free hrow (g := g9) rfl 1
      have y4 := row_free hrow (g := g9) rfl 2
      have y5 : g9 < wr.heap.size := (row_lt hrow rfl).2
      have hne : w2.heap.size + 1 ≠ g9 := fun e => box_own_ne HI.out.lbx hrow (by decide) (by rw [e]; rfl)
      have HNe := Lib.hid hne
      have i1 : (1 : Int) < 4 := by omega
      go_wp2_with fail
      have hrow1 := row_set hrow (g := g9) rfl (j := 1) (by simp) (.string nm)
      have y6 : (wr.setCell ⟨g9, 1, none⟩ (.string nm)).cell? ⟨g9, 2, none⟩ = some (.string nm) := row_cell hrow1 rfl rfl
      have y7 := row_free hrow1 (g := g9) rfl 2
      have y8 := (row_lt hrow1 (g := g9) rfl).2
      have hrow2 := row_set hrow1 (g := g9) rfl (j := 2) (by simp) (.string TA)
      have HR2 := Lib.hid hrow2
      have hl1 := HI.out.lbx.other hne 1 (.string nm)
      have hl2 := hl1.other hne 2 (.string TA)
      have HL2 := Lib.hid hl2
      refine wp_region_noPanic ?_
      refine wp_region_held_drew (S := fun w' => w'.cell? ⟨w2.heap.size + 1, 0, none⟩ = some (.slice (some ⟨g9, 0, none⟩) 4 c9)) (by kernel_rfl) z0 (fun hHeld => ?_)
      refine wpAnyH_take (i := 0) (v := ?v0) rfl (by kernel_rfl) (by kernel_rfl) (by kernel_rfl) (fun _ _ _ h => h) (Or.inl ⟨by (first | kernel_rfl | rfl), ?hy0⟩) (by assumption) ?rest0
      case hy0 => (intro w hSw; (try dsimp only at hSw); go_simp; try with_reducible rfl)
      try simp only [Act.put, List.setIfInBounds_toArray, List.set_cons_zero, List.set_cons_succ]
      refine wpAnyH_take (i := 1) (v := ?v1) rfl (by kernel_rfl) (by kernel_rfl) (by kernel_rfl) (fun _ _ _ h => h) (Or.inl ⟨by (first | kernel_rfl | rfl), ?hy1⟩) (by assumption) ?rest1
      case hy1 => (intro w hSw; (try dsimp only at hSw); go_simp; try with_reducible rfl)
      try simp only [Act.put, List.setIfInBounds_toArray, List.set_cons_zero, List.set_cons_succ]
      refine wpAnyH_take (i := 2) (v := ?v2) rfl (by kernel_rfl) (by kernel_rfl) (by kernel_rfl) (fun _ _ _ h => h) (Or.inl ⟨by (first | kernel_rfl | rfl), ?hy2⟩) (by assumption) ?rest2
      case hy2 => (intro w hSw; (try dsimp only at hSw); go_simp; try with_reducible rfl)
      try simp only [Act.put, List.setIfInBounds_toArray, List.set_cons_zero, List.set_cons_succ]
      refine wpAnyH_take (i := 3) (v := ?v3) rfl (by kernel_rfl) (by kernel_rfl) (by kernel_rfl) (fun _ _ _ h => h) (Or.inl ⟨by (first | kernel_rfl | rfl), ?hy3⟩) (by assumption) ?rest3
      case hy3 => (intro w hSw; (try dsimp only at hSw); go_simp; try with_reducible rfl)
      try simp only [Act.put, List.setIfInBounds_toArray, List.set_cons_zero, List.set_cons_succ]
      refine wpAnyH_take (i := 5) (v := ?v5) rfl (by kernel_rfl) (by kernel_rfl) (by kernel_rfl) (fun _ _ _ h => h) (Or.inl ⟨by (first | kernel_rfl | rfl), ?hy5⟩) (by assumption) ?rest5
      case hy5 => (intro w hSw; (try dsimp only at hSw); go_simp; try with_reducible rfl)
      try simp only [Act.put, List.setIfInBounds_toArray, List.set_cons_zero, List.set_cons_succ]
      refine wpAnyH_take (i := 6) (v := ?v6) rfl (by kernel_rfl) (by kernel_rfl) (by kernel_rfl) (fun _ _ _ h => h) (Or.inl ⟨by (first | kernel_rfl | rfl), ?hy6⟩) (by assumption) ?rest6
      case hy6 => (intro w hSw; (try dsimp only at hSw); go_simp; try with_reducible rfl)
      try simp only [Act.put, List.setIfInBounds_toArray, List.set_cons_zero, List.set_cons_succ]
      refine wpAnyH_ready (rs := [4, 7]) (by kernel_rfl) (by simp) ?_
      refine AllReadyH.cons rfl (fun K hK => ?_) (AllReadyH.cons rfl (fun K hK => ?_) AllReadyH.nil)
      · go_simp
        refine hK.out _ _ hHeld (fun hHeld' => ?_)
        clear hK K hHeld
        have hHeld := hHeld'
        clear hHeld'
        try simp only [Act.put, List.setIfInBounds_toArray, List.set_cons_zero, List.set_cons_succ]
        refine wpAnyH_ready (rs := [7]) (by kernel_rfl) (by simp) ?_
        refine AllReadyH.cons rfl (fun K hK => ?_) AllReadyH.nil
        go_simp
        refine hK.out _ _ hHeld (fun hHeld' => ?_)
        clear hK K hHeld
        have hHeld := hHeld'
        clear hHeld'
        try simp only [Act.put, List.setIfInBounds_toArray, List.set_cons_zero, List.set_cons_succ]
        refine wpAnyH_take (i := 8) (v := ?v8a) rfl (by kernel_rfl) (by kernel_rfl) (by kernel_rfl) (fun _ _ _ h => h) (Or.inl ⟨by (first | kernel_rfl | rfl), ?hy8a⟩) (by assumption) ?rest8a
        case hy8a => (intro w hSw; (try dsimp only at hSw); go_simp; try with_reducible rfl)
        try simp only [Act.put, List.setIfInBounds_toArray, List.set_cons_zero, List.set_cons_succ]
        refine wpAnyH_ready (rs := [9]) (by kernel_rfl) (by simp) ?_
        refine AllReadyH.cons rfl (fun K hK => ?_) AllReadyH.nil
        go_simp
        refine hK.out _ _ (by exact hl1.cell 0) (fun hHeld' => ?_)
        clear hK K hHeld
        have hHeld := hHeld'
        clear hHeld'
        try simp only [Act.put, List.setIfInBounds_toArray, List.set_cons_zero, List.set_cons_succ]
        refine wpAnyH_take (i := 10) (v := ?v10a) rfl (by kernel_rfl) (by kernel_rfl) (by kernel_rfl) (fun _ _ _ h => h) (Or.inl ⟨by (first | kernel_rfl | rfl), ?hy10a⟩) (by assumption) ?rest10a
        case hy10a => (intro w hSw; (try dsimp only at hSw); go_simp; try with_reducible rfl)
        try simp only [Act.put, List.setIfInBounds_toArray, List.set_cons_zero, List.set_cons_succ]
        refine wpAnyH_ready (rs := [11]) (by kernel_rfl) (by simp) ?_
        refine AllReadyH.cons rfl (fun K hK => ?_) AllReadyH.nil
        go_simp
        refine hK.out _ _ (by exact hl2.cell 0) (fun hHeld' => ?_)
        clear hK K hHeld
        have hHeld := hHeld'
        clear hHeld'
        try simp only [Act.put, List.setIfInBounds_toArray, List.set_cons_zero, List.set_cons_succ]
        refine wpAnyH_done (by kernel_rfl) ?_ _
        refine NoPanic.normal ?_
        clear z0 z1 hnb z4 z5 y1 y2 y3 y4 y5 y6 y7 y8 hrow1 hrow2 hl1 hl2 hHeld i1
        have hW8 : Under ((wr.setCell ⟨g9, 1, none⟩ (.string nm)).setCell ⟨g9, 2, none⟩ (.string TA)) ((wr.setCell ⟨g9, 1, none⟩ (.string nm)).setCell ⟨g9, 2, none⟩ (.string TA)).drew := under_drew (Under.refl _)
        have hr8 := row_under HR2.out hW8
        have hb8 := HL2.out.under hW8
        have hc8 : Ch (fun i => (Value.slice (some ⟨g9, 0, none⟩) 4 c9).ownBlock = some i) wr ((wr.setCell ⟨g9, 1, none⟩ (.string nm)).setCell ⟨g9, 2, none⟩ (.string TA)).drew := (((Ch.refl (C := fun i => (Value.slice (some ⟨g9, 0, none⟩) 4 c9).ownBlock = some i) wr).set (g := g9) (fun _ => rfl) 1 _).set (g := g9) (fun _ => rfl) 2 _).under hW8
        have HPJ := Lib.hid (pr_set HI.out.pr HI.out.lrow HI.out.apart hc8)
        have HCJ := Lib.hid (((Ch.of_under HU4.out).trans HI.out.ch (D := fun b => PrC pb tb sv b ∨ b = w2.heap.size + 1 ∨ ((.slice (some ⟨w2.heap.size, 0, none⟩) 1 1) : Value).ownBlock = some b) (C := PrC pb tb sv) (fun i hi h => by
          rcases h with h | h | h
          · exact h
          · have := HLb.out; omega
          · have := HLv.out i h; omega)).trans hc8 (fun i hi h => by
          have h1 := HI.out.lown i (by have := HU4.out.size; omega) h
          have := HLv.out i h1
          omega))
        have x0 : ((wr.setCell ⟨g9, 1, none⟩ (.string nm)).setCell ⟨g9, 2, none⟩ (.string TA)).drew.cell? ⟨w2.heap.size + 1, 0, none⟩ = some (.slice (some ⟨g9, 0, none⟩) 4 c9) := hb8.cell 0
        have x1 := hb8.lt
        have hJ : ∀ jj u, [W, nm, TA, TB][jj]? = some u → ((wr.setCell ⟨g9, 1, none⟩ (.string nm)).setCell ⟨g9, 2, none⟩ (.string TA)).drew.cell? ⟨g9, 0 + jj, none⟩ = some (.string u) := fun jj u hu => by
          rw [Nat.zero_add]
          refine row_cell hr8 rfl ?_
          show ([W, nm, TA, TB].map Value.string)[jj]? = _
          rw [List.getElem?_map, hu]
          rfl
        have HTs := HT.out
        obtain ⟨J, hJd⟩ : ∃ J, J = Lib.join ([W, nm, TA, TB].map (·.data.toList)) (⟨#[32]⟩ : ByteArray).data.toList := ⟨_, rfl⟩
        have hTJ : sayT av (.mk ⟨k, 0, m, s⟩ l) st = 40 :: J ++ [41] := by rw [HTs, hJd]
        have hJl : J.length + 2 ≤ 1000000 := by
          have h1 := HSl.out
          have h2 := HN4.out
          rw [hTJ] at h1
          simp at h1
          omega
        have HJc := Lib.hid (Tryz.strings_Join g9 0 c9 [W, nm, TA, TB] ⟨#[32]⟩ ((wr.setCell ⟨g9, 1, none⟩ (.string nm)).setCell ⟨g9, 2, none⟩ (.string TA)).drew hJ (row_lt hr8 rfl).2 (by simp) hc9 (by rw [← hJd]; omega))
        rw [← hJd] at HJc
        have HTJ := Lib.hid hTJ
        have z2 : ¬ 9223372036854775807 < 1 + J.toArray.size := by simp; omega
        have z3 : ¬ 9223372036854775807 < 1 + J.toArray.size + 1 := by simp; omega
        clear hos hJ HTs hJd hTJ hJl HT hW8 hr8 hb8 hc8
        go_wp2_with fail
        clear x0 x1
        refine HJc.out.mono ?_
        rintro e w7 ⟨rfl, hBl⟩
        have HU7 := Lib.hid (under_below hBl)
        clear hBl HJc
        go_wp2
        go_ret
        exact ⟨ret_str (by rw [HTJ.out]; exact ByteArray.ext (by simp)), sv', HPJ.out.under HU7.out, HCJ.out.under HU7.out, fun b hb e => HI.out.own b (by have := HU4.out.size; omega) e⟩
      · go_simp
        refine hK.out _ _ hHeld (fun hHeld' => ?_)
        clear hK K hHeld
        have hHeld := hHeld'
        clear hHeld'
        try simp only [Act.put, List.setIfInBounds_toArray, List.set_cons_zero, List.set_cons_succ]
        refine wpAnyH_ready (rs := [4]) (by kernel_rfl) (by simp) ?_
        refine AllReadyH.cons rfl (fun K hK => ?_) AllReadyH.nil
        go_simp
        refine hK.out _ _ hHeld (fun hHeld' => ?_)
        clear hK K hHeld
        have hHeld := hHeld'
        clear hHeld'
        try simp only [Act.put, List.setIfInBounds_toArray, List.set_cons_zero, List.set_cons_succ]
        refine wpAnyH_take (i := 8) (v := ?v8b) rfl (by kernel_rfl) (by kernel_rfl) (by kernel_rfl) (fun _ _ _ h => h) (Or.inl ⟨by (first | kernel_rfl | rfl), ?hy8b⟩) (by assumption) ?rest8b
        case hy8b => (intro w hSw; (try dsimp only at hSw); go_simp; try with_reducible rfl)
        try simp only [Act.put, List.setIfInBounds_toArray, List.set_cons_zero, List.set_cons_succ]
        refine wpAnyH_ready (rs := [9]) (by kernel_rfl) (by simp) ?_
        refine AllReadyH.cons rfl (fun K hK => ?_) AllReadyH.nil
        go_simp
        refine hK.out _ _ (by exact hl1.cell 0) (fun hHeld' => ?_)
        clear hK K hHeld
        have hHeld := hHeld'
        clear hHeld'
        try simp only [Act.put, List.setIfInBounds_toArray, List.set_cons_zero, List.set_cons_succ]
        refine wpAnyH_take (i := 10) (v := ?v10b) rfl (by kernel_rfl) (by kernel_rfl) (by kernel_rfl) (fun _ _ _ h => h) (Or.inl ⟨by (first | kernel_rfl | rfl), ?hy10b⟩) (by assumption) ?rest10b
        case hy10b => (intro w hSw; (try dsimp only at hSw); go_simp; try with_reducible rfl)
        try simp only [Act.put, List.setIfInBounds_toArray, List.set_cons_zero, List.set_cons_succ]
        refine wpAnyH_ready (rs := [11]) (by kernel_rfl) (by simp) ?_
        refine AllReadyH.cons rfl (fun K hK => ?_) AllReadyH.nil
        go_simp
        refine hK.out _ _ (by exact hl2.cell 0) (fun hHeld' => ?_)
        clear hK K hHeld
        have hHeld := hHeld'
        clear hHeld'
        try simp only [Act.put, List.setIfInBounds_toArray, List.set_cons_zero, List.set_cons_succ]
        refine wpAnyH_done (by kernel_rfl) ?_ _
        refine NoPanic.normal ?_
        clear z0 z1 hnb z4 z5 y1 y2 y3 y4 y5 y6 y7 y8 hrow1 hrow2 hl1 hl2 hHeld i1
        have hW8 : Under ((wr.setCell ⟨g9, 1, none⟩ (.string nm)).setCell ⟨g9, 2, none⟩ (.string TA)) ((wr.setCell ⟨g9, 1, none⟩ (.string nm)).setCell ⟨g9, 2, none⟩ (.string TA)).drew := under_drew (Under.refl _)
        have hr8 := row_under HR2.out hW8
        have hb8 := HL2.out.under hW8
        have hc8 : Ch (fun i => (Value.slice (some ⟨g9, 0, none⟩) 4 c9).ownBlock = some i) wr ((wr.setCell ⟨g9, 1, none⟩ (.string nm)).setCell ⟨g9, 2, none⟩ (.string TA)).drew := (((Ch.refl (C := fun i => (Value.slice (some ⟨g9, 0, none⟩) 4 c9).ownBlock = some i) wr).set (g := g9) (fun _ => rfl) 1 _).set (g := g9) (fun _ => rfl) 2 _).under hW8
        have HPJ := Lib.hid (pr_set HI.out.pr HI.out.lrow HI.out.apart hc8)
        have HCJ := Lib.hid (((Ch.of_under HU4.out).trans HI.out.ch (D := fun b => PrC pb tb sv b ∨ b = w2.heap.size + 1 ∨ ((.slice (some ⟨w2.heap.size, 0, none⟩) 1 1) : Value).ownBlock = some b) (C := PrC pb tb sv) (fun i hi h => by
          rcases h with h | h | h
          · exact h
          · have := HLb.out; omega
          · have := HLv.out i h; omega)).trans hc8 (fun i hi h => by
          have h1 := HI.out.lown i (by have := HU4.out.size; omega) h
          have := HLv.out i h1
          omega))
        have x0 : ((wr.setCell ⟨g9, 1, none⟩ (.string nm)).setCell ⟨g9, 2, none⟩ (.string TA)).drew.cell? ⟨w2.heap.size + 1, 0, none⟩ = some (.slice (some ⟨g9, 0, none⟩) 4 c9) := hb8.cell 0
        have x1 := hb8.lt
        have hJ : ∀ jj u, [W, nm, TA, TB][jj]? = some u → ((wr.setCell ⟨g9, 1, none⟩ (.string nm)).setCell ⟨g9, 2, none⟩ (.string TA)).drew.cell? ⟨g9, 0 + jj, none⟩ = some (.string u) := fun jj u hu => by
          rw [Nat.zero_add]
          refine row_cell hr8 rfl ?_
          show ([W, nm, TA, TB].map Value.string)[jj]? = _
          rw [List.getElem?_map, hu]
          rfl
        have HTs := HT.out
        obtain ⟨J, hJd⟩ : ∃ J, J = Lib.join ([W, nm, TA, TB].map (·.data.toList)) (⟨#[32]⟩ : ByteArray).data.toList := ⟨_, rfl⟩
        have hTJ : sayT av (.mk ⟨k, 0, m, s⟩ l) st = 40 :: J ++ [41] := by rw [HTs, hJd]
        have hJl : J.length + 2 ≤ 1000000 := by
          have h1 := HSl.out
          have h2 := HN4.out
          rw [hTJ] at h1
          simp at h1
          omega
        have HJc := Lib.hid (Tryz.strings_Join g9 0 c9 [W, nm, TA, TB] ⟨#[32]⟩ ((wr.setCell ⟨g9, 1, none⟩ (.string nm)).setCell ⟨g9, 2, none⟩ (.string TA)).drew hJ (row_lt hr8 rfl).2 (by simp) hc9 (by rw [← hJd]; omega))
        rw [← hJd] at HJc
        have HTJ := Lib.hid hTJ
        have z2 : ¬ 9223372036854775807 < 1 + J.toArray.size := by simp; omega
        have z3 : ¬ 9223372036854775807 < 1 + J.toArray.size + 1 := by simp; omega
        clear hos hJ HTs hJd hTJ hJl HT hW8 hr8 hb8 hc8
        go_wp2_with fail
        clear x0 x1
        refine HJc.out.mono ?_
        rintro e w7 ⟨rfl, hBl⟩
        have HU7 := Lib.hid (under_below hBl)
        clear hBl HJc
        go_wp2
        go_ret
        exact ⟨ret_str (by rw [HTJ.out]; exact ByteArray.ext (by simp)), sv', HPJ.out.under HU7.out, HCJ.out.under HU7.out, fun b hb e => HI.out.own b (by have := HU4.out.size; omega) e⟩
end Go.Proofs.YtiibknlpeodejaaGreatDoor

/- pretty.(*printer).words: binders of types with a number, kind 6. Printed by pwords.py. -/
namespace Go.Proofs.YtiibknlpeodejaaGreatDoor
open Go.Lx Go.RowKit
attribute [local go_sem] store_func

set_option maxRecDepth 100000 in
set_option maxHeartbeats 2000000 in
theorem words_six1 (x : Nd) (l : List Tm) (f0 : (x.k == 0) = false) (f1 : (x.k == 1) = false) (f2 : (x.k == 2) = false) (fp : plainK x = false) (f3 : (x.k == 3) = false) (f6 : (x.k == 6) = true) (fn : 0 < x.n) (ih : ∀ a ∈ l, WordsOk a) : WordsOk (.mk x l) := by
  obtain ⟨i0, hi, hz0, hz1, hz2'⟩ := info_parts Tryz.infoStrZ
  have g0 : x.k ≠ 0 := by simpa using f0
  have g1 : x.k ≠ 1 := by simpa using f1
  have g2 : x.k ≠ 2 := by simpa using f2
  have g4 : x.k = 6 := by simpa using f6
  have f26 : (x.k == 26) = false := by rw [g4]; rfl
  have hb01 : binds x = [0, 1] := by simp [binds, g4, bindsOf]
  rintro hok hd hn W0 w pb hq tb ks st av sv tv hW hS hP hT hv hA ha hst hss hin
  have hx := hok.1
  have hte : (flat (.mk x l))[(flat (.mk x l)).length - 1]? = some x := by rw [flat]; simp
  have hpos : 1 ≤ (flat (.mk x l)).length := by rw [flat]; simp
  have hsl := sayT_len av (by omega) (.mk x l) hok st hss (by omega)
  have hlen := hok.2.1
  have hl8 := binds_len hx
  have hbr : (if rightB x then binds x else []) = binds x := if_pos hx
  have hb2 : ∀ b ∈ binds x, b ≤ 2 := fun b hb => by have := bindsR_le (x := x); unfold bindsR at this; rw [hbr] at this; exact this b hb
  unfold inT at hin
  rw [if_neg (by omega)] at hin
  obtain ⟨p, c, rfl, hc, hp0, hr⟩ := hv
  obtain ⟨b, off, rfl, hb, c0, c1, c2, c3⟩ := RowArg.node hr hte
  have HAr := Lib.hid (fun w1 (hU : Under w w1) => args_any (w0 := w1) x l (t := flat (.mk x l)) (b := b) (off := off) (c := c) rfl hok hd hn hc (hr.under hU) ((hS.under hP.und).under hU))
  have HBn := Lib.hid (fun w1 (hU : Under w w1) => binds_any (w0 := w1) x (by have := rightB_s hx; simp only [maxLen]; omega) ((hS.under hP.und).under hU))
  have HUn := Lib.hid (fun a (ha' : a ∈ l) => under_any a (okTs_mem.1 hok.2.2 a ha') (Nat.le_trans (deep_part ha') hd) (by have := flat_part ha'; rw [flat, List.length_append] at hn; omega) (ih a ha'))
  have hfl : (flat (.mk x l)).length = (flats l).length + 1 := by rw [flat]; simp
  obtain ⟨M, hM⟩ : ∃ M, (flat (.mk x l)).length = M + 1 := ⟨(flat (.mk x l)).length - 1, by omega⟩
  rw [hM] at c0 c1 c2 c3
  simp only [Nat.add_sub_cancel] at c0 c1 c2 c3
  have hM0 : (0 : Int) ≤ (M : Int) := by omega
  have hM4 : (M : Int) ≤ 4000 := by omega
  have hMi : ((M : Int) + 1 - 1) = (M : Int) := by omega
  have hk := rightB_k hx
  obtain ⟨w1, hw1⟩ : ∃ w1, w1 = (w.alloc (.cells #[.pointer (some ⟨pb, 0, none⟩)] 41)).alloc (.cells #[.int .i64 x.k, .int .i64 x.n, .int .i64 x.m, .string x.s] 38) := ⟨_, rfl⟩
  have hU1 : Under w w1 := by rw [hw1]; exact under_alloc (under_alloc (Under.refl w) _) _
  have hB1 : BoxAt w1 w.heap.size 41 #[.pointer (some ⟨pb, 0, none⟩)] := by rw [hw1]; exact (box_new w _ _).alloc _
  have hB2 : BoxAt w1 (w.heap.size + 1) 38 #[.int .i64 x.k, .int .i64 x.n, .int .i64 x.m, .string x.s] := by
    have := box_new (w.alloc (.cells #[.pointer (some ⟨pb, 0, none⟩)] 41)) #[.int .i64 x.k, .int .i64 x.n, .int .i64 x.m, .string x.s] 38
    rw [World.size_alloc] at this
    rw [hw1]
    exact this
  have hP1 := hP.under hU1
  have d0 : w1.cell? ⟨w.heap.size, 0, none⟩ = some (.pointer (some ⟨pb, 0, none⟩)) := hB1.cell 0
  have d1 : w1.cell? ⟨pb, 0, none⟩ = some (.map (some hq)) := hP1.box.cell 0
  have d2 : w1.cell? ⟨w.heap.size + 1, 0, none⟩ = some (.int .i64 x.k) := hB2.cell 0
  have d3 : MapIAt w1 hq headsL := hP1.heads
  have hsz1 : w1.heap.size = w.heap.size + 2 := by rw [hw1]; simp
  have HFd := head_field
  have HLk := fun (w' : World) (h : MapIAt w' hq headsL) => heads_look h hk.1 hk.2
  rw [hM]
  have HU1 := Lib.hid hU1
  have HB1 := Lib.hid hB1
  have HB2 := Lib.hid hB2
  have HP1 := Lib.hid hP1
  have HP := Lib.hid hP
  have HT0 := Lib.hid hT
  have dd := And.intro d0 (And.intro d1 (And.intro d2 d3))
  have HK := Lib.hid hk
  have HIn := Lib.hid hin
  have HLen := Lib.hid hlen
  have HL8 := Lib.hid hl8
  have HBr := Lib.hid hbr
  have HB22b := Lib.hid hb2
  have HX := Lib.hid hx
  have HSS := Lib.hid hss
  have HW := Lib.hid hW
  have HS := Lib.hid hS
  have HFl := Lib.hid hfl
  have HSt := Lib.hid hst
  have HHa := Lib.hid ha
  have HM := Lib.hid hM
  rw [hM] at hc hsl HAr hn
  have HSl := Lib.hid hsl
  have HN4 := Lib.hid hn
  clear hte hr hok hin hst hss hA hT hS hW hP hU1 hB1 hB2 hP1 hpos hn hM hp0 hx hd d0 d1 d2 d3 hk hsl hlen hl8 hbr hb2 hfl ha ih
  have fs : (x.s.toList == []) = true := by
    rcases rightB_name HX.out with ⟨h, _⟩ | ⟨_, h⟩
    · rw [h]; rfl
    · rw [g4] at h; cases h
  obtain ⟨ta, tb', hlab⟩ : ∃ ta tb', l = [ta, tb'] := by
    have h2 : l.length = 2 := by rw [HLen.out, hb01]; rfl
    match l, h2 with
    | [a, b], _ => exact ⟨a, b, rfl⟩
  obtain ⟨nm, hnm⟩ : ∃ nm, nm = nameN (freshN (av ++ st) st.length) := ⟨_, rfl⟩
  have HT : RowKit.Hid (sayT av (.mk x l) st = 40 :: Lib.join ([wordsB x, nm, ⟨(sayT av ta st).toArray⟩, ⟨(sayT av tb' (st ++ [nm])).toArray⟩].map (·.data.toList)) [32] ++ [41]) := Lib.hid (by
    rw [hlab, hnm]
    exact say_first g0 g1 g2 fp (by simp [firstK, g4]) fs hb01 (by simpa using f26))
  have HNm := Lib.hid hnm
  have HLab := Lib.hid hlab
  have HB01 := Lib.hid hb01
  have fl : ((l.length : Int) == 0) = false := by rw [hlab]; rfl
  clear hnm hlab hb01
  have hn9 := rightB_n HX.out
  obtain ⟨u, hu⟩ : ∃ u : Nat, x.n = u := ⟨x.n.toNat, by omega⟩
  obtain ⟨D, hD⟩ : ∃ D, D = Lib.decDigits u := ⟨_, rfl⟩
  have HI20 := Lib.hid (fun w => Tryz.strconv_Itoa_small u (by omega) w)
  have hDl := dec_len u (by omega)
  have hHl := headB_len x.k.toNat
  have hcat : headB x.k.toNat ++ (⟨D.toArray⟩ : ByteArray) = wordsB x := by
    unfold wordsB
    rw [if_pos ⟨by omega, fn⟩, hu, Int.toNat_natCast, ← hD]
    exact ByteArray.ext (by simp)
  rw [← hD] at HI20 hDl
  generalize headB x.k.toNat = H0 at *
  generalize wordsB x = W at *
  have hD1 : ¬ 9223372036854775807 < H0.size + D.toArray.size := by simp; omega
  subst hw1
  clear g0 g1 g2 g4 fp HX hD hDl hHl
  obtain ⟨k, n, m, s⟩ := x
  simp only at *
  subst hu
  have hu0 : (0 : Int) ≤ (u : Int) := by omega
  go_enter Tryz.func21, Tryz.ntmps21
  go_wp2_with fail
  go_region_held3 (fun w' => w'.cell? ⟨w.heap.size, 0, none⟩ = some (.pointer (some ⟨pb, 0, none⟩)) ∧ w'.cell? ⟨pb, 0, none⟩ = some (.map (some hq)) ∧ w'.cell? ⟨w.heap.size + 1, 0, none⟩ = some (.int .i64 k) ∧ MapIAt w' hq headsL)
    (first
      | exact dd
      | go_keep)
    (fail)
  rename_i hHeld
  clear dd hHeld HLk HFd c0 c1 c2 c3
  go_wp2_with fail
  refine (HBn.out _ (HU1.out.trans (under_drew (Under.refl _)))).mono ?_
  rintro e w2 ⟨vb, rfl, hrb, hU2⟩
  rw [HBr.out] at hrb
  have HU2 := Lib.hid ((HU1.out.trans (under_drew (Under.refl _))).trans hU2)
  have HB12 := Lib.hid (HB1.out.under ((under_drew (Under.refl _)).trans hU2))
  have hB22 := HB2.out.under ((under_drew (Under.refl _)).trans hU2)
  have HB22 := Lib.hid hB22
  have HRb := Lib.hid hrb
  obtain ⟨qb, cb, rfl, _, _⟩ := RowArg.of_own hrb
  rw [← HLen.out]
  have e3 : w2.cell? ⟨w.heap.size + 1, 3, none⟩ = some (.string s) := hB22.cell 3
  have e1 : w2.cell? ⟨w.heap.size + 1, 1, none⟩ = some (.int .i64 (u : Int)) := hB22.cell 1
  have e0 : w2.cell? ⟨w.heap.size + 1, 0, none⟩ = some (.int .i64 k) := hB22.cell 0
  have el := hB22.lt
  have hU3 : Under w2 ((w2.alloc (.cells #[.string W] 9)).alloc (.cells #[.slice (some ⟨w2.heap.size, 0, none⟩) 1 1] 23)) := under_alloc (under_alloc (Under.refl _) _) _
  have hB3 := hB22.under hU3
  have m3 : ((w2.alloc (.cells #[.string W] 9)).alloc (.cells #[.slice (some ⟨w2.heap.size, 0, none⟩) 1 1] 23)).cell? ⟨w.heap.size + 1, 3, none⟩ = some (.string s) := hB3.cell 3
  have m1 : ((w2.alloc (.cells #[.string W] 9)).alloc (.cells #[.slice (some ⟨w2.heap.size, 0, none⟩) 1 1] 23)).cell? ⟨w.heap.size + 1, 1, none⟩ = some (.int .i64 (u : Int)) := hB3.cell 1
  have m0 : ((w2.alloc (.cells #[.string W] 9)).alloc (.cells #[.slice (some ⟨w2.heap.size, 0, none⟩) 1 1] 23)).cell? ⟨w.heap.size + 1, 0, none⟩ = some (.int .i64 k) := hB3.cell 0
  have ml := hB3.lt
  have hL3 := box_new (w2.alloc (.cells #[.string W] 9)) #[.slice (some ⟨w2.heap.size, 0, none⟩) 1 1] 23
  rw [World.size_alloc] at hL3
  have l0 : ((w2.alloc (.cells #[.string W] 9)).alloc (.cells #[.slice (some ⟨w2.heap.size, 0, none⟩) 1 1] 23)).cell? ⟨w2.heap.size + 1, 0, none⟩ = some (.slice (some ⟨w2.heap.size, 0, none⟩) 1 1) := hL3.cell 0
  have ll := hL3.lt
  have hz2 : w.heap.size ≤ w2.heap.size := HU2.out.size
  have hbs : W0.heap.size ≤ w2.heap.size := (HP.out.und.trans HU2.out).size
  have hR3 := row_under (own_one w2 W0.heap.size 9 (.string W) hbs) (under_alloc (Under.refl _) (.cells #[.slice (some ⟨w2.heap.size, 0, none⟩) 1 1] 23))
  have hv3 : ∀ i, (Value.slice (some ⟨w2.heap.size, 0, none⟩) 1 1).ownBlock = some i → w2.heap.size ≤ i := fun i h => by cases h; exact Nat.le_refl _
  have HU23 := Lib.hid hU3
  have HL3 := Lib.hid hL3
  have HR3 := Lib.hid hR3
  have HV3 := Lib.hid hv3
  clear hrb hU2 hB22 hU3 hB3 hL3 hR3 hv3
  go_wp2_with fail
  refine (HI20.out _).mono ?_
  rintro e wI ⟨rfl, hwI⟩
  obtain rfl : w2 = wI := hwI.symm
  go_wp2_with fail
  refine (HAr.out _ (HU2.out.trans HU23.out)).mono ?_
  clear e3 e1 e0 el m3 m1 m0 ml l0 ll
  generalize ((w2.alloc (.cells #[.string W] 9)).alloc (.cells #[.slice (some ⟨w2.heap.size, 0, none⟩) 1 1] 23)) = w3 at HU23 HL3 HR3 ⊢
  rintro e w4 ⟨vr, vs, rfl, hU4, hvr, hz⟩
  have HU3 := Lib.hid (HU2.out.trans HU23.out)
  have HU4 := Lib.hid (HU3.out.trans hU4)
  have HU24 := Lib.hid (HU23.out.trans hU4)
  have h0 : WdI W0 w4 pb hq tb (w2.heap.size + 1) ks st sv (.slice (some ⟨w2.heap.size, 0, none⟩) 1 1) [W] sv (.slice (some ⟨w2.heap.size, 0, none⟩) 1 1) w4 := ⟨HP.out.under HU4.out, HL3.out.under hU4, row_under HR3.out hU4, by
    cases ho : ((.slice (some ⟨w2.heap.size, 0, none⟩) 1 1) : Value).ownBlock with
    | none => exact .inl rfl
    | some g =>
      right
      intro e
      have h1 := (row_lt HP.out.row (g := g) e.symm).2
      have h2 := HV3.out g ho
      omega, by omega, Ch.refl _, fun b _ e => e, fun b _ e => e⟩
  have H0 := Lib.hid h0
  have HB14 := Lib.hid (HB12.out.under HU24.out)
  have HB24 := Lib.hid (HB22.out.under HU24.out)
  have HRb4 := Lib.hid (row_under HRb.out HU24.out)
  have HVr := Lib.hid hvr
  have HZ := Lib.hid hz
  have hbase := HU4.out.size
  have hvl : vs.length = l.length := by have := hvr.1; omega
  obtain ⟨qp, cp, rfl, _, _⟩ := RowArg.of_own hvr
  have HVl := Lib.hid hvl
  have HLb := Lib.hid (show w.heap.size ≤ w2.heap.size + 1 by omega)
  have HLv := Lib.hid (fun i (h : ((.slice (some ⟨w2.heap.size, 0, none⟩) 1 1) : Value).ownBlock = some i) => (show w.heap.size ≤ i from Nat.le_trans hz2 (HV3.out i h)))
  have HB34 := Lib.hid (show W0.heap.size ≤ w3.heap.size from (HP.out.und.trans HU3.out).size)
  clear h0 hvr hz hU4 hvl HB12 HB22 HU23 HRb HL3 HR3
  go_wp2
  go_loopw [130] (fun i wr => WdRel W0 w4 pb hq tb (w2.heap.size + 1) ks st av sv (.slice (some ⟨w2.heap.size, 0, none⟩) 1 1) l (binds ⟨k, (u : Int), m, s⟩) [W] i wr) (fun i _ => l.length - (intOf i).toNat)
  case atStart => exact ⟨0, [], sv, (.slice (some ⟨w2.heap.size, 0, none⟩) 1 1), Nat.zero_le _, rfl, Nat.zero_le _, rfl, by rw [List.append_nil]; exact H0.out⟩
  case round =>
    obtain ⟨j, os, sv', lv', hj, rfl, hos, hpa, hI⟩ := hrel
    have HI := Lib.hid hI
    have HPa := Lib.hid hpa
    have HOs := Lib.hid hos
    have hj0 : (0 : Int) ≤ (j : Int) := by omega
    have hj8 : l.length ≤ 8 := by rw [HLen.out]; exact HL8.out
    clear hpa hos
    by_cases hjl : j < l.length
    · have hjb : j < (binds ⟨k, (u : Int), m, s⟩).length := by rw [← HLen.out]; exact hjl
      have hjl' : (j : Int) < (l.length : Int) := by omega
      have hjv : j < vs.length := by rw [HVl.out]; exact hjl
      have hrv := HI.out.row H0.out HVr.out (by decide) (by decide) (by decide)
      obtain ⟨gp, cp', ep, hgp, _, hgl, _, _⟩ := row_block hrv (by omega)
      obtain ⟨rfl, rfl⟩ : qp = some ⟨gp, 0, none⟩ ∧ cp = cp' := by cases ep; exact ⟨rfl, rfl⟩
      clear ep
      have v0 := row_cell hrv hgp (List.getElem?_eq_getElem hjv)
      have hrb := HI.out.row H0.out HRb4.out (by decide) (by decide) (by decide)
      obtain ⟨gb, cb', eb, hgb, _, hbl, _, _⟩ := row_block hrb (by omega)
      rw [← HLen.out] at eb
      obtain ⟨rfl, rfl⟩ : qb = some ⟨gb, 0, none⟩ ∧ cb = cb' := by cases eb; exact ⟨rfl, rfl⟩
      clear eb
      have hbi := intsN_at (List.getElem?_eq_getElem hjb)
      have hpart := row_base (HI.out.row H0.out (HZ.out.2 j _ _ (List.getElem?_eq_getElem hjv) (List.getElem?_eq_getElem hjl)) (by decide) (by decide) (by decide)) (base' := W0.heap.size) HB34.out
      have HPt := Lib.hid hpart
      have hin := inTs_at hjl hjb HIn.out
      have hb2 := HB22b.out _ (List.getElem_mem hjb)
      have hfp := flat_part (List.getElem_mem hjl)
      have HPl := Lib.hid (partsL_at (av := av) (st := st) hjl hjb)
      have HQ := HUn.out _ (List.getElem_mem hjl) (binds ⟨k, (u : Int), m, s⟩)[j]
      generalize hTT : l[j] = T at *
      generalize (binds ⟨k, (u : Int), m, s⟩)[j] = bj at *
      generalize vs[j] = xv at *
      obtain ⟨qx, cx, rfl, _, _⟩ := RowArg.of_own hpart
      have hbj0 : (0 : Int) ≤ (bj : Int) := by omega
      obtain ⟨W5, hW5⟩ : ∃ W5, W5 = ((wr.alloc (.cells #[.slice qx (flat T).length cx] 22)).alloc (.cells #[(.func (.func 37) #[] #[.pointer (some ⟨w2.heap.size + 1, 0, none⟩), .pointer (some ⟨w.heap.size, 0, none⟩), .pointer (some ⟨wr.heap.size, 0, none⟩), .pointer (some ⟨wr.heap.size + 1, 0, none⟩)])] 58)).drew := ⟨_, rfl⟩
      have hU5 : Under wr W5 := by rw [hW5]; exact under_drew (under_alloc (under_alloc (Under.refl _) _) _)
      have hUn : UnS W0 ⟨pb, hq, tb, w2.heap.size + 1, w.heap.size, wr.heap.size, wr.heap.size + 1⟩ ks st sv' ([W] ++ os) lv' (.slice qx (flat T).length cx) T W5 := by
        refine ⟨HI.out.pr.under hU5, HI.out.lbx.under hU5, row_under HI.out.lrow hU5, HI.out.apart, (HI.out.box H0.out HB14.out (by decide) (by decide) (by decide)).under hU5, ?_, ?_, row_under HPt.out hU5, HI.out.lo⟩
        · rw [hW5]; exact ((box_new wr _ _).alloc _).drew
        · rw [hW5]
          have := box_new (wr.alloc (.cells #[.slice qx (flat T).length cx] 22)) #[(.func (.func 37) #[] #[.pointer (some ⟨w2.heap.size + 1, 0, none⟩), .pointer (some ⟨w.heap.size, 0, none⟩), .pointer (some ⟨wr.heap.size, 0, none⟩), .pointer (some ⟨wr.heap.size + 1, 0, none⟩)])] 58
          rw [World.size_alloc] at this
          exact this.drew
      have HC := Lib.hid (HQ W0 W5 ⟨pb, hq, tb, w2.heap.size + 1, w.heap.size, wr.heap.size, wr.heap.size + 1⟩ ks st av ([W] ++ os) sv' lv' _ HW.out HS.out hUn HT0.out HHa.out (by have := HSt.out; have := HFl.out; omega) (by have := HOs.out; simp; omega) HSS.out hin)
      have u0 : W5.cell? ⟨wr.heap.size + 1, 0, none⟩ = some (.func (.func 37) #[] #[.pointer (some ⟨w2.heap.size + 1, 0, none⟩), .pointer (some ⟨w.heap.size, 0, none⟩), .pointer (some ⟨wr.heap.size, 0, none⟩), .pointer (some ⟨wr.heap.size + 1, 0, none⟩)]) := hUn.ubx.cell 0
      have b5 : W5.cell? ⟨gb, j, none⟩ = some (.int .i64 (bj : Int)) := row_cell (row_under hrb hU5) hgb hbi
      have tt := And.intro u0 b5
      have HBi := Lib.hid hbi
      have hb2' := hb2
      have HUn5 := Lib.hid hUn
      have HU5 := Lib.hid hU5
      have HE5 := Lib.hid hW5
      clear u0 b5 hrb hUn hU5 hpart hrv hbi hin HQ hb2 hfp hgb hgp hW5
      subst hTT
      go_wp2_with fail
      rw [HE5.out] at tt
      go_region_held3 (fun w' => w'.cell? ⟨wr.heap.size + 1, 0, none⟩ = some (.func (.func 37) #[] #[.pointer (some ⟨w2.heap.size + 1, 0, none⟩), .pointer (some ⟨w.heap.size, 0, none⟩), .pointer (some ⟨wr.heap.size, 0, none⟩), .pointer (some ⟨wr.heap.size + 1, 0, none⟩)]) ∧ w'.cell? ⟨gb, j, none⟩ = some (.int .i64 (bj : Int)))
        (first
          | exact tt
          | go_keep
          | exact ⟨q0, q1⟩)
        ((go_simp; go_at_call 37; rw [← HE5.out]; refine HC.out.mono ?_; rintro e w6 ⟨⟨v6, rfl⟩, sv6, lv6, hU6, hC6, hO6, hL6⟩
          have q0 : w6.cell? ⟨wr.heap.size + 1, 0, none⟩ = some (.func (.func 37) #[] #[.pointer (some ⟨w2.heap.size + 1, 0, none⟩), .pointer (some ⟨w.heap.size, 0, none⟩), .pointer (some ⟨wr.heap.size, 0, none⟩), .pointer (some ⟨wr.heap.size + 1, 0, none⟩)]) := hU6.ubx.cell 0
          have HW6 := Lib.hid ((HI.out.und HU5.out).step hU6 rfl rfl rfl rfl hC6 hO6 hL6)
          have q1 : w6.cell? ⟨gb, j, none⟩ = some (.int .i64 (bj : Int)) := row_cell (HW6.out.row H0.out HRb4.out (by decide) (by decide) (by decide)) rfl HBi.out))
      rename_i hHeld
      clear hHeld q0 q1 tt hU6 hC6 hO6 hL6
      go_wp2
      go_roundw
      case rel =>
        refine ⟨j + 1, os ++ bindN av st bj ++ [⟨(sayT av l[j] (st ++ bindN av st bj)).toArray⟩], sv6, lv6, by omega, by go_num, ?_, ?_, ?_⟩
        · have := HOs.out
          rw [List.length_append, List.length_append, bindN_len, List.length_singleton]
          omega
        · rw [HPa.out, HPl.out]
          simp
        · have := HW6.out
          simp only [List.append_assoc] at this ⊢
          exact this
      case measure => simp [intOf]; omega
    · obtain rfl : j = l.length := by omega
      have hos : os = partsL av l (binds ⟨k, (u : Int), m, s⟩) st := by rw [HPa.out, List.drop_length]; simp [partsL]
      rw [HB01.out, HLab.out] at hos
      obtain ⟨g9, c9, e9, hg9, _, hl9, hc9, _⟩ := row_block HI.out.lrow (by simp)
      subst e9
      have hos3 : os = [⟨(sayT av ta st).toArray⟩, nm, ⟨(sayT av tb' (st ++ [nm])).toArray⟩] := by rw [hos, HNm.out]; simp [partsL, bindN]
      generalize hTA : (⟨(sayT av ta st).toArray⟩ : ByteArray) = TA at hos3 HT
      generalize hTB : (⟨(sayT av tb' (st ++ [nm])).toArray⟩ : ByteArray) = TB at hos3 HT
      subst hos3
      have hrow := HI.out.lrow
      have z0 : wr.cell? ⟨w2.heap.size + 1, 0, none⟩ = some (.slice (some ⟨g9, 0, none⟩) 4 c9) := HI.out.lbx.cell 0
      have z1 := HI.out.lbx.lt
      have hnb := HI.out.box H0.out HB24.out (by decide) (by decide) (by decide)
      have z4 : wr.cell? ⟨w.heap.size + 1, 0, none⟩ = some (.int .i64 k) := hnb.cell 0
      have z5 := hnb.lt
      have y1 : wr.cell? ⟨g9, 1, none⟩ = some (.string TA) := row_cell hrow rfl rfl
      have y2 : wr.cell? ⟨g9, 2, none⟩ = some (.string nm) := row_cell hrow rfl rfl
      have y3 := row_free hrow (g := g9) rfl 1
      have y4 := row_free hrow (g := g9) rfl 2
      have y5 : g9 < wr.heap.size := (row_lt hrow rfl).2
      have hne : w2.heap.size + 1 ≠ g9 := fun e => box_own_ne HI.out.lbx hrow (by decide) (by rw [e]; rfl)
      have HNe := Lib.hid hne
      have i1 : (1 : Int) < 4 := by omega
      go_wp2_with fail
      have hrow1 := row_set hrow (g := g9) rfl (j := 1) (by simp) (.string nm)
      have y6 : (wr.setCell ⟨g9, 1, none⟩ (.string nm)).cell? ⟨g9, 2, none⟩ = some (.string nm) := row_cell hrow1 rfl rfl
      have y7 := row_free hrow1 (g := g9) rfl 2
      have y8 := (row_lt hrow1 (g := g9) rfl).2
      have hrow2 := row_set hrow1 (g := g9) rfl (j := 2) (by simp) (.string TA)
      have HR2 := Lib.hid hrow2
      have hl1 := HI.out.lbx.other hne 1 (.string nm)
      have hl2 := hl1.other hne 2 (.string TA)
      have HL2 := Lib.hid hl2
      refine wp_region_noPanic ?_
      refine wp_region_held_drew (S := fun w' => w'.cell? ⟨w2.heap.size + 1, 0, none⟩ = some (.slice (some ⟨g9, 0, none⟩) 4 c9)) (by kernel_rfl) z0 (fun hHeld => ?_)
      refine wpAnyH_take (i := 0) (v := ?v0) rfl (by kernel_rfl) (by kernel_rfl) (by kernel_rfl) (fun _ _ _ h => h) (Or.inl ⟨by (first | kernel_rfl | rfl), ?hy0⟩) (by assumption) ?rest0
      case hy0 => (intro w hSw; (try dsimp only at hSw); go_simp; try with_reducible rfl)
      try simp only [Act.put, List.setIfInBounds_toArray, List.set_cons_zero, List.set_cons_succ]
      refine wpAnyH_take (i := 1) (v := ?v1) rfl (by kernel_rfl) (by kernel_rfl) (by kernel_rfl) (fun _ _ _ h => h) (Or.inl ⟨by (first | kernel_rfl | rfl), ?hy1⟩) (by assumption) ?rest1
      case hy1 => (intro w hSw; (try dsimp only at hSw); go_simp; try with_reducible rfl)
      try simp only [Act.put, List.setIfInBounds_toArray, List.set_cons_zero, List.set_cons_succ]
      refine wpAnyH_take (i := 2) (v := ?v2) rfl (by kernel_rfl) (by kernel_rfl) (by kernel_rfl) (fun _ _ _ h => h) (Or.inl ⟨by (first | kernel_rfl | rfl), ?hy2⟩) (by assumption) ?rest2
      case hy2 => (intro w hSw; (try dsimp only at hSw); go_simp; try with_reducible rfl)
      try simp only [Act.put, List.setIfInBounds_toArray, List.set_cons_zero, List.set_cons_succ]
      refine wpAnyH_take (i := 3) (v := ?v3) rfl (by kernel_rfl) (by kernel_rfl) (by kernel_rfl) (fun _ _ _ h => h) (Or.inl ⟨by (first | kernel_rfl | rfl), ?hy3⟩) (by assumption) ?rest3
      case hy3 => (intro w hSw; (try dsimp only at hSw); go_simp; try with_reducible rfl)
      try simp only [Act.put, List.setIfInBounds_toArray, List.set_cons_zero, List.set_cons_succ]
      refine wpAnyH_take (i := 5) (v := ?v5) rfl (by kernel_rfl) (by kernel_rfl) (by kernel_rfl) (fun _ _ _ h => h) (Or.inl ⟨by (first | kernel_rfl | rfl), ?hy5⟩) (by assumption) ?rest5
      case hy5 => (intro w hSw; (try dsimp only at hSw); go_simp; try with_reducible rfl)
      try simp only [Act.put, List.setIfInBounds_toArray, List.set_cons_zero, List.set_cons_succ]
      refine wpAnyH_take (i := 6) (v := ?v6) rfl (by kernel_rfl) (by kernel_rfl) (by kernel_rfl) (fun _ _ _ h => h) (Or.inl ⟨by (first | kernel_rfl | rfl), ?hy6⟩) (by assumption) ?rest6
      case hy6 => (intro w hSw; (try dsimp only at hSw); go_simp; try with_reducible rfl)
      try simp only [Act.put, List.setIfInBounds_toArray, List.set_cons_zero, List.set_cons_succ]
      refine wpAnyH_ready (rs := [4, 7]) (by kernel_rfl) (by simp) ?_
      refine AllReadyH.cons rfl (fun K hK => ?_) (AllReadyH.cons rfl (fun K hK => ?_) AllReadyH.nil)
      · go_simp
        refine hK.out _ _ hHeld (fun hHeld' => ?_)
        clear hK K hHeld
        have hHeld := hHeld'
        clear hHeld'
        try simp only [Act.put, List.setIfInBounds_toArray, List.set_cons_zero, List.set_cons_succ]
        refine wpAnyH_ready (rs := [7]) (by kernel_rfl) (by simp) ?_
        refine AllReadyH.cons rfl (fun K hK => ?_) AllReadyH.nil
        go_simp
        refine hK.out _ _ hHeld (fun hHeld' => ?_)
        clear hK K hHeld
        have hHeld := hHeld'
        clear hHeld'
        try simp only [Act.put, List.setIfInBounds_toArray, List.set_cons_zero, List.set_cons_succ]
        refine wpAnyH_take (i := 8) (v := ?v8a) rfl (by kernel_rfl) (by kernel_rfl) (by kernel_rfl) (fun _ _ _ h => h) (Or.inl ⟨by (first | kernel_rfl | rfl), ?hy8a⟩) (by assumption) ?rest8a
        case hy8a => (intro w hSw; (try dsimp only at hSw); go_simp; try with_reducible rfl)
        try simp only [Act.put, List.setIfInBounds_toArray, List.set_cons_zero, List.set_cons_succ]
        refine wpAnyH_ready (rs := [9]) (by kernel_rfl) (by simp) ?_
        refine AllReadyH.cons rfl (fun K hK => ?_) AllReadyH.nil
        go_simp
        refine hK.out _ _ (by exact hl1.cell 0) (fun hHeld' => ?_)
        clear hK K hHeld
        have hHeld := hHeld'
        clear hHeld'
        try simp only [Act.put, List.setIfInBounds_toArray, List.set_cons_zero, List.set_cons_succ]
        refine wpAnyH_take (i := 10) (v := ?v10a) rfl (by kernel_rfl) (by kernel_rfl) (by kernel_rfl) (fun _ _ _ h => h) (Or.inl ⟨by (first | kernel_rfl | rfl), ?hy10a⟩) (by assumption) ?rest10a
        case hy10a => (intro w hSw; (try dsimp only at hSw); go_simp; try with_reducible rfl)
        try simp only [Act.put, List.setIfInBounds_toArray, List.set_cons_zero, List.set_cons_succ]
        refine wpAnyH_ready (rs := [11]) (by kernel_rfl) (by simp) ?_
        refine AllReadyH.cons rfl (fun K hK => ?_) AllReadyH.nil
        go_simp
        refine hK.out _ _ (by exact hl2.cell 0) (fun hHeld' => ?_)
        clear hK K hHeld
        have hHeld := hHeld'
        clear hHeld'
        try simp only [Act.put, List.setIfInBounds_toArray, List.set_cons_zero, List.set_cons_succ]
        refine wpAnyH_done (by kernel_rfl) ?_ _
        refine NoPanic.normal ?_
        clear z0 z1 hnb z4 z5 y1 y2 y3 y4 y5 y6 y7 y8 hrow1 hrow2 hl1 hl2 hHeld i1
        have hW8 : Under ((wr.setCell ⟨g9, 1, none⟩ (.string nm)).setCell ⟨g9, 2, none⟩ (.string TA)) ((wr.setCell ⟨g9, 1, none⟩ (.string nm)).setCell ⟨g9, 2, none⟩ (.string TA)).drew := under_drew (Under.refl _)
        have hr8 := row_under HR2.out hW8
        have hb8 := HL2.out.under hW8
        have hc8 : Ch (fun i => (Value.slice (some ⟨g9, 0, none⟩) 4 c9).ownBlock = some i) wr ((wr.setCell ⟨g9, 1, none⟩ (.string nm)).setCell ⟨g9, 2, none⟩ (.string TA)).drew := (((Ch.refl (C := fun i => (Value.slice (some ⟨g9, 0, none⟩) 4 c9).ownBlock = some i) wr).set (g := g9) (fun _ => rfl) 1 _).set (g := g9) (fun _ => rfl) 2 _).under hW8
        have HPJ := Lib.hid (pr_set HI.out.pr HI.out.lrow HI.out.apart hc8)
        have HCJ := Lib.hid (((Ch.of_under HU4.out).trans HI.out.ch (D := fun b => PrC pb tb sv b ∨ b = w2.heap.size + 1 ∨ ((.slice (some ⟨w2.heap.size, 0, none⟩) 1 1) : Value).ownBlock = some b) (C := PrC pb tb sv) (fun i hi h => by
          rcases h with h | h | h
          · exact h
          · have := HLb.out; omega
          · have := HLv.out i h; omega)).trans hc8 (fun i hi h => by
          have h1 := HI.out.lown i (by have := HU4.out.size; omega) h
          have := HLv.out i h1
          omega))
        have x0 : ((wr.setCell ⟨g9, 1, none⟩ (.string nm)).setCell ⟨g9, 2, none⟩ (.string TA)).drew.cell? ⟨w2.heap.size + 1, 0, none⟩ = some (.slice (some ⟨g9, 0, none⟩) 4 c9) := hb8.cell 0
        have x1 := hb8.lt
        have hJ : ∀ jj u, [W, nm, TA, TB][jj]? = some u → ((wr.setCell ⟨g9, 1, none⟩ (.string nm)).setCell ⟨g9, 2, none⟩ (.string TA)).drew.cell? ⟨g9, 0 + jj, none⟩ = some (.string u) := fun jj u hu => by
          rw [Nat.zero_add]
          refine row_cell hr8 rfl ?_
          show ([W, nm, TA, TB].map Value.string)[jj]? = _
          rw [List.getElem?_map, hu]
          rfl
        have HTs := HT.out
        obtain ⟨J, hJd⟩ : ∃ J, J = Lib.join ([W, nm, TA, TB].map (·.data.toList)) (⟨#[32]⟩ : ByteArray).data.toList := ⟨_, rfl⟩
        have hTJ : sayT av (.mk ⟨k, (u : Int), m, s⟩ l) st = 40 :: J ++ [41] := by rw [HTs, hJd]
        have hJl : J.length + 2 ≤ 1000000 := by
          have h1 := HSl.out
          have h2 := HN4.out
          rw [hTJ] at h1
          simp at h1
          omega
        have HJc := Lib.hid (Tryz.strings_Join g9 0 c9 [W, nm, TA, TB] ⟨#[32]⟩ ((wr.setCell ⟨g9, 1, none⟩ (.string nm)).setCell ⟨g9, 2, none⟩ (.string TA)).drew hJ (row_lt hr8 rfl).2 (by simp) hc9 (by rw [← hJd]; omega))
        rw [← hJd] at HJc
        have HTJ := Lib.hid hTJ
        have z2 : ¬ 9223372036854775807 < 1 + J.toArray.size := by simp; omega
        have z3 : ¬ 9223372036854775807 < 1 + J.toArray.size + 1 := by simp; omega
        clear hos hJ HTs hJd hTJ hJl HT hW8 hr8 hb8 hc8
        go_wp2_with fail
        clear x0 x1
        refine HJc.out.mono ?_
        rintro e w7 ⟨rfl, hBl⟩
        have HU7 := Lib.hid (under_below hBl)
        clear hBl HJc
        go_wp2
        go_ret
        exact ⟨ret_str (by rw [HTJ.out]; exact ByteArray.ext (by simp)), sv', HPJ.out.under HU7.out, HCJ.out.under HU7.out, fun b hb e => HI.out.own b (by have := HU4.out.size; omega) e⟩
      · go_simp
        refine hK.out _ _ hHeld (fun hHeld' => ?_)
        clear hK K hHeld
        have hHeld := hHeld'
        clear hHeld'
        try simp only [Act.put, List.setIfInBounds_toArray, List.set_cons_zero, List.set_cons_succ]
        refine wpAnyH_ready (rs := [4]) (by kernel_rfl) (by simp) ?_
        refine AllReadyH.cons rfl (fun K hK => ?_) AllReadyH.nil
        go_simp
        refine hK.out _ _ hHeld (fun hHeld' => ?_)
        clear hK K hHeld
        have hHeld := hHeld'
        clear hHeld'
        try simp only [Act.put, List.setIfInBounds_toArray, List.set_cons_zero, List.set_cons_succ]
        refine wpAnyH_take (i := 8) (v := ?v8b) rfl (by kernel_rfl) (by kernel_rfl) (by kernel_rfl) (fun _ _ _ h => h) (Or.inl ⟨by (first | kernel_rfl | rfl), ?hy8b⟩) (by assumption) ?rest8b
        case hy8b => (intro w hSw; (try dsimp only at hSw); go_simp; try with_reducible rfl)
        try simp only [Act.put, List.setIfInBounds_toArray, List.set_cons_zero, List.set_cons_succ]
        refine wpAnyH_ready (rs := [9]) (by kernel_rfl) (by simp) ?_
        refine AllReadyH.cons rfl (fun K hK => ?_) AllReadyH.nil
        go_simp
        refine hK.out _ _ (by exact hl1.cell 0) (fun hHeld' => ?_)
        clear hK K hHeld
        have hHeld := hHeld'
        clear hHeld'
        try simp only [Act.put, List.setIfInBounds_toArray, List.set_cons_zero, List.set_cons_succ]
        refine wpAnyH_take (i := 10) (v := ?v10b) rfl (by kernel_rfl) (by kernel_rfl) (by kernel_rfl) (fun _ _ _ h => h) (Or.inl ⟨by (first | kernel_rfl | rfl), ?hy10b⟩) (by assumption) ?rest10b
        case hy10b => (intro w hSw; (try dsimp only at hSw); go_simp; try with_reducible rfl)
        try simp only [Act.put, List.setIfInBounds_toArray, List.set_cons_zero, List.set_cons_succ]
        refine wpAnyH_ready (rs := [11]) (by kernel_rfl) (by simp) ?_
        refine AllReadyH.cons rfl (fun K hK => ?_) AllReadyH.nil
        go_simp
        refine hK.out _ _ (by exact hl2.cell 0) (fun hHeld' => ?_)
        clear hK K hHeld
        have hHeld := hHeld'
        clear hHeld'
        try simp only [Act.put, List.setIfInBounds_toArray, List.set_cons_zero, List.set_cons_succ]
        refine wpAnyH_done (by kernel_rfl) ?_ _
        refine NoPanic.normal ?_
        clear z0 z1 hnb z4 z5 y1 y2 y3 y4 y5 y6 y7 y8 hrow1 hrow2 hl1 hl2 hHeld i1
        have hW8 : Under ((wr.setCell ⟨g9, 1, none⟩ (.string nm)).setCell ⟨g9, 2, none⟩ (.string TA)) ((wr.setCell ⟨g9, 1, none⟩ (.string nm)).setCell ⟨g9, 2, none⟩ (.string TA)).drew := under_drew (Under.refl _)
        have hr8 := row_under HR2.out hW8
        have hb8 := HL2.out.under hW8
        have hc8 : Ch (fun i => (Value.slice (some ⟨g9, 0, none⟩) 4 c9).ownBlock = some i) wr ((wr.setCell ⟨g9, 1, none⟩ (.string nm)).setCell ⟨g9, 2, none⟩ (.string TA)).drew := (((Ch.refl (C := fun i => (Value.slice (some ⟨g9, 0, none⟩) 4 c9).ownBlock = some i) wr).set (g := g9) (fun _ => rfl) 1 _).set (g := g9) (fun _ => rfl) 2 _).under hW8
        have HPJ := Lib.hid (pr_set HI.out.pr HI.out.lrow HI.out.apart hc8)
        have HCJ := Lib.hid (((Ch.of_under HU4.out).trans HI.out.ch (D := fun b => PrC pb tb sv b ∨ b = w2.heap.size + 1 ∨ ((.slice (some ⟨w2.heap.size, 0, none⟩) 1 1) : Value).ownBlock = some b) (C := PrC pb tb sv) (fun i hi h => by
          rcases h with h | h | h
          · exact h
          · have := HLb.out; omega
          · have := HLv.out i h; omega)).trans hc8 (fun i hi h => by
          have h1 := HI.out.lown i (by have := HU4.out.size; omega) h
          have := HLv.out i h1
          omega))
        have x0 : ((wr.setCell ⟨g9, 1, none⟩ (.string nm)).setCell ⟨g9, 2, none⟩ (.string TA)).drew.cell? ⟨w2.heap.size + 1, 0, none⟩ = some (.slice (some ⟨g9, 0, none⟩) 4 c9) := hb8.cell 0
        have x1 := hb8.lt
        have hJ : ∀ jj u, [W, nm, TA, TB][jj]? = some u → ((wr.setCell ⟨g9, 1, none⟩ (.string nm)).setCell ⟨g9, 2, none⟩ (.string TA)).drew.cell? ⟨g9, 0 + jj, none⟩ = some (.string u) := fun jj u hu => by
          rw [Nat.zero_add]
          refine row_cell hr8 rfl ?_
          show ([W, nm, TA, TB].map Value.string)[jj]? = _
          rw [List.getElem?_map, hu]
          rfl
        have HTs := HT.out
        obtain ⟨J, hJd⟩ : ∃ J, J = Lib.join ([W, nm, TA, TB].map (·.data.toList)) (⟨#[32]⟩ : ByteArray).data.toList := ⟨_, rfl⟩
        have hTJ : sayT av (.mk ⟨k, (u : Int), m, s⟩ l) st = 40 :: J ++ [41] := by rw [HTs, hJd]
        have hJl : J.length + 2 ≤ 1000000 := by
          have h1 := HSl.out
          have h2 := HN4.out
          rw [hTJ] at h1
          simp at h1
          omega
        have HJc := Lib.hid (Tryz.strings_Join g9 0 c9 [W, nm, TA, TB] ⟨#[32]⟩ ((wr.setCell ⟨g9, 1, none⟩ (.string nm)).setCell ⟨g9, 2, none⟩ (.string TA)).drew hJ (row_lt hr8 rfl).2 (by simp) hc9 (by rw [← hJd]; omega))
        rw [← hJd] at HJc
        have HTJ := Lib.hid hTJ
        have z2 : ¬ 9223372036854775807 < 1 + J.toArray.size := by simp; omega
        have z3 : ¬ 9223372036854775807 < 1 + J.toArray.size + 1 := by simp; omega
        clear hos hJ HTs hJd hTJ hJl HT hW8 hr8 hb8 hc8
        go_wp2_with fail
        clear x0 x1
        refine HJc.out.mono ?_
        rintro e w7 ⟨rfl, hBl⟩
        have HU7 := Lib.hid (under_below hBl)
        clear hBl HJc
        go_wp2
        go_ret
        exact ⟨ret_str (by rw [HTJ.out]; exact ByteArray.ext (by simp)), sv', HPJ.out.under HU7.out, HCJ.out.under HU7.out, fun b hb e => HI.out.own b (by have := HU4.out.size; omega) e⟩
end Go.Proofs.YtiibknlpeodejaaGreatDoor

/- pretty.(*printer).words: any term. Printed by pwords.py. -/
namespace Go.Proofs.YtiibknlpeodejaaGreatDoor
open Go.Lx Go.RowKit
attribute [local go_sem] store_func

set_option maxRecDepth 100000 in
set_option maxHeartbeats 2000000 in
theorem words_plain (x : Nd) (l : List Tm) (hp : plainK x = true) (ih : ∀ a ∈ l, WordsOk a) : WordsOk (.mk x l) := by
  have h6 : x.k = 10 ∨ x.k = 11 ∨ x.k = 14 ∨ x.k = 16 ∨ x.k = 17 ∨ x.k = 29 := by simpa [plainK, or_assoc] using hp
  have g0 : x.k ≠ 0 := by omega
  have f0 : (x.k == 0) = false := beq_false_of_ne (by omega)
  have f1 : (x.k == 1) = false := beq_false_of_ne (by omega)
  have f2 : (x.k == 2) = false := beq_false_of_ne (by omega)
  have hb0 : binds x = [] := by rcases h6 with h | h | h | h | h | h <;> simp [binds, h, bindsOf]
  rintro hok hd hn W0 w pb hq tb ks st av sv tv hW hS hP hT hv hA ha hst hss hin
  have hx := hok.1
  have hte : (flat (.mk x l))[(flat (.mk x l)).length - 1]? = some x := by rw [flat]; simp
  have hpos : 1 ≤ (flat (.mk x l)).length := by rw [flat]; simp
  have hsl := sayT_len av (by omega) (.mk x l) hok st hss (by omega)
  have hlen := hok.2.1
  have hl8 := binds_len hx
  have hbr : (if rightB x then binds x else []) = binds x := if_pos hx
  have hb2 : ∀ b ∈ binds x, b ≤ 2 := fun b hb => by have := bindsR_le (x := x); unfold bindsR at this; rw [hbr] at this; exact this b hb
  unfold inT at hin
  rw [if_neg (by omega)] at hin
  obtain ⟨p, c, rfl, hc, hp0, hr⟩ := hv
  obtain ⟨b, off, rfl, hb, c0, c1, c2, c3⟩ := RowArg.node hr hte
  have HAr := Lib.hid (fun w1 (hU : Under w w1) => args_any (w0 := w1) x l (t := flat (.mk x l)) (b := b) (off := off) (c := c) rfl hok hd hn hc (hr.under hU) ((hS.under hP.und).under hU))
  have HBn := Lib.hid (fun w1 (hU : Under w w1) => binds_any (w0 := w1) x (by have := rightB_s hx; simp only [maxLen]; omega) ((hS.under hP.und).under hU))
  have HUn := Lib.hid (fun a (ha' : a ∈ l) => under_any a (okTs_mem.1 hok.2.2 a ha') (Nat.le_trans (deep_part ha') hd) (by have := flat_part ha'; rw [flat, List.length_append] at hn; omega) (ih a ha'))
  have hfl : (flat (.mk x l)).length = (flats l).length + 1 := by rw [flat]; simp
  obtain ⟨M, hM⟩ : ∃ M, (flat (.mk x l)).length = M + 1 := ⟨(flat (.mk x l)).length - 1, by omega⟩
  rw [hM] at c0 c1 c2 c3
  simp only [Nat.add_sub_cancel] at c0 c1 c2 c3
  have hM0 : (0 : Int) ≤ (M : Int) := by omega
  have hM4 : (M : Int) ≤ 4000 := by omega
  have hMi : ((M : Int) + 1 - 1) = (M : Int) := by omega
  have hk := rightB_k hx
  obtain ⟨w1, hw1⟩ : ∃ w1, w1 = (w.alloc (.cells #[.pointer (some ⟨pb, 0, none⟩)] 41)).alloc (.cells #[.int .i64 x.k, .int .i64 x.n, .int .i64 x.m, .string x.s] 38) := ⟨_, rfl⟩
  have hU1 : Under w w1 := by rw [hw1]; exact under_alloc (under_alloc (Under.refl w) _) _
  have hB1 : BoxAt w1 w.heap.size 41 #[.pointer (some ⟨pb, 0, none⟩)] := by rw [hw1]; exact (box_new w _ _).alloc _
  have hB2 : BoxAt w1 (w.heap.size + 1) 38 #[.int .i64 x.k, .int .i64 x.n, .int .i64 x.m, .string x.s] := by
    have := box_new (w.alloc (.cells #[.pointer (some ⟨pb, 0, none⟩)] 41)) #[.int .i64 x.k, .int .i64 x.n, .int .i64 x.m, .string x.s] 38
    rw [World.size_alloc] at this
    rw [hw1]
    exact this
  have hP1 := hP.under hU1
  have d0 : w1.cell? ⟨w.heap.size, 0, none⟩ = some (.pointer (some ⟨pb, 0, none⟩)) := hB1.cell 0
  have d1 : w1.cell? ⟨pb, 0, none⟩ = some (.map (some hq)) := hP1.box.cell 0
  have d2 : w1.cell? ⟨w.heap.size + 1, 0, none⟩ = some (.int .i64 x.k) := hB2.cell 0
  have d3 : MapIAt w1 hq headsL := hP1.heads
  have hsz1 : w1.heap.size = w.heap.size + 2 := by rw [hw1]; simp
  have HFd := head_field
  have HLk := fun (w' : World) (h : MapIAt w' hq headsL) => heads_look h hk.1 hk.2
  rw [hM]
  have HU1 := Lib.hid hU1
  have HB1 := Lib.hid hB1
  have HB2 := Lib.hid hB2
  have HP1 := Lib.hid hP1
  have HP := Lib.hid hP
  have HT0 := Lib.hid hT
  have dd := And.intro d0 (And.intro d1 (And.intro d2 d3))
  have HK := Lib.hid hk
  have HIn := Lib.hid hin
  have HLen := Lib.hid hlen
  have HL8 := Lib.hid hl8
  have HBr := Lib.hid hbr
  have HB22b := Lib.hid hb2
  have HX := Lib.hid hx
  have HSS := Lib.hid hss
  have HW := Lib.hid hW
  have HS := Lib.hid hS
  have HFl := Lib.hid hfl
  have HSt := Lib.hid hst
  have HHa := Lib.hid ha
  have HM := Lib.hid hM
  rw [hM] at hc hsl HAr hn
  have HSl := Lib.hid hsl
  have HN4 := Lib.hid hn
  clear hte hr hok hin hst hss hA hT hS hW hP hU1 hB1 hB2 hP1 hpos hn hM hp0 hx hd d0 d1 d2 d3 hk hsl hlen hl8 hbr hb2 hfl ha ih
  have hs0 : x.s = ⟨#[]⟩ := (rightB_zero HX.out).2.2 (by rcases h6 with h | h | h | h | h | h <;> rw [h] <;> rfl)
  have HT : RowKit.Hid (sayT av (.mk x l) st = (wordsB x).data.toList) := Lib.hid (by unfold sayT; rw [if_neg g0, if_neg (by omega), if_pos hp])
  have HWd : RowKit.Hid (headB x.k.toNat = wordsB x) := Lib.hid (by unfold wordsB; rw [if_neg (by omega)])
  rw [HWd.out] at HLk
  generalize wordsB x = W at *
  have hl0 : l.length = 0 := by rw [HLen.out, hb0]; rfl
  subst hw1
  clear hp HWd HX g0 h6
  obtain ⟨k, n, m, s⟩ := x
  simp only at *
  subst hs0
  go_enter Tryz.func21, Tryz.ntmps21
  go_wp2_with fail
  go_region_held3 (fun w' => w'.cell? ⟨w.heap.size, 0, none⟩ = some (.pointer (some ⟨pb, 0, none⟩)) ∧ w'.cell? ⟨pb, 0, none⟩ = some (.map (some hq)) ∧ w'.cell? ⟨w.heap.size + 1, 0, none⟩ = some (.int .i64 k) ∧ MapIAt w' hq headsL)
    (first
      | exact dd
      | go_keep)
    (fail)
  rename_i hHeld
  clear dd hHeld HLk HFd c0 c1 c2 c3
  go_wp2_with fail
  refine (HBn.out _ (HU1.out.trans (under_drew (Under.refl _)))).mono ?_
  rintro e w2 ⟨vb, rfl, hrb, hU2⟩
  rw [HBr.out, hb0] at hrb
  obtain ⟨qb, cb, rfl, _, _⟩ := RowArg.of_own hrb
  have hB22 := HB2.out.under ((under_drew (Under.refl _)).trans hU2)
  have e3 : w2.cell? ⟨w.heap.size + 1, 3, none⟩ = some (.string ⟨#[]⟩) := hB22.cell 3
  have el := hB22.lt
  have HU2 := Lib.hid ((HU1.out.trans (under_drew (Under.refl _))).trans hU2)
  clear hrb hU2 hB22
  go_wp2
  go_ret
  exact ⟨ret_str (by rw [HT.out, bytes_back]), sv, HP.out.under HU2.out, Ch.of_under HU2.out, fun b _ e => e⟩
theorem words_all (T : Tm) : WordsOk T := by
  induction T using Tm.rec (motive_2 := fun l => ∀ a ∈ l, WordsOk a) with
  | mk x l ih =>
    intro hok
    have hx := hok.1
    have hk := rightB_k hx
    revert hok
    by_cases h0 : x.k = 0
    · exact words_var x l h0
    by_cases h1 : x.k = 1
    · exact words_const x l h1
    by_cases h2 : x.k = 2
    · by_cases hn : x.n = 0
      · exact words_prop x l h2 hn
      · exact words_sort x l h2 hn
    cases hp : plainK x
    · have f0 := beq_false_of_ne h0
      have f1 := beq_false_of_ne h1
      have f2 := beq_false_of_ne h2
      by_cases h3 : x.k = 3
      · have f3 : (x.k == 3) = true := by simpa using h3
        by_cases hn : 0 < x.n
        · exact words_three1 x l f0 f1 f2 hp f3 hn ih
        · exact words_three0 x l f0 f1 f2 hp f3 (by have := rightB_n hx; omega) ih
      have f3 := beq_false_of_ne h3
      by_cases h6 : x.k = 6
      · have f6 : (x.k == 6) = true := by simpa using h6
        by_cases hn : 0 < x.n
        · exact words_six1 x l f0 f1 f2 hp f3 f6 hn ih
        · exact words_six0 x l f0 f1 f2 hp f3 f6 (by have := rightB_n hx; omega) ih
      have f6 := beq_false_of_ne h6
      by_cases h4 : x.k = 4
      · exact words_lam x l f0 f1 f2 hp f3 f6 (by simpa using h4) (beq_false_of_ne (by omega)) (by
          rcases rightB_name hx with ⟨h, _⟩ | ⟨_, h⟩
          · rw [h]; rfl
          · rw [h4] at h; cases h) ih
      have f4 := beq_false_of_ne h4
      by_cases h26 : x.k = 26
      · have fs : (x.s.toList == []) = false := by
          rcases rightB_name hx with ⟨_, h⟩ | ⟨h, _⟩
          · rw [h26] at h; cases h
          · have := (nameB_word h).1
            rw [ByteArray.toList_eq]
            simpa using this
        cases fl : ((l.length : Int) == 0)
        · exact words_con_false x l f0 f1 f2 hp f3 f6 f4 (by simpa using h26) fs fl ih
        · exact words_con_true x l f0 f1 f2 hp f3 f6 f4 (by simpa using h26) fs fl ih
      have f26 := beq_false_of_ne h26
      cases fs : (x.s.toList == [])
      · exact words_name x l f0 f1 f2 hp f3 f6 f4 f26 fs ih
      · exact words_rest x l f0 f1 f2 hp f3 f6 f4 f26 fs ih
    · exact words_plain x l hp ih
  | nil => rename_i a ha; cases ha
  | cons a l iha ihl =>
    rename_i b hb
    rcases List.mem_cons.1 hb with rfl | hb
    · exact iha
    · exact ihl b hb
end Go.Proofs.YtiibknlpeodejaaGreatDoor

/- pretty.Names: the names that rise, plainly. -/
namespace Go.Proofs.YtiibknlpeodejaaGreatDoor
open Go.Lx Go.RowKit

abbrev byt (s : ByteArray) : List UInt8 := s.data.toList
theorem lt_of_not {a b : List UInt8} (h : ¬ a < b) (hne : a ≠ b) : b < a := by
  apply Classical.byContradiction
  intro h2
  exact hne (List.le_antisymm (List.not_lt.1 h2) (List.not_lt.1 h))
theorem less_iff (a b : ByteArray) : Op.bytesLess a.toList b.toList = true ↔ byt a < byt b := by
  rw [Go.Proofs.bytesLess_eq, ByteArray.toList_eq, ByteArray.toList_eq]
  simp
theorem insGo_true (s : ByteArray) : ∀ l, insGo s l true = l
  | [] => rfl
  | x :: r => by simp [insGo, insGo_true s r]
theorem insGo_mem (s x : ByteArray) : ∀ l, x ∈ insGo s l false ↔ x ∈ l ∨ x = s
  | [] => by simp [insGo]
  | y :: r => by
    simp only [insGo, Bool.not_false, Bool.true_and]
    split
    · rw [insGo_true]
      simp only [List.mem_cons]
      constructor
      · rintro (rfl | h)
        · exact .inr rfl
        · exact .inl h
      · rintro (h | rfl)
        · exact .inr h
        · exact .inl rfl
    · rw [List.mem_cons, insGo_mem s x r, List.mem_cons, or_assoc]
theorem insGo_up (s : ByteArray) : ∀ l : List ByteArray, l.Pairwise (fun a b => byt a < byt b) → s ∉ l → (insGo s l false).Pairwise (fun a b => byt a < byt b)
  | [], _, _ => by simp [insGo]
  | y :: r, h, hn => by
    rw [List.pairwise_cons] at h
    simp only [insGo, Bool.not_false, Bool.true_and]
    split
    · rename_i hl
      have hsy := (less_iff s y).1 hl
      rw [insGo_true, List.pairwise_cons, List.pairwise_cons]
      refine ⟨fun b hb => ?_, h.1, h.2⟩
      rcases List.mem_cons.1 hb with rfl | hb
      · exact hsy
      · exact List.lt_trans hsy (h.1 b hb)
    · rename_i hl
      have hsy : ¬ byt s < byt y := fun e => hl ((less_iff s y).2 e)
      rw [List.pairwise_cons]
      refine ⟨fun b hb => ?_, insGo_up s r h.2 (fun e => hn (List.mem_cons_of_mem _ e))⟩
      rcases (insGo_mem s b r).1 hb with hb | rfl
      · exact h.1 b hb
      · exact lt_of_not hsy (fun e => hn (by rw [bytes_ext e]; exact List.mem_cons_self ..))
theorem insB_mem (l : List ByteArray) (s x : ByteArray) : x ∈ insB l s ↔ x ∈ l ∨ x = s := by
  unfold insB
  split
  · rename_i h
    have := amongB_iff.1 ((hasB_amongB l s).symm.trans h)
    constructor
    · exact .inl
    · rintro (h | rfl)
      · exact h
      · exact this
  · exact insGo_mem s x l
where hasB_amongB (l : List ByteArray) (s : ByteArray) : hasB l s = amongB l s := rfl
theorem insB_up (l : List ByteArray) (s : ByteArray) (h : l.Pairwise (fun a b => byt a < byt b)) : (insB l s).Pairwise (fun a b => byt a < byt b) := by
  unfold insB
  split
  · exact h
  · rename_i hh
    exact insGo_up s l h (fun e => hh (amongB_iff.2 e))
theorem namesB_up (p : Nd → Bool) : ∀ (t : List Nd) (l : List ByteArray), l.Pairwise (fun a b => byt a < byt b) → (namesB p l t).Pairwise (fun a b => byt a < byt b)
  | [], l, h => h
  | x :: t, l, h => by
    rw [namesB]
    refine namesB_up p t _ ?_
    split
    · exact insB_up l x.s h
    · exact h
theorem namesB_mem (p : Nd → Bool) (s : ByteArray) : ∀ (t : List Nd) (l : List ByteArray), s ∈ namesB p l t ↔ s ∈ l ∨ ∃ x ∈ t, p x = true ∧ x.s = s
  | [], l => by simp [namesB]
  | x :: t, l => by
    rw [namesB, namesB_mem p s t]
    by_cases hp : p x = true
    · rw [if_pos hp, insB_mem]
      constructor
      · rintro ((h | rfl) | ⟨y, h1, h2⟩)
        · exact .inl h
        · exact .inr ⟨x, List.mem_cons_self .., hp, rfl⟩
        · exact .inr ⟨y, List.mem_cons_of_mem _ h1, h2⟩
      · rintro (h | ⟨y, h1, h2, h3⟩)
        · exact .inl (.inl h)
        · rcases List.mem_cons.1 h1 with rfl | h1
          · exact .inl (.inr h3.symm)
          · exact .inr ⟨y, h1, h2, h3⟩
    · rw [if_neg hp]
      constructor
      · rintro (h | ⟨y, h1, h2⟩)
        · exact .inl h
        · exact .inr ⟨y, List.mem_cons_of_mem _ h1, h2⟩
      · rintro (h | ⟨y, h1, h2, h3⟩)
        · exact .inl h
        · rcases List.mem_cons.1 h1 with rfl | h1
          · exact absurd h2 hp
          · exact .inr ⟨y, h1, h2, h3⟩
/-- Keys that are sorted are the names that rise. -/
theorem keys_names (p : Nd → Bool) (t : List Nd) {ss : List (List UInt8)} (hnd : ss.Nodup) (hm : ∀ x, x ∈ ss ↔ ∃ y ∈ t, p y = true ∧ byt y.s = x) : (ss.mergeSort leB).map encStr = (namesB p [] t).map .string := by
  have tr : ∀ a b c : List UInt8, leB a b = true → leB b c = true → leB a c = true := fun a b c h1 h2 => by simp only [leB, decide_eq_true_eq] at *; exact List.le_trans h1 h2
  have to : ∀ a b : List UInt8, (leB a b || leB b a) = true := fun a b => by simp only [leB, Bool.or_eq_true, decide_eq_true_eq]; exact List.le_total a b
  have hup := namesB_up p t [] List.Pairwise.nil
  have hup2 : ((namesB p [] t).map byt).Pairwise (fun a b => a < b) := List.pairwise_map.2 hup
  have hnd2 : ((namesB p [] t).map byt).Nodup := hup2.imp (fun h e => by rw [e] at h; exact List.lt_irrefl _ h)
  have he : ss.mergeSort leB = (namesB p [] t).map byt := by
    refine List.Perm.eq_of_pairwise (le := fun a b => leB a b = true) (fun a b _ _ h1 h2 => ?_) (List.pairwise_mergeSort tr to ss) (hup2.imp (fun h => by simp only [leB, decide_eq_true_eq]; exact List.le_of_lt h)) ((List.mergeSort_perm ss leB).trans ((List.perm_ext_iff_of_nodup hnd hnd2).2 fun x => ?_))
    · simp only [leB, decide_eq_true_eq] at h1 h2
      exact List.le_antisymm h1 h2
    · rw [hm, List.mem_map]
      constructor
      · rintro ⟨y, h1, h2, rfl⟩
        exact ⟨y.s, (namesB_mem p _ t []).2 (.inr ⟨y, h1, h2, rfl⟩), rfl⟩
      · rintro ⟨s, h1, rfl⟩
        rcases (namesB_mem p s t []).1 h1 with h | ⟨y, q1, q2, q3⟩
        · simp at h
        · exact ⟨y, q1, q2, by rw [q3]⟩
  rw [he, List.map_map]
  refine List.map_congr_left fun s _ => ?_
  simp [encStr]
theorem names_ss (p : Nd → Bool) (t : List Nd) {w : World} {b n : Nat} {D : DataW Unit} (hown : w.ownsMap Tryz.prog 9 (plainElem Tryz.prog 3) b n D) (hm : ∀ x : List UInt8, Maps.has D (.string x) = true ↔ ∃ y ∈ t, p y = true ∧ byt y.s = x) {ss : List (List UInt8)} (hp : ss.Perm (strKeys D)) :
    (ss.mergeSort leB).map encStr = (namesB p [] t).map .string ∧ ss.length = (namesB p [] t).length := by
  have K : Maps.Keyed Tryz.prog 9 := Maps.string_keyed Tryz.underlying9
  obtain ⟨es, hD, hpw, _⟩ := hown.entries K
  obtain ⟨es', hD', hko⟩ := hown.keysOf
  obtain rfl : es = es' := by rw [hD] at hD'; simpa using hD'
  subst hD
  have hup := namesB_up p t [] List.Pairwise.nil
  have hup2 : ((namesB p [] t).map byt).Pairwise (fun a b => a < b) := List.pairwise_map.2 hup
  have hnd2 : ((namesB p [] t).map byt).Nodup := hup2.imp (fun h e => by rw [e] at h; exact List.lt_irrefl _ h)
  have hmem : ∀ x, x ∈ (namesB p [] t).map byt ↔ ∃ y ∈ t, p y = true ∧ byt y.s = x := fun x => by
    rw [List.mem_map]
    constructor
    · rintro ⟨s, h1, rfl⟩
      rcases (namesB_mem p s t []).1 h1 with h | ⟨y, q1, q2, q3⟩
      · simp at h
      · exact ⟨y, q1, q2, by rw [q3]⟩
    · rintro ⟨y, h1, h2, rfl⟩
      exact ⟨y.s, (namesB_mem p _ t []).2 (.inr ⟨y, h1, h2, rfl⟩), rfl⟩
  have hpm := perm_strKeys hpw (fun p hp => by obtain ⟨v, hv⟩ := hko p hp; obtain ⟨x, _, hx, _⟩ := Maps.keyOf_str Tryz.underlying9 hv; exact ⟨x, hx⟩) hnd2 (fun x => by rw [hmem, hm])
  have hss := hp.trans hpm.symm
  refine ⟨keys_names p t (hss.nodup_iff.2 hnd2) (fun x => by rw [hss.mem_iff, hmem]), by rw [hss.length_eq, List.length_map]⟩
/-- A map's keys are the names of some nodes. -/
def NzMap (p : Nd → Bool) (w : World) (b n : Nat) (t : List Nd) : Prop := ∃ D : DataW Unit, w.ownsMap Tryz.prog 9 (plainElem Tryz.prog 3) b n D ∧ ∀ x : List UInt8, Maps.has D (.string x) = true ↔ ∃ y ∈ t, p y = true ∧ byt y.s = x
def NzRel (w0 : World) (ba bb : Nat) (t : List Nd) (i : Value) (wr : World) : Prop := ∃ k : Nat, k ≤ t.length ∧ i = .int .i64 (k : Int) ∧ NzMap conB wr ba k (t.take k) ∧ NzMap datB wr bb k (t.take k) ∧ Under w0 wr
theorem nz_put {p : Nd → Bool} {D : DataW Unit} {t : List Nd} {y : Nd} {d : DataW Unit} (hD : Maps.IsMap D) (hp : p y = true) (hm : ∀ x : List UInt8, Maps.has D (.string x) = true ↔ ∃ y ∈ t, p y = true ∧ byt y.s = x) :
    ∀ x : List UInt8, Maps.has (D.put (.string (byt y.s)) d) (.string x) = true ↔ ∃ z ∈ t ++ [y], p z = true ∧ byt z.s = x := by
  intro x
  by_cases e : x = byt y.s
  · subst e
    rw [Maps.has_put_same (k := .string (byt y.s)) hD trivial]
    simp only [true_iff]
    exact ⟨y, by simp, hp, rfl⟩
  · rw [Maps.has_put_other (by simpa using e), hm x]
    constructor
    · rintro ⟨z, h1, h2⟩
      exact ⟨z, List.mem_append_left _ h1, h2⟩
    · rintro ⟨z, h1, h2, h3⟩
      rcases List.mem_append.1 h1 with h1 | h1
      · exact ⟨z, h1, h2, h3⟩
      · rw [List.mem_singleton.1 h1] at h3
        exact absurd h3.symm e
theorem nz_skip {p : Nd → Bool} {D : DataW Unit} {t : List Nd} {y : Nd} (hp : p y = false) (hm : ∀ x : List UInt8, Maps.has D (.string x) = true ↔ ∃ y ∈ t, p y = true ∧ byt y.s = x) :
    ∀ x : List UInt8, Maps.has D (.string x) = true ↔ ∃ z ∈ t ++ [y], p z = true ∧ byt z.s = x := by
  intro x
  rw [hm x]
  constructor
  · rintro ⟨z, h1, h2⟩
    exact ⟨z, List.mem_append_left _ h1, h2⟩
  · rintro ⟨z, h1, h2, h3⟩
    rcases List.mem_append.1 h1 with h1 | h1
    · exact ⟨z, h1, h2, h3⟩
    · rw [List.mem_singleton.1 h1, hp] at h2
      cases h2
end Go.Proofs.YtiibknlpeodejaaGreatDoor

/-
  DERIVED. MADE BY PROGRAM (lay-iter.mjs) off ytiibknlpeodejaagreatdoor.cut.gsa: THE SHELF's CONTRACTS ON 'slices.Sorted(maps.Keys(m))' LAID AT THIS DUMP: 1 map type. NO WALK OF THE LIBRARY's TEXT: each is one application of a contract over any P and ρ (Derived/Shelf/SlIter/, Derived/Shelf/SortM/).
-/
namespace Go.Proofs
open Go.RowKit Go.Maps Go.Sort Go.Shelf

-- maps.Keys[map[string]int,string,int] (function 26; its iterator 50) · slices.Sorted[string] (25) · slices.Sort[[]string,string] (49) · the map's type 44, the keys' 9
def Tryz.keys26_ren : Go.Shelf.Ren := ⟨fun | 7 => 26 | 10 => 50 | n => n, fun | 23 => 44 | 26 => 9 | 3 => 3 | 28 => 53 | 0 => 0 | 27 => 52 | 33 => 56 | 4 => 4 | n => n, fun | n => n⟩
theorem Tryz.keys26 : Go.Proofs.SlLaysZ.n7 Tryz.prog Tryz.keys26_ren := {
  mixed := by kernel_rfl
  f7 := ⟨Tryz.f26.name, by decide, Tryz.func26.trans (congrArg some (by kernel_rfl))⟩
  f10 := ⟨Tryz.f50.name, by decide, Tryz.func50.trans (congrArg some (by kernel_rfl))⟩
  t0 := Tryz.underlying0
  a0 := Tryz.isAgg0
  z0 := Tryz.sizeOf0
  v0 := Tryz.zeroValue0
  t4 := Tryz.underlying4
  a4 := Tryz.isAgg4
  z4 := Tryz.sizeOf4
  v4 := Tryz.zeroValue4
  t23 := Tryz.underlying44
  a23 := Tryz.isAgg44
  z23 := Tryz.sizeOf44
  v23 := Tryz.zeroValue44
  t26 := Tryz.underlying9
  a26 := Tryz.isAgg9
  z26 := Tryz.sizeOf9
  v26 := Tryz.zeroValue9
  t27 := Tryz.underlying52
  a27 := Tryz.isAgg52
  z27 := Tryz.sizeOf52
  v27 := Tryz.zeroValue52
  t28 := Tryz.underlying53
  a28 := Tryz.isAgg53
  z28 := Tryz.sizeOf53
  v28 := Tryz.zeroValue53
  t33 := Tryz.underlying56
  a33 := Tryz.isAgg56
  z33 := Tryz.sizeOf56
  v33 := Tryz.zeroValue56 }
def Tryz.sorted25_ren : Go.Shelf.Ren := ⟨fun | 6 => 25 | 8 => 48 | 9 => 49 | 11 => 71 | 13 => 73 | 12 => 72 | 23 => 93 | 24 => 94 | 14 => 84 | 15 => 85 | 16 => 86 | 17 => 87 | 18 => 88 | 19 => 89 | 20 => 90 | 21 => 91 | 22 => 92 | 25 => 102 | 26 => 103 | 27 => 104 | 28 => 105 | 29 => 106 | 30 => 107 | 31 => 114 | n => n, fun | 26 => 9 | 28 => 53 | 24 => 23 | 0 => 0 | 3 => 3 | 37 => 121 | 48 => 138 | 50 => 140 | 4 => 4 | 40 => 130 | 39 => 129 | 45 => 135 | 5 => 5 | 9 => 9 | 51 => 149 | 55 => 153 | 57 => 159 | 58 => 72 | 33 => 56 | n => n, fun | n => n⟩
theorem Tryz.sorted25 : Go.Proofs.SlLaysZ.n6 Tryz.prog Tryz.sorted25_ren := {
  mixed := by kernel_rfl
  f6 := ⟨Tryz.f25.name, by decide, Tryz.func25.trans (congrArg some (by kernel_rfl))⟩
  f8 := ⟨Tryz.f48.name, by decide, Tryz.func48.trans (congrArg some (by kernel_rfl))⟩
  f11 := ⟨Tryz.f71.name, by decide, Tryz.func71.trans (congrArg some (by kernel_rfl))⟩
  t0 := Tryz.underlying0
  a0 := Tryz.isAgg0
  z0 := Tryz.sizeOf0
  v0 := Tryz.zeroValue0
  t24 := Tryz.underlying23
  a24 := Tryz.isAgg23
  z24 := Tryz.sizeOf23
  v24 := Tryz.zeroValue23
  t26 := Tryz.underlying9
  a26 := Tryz.isAgg9
  z26 := Tryz.sizeOf9
  v26 := Tryz.zeroValue9
  t28 := Tryz.underlying53
  a28 := Tryz.isAgg53
  z28 := Tryz.sizeOf53
  v28 := Tryz.zeroValue53
  i26 := by kernel_rfl }
def Tryz.sort49_ren : Go.Shelf.Ren := ⟨fun | 6 => 49 | 8 => 73 | 9 => 72 | 19 => 93 | 20 => 94 | 21 => 84 | 22 => 85 | 23 => 86 | 24 => 87 | 25 => 88 | 26 => 89 | 27 => 90 | 28 => 91 | 29 => 92 | 36 => 102 | 31 => 103 | 32 => 104 | 37 => 105 | 38 => 106 | 39 => 107 | 41 => 114 | n => n, fun | 27 => 23 | 29 => 9 | 3 => 3 | 32 => 121 | 26 => 23 | 0 => 0 | 44 => 138 | 46 => 140 | 4 => 4 | 36 => 130 | 35 => 129 | 41 => 135 | 5 => 5 | 9 => 9 | 53 => 149 | 57 => 153 | 63 => 159 | 64 => 72 | n => n, fun | n => n⟩
theorem Tryz.sort49 : Go.Proofs.SlLaysM.n6 Tryz.prog Tryz.sort49_ren := {
  mixed := by kernel_rfl
  f6 := ⟨Tryz.f49.name, by decide, Tryz.func49.trans (congrArg some (by kernel_rfl))⟩
  f8 := Tryz.func73.trans (congrArg some (by kernel_rfl))
  f9 := ⟨Tryz.f72.name, by decide, Tryz.func72.trans (congrArg some (by kernel_rfl))⟩
  f19 := Tryz.func93.trans (congrArg some (by kernel_rfl))
  f20 := Tryz.func94.trans (congrArg some (by kernel_rfl))
  f21 := ⟨Tryz.f84.name, by decide, Tryz.func84.trans (congrArg some (by kernel_rfl))⟩
  f22 := ⟨Tryz.f85.name, by decide, Tryz.func85.trans (congrArg some (by kernel_rfl))⟩
  f23 := ⟨Tryz.f86.name, by decide, Tryz.func86.trans (congrArg some (by kernel_rfl))⟩
  f24 := ⟨Tryz.f87.name, by decide, Tryz.func87.trans (congrArg some (by kernel_rfl))⟩
  f25 := ⟨Tryz.f88.name, by decide, Tryz.func88.trans (congrArg some (by kernel_rfl))⟩
  f26 := ⟨Tryz.f89.name, by decide, Tryz.func89.trans (congrArg some (by kernel_rfl))⟩
  f27 := ⟨Tryz.f90.name, by decide, Tryz.func90.trans (congrArg some (by kernel_rfl))⟩
  f28 := ⟨Tryz.f91.name, by decide, Tryz.func91.trans (congrArg some (by kernel_rfl))⟩
  f29 := ⟨Tryz.f92.name, by decide, Tryz.func92.trans (congrArg some (by kernel_rfl))⟩
  f31 := Tryz.func103.trans (congrArg some (by kernel_rfl))
  f32 := Tryz.func104.trans (congrArg some (by kernel_rfl))
  f36 := ⟨Tryz.f102.name, by decide, Tryz.func102.trans (congrArg some (by kernel_rfl))⟩
  f37 := ⟨Tryz.f105.name, by decide, Tryz.func105.trans (congrArg some (by kernel_rfl))⟩
  f38 := ⟨Tryz.f106.name, by decide, Tryz.func106.trans (congrArg some (by kernel_rfl))⟩
  f39 := ⟨Tryz.f107.name, by decide, Tryz.func107.trans (congrArg some (by kernel_rfl))⟩
  f41 := ⟨Tryz.f114.name, by decide, Tryz.func114.trans (congrArg some (by kernel_rfl))⟩
  t0 := Tryz.underlying0
  a0 := Tryz.isAgg0
  z0 := Tryz.sizeOf0
  v0 := Tryz.zeroValue0
  t3 := Tryz.underlying3
  a3 := Tryz.isAgg3
  z3 := Tryz.sizeOf3
  v3 := Tryz.zeroValue3
  t4 := Tryz.underlying4
  a4 := Tryz.isAgg4
  z4 := Tryz.sizeOf4
  v4 := Tryz.zeroValue4
  t5 := Tryz.underlying5
  a5 := Tryz.isAgg5
  z5 := Tryz.sizeOf5
  v5 := Tryz.zeroValue5
  t9 := Tryz.underlying9
  a9 := Tryz.isAgg9
  z9 := Tryz.sizeOf9
  v9 := Tryz.zeroValue9
  t26 := Tryz.underlying23
  a26 := Tryz.isAgg23
  z26 := Tryz.sizeOf23
  v26 := Tryz.zeroValue23
  t27 := Tryz.underlying23
  a27 := Tryz.isAgg23
  z27 := Tryz.sizeOf23
  v27 := Tryz.zeroValue23
  t29 := Tryz.underlying9
  a29 := Tryz.isAgg9
  z29 := Tryz.sizeOf9
  v29 := Tryz.zeroValue9
  t32 := Tryz.underlying121
  a32 := Tryz.isAgg121
  z32 := Tryz.sizeOf121
  v32 := Tryz.zeroValue121
  t35 := Tryz.underlying129
  a35 := Tryz.isAgg129
  z35 := Tryz.sizeOf129
  v35 := Tryz.zeroValue129
  t36 := Tryz.underlying130
  a36 := Tryz.isAgg130
  z36 := Tryz.sizeOf130
  v36 := Tryz.zeroValue130
  t41 := Tryz.underlying135
  a41 := Tryz.isAgg135
  z41 := Tryz.sizeOf135
  v41 := Tryz.zeroValue135
  t44 := Tryz.underlying138
  a44 := Tryz.isAgg138
  z44 := Tryz.sizeOf138
  v44 := Tryz.zeroValue138
  t46 := Tryz.underlying140
  a46 := Tryz.isAgg140
  z46 := Tryz.sizeOf140
  v46 := Tryz.zeroValue140
  t53 := Tryz.underlying149
  a53 := Tryz.isAgg149
  z53 := Tryz.sizeOf149
  v53 := Tryz.zeroValue149
  t57 := Tryz.underlying153
  a57 := Tryz.isAgg153
  z57 := Tryz.sizeOf153
  v57 := Tryz.zeroValue153
  t63 := Tryz.underlying159
  a63 := Tryz.isAgg159
  z63 := Tryz.sizeOf159
  v63 := Tryz.zeroValue159
  t64 := Tryz.underlying72
  a64 := Tryz.isAgg72
  z64 := Tryz.sizeOf72
  v64 := Tryz.zeroValue72 }

/-- slices.Sort's two contracts at this dump, at the fence that asks nothing. -/
theorem Tryz.sorts25 (m : Nat) : AnyZ.SortsIn Tryz.prog Tryz.sorted25_ren Fence.wide m :=
  ⟨fun blk off cap ss W hH hblk hsz => callsIn_wide.2 (AnyM.slices_Sort_string Tryz.sort49 blk off cap ss W hH hblk hsz),
   fun p cap W => callsIn_wide.2 (AnyM.slices_Sort_string_none Tryz.sort49 p cap W)⟩

/-- **maps.Keys[map[string]int,string,int], at whatever map, the nil one too:** a function value over ONE NEW BLOCK, which holds the map. -/
theorem Tryz.maps_Keys_26 (mb : Option Nat) (W : World) : CallsIn Fence.wide 5 Tryz.prog 26 #[.map mb] W fun e w' => e = .returned (.func (.func 50) #[] #[.pointer (some ⟨W.heap.size, 0, none⟩)]) ∧ w' = W.alloc (.cells #[.map mb] 44) :=
  AnyZ.keys_in Tryz.keys26 Fence.wide 5 trivial rfl mb W

set_option maxHeartbeats 1000000 in
/-- **slices.Sorted[string] AT WHAT maps.Keys[map[string]int,string,int] HANDED BACK FOR A MAP THAT IS NOT nil** ('w': the world AHEAD of maps.Keys' call): A NEW SLICE THAT HOLDS THE MAP's KEYS, SORTED; nil just where it has none; nothing that lay before has turned. -/
theorem Tryz.slices_Sorted_keys_25_26 {H : Type} (b nn : Nat) (D0 : DataW H) (R : Value → Option (DataW H × List MemPlace)) (w : World) (hown : w.ownsMap Tryz.prog 9 R b nn D0) (hmax : Maps.size D0 ≤ maxLen) (hbytes : Maps.size D0 * 16 ≤ 140737488355328) :
    CallsIn Fence.wide 5 Tryz.prog 25 #[.func (.func 50) #[] #[.pointer (some ⟨w.heap.size, 0, none⟩)]] (w.alloc (.cells #[.map (some b)] 44)) fun e w' => ∃ (v : Value) (ss : List (List UInt8)), e = .returned v ∧ ss.Perm (strKeys D0) ∧
      w'.ownsRow (w.alloc (.cells #[.map (some b)] 44)).heap.size 9 1 v ss.length ((ss.mergeSort (fun x y => decide (x ≤ y))).map encStr) ∧ (v = .slice none 0 0 ↔ ss = []) ∧ Below (w.alloc (.cells #[.map (some b)] 44)).heap.size (w.alloc (.cells #[.map (some b)] 44)) w' := by
  have hbl := hown.lt
  have hseq : SeqGives Fence.wide 2 Tryz.prog 50 #[.pointer (some ⟨w.heap.size, 0, none⟩)] encStr (fun ss => ss.Perm (strKeys D0)) (Maps.size D0) (w.alloc (.cells #[.map (some b)] 44)) :=
    AnyZ.keys_gives (ρ := Tryz.keys26_ren) { Tryz.keys26 with } Fence.wide _ trivial rfl (by omega) w.heap.size b nn D0 _ (by simp) (by simp) (by
      obtain ⟨es, clock, hb, Ft, hs, hD⟩ := hown
      exact ⟨es, clock, (Below.heap_alloc _ _ b hbl).trans hb, Ft, hs, hD⟩)
  exact AnyZ.sorted_in Tryz.sorted25 Fence.wide 5 trivial trivial trivial trivial rfl (by omega) (Tryz.sorts25 _) (enters_of Tryz.func49 (by kernel_rfl) rfl) 50 #[.pointer (some ⟨w.heap.size, 0, none⟩)] trivial (enters_of Tryz.func50 (by kernel_rfl) rfl) _ _ hmax hbytes _ hseq

set_option maxHeartbeats 1000000 in
/-- **.. AND FOR THE nil MAP: nil.** -/
theorem Tryz.slices_Sorted_keys_nil_25_26 (w : World) :
    CallsIn Fence.wide 5 Tryz.prog 25 #[.func (.func 50) #[] #[.pointer (some ⟨w.heap.size, 0, none⟩)]] (w.alloc (.cells #[.map none] 44)) fun e w' => ∃ (v : Value) (ss : List (List UInt8)), e = .returned v ∧ ss = [] ∧
      w'.ownsRow (w.alloc (.cells #[.map none] 44)).heap.size 9 1 v ss.length ((ss.mergeSort (fun x y => decide (x ≤ y))).map encStr) ∧ (v = .slice none 0 0 ↔ ss = []) ∧ Below (w.alloc (.cells #[.map none] 44)).heap.size (w.alloc (.cells #[.map none] 44)) w' := by
  have hseq : SeqGives Fence.wide 2 Tryz.prog 50 #[.pointer (some ⟨w.heap.size, 0, none⟩)] encStr (fun ss : List (List UInt8) => ss = []) 0 (w.alloc (.cells #[.map none] 44)) :=
    AnyZ.keys_gives_nil (ρ := Tryz.keys26_ren) { Tryz.keys26 with } Fence.wide _ trivial rfl w.heap.size _ (by simp) (by simp)
  exact AnyZ.sorted_in Tryz.sorted25 Fence.wide 5 trivial trivial trivial trivial rfl (by omega) (Tryz.sorts25 _) (enters_of Tryz.func49 (by kernel_rfl) rfl) 50 #[.pointer (some ⟨w.heap.size, 0, none⟩)] trivial (enters_of Tryz.func50 (by kernel_rfl) rfl) _ 0 (Nat.zero_le _) (by omega) _ hseq


end Go.Proofs
