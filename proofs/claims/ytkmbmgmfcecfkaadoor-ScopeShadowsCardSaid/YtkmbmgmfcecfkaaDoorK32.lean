/- Part 32 of what the proof rests on. -/
import Derived.Deep.RegionHeld3
import Derived.Deep.LoopGhost
import Derived.Test.YtkmbmgmfcecfkaaDoorK30
import Derived.Test.YtkmbmgmfcecfkaaDoorK31
set_option linter.unusedSimpArgs false
set_option linter.unusedVariables false
namespace Go.Proofs.YtkmbmgmfcecfkaaDoor
open Go.Lx Go.RowKit
theorem data_goS {cs ds : List ByteArray} {wt : Bool} {ks : List UInt8} {y : ST} {ys : List ST} {x : Nd} {nms st : List ByteArray} {t : List Nd} :
    goS cs ds (kindsP wt (100 :: ks)) (y :: ys) x nms st t = if nameK y.last.word then (if amongB ds y.last.word then goS cs ds (kindsP wt ks) ys ⟨x.k, x.n, x.m, y.last.word⟩ nms st t else .error (80, y.last.pos)) else .error (71, y.last.pos) := by
  have : kindsP wt (100 :: ks) = .da :: kindsP wt ks := by simp [kindsP]
  rw [this, goS]
set_option maxRecDepth 100000 in
set_option maxHeartbeats 4000000 in
theorem tg_data (F : TgFix) (hF : TgOk F) {k : Nat} (hk : k < F.ts.length) {nms : List ByteArray} {wt : Bool} {x : Nd} {t : List Nd} {ov1 nv : Value} {p1 e1 : Int} {w : World} (hc : F.parts[k]? = some 100) (h : TgS F k nms wt x t ov1 p1 e1 nv w) (J : Nat → Value) :
    tgRound.wp Tryd.prog (Exit.then (TgNext F (k + 1)) (TgEnd F)) ⟨tgFrame F.rb F.nb F.bv nv wt ⟨F.parts.toArray⟩ F.q2 F.ts.length F.c2 k J, []⟩ w := by
  have hc' : (F.parts[k]'(by rw [hF.plen]; exact hk)) = 100 := by
    rw [List.getElem?_eq_getElem (by rw [hF.plen]; exact hk)] at hc
    exact Option.some.inj hc
  clear hc
  obtain ⟨i0, hi, hz0, hz1, hz2⟩ := info_parts Tryd.infoStrZ
  obtain ⟨b, off, hq2, hbl, hnC, hat⟩ := hF.arg (fun e => by rw [e] at hk; exact absurd hk (Nat.not_lt_zero _))
  obtain ⟨qi, ci, ckl, hci, hsxl, haw⟩ := hat k F.ts[k] (List.getElem?_eq_getElem hk)
  have hb : b < w.heap.size := Nat.lt_of_lt_of_le hbl h.ch.size
  have ck := (cell_ch h.ch hbl hnC (off + k)).trans ckl
  have hsx := sxarg_ch hsxl h.ch haw
  have HSxl := Lib.hid hsxl
  clear ckl hsxl
  have hyl : (flatS F.ts[k]).length ≤ 20000 := Nat.le_trans (sizeS_mem (List.getElem_mem hk)) hF.len
  have hpk : k < F.parts.length := by rw [hF.plen]; exact hk
  have hps : k < (⟨F.parts.toArray⟩ : ByteArray).size := by simpa [ByteArray.size] using hpk
  have hpc : (⟨F.parts.toArray⟩ : ByteArray)[k]'hps = F.parts[k] := rfl
  have hsay := h.say
  rw [List.drop_eq_getElem_cons hk, List.drop_eq_getElem_cons hpk] at hsay
  have hyw : F.ts[k].last.word.size ≤ 1000000 := by
    obtain ⟨i, hi⟩ := flatS_snoc F.ts[k]
    refine hF.words _ ?_
    have hm := List.getElem_mem hk
    generalize F.ts[k] = y at *
    exact flatS_last_mem hm
  have HLa := Lib.hid (slast_any (w0 := w) F.ts[k] (q := qi) (cap := ci) (by omega) hsx)
  have HY := Lib.hid (show F.ts[k] ∈ F.ts from List.getElem_mem hk)
  have HTk := Lib.hid (show flatSs (F.ts.take (k + 1)) = flatSs (F.ts.take k) ++ flatS F.ts[k] by rw [List.take_succ_eq_append_getElem hk, flatSs_app]; simp [flatSs])
  have HSy := Lib.hid hsay
  have HSx := Lib.hid hsx
  have HAw := Lib.hid haw
  have HF := Lib.hid hF
  have H := Lib.hid h
  have hn0 : (F.ts.length : Int) ≤ 20000 := by have := lenS_le F.ts; have := hF.len; omega
  have hk0 : (0 : Int) ≤ (k : Int) := by omega
  have hkn : (k : Int) < (F.ts.length : Int) := by omega
  have HKn := Lib.hid hk
  clear hat hsx haw hsay h
  generalize F.ts[k] = y at *
  generalize F.parts[k] = c at *
  obtain ⟨ps, hps, hpc, HPs⟩ : ∃ ps : ByteArray, ∃ hps : k < ps.size, ps[k]'hps = c ∧ RowKit.Hid (ps = (⟨F.parts.toArray⟩ : ByteArray)) := ⟨_, hps, hpc, Lib.hid rfl⟩
  rw [← HPs.out]
  unfold tgRound tgScope tgText
  simp only [Tryd.f20, Option.getD_some, fstOf, sndOf, inOf]
  unfold tgFrame
  rw [hq2]
  subst hc'
  rw [data_goS] at HSy
  cases hnm : nameK y.last.word
  · have HErr : RowKit.Hid (F.R = .error (71, y.last.pos)) := Lib.hid (by rw [HSy.out, hnm]; rfl)
    have hb : ((ps[k]'hps).toNat : Int) = 100 := by rw [hpc]; rfl
    go_wp2_with fail
    refine HLa.out.mono ?_
    rintro e w1 ⟨rfl, hU1⟩
    have HU1 := Lib.hid (under_alloc hU1 (.cells #[.int .i64 y.last.many, .int .i64 y.last.pos, .string y.last.word] 63))
    have HZ := Lib.hid (box_new w1 #[.int .i64 y.last.many, .int .i64 y.last.pos, .string y.last.word] 63)
    have hw1 := hU1.size
    clear hU1 HLa
    unfold sxV
    have hnd := H.out.nd.under HU1.out
    have n3 : (w1.alloc (.cells #[.int .i64 y.last.many, .int .i64 y.last.pos, .string y.last.word] 63)).cell? ⟨F.nb, 3, none⟩ = some (.string x.s) := hnd.cell 3
    have nl := hnd.lt
    have nf := hnd.free 3
    have HSe := Lib.hid (TgS.set_ch hF H.out HU1.out 3 (.string y.last.word))
    have hzn : w1.heap.size ≠ F.nb := fun e => by have := H.out.nd.lt; omega
    clear hnd
    have z0 : (w1.alloc (.cells #[.int .i64 y.last.many, .int .i64 y.last.pos, .string y.last.word] 63)).cell? ⟨w1.heap.size, 0, none⟩ = some (.int .i64 y.last.many) := HZ.out.cell 0
    have z1 : (w1.alloc (.cells #[.int .i64 y.last.many, .int .i64 y.last.pos, .string y.last.word] 63)).cell? ⟨w1.heap.size, 1, none⟩ = some (.int .i64 y.last.pos) := HZ.out.cell 1
    have z2 : (w1.alloc (.cells #[.int .i64 y.last.many, .int .i64 y.last.pos, .string y.last.word] 63)).cell? ⟨w1.heap.size, 2, none⟩ = some (.string y.last.word) := HZ.out.cell 2
    have zl := HZ.out.lt
    have HZ2 := Lib.hid (HZ.out.other hzn 3 (.string y.last.word))
    have k0 := HZ2.out.cell 0
    go_wp2_with fail
    generalize ((w1.alloc (.cells #[.int .i64 y.last.many, .int .i64 y.last.pos, .string y.last.word] 63)).setCell ⟨F.nb, 3, none⟩ (.string y.last.word)) = wz at *
    generalize w1.heap.size = zb at *
    clear n3 nl nf z0 z1 z2 zl k0 hzn
    have HNm := Lib.hid (sname_any (w0 := wz) y.last (rb := F.rb) (m1 := F.m1) (m2 := F.m2) (by simp only [maxLen]; omega) HSe.out.1.tables)
    rw [hnm] at HNm
    unfold sxV at HNm
    refine HNm.out.mono ?_
    rintro e w3 ⟨rfl, hU3⟩
    have hz3 := HZ2.out.under hU3
    have z1 := hz3.cell 1
    have z2 := hz3.cell 2
    have zl := hz3.lt
    have HZ3 := Lib.hid hz3
    have HU3 := Lib.hid hU3
    have HRe := Lib.hid (HSe.out.1.under hU3)
    have HCe := Lib.hid (HSe.out.2.1.under hU3)
    clear hU3 hz3 HNm
    have HWr := Lib.hid (wrong_any HRe.out y.last.pos 71)
    go_wp2_with fail
    refine HWr.out.mono ?_
    rintro e w4 hO
    obtain ⟨ov2, acc2, p2, e2, h1, h2, h3, rfl, rfl, rfl⟩ := hO
    have H1 := Lib.hid h1
    have H2 := Lib.hid h2
    have H3 := Lib.hid h3
    clear h1 h2 h3 HWr
    go_wp2
    refine .inr ⟨rfl, _, _, _, _, ⟨_, pframe_ex (F := tgOut false) (by rfl)⟩, HErr.out, H1.out, ?_, ?_⟩
    · exact HCe.out.trans (D := ResC F.rb ov1) H2.out (fun i hi h => .inl (tg_own H.out hi h))
    · intro b hb e
      exact H.out.own b hb (H3.out b (Nat.lt_of_lt_of_le hb HCe.out.size) e)
  · cases hds : amongB F.ds y.last.word
    · have HErr : RowKit.Hid (F.R = .error (80, y.last.pos)) := Lib.hid (by rw [HSy.out, hnm, hds]; rfl)
      have hb : ((ps[k]'hps).toNat : Int) = 100 := by rw [hpc]; rfl
      go_wp2_with fail
      refine HLa.out.mono ?_
      rintro e w1 ⟨rfl, hU1⟩
      have HU1 := Lib.hid (under_alloc hU1 (.cells #[.int .i64 y.last.many, .int .i64 y.last.pos, .string y.last.word] 63))
      have HZ := Lib.hid (box_new w1 #[.int .i64 y.last.many, .int .i64 y.last.pos, .string y.last.word] 63)
      have hw1 := hU1.size
      clear hU1 HLa
      unfold sxV
      have hnd := H.out.nd.under HU1.out
      have n3 : (w1.alloc (.cells #[.int .i64 y.last.many, .int .i64 y.last.pos, .string y.last.word] 63)).cell? ⟨F.nb, 3, none⟩ = some (.string x.s) := hnd.cell 3
      have nl := hnd.lt
      have nf := hnd.free 3
      have HSe := Lib.hid (TgS.set_ch hF H.out HU1.out 3 (.string y.last.word))
      have hzn : w1.heap.size ≠ F.nb := fun e => by have := H.out.nd.lt; omega
      clear hnd
      have z0 : (w1.alloc (.cells #[.int .i64 y.last.many, .int .i64 y.last.pos, .string y.last.word] 63)).cell? ⟨w1.heap.size, 0, none⟩ = some (.int .i64 y.last.many) := HZ.out.cell 0
      have z1 : (w1.alloc (.cells #[.int .i64 y.last.many, .int .i64 y.last.pos, .string y.last.word] 63)).cell? ⟨w1.heap.size, 1, none⟩ = some (.int .i64 y.last.pos) := HZ.out.cell 1
      have z2 : (w1.alloc (.cells #[.int .i64 y.last.many, .int .i64 y.last.pos, .string y.last.word] 63)).cell? ⟨w1.heap.size, 2, none⟩ = some (.string y.last.word) := HZ.out.cell 2
      have zl := HZ.out.lt
      have HZ2 := Lib.hid (HZ.out.other hzn 3 (.string y.last.word))
      have k0 := HZ2.out.cell 0
      go_wp2_with fail
      generalize ((w1.alloc (.cells #[.int .i64 y.last.many, .int .i64 y.last.pos, .string y.last.word] 63)).setCell ⟨F.nb, 3, none⟩ (.string y.last.word)) = wz at *
      generalize w1.heap.size = zb at *
      clear n3 nl nf z0 z1 z2 zl k0 hzn
      have HNm := Lib.hid (sname_any (w0 := wz) y.last (rb := F.rb) (m1 := F.m1) (m2 := F.m2) (by simp only [maxLen]; omega) HSe.out.1.tables)
      rw [hnm] at HNm
      unfold sxV at HNm
      refine HNm.out.mono ?_
      rintro e w3 ⟨rfl, hU3⟩
      have hz3 := HZ2.out.under hU3
      have z1 := hz3.cell 1
      have z2 := hz3.cell 2
      have zl := hz3.lt
      have HZ3 := Lib.hid hz3
      have HU3 := Lib.hid hU3
      have HRe := Lib.hid (HSe.out.1.under hU3)
      have HCe := Lib.hid (HSe.out.2.1.under hU3)
      clear hU3 hz3 HNm
      have c1 := HRe.out.box.cell 1
      have cl := HRe.out.box.lt
      have HCt := Lib.hid (fun w' (hU : Under w3 w') => containsT_any y.last.word (HF.out.dsT.under (HRe.out.und.trans hU)) HF.out.dsl)
      rw [hds] at HCt
      have ccd := And.intro c1 z2
      go_wp2_with fail
      go_region_held3 (fun w' => w'.cell? ⟨F.rb, 1, none⟩ = some F.dv ∧ w'.cell? ⟨zb, 2, none⟩ = some (.string y.last.word))
        (first
          | exact ccd
          | go_keep)
        ((go_at_call 32; refine (HCt.out _ (by first | exact under_drew (Under.refl _) | exact Under.refl _)).mono ?_; rintro e w7 ⟨rfl, rfl⟩))
      rename_i K hK hHeld
      clear hHeld ccd c1 cl z1 z2 zl
      have HRe := Lib.hid (HRe.out.under (under_drew (Under.refl _)))
      have HCe := Lib.hid (HCe.out.under (under_drew (Under.refl _)))
      have HZ4 := Lib.hid (HZ3.out.under (under_drew (Under.refl _)))
      have HNd := Lib.hid ((HSe.out.2.2.1.under HU3.out).under (under_drew (Under.refl _)))
      have HRw := Lib.hid (row_under (row_under HSe.out.2.2.2 HU3.out) (under_drew (Under.refl _)))
      have z1 := HZ4.out.cell 1
      have zl := HZ4.out.lt
      generalize w3.drew = w3 at *
      have HWr := Lib.hid (wrong_any HRe.out y.last.pos 80)
      go_wp2_with fail
      refine HWr.out.mono ?_
      rintro e w4 hO
      obtain ⟨ov2, acc2, p2, e2, h1, h2, h3, rfl, rfl, rfl⟩ := hO
      have H1 := Lib.hid h1
      have H2 := Lib.hid h2
      have H3 := Lib.hid h3
      clear h1 h2 h3 HWr
      go_wp2
      refine .inr ⟨rfl, _, _, _, _, ⟨_, pframe_ex (F := tgOut false) (by rfl)⟩, HErr.out, H1.out, ?_, ?_⟩
      · exact HCe.out.trans (D := ResC F.rb ov1) H2.out (fun i hi h => .inl (tg_own H.out hi h))
      · intro b hb e
        exact H.out.own b hb (H3.out b (Nat.lt_of_lt_of_le hb HCe.out.size) e)
    · have HSay : RowKit.Hid (F.R = goS F.cs F.ds (kindsP wt (F.parts.drop (k + 1))) (F.ts.drop (k + 1)) ⟨x.k, x.n, x.m, y.last.word⟩ nms F.st t) := Lib.hid (by rw [HSy.out, hnm, hds]; rfl)
      have hb : ((ps[k]'hps).toNat : Int) = 100 := by rw [hpc]; rfl
      go_wp2_with fail
      refine HLa.out.mono ?_
      rintro e w1 ⟨rfl, hU1⟩
      have HU1 := Lib.hid (under_alloc hU1 (.cells #[.int .i64 y.last.many, .int .i64 y.last.pos, .string y.last.word] 63))
      have HZ := Lib.hid (box_new w1 #[.int .i64 y.last.many, .int .i64 y.last.pos, .string y.last.word] 63)
      have hw1 := hU1.size
      clear hU1 HLa
      unfold sxV
      have hnd := H.out.nd.under HU1.out
      have n3 : (w1.alloc (.cells #[.int .i64 y.last.many, .int .i64 y.last.pos, .string y.last.word] 63)).cell? ⟨F.nb, 3, none⟩ = some (.string x.s) := hnd.cell 3
      have nl := hnd.lt
      have nf := hnd.free 3
      have HSe := Lib.hid (TgS.set_ch hF H.out HU1.out 3 (.string y.last.word))
      have hzn : w1.heap.size ≠ F.nb := fun e => by have := H.out.nd.lt; omega
      clear hnd
      have z0 : (w1.alloc (.cells #[.int .i64 y.last.many, .int .i64 y.last.pos, .string y.last.word] 63)).cell? ⟨w1.heap.size, 0, none⟩ = some (.int .i64 y.last.many) := HZ.out.cell 0
      have z1 : (w1.alloc (.cells #[.int .i64 y.last.many, .int .i64 y.last.pos, .string y.last.word] 63)).cell? ⟨w1.heap.size, 1, none⟩ = some (.int .i64 y.last.pos) := HZ.out.cell 1
      have z2 : (w1.alloc (.cells #[.int .i64 y.last.many, .int .i64 y.last.pos, .string y.last.word] 63)).cell? ⟨w1.heap.size, 2, none⟩ = some (.string y.last.word) := HZ.out.cell 2
      have zl := HZ.out.lt
      have HZ2 := Lib.hid (HZ.out.other hzn 3 (.string y.last.word))
      have k0 := HZ2.out.cell 0
      go_wp2_with fail
      generalize ((w1.alloc (.cells #[.int .i64 y.last.many, .int .i64 y.last.pos, .string y.last.word] 63)).setCell ⟨F.nb, 3, none⟩ (.string y.last.word)) = wz at *
      generalize w1.heap.size = zb at *
      clear n3 nl nf z0 z1 z2 zl k0 hzn
      have HNm := Lib.hid (sname_any (w0 := wz) y.last (rb := F.rb) (m1 := F.m1) (m2 := F.m2) (by simp only [maxLen]; omega) HSe.out.1.tables)
      rw [hnm] at HNm
      unfold sxV at HNm
      refine HNm.out.mono ?_
      rintro e w3 ⟨rfl, hU3⟩
      have hz3 := HZ2.out.under hU3
      have z1 := hz3.cell 1
      have z2 := hz3.cell 2
      have zl := hz3.lt
      have HZ3 := Lib.hid hz3
      have HU3 := Lib.hid hU3
      have HRe := Lib.hid (HSe.out.1.under hU3)
      have HCe := Lib.hid (HSe.out.2.1.under hU3)
      clear hU3 hz3 HNm
      have c1 := HRe.out.box.cell 1
      have cl := HRe.out.box.lt
      have HCt := Lib.hid (fun w' (hU : Under w3 w') => containsT_any y.last.word (HF.out.dsT.under (HRe.out.und.trans hU)) HF.out.dsl)
      rw [hds] at HCt
      have ccd := And.intro c1 z2
      go_wp2_with fail
      go_region_held3 (fun w' => w'.cell? ⟨F.rb, 1, none⟩ = some F.dv ∧ w'.cell? ⟨zb, 2, none⟩ = some (.string y.last.word))
        (first
          | exact ccd
          | go_keep)
        ((go_at_call 32; refine (HCt.out _ (by first | exact under_drew (Under.refl _) | exact Under.refl _)).mono ?_; rintro e w7 ⟨rfl, rfl⟩))
      rename_i K hK hHeld
      clear hHeld ccd c1 cl z1 z2 zl
      have HRe := Lib.hid (HRe.out.under (under_drew (Under.refl _)))
      have HCe := Lib.hid (HCe.out.under (under_drew (Under.refl _)))
      have HZ4 := Lib.hid (HZ3.out.under (under_drew (Under.refl _)))
      have HNd := Lib.hid ((HSe.out.2.2.1.under HU3.out).under (under_drew (Under.refl _)))
      have HRw := Lib.hid (row_under (row_under HSe.out.2.2.2 HU3.out) (under_drew (Under.refl _)))
      have z1 := HZ4.out.cell 1
      have zl := HZ4.out.lt
      generalize w3.drew = w3 at *
      go_wp2
      refine ⟨nms, wt, ⟨x.k, x.n, x.m, y.last.word⟩, t, ov1, p1, e1, nv, frame_ex (F := tgFrame F.rb F.nb F.bv nv wt ⟨F.parts.toArray⟩ F.q2 F.ts.length F.c2 (k + 1)) (by rw [hq2, ← HPs.out]; rfl) ?_⟩
      exact ⟨HRe.out, HCe.out, H.out.own, HNd.out, HRw.out, HSay.out, Nat.le_trans H.out.nlen (Nat.le_succ _), Nat.le_trans H.out.tlen (tg_take k HKn.out)⟩
end Go.Proofs.YtkmbmgmfcecfkaaDoor
namespace Go.Proofs.YtkmbmgmfcecfkaaDoor
open Go.Lx Go.RowKit
theorem term_goS {cs ds : List ByteArray} {wt : Bool} {c : UInt8} {ks : List UInt8} {y : ST} {ys : List ST} {x : Nd} {nms st : List ByteArray} {t : List Nd} (h1 : c ≠ 118) (h2 : c ≠ 119) (h3 : c ≠ 110) (h4 : c ≠ 100) :
    goS cs ds (kindsP wt (c :: ks)) (y :: ys) x nms st t = match sayS cs ds y (if wt then st else st ++ nms) with | .ok t' => goS cs ds (kindsP false ks) ys x (if wt then nms else []) st (t ++ t') | .error e => .error e := by
  have : kindsP wt (c :: ks) = .te wt :: kindsP false ks := by simp [kindsP, h1, h2, h3, h4]
  rw [this, goS]
  cases sayS cs ds y (if wt then st else st ++ nms) <;> rfl
theorem byte_ne {c d : UInt8} {n : Int} (h : c ≠ d) (hd : (d.toNat : Int) = n) : ((c.toNat : Int) == n) = false := beq_false_of_ne fun e => h (UInt8.toNat_inj.1 (by omega))
theorem away_res {F : TgFix} {k : Nat} {nms : List ByteArray} {wt : Bool} {x : Nd} {t : List Nd} {ov1 nv : Value} {p1 e1 : Int} {w : World} (h : TgS F k nms wt x t ov1 p1 e1 nv w) {b : Nat} (hb : b < F.wl.heap.size) (hn : ¬ TgC F.rb F.ov F.nb b) : ¬ ResC F.rb ov1 b := fun hr => hn (.inl (tg_own h hb hr))
theorem away_sx {F : TgFix} {k : Nat} {nms : List ByteArray} {wt : Bool} {x : Nd} {t : List Nd} {ov1 nv : Value} {p1 e1 : Int} {w : World} (h : TgS F k nms wt x t ov1 p1 e1 nv w) {q : Option Addr} {y : ST} (hs : SxArg F.wl q (flatS y)) (ha : AwayC (TgC F.rb F.ov F.nb) q) : AwayC (ResC F.rb ov1) q := by
  intro b off x e
  have hp := flatS_pos y
  obtain ⟨b', off', e', hb', _⟩ := hs (fun e => by rw [e] at hp; exact absurd hp (Nat.lt_irrefl _))
  rw [e] at e'
  cases e'
  exact away_res h hb' (ha _ _ _ e)
theorem away_tx {F : TgFix} {k : Nat} {nms : List ByteArray} {wt : Bool} {x : Nd} {t : List Nd} {ov1 nv : Value} {p1 e1 : Int} {w : World} (h : TgS F k nms wt x t ov1 p1 e1 nv w) {v : Value} {ss : List ByteArray} (hs : TextsV F.wl v ss) (ha : AwayV (TgC F.rb F.ov F.nb) v) : AwayV (ResC F.rb ov1) v := by
  obtain ⟨p, c, rfl, h1, h2, h3⟩ := hs
  intro q n c' e hn
  cases e
  intro b off x e
  obtain ⟨b', off', e', hb', _⟩ := h3 (fun e => hn (by rw [List.map_eq_nil_iff.1 e]; rfl))
  rw [e] at e'
  cases e'
  exact away_res h hb' (ha _ _ _ rfl hn _ _ _ e)
theorem mem_flatSs {l : List ST} {y : ST} (h : y ∈ l) {x : Sx} (hx : x ∈ flatS y) : x ∈ flatSs l := by
  induction l with
  | nil => cases h
  | cons a l ih =>
    rw [flatSs, List.mem_append]
    rcases List.mem_cons.1 h with rfl | h
    · exact .inl hx
    · exact .inr (ih h)
theorem flatSs_take_le (k : Nat) (l : List ST) : (flatSs (l.take k)).length ≤ (flatSs l).length := by
  have : flatSs l = flatSs (l.take k) ++ flatSs (l.drop k) := by rw [← flatSs_app, List.take_append_drop]
  rw [this, List.length_append]; omega
set_option maxRecDepth 100000 in
set_option maxHeartbeats 4000000 in
theorem tg_term (F : TgFix) (hF : TgOk F) {k : Nat} (hk : k < F.ts.length) {nms : List ByteArray} {wt : Bool} {x : Nd} {t : List Nd} {ov1 nv : Value} {p1 e1 : Int} {w : World} {c0 : UInt8} (hc : F.parts[k]? = some c0) (g1 : c0 ≠ 118) (g2 : c0 ≠ 119) (g3 : c0 ≠ 110) (g4 : c0 ≠ 100) (ih : ∀ y ∈ F.ts, ThOk y) (h : TgS F k nms wt x t ov1 p1 e1 nv w) (J : Nat → Value) :
    tgRound.wp Tryd.prog (Exit.then (TgNext F (k + 1)) (TgEnd F)) ⟨tgFrame F.rb F.nb F.bv nv wt ⟨F.parts.toArray⟩ F.q2 F.ts.length F.c2 k J, []⟩ w := by
  have hc' : (F.parts[k]'(by rw [hF.plen]; exact hk)) = c0 := by
    rw [List.getElem?_eq_getElem (by rw [hF.plen]; exact hk)] at hc
    exact Option.some.inj hc
  clear hc
  obtain ⟨i0, hi, hz0, hz1, hz2⟩ := info_parts Tryd.infoStrZ
  obtain ⟨b, off, hq2, hbl, hnC, hat⟩ := hF.arg (fun e => by rw [e] at hk; exact absurd hk (Nat.not_lt_zero _))
  obtain ⟨qi, ci, ckl, hci, hsxl, haw⟩ := hat k F.ts[k] (List.getElem?_eq_getElem hk)
  have hb : b < w.heap.size := Nat.lt_of_lt_of_le hbl h.ch.size
  have ck := (cell_ch h.ch hbl hnC (off + k)).trans ckl
  have hsx := sxarg_ch hsxl h.ch haw
  have HSxl := Lib.hid hsxl
  clear ckl hsxl
  have hyl : (flatS F.ts[k]).length ≤ 20000 := Nat.le_trans (sizeS_mem (List.getElem_mem hk)) hF.len
  have hpk : k < F.parts.length := by rw [hF.plen]; exact hk
  have hps : k < (⟨F.parts.toArray⟩ : ByteArray).size := by simpa [ByteArray.size] using hpk
  have hpc : (⟨F.parts.toArray⟩ : ByteArray)[k]'hps = F.parts[k] := rfl
  have hsay := h.say
  rw [List.drop_eq_getElem_cons hk, List.drop_eq_getElem_cons hpk] at hsay
  have hyw : F.ts[k].last.word.size ≤ 1000000 := by
    obtain ⟨i, hi⟩ := flatS_snoc F.ts[k]
    refine hF.words _ ?_
    have hm := List.getElem_mem hk
    generalize F.ts[k] = y at *
    exact flatS_last_mem hm
  have HLa := Lib.hid (slast_any (w0 := w) F.ts[k] (q := qi) (cap := ci) (by omega) hsx)
  have HY := Lib.hid (show F.ts[k] ∈ F.ts from List.getElem_mem hk)
  have HTk := Lib.hid (show flatSs (F.ts.take (k + 1)) = flatSs (F.ts.take k) ++ flatS F.ts[k] by rw [List.take_succ_eq_append_getElem hk, flatSs_app]; simp [flatSs])
  have HSy := Lib.hid hsay
  have HSx := Lib.hid hsx
  have HAw := Lib.hid haw
  have HF := Lib.hid hF
  have H := Lib.hid h
  have hn0 : (F.ts.length : Int) ≤ 20000 := by have := lenS_le F.ts; have := hF.len; omega
  have hk0 : (0 : Int) ≤ (k : Int) := by omega
  have hkn : (k : Int) < (F.ts.length : Int) := by omega
  have HKn := Lib.hid hk
  clear hat hsx haw hsay h
  generalize F.ts[k] = y at *
  generalize F.parts[k] = c at *
  obtain ⟨ps, hps, hpc, HPs⟩ : ∃ ps : ByteArray, ∃ hps : k < ps.size, ps[k]'hps = c ∧ RowKit.Hid (ps = (⟨F.parts.toArray⟩ : ByteArray)) := ⟨_, hps, hpc, Lib.hid rfl⟩
  rw [← HPs.out]
  unfold tgRound tgScope tgText
  simp only [Tryd.f20, Option.getD_some, fstOf, sndOf, inOf]
  unfold tgFrame
  rw [hq2]
  subst hc'
  rw [term_goS g1 g2 g3 g4] at HSy
  have nb1 : (((ps[k]'hps).toNat : Int) == 118) = false := by rw [hpc]; exact byte_ne g1 rfl
  have nb2 : (((ps[k]'hps).toNat : Int) == 119) = false := by rw [hpc]; exact byte_ne g2 rfl
  have nb3 : (((ps[k]'hps).toNat : Int) == 110) = false := by rw [hpc]; exact byte_ne g3 rfl
  have nb4 : (((ps[k]'hps).toNat : Int) == 100) = false := by rw [hpc]; exact byte_ne g4 rfl
  clear hpc g1 g2 g3 g4
  have HI := Lib.hid (ih y HY.out)
  have HOk := Lib.hid (okSs_mem.1 hF.ok y HY.out)
  have HWo := Lib.hid (fun x (hx : x ∈ flatS y) => hF.words x (mem_flatSs HY.out hx))
  have hle1 := flatSs_take_le (k + 1) F.ts
  rw [HTk.out, List.length_append] at hle1
  have hle2 := lenS_le (F.ts.take k)
  rw [List.length_take, Nat.min_eq_left (Nat.le_of_lt HKn.out)] at hle2
  have HBd := Lib.hid (show F.st.length + nms.length + (flatS y).length ≤ 50000 ∧ (F.acc ++ t).length + (flatS y).length ≤ 900000 by
    have := hF.stl; have := hF.accl; have := H.out.nlen; have := H.out.tlen
    rw [List.length_append]
    omega)
  have HStn := Lib.hid (show F.st.length ≤ 50000 ∧ nms.length ≤ 20000 by have := hF.stl; have := H.out.nlen; have := hF.len; omega)
  clear hle1 hle2
  have HTx := Lib.hid (texts_ch hF.bound H.out.ch hF.away)
  obtain ⟨pb, cb, hbv, _⟩ := hF.bound
  rw [hbv]
  cases wt
  · have HTn := Lib.hid (TextsV.of_own H.out.row)
    obtain ⟨pn, cn, hnv, _⟩ := HTn.out
    subst hnv
    have HCo := Lib.hid (fun w' (hU : Under w w') => concatStrs_any (w0 := w'.alloc (.cells #[F.bv, .slice pn nms.length cn] 24)) (v := .slice (some ⟨w'.heap.size, 0, none⟩) 2 2) [F.st, nms] (by simp) (by have := HStn.out; simp; omega) ⟨_, _, [F.bv, .slice pn nms.length cn], rfl, Nat.le_refl _, (fun e => by cases e), arg_new _ _ _ _, by
      refine ⟨rfl, fun i v x hv hx => ?_⟩
      match i, hv, hx with
      | 0, hv, hx => cases hv; cases hx; exact (HTx.out.under hU).under (under_alloc (Under.refl _) _)
      | 1, hv, hx => cases hv; cases hx; exact (HTn.out.under hU).under (under_alloc (Under.refl _) _)⟩)
    go_wp2_with fail
    refine HLa.out.mono ?_
    rintro e w1 ⟨rfl, hU1⟩
    have HU1 := Lib.hid (under_alloc hU1 (.cells #[.int .i64 y.last.many, .int .i64 y.last.pos, .string y.last.word] 63))
    have HZ := Lib.hid (box_new w1 #[.int .i64 y.last.many, .int .i64 y.last.pos, .string y.last.word] 63)
    have hw1 := hU1.size
    clear hU1 HLa
    unfold sxV
    have HCc := Lib.hid (HCo.out _ HU1.out)
    have HUa := Lib.hid (under_alloc HU1.out (.cells #[F.bv, .slice pn nms.length cn] 24))
    rw [hbv] at HCc HUa
    rw [World.size_alloc] at HCc
    clear HCo
    go_wp2_with fail
    refine HCc.out.mono ?_
    rintro e w2 ⟨v, rfl, hv, hU2⟩
    have hfl : [F.st, nms].flatten = F.st ++ nms := by simp
    rw [hfl] at hv
    have HU2 := Lib.hid (HUa.out.trans hU2)
    have HRe := Lib.hid (H.out.re.under HU2.out)
    have HCe := Lib.hid (H.out.ch.under HU2.out)
    have HNe := Lib.hid (H.out.nd.under HU2.out)
    have HCa := Lib.hid (HI.out F.W0 w2 F.rb F.m1 F.m2 F.cv F.dv ov1 (F.acc ++ t) p1 e1 qi ci v (F.st ++ nms) F.cs F.ds HOk.out hyl hci HWo.out hF.strc hF.csT hF.dsT hF.csl hF.dsl HRe.out (HSx.out.under HU2.out) (away_sx H.out HSxl.out HAw.out) (TextsV.of_own hv) (awayV_own hv (HRe.out.row_out hv (by decide) (by decide))) (by rw [List.length_append]; exact HBd.out.1) HBd.out.2)
    clear hfl hU2 hv HCc HI
    go_wp2_with fail
    rcases hR : sayS F.cs F.ds y (F.st ++ nms) with ⟨e0, p0⟩ | ty
    · have HErr : RowKit.Hid (F.R = .error (e0, p0)) := Lib.hid (by rw [HSy.out]; simp only [Bool.false_eq_true, if_false, hR])
      rw [hR] at HCa
      refine HCa.out.mono ?_
      rintro e w5 hO
      obtain ⟨ov2, acc2, p2, e2, h1, h2, h3, rfl, rfl, rfl⟩ := hO
      have H1 := Lib.hid h1
      have H2 := Lib.hid h2
      have H3 := Lib.hid h3
      clear h1 h2 h3 HCa
      go_wp2
      refine .inr ⟨rfl, _, _, _, _, ⟨_, pframe_ex (F := tgOut false) (by rfl)⟩, HErr.out, H1.out, ?_, ?_⟩
      · exact HCe.out.trans (D := ResC F.rb ov1) H2.out (fun i hi h => .inl (tg_own H.out hi h))
      · intro b hb e
        exact H.out.own b hb (H3.out b (Nat.lt_of_lt_of_le hb HCe.out.size) e)
    · have HSay : RowKit.Hid (F.R = goS F.cs F.ds (kindsP false (F.parts.drop (k + 1))) (F.ts.drop (k + 1)) x [] F.st (t ++ ty)) := Lib.hid (by rw [HSy.out]; simp only [Bool.false_eq_true, if_false, hR])
      have HLy := Lib.hid (sayS_len y _ _ hR)
      rw [hR] at HCa
      refine HCa.out.mono ?_
      rintro e w5 hO
      obtain ⟨ov2, acc2, p2, e2, h1, h2, h3, rfl, rfl⟩ := hO
      have H1 := Lib.hid h1
      have H2 := Lib.hid h2
      have H3 := Lib.hid h3
      clear h1 h2 h3 HCa
      go_wp2
      refine ⟨[], false, x, t ++ ty, ov2, p2, e2, (.slice none 0 0), frame_ex (F := tgFrame F.rb F.nb F.bv (.slice none 0 0) false ⟨F.parts.toArray⟩ F.q2 F.ts.length F.c2 (k + 1)) (by rw [hq2, hbv, ← HPs.out]; rfl) ?_⟩
      refine ⟨by rw [← List.append_assoc]; exact H1.out, HCe.out.trans (D := ResC F.rb ov1) H2.out (fun i hi h => .inl (tg_own H.out hi h)), fun b hb e => H.out.own b hb (H3.out b (Nat.lt_of_lt_of_le hb HCe.out.size) e), box_ch HNe.out H2.out (fun hr => hF.nrc (tg_own H.out hF.nlt hr)), ?_, HSay.out, ?_, ?_⟩
      · exact World.ownsRow_nil _ _ _ _
      · exact Nat.zero_le _
      · rw [List.length_append, HTk.out, List.length_append]
        have := H.out.tlen
        have := HLy.out
        omega
  · go_wp2_with fail
    refine HLa.out.mono ?_
    rintro e w1 ⟨rfl, hU1⟩
    have HU1 := Lib.hid (under_alloc hU1 (.cells #[.int .i64 y.last.many, .int .i64 y.last.pos, .string y.last.word] 63))
    have HZ := Lib.hid (box_new w1 #[.int .i64 y.last.many, .int .i64 y.last.pos, .string y.last.word] 63)
    have hw1 := hU1.size
    clear hU1 HLa
    unfold sxV
    have HRe := Lib.hid (H.out.re.under HU1.out)
    have HCe := Lib.hid (H.out.ch.under HU1.out)
    have HNe := Lib.hid (H.out.nd.under HU1.out)
    have HRw := Lib.hid (row_under H.out.row HU1.out)
    have HCa := Lib.hid (HI.out F.W0 _ F.rb F.m1 F.m2 F.cv F.dv ov1 (F.acc ++ t) p1 e1 qi ci F.bv F.st F.cs F.ds HOk.out hyl hci HWo.out hF.strc hF.csT hF.dsT hF.csl hF.dsl HRe.out (HSx.out.under HU1.out) (away_sx H.out HSxl.out HAw.out) (HTx.out.under HU1.out) (away_tx H.out hF.bound hF.away) (by have := HBd.out.1; omega) HBd.out.2)
    clear HI
    rw [hbv] at HCa
    go_wp2_with fail
    rcases hR : sayS F.cs F.ds y F.st with ⟨e0, p0⟩ | ty
    · have HErr : RowKit.Hid (F.R = .error (e0, p0)) := Lib.hid (by rw [HSy.out]; simp only [if_true, hR])
      rw [hR] at HCa
      refine HCa.out.mono ?_
      rintro e w5 hO
      obtain ⟨ov2, acc2, p2, e2, h1, h2, h3, rfl, rfl, rfl⟩ := hO
      have H1 := Lib.hid h1
      have H2 := Lib.hid h2
      have H3 := Lib.hid h3
      clear h1 h2 h3 HCa
      go_wp2
      refine .inr ⟨rfl, _, _, _, _, ⟨_, pframe_ex (F := tgOut false) (by rfl)⟩, HErr.out, H1.out, ?_, ?_⟩
      · exact HCe.out.trans (D := ResC F.rb ov1) H2.out (fun i hi h => .inl (tg_own H.out hi h))
      · intro b hb e
        exact H.out.own b hb (H3.out b (Nat.lt_of_lt_of_le hb HCe.out.size) e)
    · have HSay : RowKit.Hid (F.R = goS F.cs F.ds (kindsP false (F.parts.drop (k + 1))) (F.ts.drop (k + 1)) x nms F.st (t ++ ty)) := Lib.hid (by rw [HSy.out]; simp only [if_true, hR])
      have HLy := Lib.hid (sayS_len y _ _ hR)
      rw [hR] at HCa
      refine HCa.out.mono ?_
      rintro e w5 hO
      obtain ⟨ov2, acc2, p2, e2, h1, h2, h3, rfl, rfl⟩ := hO
      have H1 := Lib.hid h1
      have H2 := Lib.hid h2
      have H3 := Lib.hid h3
      clear h1 h2 h3 HCa
      go_wp2
      refine ⟨nms, false, x, t ++ ty, ov2, p2, e2, nv, frame_ex (F := tgFrame F.rb F.nb F.bv nv false ⟨F.parts.toArray⟩ F.q2 F.ts.length F.c2 (k + 1)) (by rw [hq2, hbv, ← HPs.out]; rfl) ?_⟩
      refine ⟨by rw [← List.append_assoc]; exact H1.out, HCe.out.trans (D := ResC F.rb ov1) H2.out (fun i hi h => .inl (tg_own H.out hi h)), fun b hb e => H.out.own b hb (H3.out b (Nat.lt_of_lt_of_le hb HCe.out.size) e), box_ch HNe.out H2.out (fun hr => hF.nrc (tg_own H.out hF.nlt hr)), ?_, HSay.out, ?_, ?_⟩
      · exact row_ch HRw.out H2.out (HRe.out.row_out HRw.out (by decide) (by decide))
      · exact Nat.le_trans H.out.nlen (Nat.le_succ _)
      · rw [List.length_append, HTk.out, List.length_append]
        have := H.out.tlen
        have := HLy.out
        omega
end Go.Proofs.YtkmbmgmfcecfkaaDoor
namespace Go.Proofs.YtkmbmgmfcecfkaaDoor
open Go.Lx Go.RowKit
set_option maxRecDepth 100000 in
theorem tg_done (rb nb : Nat) (bv nv : Value) (wt : Bool) (ps : ByteArray) (q2 : Option Addr) (n c2 : Nat) (J : Nat → Value) (w : World) :
    tgRound.wp Tryd.prog (Exit.then (fun _ _ => False) (fun e a' w' => e = .exit 0 ∧ ∃ J, a' = ⟨tgFrame rb nb bv nv wt ps q2 n c2 n J, []⟩ ∧ w' = w)) ⟨tgFrame rb nb bv nv wt ps q2 n c2 n J, []⟩ w := by
  unfold tgRound tgScope tgText
  simp only [Tryd.f20, Option.getD_some, fstOf, sndOf, inOf]
  unfold tgFrame
  go_wp2
  exact ⟨trivial, frame_ex (F := tgFrame rb nb bv nv wt ps q2 n c2 n) (by rfl) trivial⟩
theorem tg_rounds (F : TgFix) (hF : TgOk F) (ih : ∀ y ∈ F.ts, ThOk y) (a : Act) (w : World) (h0 : TgNext F 0 a w) : (Code.loop tgRound).wp Tryd.prog (TgEnd F) a w := by
  refine wp_loop_ghost (fun m a w => ∃ k, m + k = F.ts.length ∧ TgNext F k a w) F.ts.length ⟨0, rfl, h0⟩ ?_
  clear h0
  rintro m a w ⟨k, hmk, nms, wt, x, t, ov1, p1, e1, nv, J, rfl, h⟩
  by_cases hk : k < F.ts.length
  · have hpk : k < F.parts.length := by rw [hF.plen]; exact hk
    have hc : F.parts[k]? = some F.parts[k] := List.getElem?_eq_getElem hpk
    have key : tgRound.wp Tryd.prog (Exit.then (TgNext F (k + 1)) (TgEnd F)) ⟨tgFrame F.rb F.nb F.bv nv wt ⟨F.parts.toArray⟩ F.q2 F.ts.length F.c2 k J, []⟩ w := by
      by_cases g1 : F.parts[k] = 118
      · exact tg_name F hF hk (.inl (by rw [hc, g1])) h J
      by_cases g2 : F.parts[k] = 119
      · exact tg_name F hF hk (.inr (by rw [hc, g2])) h J
      by_cases g3 : F.parts[k] = 110
      · exact tg_num F hF hk (by rw [hc, g3]) h J
      by_cases g4 : F.parts[k] = 100
      · exact tg_data F hF hk (by rw [hc, g4]) h J
      exact tg_term F hF hk hc g1 g2 g3 g4 ih h J
    refine wp_mono key ?_
    rintro e a' w' h
    cases e with
    | normal => exact ⟨m - 1, by omega, k + 1, by omega, h⟩
    | _ => exact h
  · obtain rfl : k = F.ts.length := by have := lenS_le F.ts; omega
    refine wp_mono (tg_done F.rb F.nb F.bv nv wt ⟨F.parts.toArray⟩ F.q2 F.ts.length F.c2 J w) ?_
    rintro e a' w' h'
    cases e with
    | normal => exact h'.elim
    | _ =>
      obtain ⟨h1, J', rfl, rfl⟩ := h'
      exact .inl ⟨h1, nms, wt, x, t, ov1, p1, e1, nv, J', rfl, h⟩
end Go.Proofs.YtkmbmgmfcecfkaaDoor
