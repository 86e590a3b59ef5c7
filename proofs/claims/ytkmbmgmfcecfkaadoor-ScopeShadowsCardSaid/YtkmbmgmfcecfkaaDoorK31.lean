/- Part 31 of what the proof rests on. -/
import Derived.Test.YtkmbmgmfcecfkaaDoorK30
set_option linter.unusedSimpArgs false
set_option linter.unusedVariables false
namespace Go.Proofs.YtkmbmgmfcecfkaaDoor
open Go.Lx Go.RowKit
set_option maxRecDepth 100000 in
set_option maxHeartbeats 4000000 in
theorem tg_name (F : TgFix) (hF : TgOk F) {k : Nat} (hk : k < F.ts.length) {nms : List ByteArray} {wt : Bool} {x : Nd} {t : List Nd} {ov1 nv : Value} {p1 e1 : Int} {w : World} (hc : F.parts[k]? = some 118 ∨ F.parts[k]? = some 119) (h : TgS F k nms wt x t ov1 p1 e1 nv w) (J : Nat → Value) :
    tgRound.wp Tryd.prog (Exit.then (TgNext F (k + 1)) (TgEnd F)) ⟨tgFrame F.rb F.nb F.bv nv wt ⟨F.parts.toArray⟩ F.q2 F.ts.length F.c2 k J, []⟩ w := by
  have hc' : (F.parts[k]'(by rw [hF.plen]; exact hk)) = 118 ∨ (F.parts[k]'(by rw [hF.plen]; exact hk)) = 119 := by
    rw [List.getElem?_eq_getElem (by rw [hF.plen]; exact hk)] at hc
    rcases hc with hc | hc
    · exact .inl (Option.some.inj hc)
    · exact .inr (Option.some.inj hc)
  clear hc
  obtain ⟨i0, hi, hz0, hz1, hz2⟩ := info_parts Tryd.infoStrZ
  obtain ⟨b, off, hq2, hbl, hnC, hat⟩ := hF.arg (fun e => by rw [e] at hk; exact absurd hk (Nat.not_lt_zero _))
  obtain ⟨qi, ci, ckl, hci, hsxl, haw⟩ := hat k F.ts[k] (List.getElem?_eq_getElem hk)
  have hb : b < w.heap.size := Nat.lt_of_lt_of_le hbl h.ch.size
  have ck := (cell_ch h.ch hbl hnC (off + k)).trans ckl
  have hsx := sxarg_ch hsxl h.ch haw
  have HSxl := Lib.hid hsxl
  clear ckl hsxl
  have hyl : (flatS F.ts[k]).length ≤ 20000 := Nat.le_trans (sizeS_mem (List.getElem_mem hk)) hF.len
  have hpk : k < F.parts.length := by rw [hF.plen]; exact hk
  have hps : k < (⟨F.parts.toArray⟩ : ByteArray).size := by simpa [ByteArray.size] using hpk
  have hpc : (⟨F.parts.toArray⟩ : ByteArray)[k]'hps = F.parts[k] := rfl
  have hsay := h.say
  rw [List.drop_eq_getElem_cons hk, List.drop_eq_getElem_cons hpk] at hsay
  have hyw : F.ts[k].last.word.size ≤ 1000000 := by
    obtain ⟨i, hi⟩ := flatS_snoc F.ts[k]
    refine hF.words _ ?_
    have hm := List.getElem_mem hk
    generalize F.ts[k] = y at *
    exact flatS_last_mem hm
  have HLa := Lib.hid (slast_any (w0 := w) F.ts[k] (q := qi) (cap := ci) (by omega) hsx)
  have HY := Lib.hid (show F.ts[k] ∈ F.ts from List.getElem_mem hk)
  have HTk := Lib.hid (show flatSs (F.ts.take (k + 1)) = flatSs (F.ts.take k) ++ flatS F.ts[k] by rw [List.take_succ_eq_append_getElem hk, flatSs_app]; simp [flatSs])
  have HSy := Lib.hid hsay
  have HSx := Lib.hid hsx
  have HAw := Lib.hid haw
  have HF := Lib.hid hF
  have H := Lib.hid h
  have hn0 : (F.ts.length : Int) ≤ 20000 := by have := lenS_le F.ts; have := hF.len; omega
  have hk0 : (0 : Int) ≤ (k : Int) := by omega
  have hkn : (k : Int) < (F.ts.length : Int) := by omega
  have HKn := Lib.hid hk
  clear hat hsx haw hsay h
  generalize F.ts[k] = y at *
  generalize F.parts[k] = c at *
  obtain ⟨ps, hps, hpc, HPs⟩ : ∃ ps : ByteArray, ∃ hps : k < ps.size, ps[k]'hps = c ∧ RowKit.Hid (ps = (⟨F.parts.toArray⟩ : ByteArray)) := ⟨_, hps, hpc, Lib.hid rfl⟩
  rw [← HPs.out]
  unfold tgRound tgScope tgText
  simp only [Tryd.f20, Option.getD_some, fstOf, sndOf, inOf]
  unfold tgFrame
  rw [hq2]
  cases hnm : nameK y.last.word
  · have HErr : RowKit.Hid (F.R = .error (71, y.last.pos)) := Lib.hid (by
      rw [HSy.out]
      rcases hc' with rfl | rfl <;> simp [kindsP, goS, hnm])
    rcases hc' with rfl | rfl
    · have hb : ((ps[k]'hps).toNat : Int) = 118 := by rw [hpc]; rfl
      go_wp2_with fail
      refine HLa.out.mono ?_
      rintro e w1 ⟨rfl, hU1⟩
      have HU1 := Lib.hid (under_alloc hU1 (.cells #[.int .i64 y.last.many, .int .i64 y.last.pos, .string y.last.word] 63))
      have HZ := Lib.hid (box_new w1 #[.int .i64 y.last.many, .int .i64 y.last.pos, .string y.last.word] 63)
      have hw1 := hU1.size
      clear hU1 HLa
      unfold sxV
      have z0 : (w1.alloc (.cells #[.int .i64 y.last.many, .int .i64 y.last.pos, .string y.last.word] 63)).cell? ⟨w1.heap.size, 0, none⟩ = some (.int .i64 y.last.many) := HZ.out.cell 0
      have z1 : (w1.alloc (.cells #[.int .i64 y.last.many, .int .i64 y.last.pos, .string y.last.word] 63)).cell? ⟨w1.heap.size, 1, none⟩ = some (.int .i64 y.last.pos) := HZ.out.cell 1
      have z2 : (w1.alloc (.cells #[.int .i64 y.last.many, .int .i64 y.last.pos, .string y.last.word] 63)).cell? ⟨w1.heap.size, 2, none⟩ = some (.string y.last.word) := HZ.out.cell 2
      have zl := HZ.out.lt
      go_wp2_with fail
      generalize w1.alloc (.cells #[.int .i64 y.last.many, .int .i64 y.last.pos, .string y.last.word] 63) = wz at *
      generalize w1.heap.size = zb at *
      have HNm := Lib.hid (sname_any (w0 := wz) y.last (rb := F.rb) (m1 := F.m1) (m2 := F.m2) (by simp only [maxLen]; omega) (H.out.re.under HU1.out).tables)
      rw [hnm] at HNm
      unfold sxV at HNm
      refine HNm.out.mono ?_
      rintro e w3 ⟨rfl, hU3⟩
      have hz3 := HZ.out.under hU3
      have z1 := hz3.cell 1
      have z2 := hz3.cell 2
      have zl := hz3.lt
      have HU3 := Lib.hid (HU1.out.trans hU3)
      have HZ3 := Lib.hid hz3
      clear hU3 hz3 HNm z0
      have HRe := Lib.hid (H.out.re.under HU3.out)
      have HCe := Lib.hid (H.out.ch.under HU3.out)
      have HWr := Lib.hid (wrong_any HRe.out y.last.pos 71)
      go_wp2_with fail
      refine HWr.out.mono ?_
      rintro e w4 hO
      obtain ⟨ov2, acc2, p2, e2, h1, h2, h3, rfl, rfl, rfl⟩ := hO
      have H1 := Lib.hid h1
      have H2 := Lib.hid h2
      have H3 := Lib.hid h3
      clear h1 h2 h3 HWr
      go_wp2
      refine .inr ⟨rfl, _, _, _, _, ⟨_, pframe_ex (F := tgOut false) (by rfl)⟩, HErr.out, H1.out, ?_, ?_⟩
      · exact HCe.out.trans (D := ResC F.rb ov1) H2.out (fun i hi h => .inl (tg_own H.out hi h))
      · intro b hb e
        exact H.out.own b hb (H3.out b (Nat.lt_of_lt_of_le hb HCe.out.size) e)
    · have hb : ((ps[k]'hps).toNat : Int) = 119 := by rw [hpc]; rfl
      go_wp2_with fail
      refine HLa.out.mono ?_
      rintro e w1 ⟨rfl, hU1⟩
      have HU1 := Lib.hid (under_alloc hU1 (.cells #[.int .i64 y.last.many, .int .i64 y.last.pos, .string y.last.word] 63))
      have HZ := Lib.hid (box_new w1 #[.int .i64 y.last.many, .int .i64 y.last.pos, .string y.last.word] 63)
      have hw1 := hU1.size
      clear hU1 HLa
      unfold sxV
      have z0 : (w1.alloc (.cells #[.int .i64 y.last.many, .int .i64 y.last.pos, .string y.last.word] 63)).cell? ⟨w1.heap.size, 0, none⟩ = some (.int .i64 y.last.many) := HZ.out.cell 0
      have z1 : (w1.alloc (.cells #[.int .i64 y.last.many, .int .i64 y.last.pos, .string y.last.word] 63)).cell? ⟨w1.heap.size, 1, none⟩ = some (.int .i64 y.last.pos) := HZ.out.cell 1
      have z2 : (w1.alloc (.cells #[.int .i64 y.last.many, .int .i64 y.last.pos, .string y.last.word] 63)).cell? ⟨w1.heap.size, 2, none⟩ = some (.string y.last.word) := HZ.out.cell 2
      have zl := HZ.out.lt
      go_wp2_with fail
      generalize w1.alloc (.cells #[.int .i64 y.last.many, .int .i64 y.last.pos, .string y.last.word] 63) = wz at *
      generalize w1.heap.size = zb at *
      have HNm := Lib.hid (sname_any (w0 := wz) y.last (rb := F.rb) (m1 := F.m1) (m2 := F.m2) (by simp only [maxLen]; omega) (H.out.re.under HU1.out).tables)
      rw [hnm] at HNm
      unfold sxV at HNm
      refine HNm.out.mono ?_
      rintro e w3 ⟨rfl, hU3⟩
      have hz3 := HZ.out.under hU3
      have z1 := hz3.cell 1
      have z2 := hz3.cell 2
      have zl := hz3.lt
      have HU3 := Lib.hid (HU1.out.trans hU3)
      have HZ3 := Lib.hid hz3
      clear hU3 hz3 HNm z0
      have HRe := Lib.hid (H.out.re.under HU3.out)
      have HCe := Lib.hid (H.out.ch.under HU3.out)
      have HWr := Lib.hid (wrong_any HRe.out y.last.pos 71)
      go_wp2_with fail
      refine HWr.out.mono ?_
      rintro e w4 hO
      obtain ⟨ov2, acc2, p2, e2, h1, h2, h3, rfl, rfl, rfl⟩ := hO
      have H1 := Lib.hid h1
      have H2 := Lib.hid h2
      have H3 := Lib.hid h3
      clear h1 h2 h3 HWr
      go_wp2
      refine .inr ⟨rfl, _, _, _, _, ⟨_, pframe_ex (F := tgOut false) (by rfl)⟩, HErr.out, H1.out, ?_, ?_⟩
      · exact HCe.out.trans (D := ResC F.rb ov1) H2.out (fun i hi h => .inl (tg_own H.out hi h))
      · intro b hb e
        exact H.out.own b hb (H3.out b (Nat.lt_of_lt_of_le hb HCe.out.size) e)
  · rcases hc' with rfl | rfl
    · have HSay : RowKit.Hid (F.R = goS F.cs F.ds (kindsP false (F.parts.drop (k + 1))) (F.ts.drop (k + 1)) x (nms ++ [y.last.word]) F.st t) := Lib.hid (by
        rw [HSy.out]; simp [kindsP, goS, hnm])
      have hb : ((ps[k]'hps).toNat : Int) = 118 := by rw [hpc]; rfl
      go_wp2_with fail
      refine HLa.out.mono ?_
      rintro e w1 ⟨rfl, hU1⟩
      have HU1 := Lib.hid (under_alloc hU1 (.cells #[.int .i64 y.last.many, .int .i64 y.last.pos, .string y.last.word] 63))
      have HZ := Lib.hid (box_new w1 #[.int .i64 y.last.many, .int .i64 y.last.pos, .string y.last.word] 63)
      have hw1 := hU1.size
      clear hU1 HLa
      unfold sxV
      have z0 : (w1.alloc (.cells #[.int .i64 y.last.many, .int .i64 y.last.pos, .string y.last.word] 63)).cell? ⟨w1.heap.size, 0, none⟩ = some (.int .i64 y.last.many) := HZ.out.cell 0
      have z1 : (w1.alloc (.cells #[.int .i64 y.last.many, .int .i64 y.last.pos, .string y.last.word] 63)).cell? ⟨w1.heap.size, 1, none⟩ = some (.int .i64 y.last.pos) := HZ.out.cell 1
      have z2 : (w1.alloc (.cells #[.int .i64 y.last.many, .int .i64 y.last.pos, .string y.last.word] 63)).cell? ⟨w1.heap.size, 2, none⟩ = some (.string y.last.word) := HZ.out.cell 2
      have zl := HZ.out.lt
      go_wp2_with fail
      generalize w1.alloc (.cells #[.int .i64 y.last.many, .int .i64 y.last.pos, .string y.last.word] 63) = wz at *
      generalize w1.heap.size = zb at *
      have HNm := Lib.hid (sname_any (w0 := wz) y.last (rb := F.rb) (m1 := F.m1) (m2 := F.m2) (by simp only [maxLen]; omega) (H.out.re.under HU1.out).tables)
      rw [hnm] at HNm
      unfold sxV at HNm
      refine HNm.out.mono ?_
      rintro e w3 ⟨rfl, hU3⟩
      have hz3 := HZ.out.under hU3
      have z1 := hz3.cell 1
      have z2 := hz3.cell 2
      have zl := hz3.lt
      have HU3 := Lib.hid (HU1.out.trans hU3)
      have HZ3 := Lib.hid hz3
      clear hU3 hz3 HNm z0
      have hmx : nms.length + 1 ≤ maxLen := by have := H.out.nlen; simp only [maxLen]; omega
      have hby : (nms.length + 1) * 16 ≤ 140737488355328 := by have := H.out.nlen; omega
      go_wp2_with (at_builtin; refine wpList_append_own_at _ rfl _ _ 24 rfl F.wl.heap.size 9 i0 _ 1 16 Tryd.underlying24 hi hz0 hz1 hz2 rfl (by decide) _ _ _ rfl ((row_under H.out.row HU3.out).alloc _) ⟨w3.heap.size, 0, none⟩ 1 1 [.string y.last.word] rfl rfl ?c1 ?c2 hmx hby ?c5 ?_)
      case c1 =>
        intro j u hj
        match j, hj with
        | 0, hj => cases hj; simp [Addr.add]
      case c2 => intro u hu; simp at hu; subst hu; rfl
      case c5 => have := H.out.ch.size; have := HU3.out.size; simp; omega
      intro v' w5 hown hgrow hnil hat
      have HW := Lib.hid hown
      have HCh := Lib.hid ((Ch.of_under (C := fun i => nv.ownBlock = some i) (under_alloc HU3.out (.cells #[.string y.last.word] 9))).grown hgrow (fun g e _ => e))
      clear hown hgrow hnil hat
      go_wp2
      refine ⟨nms ++ [y.last.word], false, x, t, ov1, p1, e1, v', frame_ex (F := tgFrame F.rb F.nb F.bv v' false ⟨F.parts.toArray⟩ F.q2 F.ts.length F.c2 (k + 1)) (by rw [hq2, ← HPs.out]; rfl) ?_⟩
      exact TgS.name hF HKn.out H.out HCh.out HW.out HSay.out
    · have HSay : RowKit.Hid (F.R = goS F.cs F.ds (kindsP true (F.parts.drop (k + 1))) (F.ts.drop (k + 1)) x (nms ++ [y.last.word]) F.st t) := Lib.hid (by
        rw [HSy.out]; simp [kindsP, goS, hnm])
      have hb : ((ps[k]'hps).toNat : Int) = 119 := by rw [hpc]; rfl
      go_wp2_with fail
      refine HLa.out.mono ?_
      rintro e w1 ⟨rfl, hU1⟩
      have HU1 := Lib.hid (under_alloc hU1 (.cells #[.int .i64 y.last.many, .int .i64 y.last.pos, .string y.last.word] 63))
      have HZ := Lib.hid (box_new w1 #[.int .i64 y.last.many, .int .i64 y.last.pos, .string y.last.word] 63)
      have hw1 := hU1.size
      clear hU1 HLa
      unfold sxV
      have z0 : (w1.alloc (.cells #[.int .i64 y.last.many, .int .i64 y.last.pos, .string y.last.word] 63)).cell? ⟨w1.heap.size, 0, none⟩ = some (.int .i64 y.last.many) := HZ.out.cell 0
      have z1 : (w1.alloc (.cells #[.int .i64 y.last.many, .int .i64 y.last.pos, .string y.last.word] 63)).cell? ⟨w1.heap.size, 1, none⟩ = some (.int .i64 y.last.pos) := HZ.out.cell 1
      have z2 : (w1.alloc (.cells #[.int .i64 y.last.many, .int .i64 y.last.pos, .string y.last.word] 63)).cell? ⟨w1.heap.size, 2, none⟩ = some (.string y.last.word) := HZ.out.cell 2
      have zl := HZ.out.lt
      go_wp2_with fail
      generalize w1.alloc (.cells #[.int .i64 y.last.many, .int .i64 y.last.pos, .string y.last.word] 63) = wz at *
      generalize w1.heap.size = zb at *
      have HNm := Lib.hid (sname_any (w0 := wz) y.last (rb := F.rb) (m1 := F.m1) (m2 := F.m2) (by simp only [maxLen]; omega) (H.out.re.under HU1.out).tables)
      rw [hnm] at HNm
      unfold sxV at HNm
      refine HNm.out.mono ?_
      rintro e w3 ⟨rfl, hU3⟩
      have hz3 := HZ.out.under hU3
      have z1 := hz3.cell 1
      have z2 := hz3.cell 2
      have zl := hz3.lt
      have HU3 := Lib.hid (HU1.out.trans hU3)
      have HZ3 := Lib.hid hz3
      clear hU3 hz3 HNm z0
      have hmx : nms.length + 1 ≤ maxLen := by have := H.out.nlen; simp only [maxLen]; omega
      have hby : (nms.length + 1) * 16 ≤ 140737488355328 := by have := H.out.nlen; omega
      go_wp2_with (at_builtin; refine wpList_append_own_at _ rfl _ _ 24 rfl F.wl.heap.size 9 i0 _ 1 16 Tryd.underlying24 hi hz0 hz1 hz2 rfl (by decide) _ _ _ rfl ((row_under H.out.row HU3.out).alloc _) ⟨w3.heap.size, 0, none⟩ 1 1 [.string y.last.word] rfl rfl ?c1 ?c2 hmx hby ?c5 ?_)
      case c1 =>
        intro j u hj
        match j, hj with
        | 0, hj => cases hj; simp [Addr.add]
      case c2 => intro u hu; simp at hu; subst hu; rfl
      case c5 => have := H.out.ch.size; have := HU3.out.size; simp; omega
      intro v' w5 hown hgrow hnil hat
      have HW := Lib.hid hown
      have HCh := Lib.hid ((Ch.of_under (C := fun i => nv.ownBlock = some i) (under_alloc HU3.out (.cells #[.string y.last.word] 9))).grown hgrow (fun g e _ => e))
      clear hown hgrow hnil hat
      go_wp2
      refine ⟨nms ++ [y.last.word], true, x, t, ov1, p1, e1, v', frame_ex (F := tgFrame F.rb F.nb F.bv v' true ⟨F.parts.toArray⟩ F.q2 F.ts.length F.c2 (k + 1)) (by rw [hq2, ← HPs.out]; rfl) ?_⟩
      exact TgS.name hF HKn.out H.out HCh.out HW.out HSay.out
end Go.Proofs.YtkmbmgmfcecfkaaDoor
namespace Go.Proofs.YtkmbmgmfcecfkaaDoor
open Go.Lx Go.RowKit
theorem num_goS {cs ds : List ByteArray} {wt : Bool} {ks : List UInt8} {y : ST} {ys : List ST} {x : Nd} {nms st : List ByteArray} {t : List Nd} :
    goS cs ds (kindsP wt (110 :: ks)) (y :: ys) x nms st t = match numAB y.last.word (if x.k = 26 then 0 else 1) (if x.k = 26 then 5 else 9) with | some n => goS cs ds (kindsP wt ks) ys ⟨x.k, (n : Int), x.m, x.s⟩ nms st t | none => .error (71, y.last.pos) := by
  have : kindsP wt (110 :: ks) = .nu :: kindsP wt ks := by simp [kindsP]
  rw [this, goS]
  unfold numAB
  cases numS y.last.word with
  | none => rfl
  | some n =>
    simp only
    unfold numOk
    by_cases h : x.k = 26
    · simp only [if_pos h]
      by_cases h2 : n < 6
      · rw [if_pos (by simpa using h2), if_pos (by omega)]
      · rw [if_neg (by simpa using h2), if_neg (by omega)]
    · simp only [if_neg h]
      by_cases h2 : 1 ≤ n ∧ n ≤ 9
      · rw [if_pos (by simpa using h2), if_pos h2]
      · rw [if_neg (by simpa using h2), if_neg h2]
set_option maxRecDepth 100000 in
set_option maxHeartbeats 4000000 in
theorem tg_num (F : TgFix) (hF : TgOk F) {k : Nat} (hk : k < F.ts.length) {nms : List ByteArray} {wt : Bool} {x : Nd} {t : List Nd} {ov1 nv : Value} {p1 e1 : Int} {w : World} (hc : F.parts[k]? = some 110) (h : TgS F k nms wt x t ov1 p1 e1 nv w) (J : Nat → Value) :
    tgRound.wp Tryd.prog (Exit.then (TgNext F (k + 1)) (TgEnd F)) ⟨tgFrame F.rb F.nb F.bv nv wt ⟨F.parts.toArray⟩ F.q2 F.ts.length F.c2 k J, []⟩ w := by
  have hc' : (F.parts[k]'(by rw [hF.plen]; exact hk)) = 110 := by
    rw [List.getElem?_eq_getElem (by rw [hF.plen]; exact hk)] at hc
    exact Option.some.inj hc
  clear hc
  obtain ⟨i0, hi, hz0, hz1, hz2⟩ := info_parts Tryd.infoStrZ
  obtain ⟨b, off, hq2, hbl, hnC, hat⟩ := hF.arg (fun e => by rw [e] at hk; exact absurd hk (Nat.not_lt_zero _))
  obtain ⟨qi, ci, ckl, hci, hsxl, haw⟩ := hat k F.ts[k] (List.getElem?_eq_getElem hk)
  have hb : b < w.heap.size := Nat.lt_of_lt_of_le hbl h.ch.size
  have ck := (cell_ch h.ch hbl hnC (off + k)).trans ckl
  have hsx := sxarg_ch hsxl h.ch haw
  have HSxl := Lib.hid hsxl
  clear ckl hsxl
  have hyl : (flatS F.ts[k]).length ≤ 20000 := Nat.le_trans (sizeS_mem (List.getElem_mem hk)) hF.len
  have hpk : k < F.parts.length := by rw [hF.plen]; exact hk
  have hps : k < (⟨F.parts.toArray⟩ : ByteArray).size := by simpa [ByteArray.size] using hpk
  have hpc : (⟨F.parts.toArray⟩ : ByteArray)[k]'hps = F.parts[k] := rfl
  have hsay := h.say
  rw [List.drop_eq_getElem_cons hk, List.drop_eq_getElem_cons hpk] at hsay
  have hyw : F.ts[k].last.word.size ≤ 1000000 := by
    obtain ⟨i, hi⟩ := flatS_snoc F.ts[k]
    refine hF.words _ ?_
    have hm := List.getElem_mem hk
    generalize F.ts[k] = y at *
    exact flatS_last_mem hm
  have HLa := Lib.hid (slast_any (w0 := w) F.ts[k] (q := qi) (cap := ci) (by omega) hsx)
  have HY := Lib.hid (show F.ts[k] ∈ F.ts from List.getElem_mem hk)
  have HTk := Lib.hid (show flatSs (F.ts.take (k + 1)) = flatSs (F.ts.take k) ++ flatS F.ts[k] by rw [List.take_succ_eq_append_getElem hk, flatSs_app]; simp [flatSs])
  have HSy := Lib.hid hsay
  have HSx := Lib.hid hsx
  have HAw := Lib.hid haw
  have HF := Lib.hid hF
  have H := Lib.hid h
  have hn0 : (F.ts.length : Int) ≤ 20000 := by have := lenS_le F.ts; have := hF.len; omega
  have hk0 : (0 : Int) ≤ (k : Int) := by omega
  have hkn : (k : Int) < (F.ts.length : Int) := by omega
  have HKn := Lib.hid hk
  clear hat hsx haw hsay h
  generalize F.ts[k] = y at *
  generalize F.parts[k] = c at *
  obtain ⟨ps, hps, hpc, HPs⟩ : ∃ ps : ByteArray, ∃ hps : k < ps.size, ps[k]'hps = c ∧ RowKit.Hid (ps = (⟨F.parts.toArray⟩ : ByteArray)) := ⟨_, hps, hpc, Lib.hid rfl⟩
  rw [← HPs.out]
  unfold tgRound tgScope tgText
  simp only [Tryd.f20, Option.getD_some, fstOf, sndOf, inOf]
  unfold tgFrame
  rw [hq2]
  subst hc'
  rw [num_goS] at HSy
  have hnb := H.out.nd.under (Under.refl w)
  have hnl := hnb.lt
  cases h26 : (x.k == 26)
  · have g26 : ¬ x.k = 26 := by simpa using h26
    rw [if_neg g26, if_neg g26] at HSy
    clear g26
    have hb : ((ps[k]'hps).toNat : Int) = 110 := by rw [hpc]; rfl
    go_wp2_with fail
    refine HLa.out.mono ?_
    rintro e w1 ⟨rfl, hU1⟩
    have HU1 := Lib.hid (under_alloc hU1 (.cells #[.int .i64 y.last.many, .int .i64 y.last.pos, .string y.last.word] 63))
    have HZ := Lib.hid (box_new w1 #[.int .i64 y.last.many, .int .i64 y.last.pos, .string y.last.word] 63)
    have hw1 := hU1.size
    clear hU1 HLa
    unfold sxV
    have m0 : (w1.alloc (.cells #[.int .i64 y.last.many, .int .i64 y.last.pos, .string y.last.word] 63)).cell? ⟨F.nb, 0, none⟩ = some (.int .i64 x.k) := (H.out.nd.under HU1.out).cell 0
    have z0 : (w1.alloc (.cells #[.int .i64 y.last.many, .int .i64 y.last.pos, .string y.last.word] 63)).cell? ⟨w1.heap.size, 0, none⟩ = some (.int .i64 y.last.many) := HZ.out.cell 0
    have z1 : (w1.alloc (.cells #[.int .i64 y.last.many, .int .i64 y.last.pos, .string y.last.word] 63)).cell? ⟨w1.heap.size, 1, none⟩ = some (.int .i64 y.last.pos) := HZ.out.cell 1
    have z2 : (w1.alloc (.cells #[.int .i64 y.last.many, .int .i64 y.last.pos, .string y.last.word] 63)).cell? ⟨w1.heap.size, 2, none⟩ = some (.string y.last.word) := HZ.out.cell 2
    have zl := HZ.out.lt
    go_wp2_with fail
    generalize w1.alloc (.cells #[.int .i64 y.last.many, .int .i64 y.last.pos, .string y.last.word] 63) = wz at *
    generalize w1.heap.size = zb at *
    cases hr : numAB y.last.word 1 9 with
    | none =>
      have HErr : RowKit.Hid (F.R = .error (71, y.last.pos)) := Lib.hid (by rw [HSy.out, hr])
      have HNu := Lib.hid (number_any (w0 := wz) y.last.word 1 9 (by omega) (by omega) (by omega) ((HF.out.strc.under H.out.re.und).under HU1.out))
      refine HNu.out.mono ?_
      rintro e w3 ⟨⟨n, rfl, hn⟩, hU3⟩
      have hz3 := HZ.out.under hU3
      have z1 := hz3.cell 1
      have zl := hz3.lt
      have HU3 := Lib.hid (HU1.out.trans hU3)
      have hnd := H.out.nd.under HU3.out
      have n1 : w3.cell? ⟨F.nb, 1, none⟩ = some (.int .i64 x.n) := hnd.cell 1
      have nl := hnd.lt
      have nf := hnd.free 1
      have HSe := Lib.hid (TgS.set_ch hF H.out HU3.out 1 (.int .i64 n))
      have HZn : RowKit.Hid (zb ≠ F.nb) := Lib.hid (fun e => by have := H.out.nd.lt; omega)
      clear hz3 hnd z0 z2 HNu
      rw [hr]
      have HRe := Lib.hid HSe.out.1
      have HCe := Lib.hid HSe.out.2.1
      have HWr := Lib.hid (wrong_any HRe.out y.last.pos 71)
      go_wp2_with fail
      refine HWr.out.mono ?_
      rintro e w4 hO
      obtain ⟨ov2, acc2, p2, e2, h1, h2, h3, rfl, rfl, rfl⟩ := hO
      have H1 := Lib.hid h1
      have H2 := Lib.hid h2
      have H3 := Lib.hid h3
      clear h1 h2 h3 HWr
      go_wp2
      refine .inr ⟨rfl, _, _, _, _, ⟨_, pframe_ex (F := tgOut false) (by rfl)⟩, HErr.out, H1.out, ?_, ?_⟩
      · exact HCe.out.trans (D := ResC F.rb ov1) H2.out (fun i hi h => .inl (tg_own H.out hi h))
      · intro b hb e
        exact H.out.own b hb (H3.out b (Nat.lt_of_lt_of_le hb HCe.out.size) e)
    | some n0 =>
      have HSay : RowKit.Hid (F.R = goS F.cs F.ds (kindsP wt (F.parts.drop (k + 1))) (F.ts.drop (k + 1)) ⟨x.k, (n0 : Int), x.m, x.s⟩ nms F.st t) := Lib.hid (by rw [HSy.out, hr])
      have HNu := Lib.hid (number_any (w0 := wz) y.last.word 1 9 (by omega) (by omega) (by omega) ((HF.out.strc.under H.out.re.und).under HU1.out))
      refine HNu.out.mono ?_
      rintro e w3 ⟨⟨n, rfl, hn⟩, hU3⟩
      have hz3 := HZ.out.under hU3
      have z1 := hz3.cell 1
      have zl := hz3.lt
      have HU3 := Lib.hid (HU1.out.trans hU3)
      have hnd := H.out.nd.under HU3.out
      have n1 : w3.cell? ⟨F.nb, 1, none⟩ = some (.int .i64 x.n) := hnd.cell 1
      have nl := hnd.lt
      have nf := hnd.free 1
      have HSe := Lib.hid (TgS.set_ch hF H.out HU3.out 1 (.int .i64 n))
      have HZn : RowKit.Hid (zb ≠ F.nb) := Lib.hid (fun e => by have := H.out.nd.lt; omega)
      clear hz3 hnd z0 z2 HNu
      obtain rfl : n = (n0 : Int) := hn n0 hr
      rw [hr]
      clear hn
      go_wp2
      refine ⟨nms, wt, ⟨x.k, (n0 : Int), x.m, x.s⟩, t, ov1, p1, e1, nv, frame_ex (F := tgFrame F.rb F.nb F.bv nv wt ⟨F.parts.toArray⟩ F.q2 F.ts.length F.c2 (k + 1)) (by rw [hq2, ← HPs.out]; rfl) ?_⟩
      exact ⟨HSe.out.1, HSe.out.2.1, H.out.own, HSe.out.2.2.1, HSe.out.2.2.2, HSay.out, Nat.le_trans H.out.nlen (Nat.le_succ _), Nat.le_trans H.out.tlen (tg_take k HKn.out)⟩
  · have g26 : x.k = 26 := by simpa using h26
    rw [if_pos g26, if_pos g26] at HSy
    clear g26
    have hb : ((ps[k]'hps).toNat : Int) = 110 := by rw [hpc]; rfl
    go_wp2_with fail
    refine HLa.out.mono ?_
    rintro e w1 ⟨rfl, hU1⟩
    have HU1 := Lib.hid (under_alloc hU1 (.cells #[.int .i64 y.last.many, .int .i64 y.last.pos, .string y.last.word] 63))
    have HZ := Lib.hid (box_new w1 #[.int .i64 y.last.many, .int .i64 y.last.pos, .string y.last.word] 63)
    have hw1 := hU1.size
    clear hU1 HLa
    unfold sxV
    have m0 : (w1.alloc (.cells #[.int .i64 y.last.many, .int .i64 y.last.pos, .string y.last.word] 63)).cell? ⟨F.nb, 0, none⟩ = some (.int .i64 x.k) := (H.out.nd.under HU1.out).cell 0
    have z0 : (w1.alloc (.cells #[.int .i64 y.last.many, .int .i64 y.last.pos, .string y.last.word] 63)).cell? ⟨w1.heap.size, 0, none⟩ = some (.int .i64 y.last.many) := HZ.out.cell 0
    have z1 : (w1.alloc (.cells #[.int .i64 y.last.many, .int .i64 y.last.pos, .string y.last.word] 63)).cell? ⟨w1.heap.size, 1, none⟩ = some (.int .i64 y.last.pos) := HZ.out.cell 1
    have z2 : (w1.alloc (.cells #[.int .i64 y.last.many, .int .i64 y.last.pos, .string y.last.word] 63)).cell? ⟨w1.heap.size, 2, none⟩ = some (.string y.last.word) := HZ.out.cell 2
    have zl := HZ.out.lt
    go_wp2_with fail
    generalize w1.alloc (.cells #[.int .i64 y.last.many, .int .i64 y.last.pos, .string y.last.word] 63) = wz at *
    generalize w1.heap.size = zb at *
    cases hr : numAB y.last.word 0 5 with
    | none =>
      have HErr : RowKit.Hid (F.R = .error (71, y.last.pos)) := Lib.hid (by rw [HSy.out, hr])
      have HNu := Lib.hid (number_any (w0 := wz) y.last.word 0 5 (by omega) (by omega) (by omega) ((HF.out.strc.under H.out.re.und).under HU1.out))
      refine HNu.out.mono ?_
      rintro e w3 ⟨⟨n, rfl, hn⟩, hU3⟩
      have hz3 := HZ.out.under hU3
      have z1 := hz3.cell 1
      have zl := hz3.lt
      have HU3 := Lib.hid (HU1.out.trans hU3)
      have hnd := H.out.nd.under HU3.out
      have n1 : w3.cell? ⟨F.nb, 1, none⟩ = some (.int .i64 x.n) := hnd.cell 1
      have nl := hnd.lt
      have nf := hnd.free 1
      have HSe := Lib.hid (TgS.set_ch hF H.out HU3.out 1 (.int .i64 n))
      have HZn : RowKit.Hid (zb ≠ F.nb) := Lib.hid (fun e => by have := H.out.nd.lt; omega)
      clear hz3 hnd z0 z2 HNu
      rw [hr]
      have HRe := Lib.hid HSe.out.1
      have HCe := Lib.hid HSe.out.2.1
      have HWr := Lib.hid (wrong_any HRe.out y.last.pos 71)
      go_wp2_with fail
      refine HWr.out.mono ?_
      rintro e w4 hO
      obtain ⟨ov2, acc2, p2, e2, h1, h2, h3, rfl, rfl, rfl⟩ := hO
      have H1 := Lib.hid h1
      have H2 := Lib.hid h2
      have H3 := Lib.hid h3
      clear h1 h2 h3 HWr
      go_wp2
      refine .inr ⟨rfl, _, _, _, _, ⟨_, pframe_ex (F := tgOut false) (by rfl)⟩, HErr.out, H1.out, ?_, ?_⟩
      · exact HCe.out.trans (D := ResC F.rb ov1) H2.out (fun i hi h => .inl (tg_own H.out hi h))
      · intro b hb e
        exact H.out.own b hb (H3.out b (Nat.lt_of_lt_of_le hb HCe.out.size) e)
    | some n0 =>
      have HSay : RowKit.Hid (F.R = goS F.cs F.ds (kindsP wt (F.parts.drop (k + 1))) (F.ts.drop (k + 1)) ⟨x.k, (n0 : Int), x.m, x.s⟩ nms F.st t) := Lib.hid (by rw [HSy.out, hr])
      have HNu := Lib.hid (number_any (w0 := wz) y.last.word 0 5 (by omega) (by omega) (by omega) ((HF.out.strc.under H.out.re.und).under HU1.out))
      refine HNu.out.mono ?_
      rintro e w3 ⟨⟨n, rfl, hn⟩, hU3⟩
      have hz3 := HZ.out.under hU3
      have z1 := hz3.cell 1
      have zl := hz3.lt
      have HU3 := Lib.hid (HU1.out.trans hU3)
      have hnd := H.out.nd.under HU3.out
      have n1 : w3.cell? ⟨F.nb, 1, none⟩ = some (.int .i64 x.n) := hnd.cell 1
      have nl := hnd.lt
      have nf := hnd.free 1
      have HSe := Lib.hid (TgS.set_ch hF H.out HU3.out 1 (.int .i64 n))
      have HZn : RowKit.Hid (zb ≠ F.nb) := Lib.hid (fun e => by have := H.out.nd.lt; omega)
      clear hz3 hnd z0 z2 HNu
      obtain rfl : n = (n0 : Int) := hn n0 hr
      rw [hr]
      clear hn
      go_wp2
      refine ⟨nms, wt, ⟨x.k, (n0 : Int), x.m, x.s⟩, t, ov1, p1, e1, nv, frame_ex (F := tgFrame F.rb F.nb F.bv nv wt ⟨F.parts.toArray⟩ F.q2 F.ts.length F.c2 (k + 1)) (by rw [hq2, ← HPs.out]; rfl) ?_⟩
      exact ⟨HSe.out.1, HSe.out.2.1, H.out.own, HSe.out.2.2.1, HSe.out.2.2.2, HSay.out, Nat.le_trans H.out.nlen (Nat.le_succ _), Nat.le_trans H.out.tlen (tg_take k HKn.out)⟩
end Go.Proofs.YtkmbmgmfcecfkaaDoor
