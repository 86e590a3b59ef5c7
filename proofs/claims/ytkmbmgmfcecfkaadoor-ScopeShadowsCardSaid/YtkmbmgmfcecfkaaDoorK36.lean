/- Part 36 of what the proof rests on. -/
import Derived.Test.YtkmbmgmfcecfkaaDoorK35
set_option linter.unusedSimpArgs false
set_option linter.unusedVariables false
namespace Go.Proofs.YtkmbmgmfcecfkaaDoor
open Go.Lx Go.RowKit
set_option maxRecDepth 100000 in
set_option maxHeartbeats 4000000 in
theorem thing_con (pp : Int) (hd : ST) (l : List ST) (ih : ∀ y ∈ l, ThOk y) {nn : Int} {parts : List UInt8} (hf : formW hd.last.word = some (26, nn, parts)) (hb : (spreadP parts l.length).length = l.length) (hm : l.length + 1 - parts.length ≤ 6) : ThOk (.list pp (hd :: l)) := by
  obtain ⟨hsm, hfl⟩ := form_small hf
  have ih' := ih
  rintro W0 w rb m1 m2 cv dv ov acc p e q cap bv st cs ds hok hn hcap hw hE hcs hds hcn hdn hR hq ha hb hab hst hacc
  have HLa := Lib.hid (slast_any (w0 := w) (.list pp (hd :: l)) (q := q) (cap := cap) (by omega) hq)
  have HR := Lib.hid hR
  have HB := Lib.hid hb
  have hst' : okSs (hd :: l) := hok
  have hwx : ∀ x ∈ flatSs (hd :: l), x.word.size ≤ 1000000 := fun x hx => hw x (by rw [flatS]; exact List.mem_append_left _ hx)
  have hl1 : (flatS (.list pp (hd :: l))).length = (flatSs (hd :: l)).length + 1 := by rw [flatS]; simp
  have HPa := Lib.hid (fun w1 (hU : Under w w1) => parts_any (w0 := w1) (cap := cap) (p := q) (flatS (.list pp (hd :: l))) (by omega) hcap (hq.under hU))
  rw [parts_list hst'] at HPa
  rw [hl1] at HLa HPa ⊢
  have hN : (flatSs (hd :: l)).length + 1 ≤ 20000 := by omega
  have hab2 : st.length + (flatSs (hd :: l)).length ≤ 50000 := by omega
  have hac2 : acc.length + (flatSs (hd :: l)).length + 1 ≤ 900000 := by omega
  have HAb := Lib.hid hab
  have HTl := Lib.hid (show ∀ y l', (hd :: l) = y :: l' → (flatSs l').length ≤ 20000 ∧ st.length + (flatSs l').length ≤ 50000 ∧ acc.length + (flatSs l').length + 1 ≤ 900000 from fun y l' e => by
    have : (flatSs ((hd :: l))).length = (flatS y).length + (flatSs l').length := by rw [e, flatSs, List.length_append]
    omega)
  have HLs := Lib.hid (show ∀ y ∈ (hd :: l), (flatS y).length ≤ 20000 from fun y hy => by have := sizeS_mem hy; omega)
  have HLn := Lib.hid (show ((hd :: l) : List ST).length ≤ 20000 by have := lenS_le (hd :: l); omega)
  have HEs := Lib.hid hE
  have HCs := Lib.hid hcs
  have HDs := Lib.hid hds
  clear hR hq ha hb hab hst hacc hn hw hok hl1 hcs hds hE
  generalize (flatSs (hd :: l)).length = fl at *
  simp only [ST.last, sxV] at HLa
  rw [sayS]
  have HLh : RowKit.Hid ((flatS hd).length ≤ 20000) := Lib.hid (HLs.out hd (by simp))
  have HLl : RowKit.Hid (l.length ≤ 20000) := Lib.hid (by have := HLn.out; simp at this; omega)
  rw [listS]
  simp only [hf]
  rw [if_pos ⟨hb, fun _ => hm⟩, if_pos (by first | trivial | simp)]
  have HSm := Lib.hid (And.intro hsm hm)
  have hfit : decide ((spreadP parts l.length).length = l.length) = true := decide_eq_true hb
  have HBb := Lib.hid hb
  clear hsm hb hm hfl
  go_enter Tryd.func20, Tryd.ntmps20
  go_wp2_with fail
  refine wp_scope_straight ?_
  go_wp2_with fail
  refine HLa.out.mono ?_
  rintro e w1 ⟨rfl, hU1⟩
  have HU1 := Lib.hid (under_alloc hU1 (.cells #[.int .i64 ((hd :: l).length : Int), .int .i64 pp, .string ⟨#[]⟩] 63))
  have hZ := box_new w1 #[.int .i64 ((hd :: l).length : Int), .int .i64 pp, .string ⟨#[]⟩] 63
  have z0 : (w1.alloc (.cells #[.int .i64 ((hd :: l).length : Int), .int .i64 pp, .string ⟨#[]⟩] 63)).cell? ⟨w1.heap.size, 0, none⟩ = some (.int .i64 (((hd :: l).length : Int))) := hZ.cell 0
  have z1 : (w1.alloc (.cells #[.int .i64 ((hd :: l).length : Int), .int .i64 pp, .string ⟨#[]⟩] 63)).cell? ⟨w1.heap.size, 1, none⟩ = some (.int .i64 (pp)) := hZ.cell 1
  have z2 : (w1.alloc (.cells #[.int .i64 ((hd :: l).length : Int), .int .i64 pp, .string ⟨#[]⟩] 63)).cell? ⟨w1.heap.size, 2, none⟩ = some (.string ⟨#[]⟩) := hZ.cell 2
  have zl := hZ.lt
  have HZ := Lib.hid hZ
  have hw1 := hU1.size
  clear hU1 HLa hZ
  go_wp2_with fail
  refine (HPa.out _ HU1.out).mono ?_
  rintro e w2 ⟨hU2, vo, vs, rfl, ho1, ho2⟩
  obtain ⟨q2, c2, rfl, hc2, hts⟩ := ts_arg (HR.out.under (HU1.out.trans hU2)) ho1 ho2
  have HZ2 := Lib.hid (HZ.out.under hU2)
  have z0 := HZ2.out.cell 0
  have z1 := HZ2.out.cell 1
  have z2 := HZ2.out.cell 2
  have zl := HZ2.out.lt
  have HU2 := Lib.hid (HU1.out.trans hU2)
  have hzb := Nat.lt_of_lt_of_le zl (Nat.le_refl _)
  have HTs := Lib.hid hts
  clear hU2 ho1 ho2 hts HPa HU1 HZ hw1
  generalize w1.heap.size = zb at *
  obtain ⟨bl, ol, hq2, hbl, hnC, hat⟩ := HTs.out (by simp)
  obtain ⟨qh, ch, kh, hch, hsh, hah⟩ := hat 0 hd rfl
  subst hq2
  have hlh : (flatS hd).length ≤ 20000 := HLh.out
  have HLa := Lib.hid (fun w' (hU : Under w2 w') => slast_any (w0 := w') hd (q := qh) (cap := ch) (by omega) (hsh.under hU))
  rw [Nat.add_zero] at kh
  have r2 := (HR.out.under HU2.out).box.cell 2
  have hm := (HR.out.under HU2.out).f
  have HD := Lib.hid (show rb < w2.heap.size ∧ bl < w2.heap.size ∧ _ from ⟨(HR.out.under HU2.out).box.lt, hbl, And.intro r2 (And.intro kh hm)⟩)
  have dd := And.intro r2 (And.intro kh hm)
  have HLk := fun (w' : World) (h : MapAt w' m1 formsL) => form_look h hd.last.word
  rw [hf] at HLk
  simp only [Option.map_some, Option.map_none, Option.getD_some, Option.getD_none, Option.isSome_some, Option.isSome_none, formV3, formV] at HLk
  have HFd := sx_field hd.last.many hd.last.pos hd.last.word
  have hl0 : (0 : Int) < ((l.length : Int) + 1) := by omega
  have hl9 : (l.length : Int) ≤ 20000 := by have := HLl.out; omega
  clear hat hsh hah hch
  go_wp2_with fail
  refine wp_region_noPanic ?_
  refine wp_region_held_drew (S := fun w' => w'.cell? ⟨rb, 2, none⟩ = some (.map (some m1)) ∧ w'.cell? ⟨bl, ol, none⟩ = some (.slice qh (flatS hd).length ch) ∧ MapAt w' m1 formsL) (by kernel_rfl) dd (fun hHeld => ?_)
  refine wpAnyH_take (i := 0) (v := ?v0) rfl (by kernel_rfl) (by kernel_rfl) (by kernel_rfl) (fun _ _ _ h => h) (Or.inl ⟨by (first | kernel_rfl | rfl), ?hy0⟩) (by assumption) ?rest0
  case hy0 => (intro w hSw; (try dsimp only at hSw); go_simp; try with_reducible rfl)
  try simp only [Act.put, List.setIfInBounds_toArray, List.set_cons_zero, List.set_cons_succ]
  refine wpAnyH_take (i := 1) (v := ?v1) rfl (by kernel_rfl) (by kernel_rfl) (by kernel_rfl) (fun _ _ _ h => h) (Or.inl ⟨by (first | kernel_rfl | rfl), ?hy1⟩) (by assumption) ?rest1
  case hy1 => (intro w hSw; (try dsimp only at hSw); go_simp; try with_reducible rfl)
  try simp only [Act.put, List.setIfInBounds_toArray, List.set_cons_zero, List.set_cons_succ]
  refine wpAnyH_take (i := 2) (v := ?v2) rfl (by kernel_rfl) (by kernel_rfl) (by kernel_rfl) (fun _ _ _ h => h) (Or.inl ⟨by (first | kernel_rfl | rfl), ?hy2⟩) (by assumption) ?rest2
  case hy2 => (intro w hSw; (try dsimp only at hSw); go_simp; try with_reducible rfl)
  try simp only [Act.put, List.setIfInBounds_toArray, List.set_cons_zero, List.set_cons_succ]
  refine wpAnyH_take (i := 3) (v := ?v3) rfl (by kernel_rfl) (by kernel_rfl) (by kernel_rfl) (fun _ _ _ h => h) (Or.inl ⟨by (first | kernel_rfl | rfl), ?hy3⟩) (by assumption) ?rest3
  case hy3 => (intro w hSw; (try dsimp only at hSw); go_simp; try with_reducible rfl)
  try simp only [Act.put, List.setIfInBounds_toArray, List.set_cons_zero, List.set_cons_succ]
  refine wpAnyH_take (i := 4) (v := ?v4) rfl (by kernel_rfl) (by kernel_rfl) (by kernel_rfl) (fun _ _ _ h => h) (Or.inl ⟨by (first | kernel_rfl | rfl), ?hy4⟩) (by assumption) ?rest4
  case hy4 => (intro w hSw; (try dsimp only at hSw); go_simp; try with_reducible rfl)
  try simp only [Act.put, List.setIfInBounds_toArray, List.set_cons_zero, List.set_cons_succ]
  refine wpAnyH_take (i := 5) (v := ?v5) rfl (by kernel_rfl) (by kernel_rfl) (by kernel_rfl) (fun _ _ _ h => h) (Or.inl ⟨by (first | kernel_rfl | rfl), ?hy5⟩) (by assumption) ?rest5
  case hy5 => (intro w hSw; (try dsimp only at hSw); go_simp; try with_reducible rfl)
  try simp only [Act.put, List.setIfInBounds_toArray, List.set_cons_zero, List.set_cons_succ]
  refine wpAnyH_take (i := 6) (v := ?v6) rfl (by kernel_rfl) (by kernel_rfl) (by kernel_rfl) (fun _ _ _ h => h) (Or.inl ⟨by (first | kernel_rfl | rfl), ?hy6⟩) (by assumption) ?rest6
  case hy6 => (intro w hSw; (try dsimp only at hSw); go_simp; try with_reducible rfl)
  try simp only [Act.put, List.setIfInBounds_toArray, List.set_cons_zero, List.set_cons_succ]
  refine wpAnyH_ready (rs := [7, 13]) (by kernel_rfl) (by simp) ?_
  refine AllReadyH.cons rfl (fun K hK => ?_) (AllReadyH.cons rfl (fun K hK => ?_) AllReadyH.nil)
  · go_simp
    go_at_call 22
    refine (HLa.out _ (under_drew (Under.refl _))).mono ?_
    rintro e w3 ⟨rfl, hU3⟩
    unfold sxV
    have hU3 := (under_drew (Under.refl w2)).trans hU3
    go_simp
    refine hK.out _ _ (keep3 hU3 HD.out) (fun hHeld' => ?_)
    clear hK K hHeld
    have hHeld := hHeld'
    clear hHeld'
    try simp only [Act.put, List.setIfInBounds_toArray, List.set_cons_zero, List.set_cons_succ]
    refine wpAnyH_take (i := 8) (v := ?v8a) rfl (by kernel_rfl) (by kernel_rfl) (by kernel_rfl) (fun _ _ _ h => h) (Or.inl ⟨by (first | kernel_rfl | rfl), ?hy8a⟩) (by assumption) ?rest8a
    case hy8a => (intro w hSw; (try dsimp only at hSw); go_simp; try with_reducible rfl)
    try simp only [Act.put, List.setIfInBounds_toArray, List.set_cons_zero, List.set_cons_succ]
    refine wpAnyH_take (i := 9) (v := ?v9a) rfl (by kernel_rfl) (by kernel_rfl) (by kernel_rfl) (fun _ _ _ h => h) (Or.inl ⟨by (first | kernel_rfl | rfl), ?hy9a⟩) (by assumption) ?rest9a
    case hy9a => (intro w hSw; (try dsimp only at hSw); go_simp; try with_reducible rfl)
    try simp only [Act.put, List.setIfInBounds_toArray, List.set_cons_zero, List.set_cons_succ]
    refine wpAnyH_take (i := 10) (v := ?v10a) rfl (by kernel_rfl) (by kernel_rfl) (by kernel_rfl) (fun _ _ _ h => h) (Or.inl ⟨by (first | kernel_rfl | rfl), ?hy10a⟩) (by assumption) ?rest10a
    case hy10a => (intro w hSw; (try dsimp only at hSw); go_simp; try with_reducible rfl)
    try simp only [Act.put, List.setIfInBounds_toArray, List.set_cons_zero, List.set_cons_succ]
    refine wpAnyH_take (i := 11) (v := ?v11a) rfl (by kernel_rfl) (by kernel_rfl) (by kernel_rfl) (fun _ _ _ h => h) (Or.inl ⟨by (first | kernel_rfl | rfl), ?hy11a⟩) (by assumption) ?rest11a
    case hy11a => (intro w hSw; (try dsimp only at hSw); go_simp; try with_reducible rfl)
    try simp only [Act.put, List.setIfInBounds_toArray, List.set_cons_zero, List.set_cons_succ]
    refine wpAnyH_take (i := 12) (v := ?v12a) rfl (by kernel_rfl) (by kernel_rfl) (by kernel_rfl) (fun _ _ _ h => h) (Or.inl ⟨by (first | kernel_rfl | rfl), ?hy12a⟩) (by assumption) ?rest12a
    case hy12a => (intro w hSw; (try dsimp only at hSw); go_simp; try with_reducible rfl)
    try simp only [Act.put, List.setIfInBounds_toArray, List.set_cons_zero, List.set_cons_succ]
    refine wpAnyH_ready (rs := [13]) (by kernel_rfl) (by simp) ?_
    refine AllReadyH.cons rfl (fun K hK => ?_) AllReadyH.nil
    go_simp
    refine hK.out _ _ (keep3 (under_alloc hU3 _) HD.out) (fun hHeld' => ?_)
    clear hK K hHeld
    have hHeld := hHeld'
    clear hHeld'
    try simp only [Act.put, List.setIfInBounds_toArray, List.set_cons_zero, List.set_cons_succ]
    refine wpAnyH_ready (rs := [14]) (by kernel_rfl) (by simp) ?_
    refine AllReadyH.cons rfl (fun K hK => ?_) AllReadyH.nil
    go_simp
    refine hK.out _ _ (keep3 (under_alloc hU3 _) HD.out) (fun hHeld' => ?_)
    clear hK K hHeld
    have hHeld := hHeld'
    clear hHeld'
    try simp only [Act.put, List.setIfInBounds_toArray, List.set_cons_zero, List.set_cons_succ]
    refine wpAnyH_take (i := 15) (v := ?v15a) rfl (by kernel_rfl) (by kernel_rfl) (by kernel_rfl) (fun _ _ _ h => h) (Or.inl ⟨by (first | kernel_rfl | rfl), ?hy15a⟩) (by assumption) ?rest15a
    case hy15a => (intro w hSw; (try dsimp only at hSw); go_simp; try with_reducible rfl)
    try simp only [Act.put, List.setIfInBounds_toArray, List.set_cons_zero, List.set_cons_succ]
    refine wpAnyH_done (by kernel_rfl) ?_ _
    refine NoPanic.normal ?_
    have HFb := Lib.hid (box_new w3 #[.int .i64 26, .int .i64 nn, .int .i64 0, .string ⟨#[]⟩, .string ⟨parts.toArray⟩] 50)
    have HUe := Lib.hid (HU2.out.trans (under_alloc hU3 (.cells #[.int .i64 26, .int .i64 nn, .int .i64 0, .string ⟨#[]⟩, .string ⟨parts.toArray⟩] 50)))
    have hze : zb < w3.heap.size := Nat.lt_of_lt_of_le zl hU3.size
    have HZe := Lib.hid (HZ2.out.under (under_alloc hU3 (.cells #[.int .i64 26, .int .i64 nn, .int .i64 0, .string ⟨#[]⟩, .string ⟨parts.toArray⟩] 50)))
    have HTe := Lib.hid (HTs.out.ch (D := ResC rb ov) (Ch.of_under (under_alloc hU3 (.cells #[.int .i64 26, .int .i64 nn, .int .i64 0, .string ⟨#[]⟩, .string ⟨parts.toArray⟩] 50))))
    clear hHeld hU3 z0 z1 z2 zl HLk HFd HLa r2 kh hm dd
    generalize w3.alloc (.cells #[.int .i64 26, .int .i64 nn, .int .i64 0, .string ⟨#[]⟩, .string ⟨parts.toArray⟩] 50) = wE at *
    generalize w3.heap.size = fb at *
    have hps : (⟨parts.toArray⟩ : ByteArray).size = parts.length := by simp [ByteArray.size]
    have HMa := Lib.hid (fun w' => fmany_any (w0 := w') (26) nn 0 ⟨#[]⟩ ⟨parts.toArray⟩ l.length (by rw [hps]; have := HSm.out; omega) (by omega))
    have hpd : (⟨parts.toArray⟩ : ByteArray).data.toList = parts := by simp
    rw [hpd] at HMa
    clear hpd
    have hmi : ((l.length : Int) + 1 - 1) = (l.length : Int) := by omega
    obtain ⟨psv, hpsv⟩ : ∃ z : ByteArray, z = ⟨parts.toArray⟩ := ⟨_, rfl⟩
    rw [← hpsv] at HMa HFb hps ⊢
    clear hpsv
    obtain ⟨pl, hpl⟩ : ∃ z : Nat, z = parts.length := ⟨_, rfl⟩
    rw [← hpl] at hps HSm
    rw [← hps] at HSm
    have HPl := Lib.hid hpl
    have HPs2 := Lib.hid hps
    clear hpl hps
    have hpb : (psv.size : Int) ≤ 10 := by have := HSm.out; omega
    have hpb0 : (0 : Int) ≤ (psv.size : Int) := by omega
    have f0 : wE.cell? ⟨fb, 0, none⟩ = some (.int .i64 (26)) := HFb.out.cell 0
    have f1 : wE.cell? ⟨fb, 1, none⟩ = some (.int .i64 nn) := HFb.out.cell 1
    have f2 : wE.cell? ⟨fb, 2, none⟩ = some (.int .i64 0) := HFb.out.cell 2
    have f3 : wE.cell? ⟨fb, 3, none⟩ = some (.string ⟨#[]⟩) := HFb.out.cell 3
    have f4 : wE.cell? ⟨fb, 4, none⟩ = some (.string psv) := HFb.out.cell 4
    have fl' := HFb.out.lt
    go_wp2_with fail
    refine (HMa.out wE).mono ?_
    rintro e wM ⟨rfl, hUM⟩
    have HFm := Lib.hid (HFb.out.under hUM)
    have g0 : wM.cell? ⟨fb, 0, none⟩ = some (.int .i64 (26)) := HFm.out.cell 0
    have g1 : wM.cell? ⟨fb, 1, none⟩ = some (.int .i64 nn) := HFm.out.cell 1
    have g2 : wM.cell? ⟨fb, 2, none⟩ = some (.int .i64 0) := HFm.out.cell 2
    have g3 : wM.cell? ⟨fb, 3, none⟩ = some (.string ⟨#[]⟩) := HFm.out.cell 3
    have g4 : wM.cell? ⟨fb, 4, none⟩ = some (.string psv) := HFm.out.cell 4
    have gl := HFm.out.lt
    have HUm := Lib.hid (HUe.out.trans hUM)
    have HZm := Lib.hid (HZe.out.under hUM)
    have HTm := Lib.hid (HTe.out.ch (D := ResC rb ov) (Ch.of_under hUM))
    have zm : zb < wM.heap.size := HZm.out.lt
    have zc : wM.cell? ⟨zb, 1, none⟩ = some (.int .i64 pp) := HZm.out.cell 1
    clear f0 f1 f2 f3 f4 fl' hUM HMa HUe HZe HTe HFb hze
    have hM6 : ¬ (6 : Int) < max 0 ((l.length : Int) - (psv.size : Int) + 1) := by have := HSm.out; omega
    have hc20 : l.length + 1 ≤ c2 := by simpa using hc2
    by_cases hc1 : c2 = 1
    · subst hc1
      have hl00 : l.length = 0 := by omega
      have HLz := Lib.hid (List.eq_nil_of_length_eq_zero hl00)
      have HL0 := Lib.hid hl00
      clear hl00
      go_wp2_with fail
      refine wp_label ?_
      go_wp2_with fail
      rename_i K hK
      obtain ⟨b1, b2, b3⟩ := HTl.out hd l rfl
      have HNb := box_new wM #[.int .i64 26, .int .i64 nn, .int .i64 ((max 0 ((l.length : Int) - (psv.size : Int) + 1))), .string ⟨#[]⟩] 32
      have hUN := under_alloc (Under.refl wM) (.cells #[.int .i64 26, .int .i64 nn, .int .i64 ((max 0 ((l.length : Int) - (psv.size : Int) + 1))), .string ⟨#[]⟩] 32)
      have hlN : wM.heap.size < (wM.alloc (.cells #[.int .i64 26, .int .i64 nn, .int .i64 ((max 0 ((l.length : Int) - (psv.size : Int) + 1))), .string ⟨#[]⟩] 32)).heap.size := by simp
      generalize wM.alloc (.cells #[.int .i64 26, .int .i64 nn, .int .i64 ((max 0 ((l.length : Int) - (psv.size : Int) + 1))), .string ⟨#[]⟩] 32) = wN at *
      have HOk := Lib.hid (tg_ok_of (R := goS cs ds (kindsP false (spreadP parts l.length)) l ⟨26, nn, ((l.length + 1 - parts.length : Nat) : Int), ⟨#[]⟩⟩ [] st []) (q2 := some ⟨bl, ol, none⟩) (c3 := 0) (parts := spreadP parts l.length) HR.out HUm.out hUN hlN (fun hne => absurd HLz.out hne) HB.out HAb.out hst'.2 b1 b2 b3 (fun x hx => hwx x (by rw [flatSs]; exact List.mem_append_right _ hx)) HCs.out HDs.out hcn hdn HEs.out HBb.out)
      refine wp_mono (tg_rounds _ HOk.out ih' _ _ ⟨[], false, ⟨26, nn, (max 0 ((l.length : Int) - (psv.size : Int) + 1)), ⟨#[]⟩⟩, [], ov, p, e, .slice none 0 0, _, pframe_ex (F := tgFrame rb wM.heap.size bv (.slice none 0 0) false ⟨(spreadP parts l.length).toArray⟩ (some ⟨bl, ol, none⟩) l.length (0) 0) (by rw [HL0.out]; rfl), ?_⟩) ?_
      · exact tgs_init HR.out (HUm.out.trans hUN) HNb (by
          show goS cs ds (kindsP false (spreadP parts l.length)) l ⟨26, nn, ((l.length + 1 - parts.length : Nat) : Int), ⟨#[]⟩⟩ [] st [] = _
          have h1 := HPs2.out
          have h2 := HPl.out
          first
            | rfl
            | rw [show ((l.length + 1 - parts.length : Nat) : Int) = max 0 ((l.length : Int) - (psv.size : Int) + 1) by omega])
      rintro ex a' wr hE
      have HUN := Lib.hid (HUm.out.trans hUN)
      have hwM := HUm.out.size
      rcases hE with ⟨rfl, nms, wt, x, t, ov1, p1, e1, nv, J, rfl, hS⟩ | ⟨rfl, e2, p2, ov2, acc2, ⟨J, rfl⟩, g1, g2, g3, g4⟩
      · have hlate := tg_push hS.re hS.nd (fun e => HOk.out.nrc (.inr (hS.own _ HOk.out.nlt e))) (fun e => HOk.out.nrc (.inl e.symm)) (by
          have h1 : t.length ≤ (flatSs (l.take l.length)).length := hS.tlen
          rw [List.take_length] at h1
          show (acc ++ t).length ≤ 1000000
          rw [List.length_append]
          omega) bv nv wt ⟨(spreadP parts l.length).toArray⟩ (some ⟨bl, ol, none⟩) l.length (0) l.length J
        simp only [Exit.inBlock, if_pos, Exit.then]
        refine hK _ _ ?_
        refine wp_mono hlate ?_
        rintro ex a' w' hL
        obtain ⟨rfl, ⟨J', rfl⟩, hO⟩ := tg_out HOk.out HUN.out hwM hS hL
        have HO := Lib.hid hO
        clear hO hL hlate
        rw [Exit.noGoto_ret]
        unfold tgOut
        go_ret
        exact HO.out
      · have HO := Lib.hid (tg_bad HUN.out hwM g1 g2 g3 g4)
        simp only [Exit.inBlock, Exit.then]
        clear g1 g2 g3 g4
        rw [Exit.noGoto_ret]
        unfold tgOut
        go_ret
        exact HO.out
    · go_wp2_with fail
      refine wp_label ?_
      go_wp2_with fail
      rename_i K hK
      obtain ⟨b1, b2, b3⟩ := HTl.out hd l rfl
      have HNb := box_new wM #[.int .i64 26, .int .i64 nn, .int .i64 ((max 0 ((l.length : Int) - (psv.size : Int) + 1))), .string ⟨#[]⟩] 32
      have hUN := under_alloc (Under.refl wM) (.cells #[.int .i64 26, .int .i64 nn, .int .i64 ((max 0 ((l.length : Int) - (psv.size : Int) + 1))), .string ⟨#[]⟩] 32)
      have hlN : wM.heap.size < (wM.alloc (.cells #[.int .i64 26, .int .i64 nn, .int .i64 ((max 0 ((l.length : Int) - (psv.size : Int) + 1))), .string ⟨#[]⟩] 32)).heap.size := by simp
      generalize wM.alloc (.cells #[.int .i64 26, .int .i64 nn, .int .i64 ((max 0 ((l.length : Int) - (psv.size : Int) + 1))), .string ⟨#[]⟩] 32) = wN at *
      have HOk := Lib.hid (tg_ok_of (R := goS cs ds (kindsP false (spreadP parts l.length)) l ⟨26, nn, ((l.length + 1 - parts.length : Nat) : Int), ⟨#[]⟩⟩ [] st []) (q2 := some ⟨bl, ol + 1, none⟩) (c3 := c2 - 1) (parts := spreadP parts l.length) HR.out HUm.out hUN hlN (HTm.out.tail) HB.out HAb.out hst'.2 b1 b2 b3 (fun x hx => hwx x (by rw [flatSs]; exact List.mem_append_right _ hx)) HCs.out HDs.out hcn hdn HEs.out HBb.out)
      refine wp_mono (tg_rounds _ HOk.out ih' _ _ ⟨[], false, ⟨26, nn, (max 0 ((l.length : Int) - (psv.size : Int) + 1)), ⟨#[]⟩⟩, [], ov, p, e, .slice none 0 0, _, pframe_ex (F := tgFrame rb wM.heap.size bv (.slice none 0 0) false ⟨(spreadP parts l.length).toArray⟩ (some ⟨bl, ol + 1, none⟩) l.length (c2 - 1) 0) (by rfl), ?_⟩) ?_
      · exact tgs_init HR.out (HUm.out.trans hUN) HNb (by
          show goS cs ds (kindsP false (spreadP parts l.length)) l ⟨26, nn, ((l.length + 1 - parts.length : Nat) : Int), ⟨#[]⟩⟩ [] st [] = _
          have h1 := HPs2.out
          have h2 := HPl.out
          first
            | rfl
            | rw [show ((l.length + 1 - parts.length : Nat) : Int) = max 0 ((l.length : Int) - (psv.size : Int) + 1) by omega])
      rintro ex a' wr hE
      have HUN := Lib.hid (HUm.out.trans hUN)
      have hwM := HUm.out.size
      rcases hE with ⟨rfl, nms, wt, x, t, ov1, p1, e1, nv, J, rfl, hS⟩ | ⟨rfl, e2, p2, ov2, acc2, ⟨J, rfl⟩, g1, g2, g3, g4⟩
      · have hlate := tg_push hS.re hS.nd (fun e => HOk.out.nrc (.inr (hS.own _ HOk.out.nlt e))) (fun e => HOk.out.nrc (.inl e.symm)) (by
          have h1 : t.length ≤ (flatSs (l.take l.length)).length := hS.tlen
          rw [List.take_length] at h1
          show (acc ++ t).length ≤ 1000000
          rw [List.length_append]
          omega) bv nv wt ⟨(spreadP parts l.length).toArray⟩ (some ⟨bl, ol + 1, none⟩) l.length (c2 - 1) l.length J
        simp only [Exit.inBlock, if_pos, Exit.then]
        refine hK _ _ ?_
        refine wp_mono hlate ?_
        rintro ex a' w' hL
        obtain ⟨rfl, ⟨J', rfl⟩, hO⟩ := tg_out HOk.out HUN.out hwM hS hL
        have HO := Lib.hid hO
        clear hO hL hlate
        rw [Exit.noGoto_ret]
        unfold tgOut
        go_ret
        exact HO.out
      · have HO := Lib.hid (tg_bad HUN.out hwM g1 g2 g3 g4)
        simp only [Exit.inBlock, Exit.then]
        clear g1 g2 g3 g4
        rw [Exit.noGoto_ret]
        unfold tgOut
        go_ret
        exact HO.out
  · go_simp
    refine hK.out _ _ (keep3 (under_drew (under_alloc (Under.refl _) _)) HD.out) (fun hHeld' => ?_)
    clear hK K hHeld
    have hHeld := hHeld'
    clear hHeld'
    try simp only [Act.put, List.setIfInBounds_toArray, List.set_cons_zero, List.set_cons_succ]
    refine wpAnyH_ready (rs := [7]) (by kernel_rfl) (by simp) ?_
    refine AllReadyH.cons rfl (fun K hK => ?_) AllReadyH.nil
    go_simp
    go_at_call 22
    refine (HLa.out _ (under_drew (under_alloc (Under.refl _) _))).mono ?_
    rintro e w3 ⟨rfl, hU3⟩
    unfold sxV
    have hbx := (box_new w2 #[.int .i64 0, .int .i64 0, .int .i64 0, .string ⟨#[]⟩, .string ⟨#[]⟩] 50).under (Under.trans (under_drew (Under.refl _)) hU3)
    have hU4 := Under.trans (under_drew (under_alloc (Under.refl w2) (.cells #[.int .i64 0, .int .i64 0, .int .i64 0, .string ⟨#[]⟩, .string ⟨#[]⟩] 50))) hU3
    have b0 : w3.cell? ⟨w2.heap.size, 0, none⟩ = some (.int .i64 0) := hbx.cell 0
    have b1 : w3.cell? ⟨w2.heap.size, 1, none⟩ = some (.int .i64 0) := hbx.cell 1
    have b2 : w3.cell? ⟨w2.heap.size, 2, none⟩ = some (.int .i64 0) := hbx.cell 2
    have b3 : w3.cell? ⟨w2.heap.size, 3, none⟩ = some (.string ⟨#[]⟩) := hbx.cell 3
    have b4 : w3.cell? ⟨w2.heap.size, 4, none⟩ = some (.string ⟨#[]⟩) := hbx.cell 4
    have bl' := hbx.lt
    have bf0 := hbx.free 0
    have bf1 := hbx.free 1
    have bf2 := hbx.free 2
    have bf3 := hbx.free 3
    have bf4 := hbx.free 4
    go_simp
    refine hK.out _ _ (keep3 hU4 HD.out) (fun hHeld' => ?_)
    clear hK K hHeld
    have hHeld := hHeld'
    clear hHeld'
    try simp only [Act.put, List.setIfInBounds_toArray, List.set_cons_zero, List.set_cons_succ]
    refine wpAnyH_take (i := 8) (v := ?v8b) rfl (by kernel_rfl) (by kernel_rfl) (by kernel_rfl) (fun _ _ _ h => h) (Or.inl ⟨by (first | kernel_rfl | rfl), ?hy8b⟩) (by assumption) ?rest8b
    case hy8b => (intro w hSw; (try dsimp only at hSw); go_simp; try with_reducible rfl)
    try simp only [Act.put, List.setIfInBounds_toArray, List.set_cons_zero, List.set_cons_succ]
    refine wpAnyH_take (i := 9) (v := ?v9b) rfl (by kernel_rfl) (by kernel_rfl) (by kernel_rfl) (fun _ _ _ h => h) (Or.inl ⟨by (first | kernel_rfl | rfl), ?hy9b⟩) (by assumption) ?rest9b
    case hy9b => (intro w hSw; (try dsimp only at hSw); go_simp; try with_reducible rfl)
    try simp only [Act.put, List.setIfInBounds_toArray, List.set_cons_zero, List.set_cons_succ]
    refine wpAnyH_take (i := 10) (v := ?v10b) rfl (by kernel_rfl) (by kernel_rfl) (by kernel_rfl) (fun _ _ _ h => h) (Or.inl ⟨by (first | kernel_rfl | rfl), ?hy10b⟩) (by assumption) ?rest10b
    case hy10b => (intro w hSw; (try dsimp only at hSw); go_simp; try with_reducible rfl)
    try simp only [Act.put, List.setIfInBounds_toArray, List.set_cons_zero, List.set_cons_succ]
    refine wpAnyH_take (i := 11) (v := ?v11b) rfl (by kernel_rfl) (by kernel_rfl) (by kernel_rfl) (fun _ _ _ h => h) (Or.inl ⟨by (first | kernel_rfl | rfl), ?hy11b⟩) (by assumption) ?rest11b
    case hy11b => (intro w hSw; (try dsimp only at hSw); go_simp; try with_reducible rfl)
    try simp only [Act.put, List.setIfInBounds_toArray, List.set_cons_zero, List.set_cons_succ]
    refine wpAnyH_take (i := 12) (v := ?v12b) rfl (by kernel_rfl) (by kernel_rfl) (by kernel_rfl) (fun _ _ _ h => h) (Or.inl ⟨by (first | kernel_rfl | rfl), ?hy12b⟩) (by assumption) ?rest12b
    case hy12b => (intro w hSw; (try dsimp only at hSw); go_simp; try with_reducible rfl)
    try simp only [Act.put, List.setIfInBounds_toArray, List.set_cons_zero, List.set_cons_succ]
    refine wpAnyH_ready (rs := [14]) (by kernel_rfl) (by simp) ?_
    refine AllReadyH.cons rfl (fun K hK => ?_) AllReadyH.nil
    go_simp
    obtain ⟨wE, hE⟩ : ∃ z, z = ((((w3.setCell ⟨w2.heap.size, 0, none⟩ (.int .i64 26)).setCell ⟨w2.heap.size, 1, none⟩ (.int .i64 nn)).setCell ⟨w2.heap.size, 2, none⟩ (.int .i64 0)).setCell ⟨w2.heap.size, 3, none⟩ (.string ⟨#[]⟩)).setCell ⟨w2.heap.size, 4, none⟩ (.string ⟨parts.toArray⟩) := ⟨_, rfl⟩
    have hU5 : Under w2 wE := by rw [hE]; exact under_set (under_set (under_set (under_set (under_set hU4 (Nat.le_refl _) _ _) (Nat.le_refl _) _ _) (Nat.le_refl _) _ _) (Nat.le_refl _) _ _) (Nat.le_refl _) _ _
    have HFb := Lib.hid (show BoxAt wE w2.heap.size 50 #[.int .i64 26, .int .i64 nn, .int .i64 0, .string ⟨#[]⟩, .string ⟨parts.toArray⟩] by rw [hE]; exact ((((hbx.set 0 _).set 1 _).set 2 _).set 3 _).set 4 _)
    rw [← hE]
    refine hK.out _ _ (keep3 hU5 HD.out) (fun hHeld' => ?_)
    clear hK K hHeld
    have hHeld := hHeld'
    clear hHeld'
    try simp only [Act.put, List.setIfInBounds_toArray, List.set_cons_zero, List.set_cons_succ]
    refine wpAnyH_take (i := 15) (v := ?v15b) rfl (by kernel_rfl) (by kernel_rfl) (by kernel_rfl) (fun _ _ _ h => h) (Or.inl ⟨by (first | kernel_rfl | rfl), ?hy15b⟩) (by assumption) ?rest15b
    case hy15b => (intro w hSw; (try dsimp only at hSw); go_simp; try with_reducible rfl)
    try simp only [Act.put, List.setIfInBounds_toArray, List.set_cons_zero, List.set_cons_succ]
    refine wpAnyH_done (by kernel_rfl) ?_ _
    refine NoPanic.normal ?_
    have HUe := Lib.hid (HU2.out.trans hU5)
    have hze : zb < w2.heap.size := zl
    have HZe := Lib.hid (HZ2.out.under hU5)
    have HTe := Lib.hid (HTs.out.ch (D := ResC rb ov) (Ch.of_under hU5))
    clear hHeld hE hU3 hU4 hU5 hbx b0 b1 b2 b3 b4 bl' bf0 bf1 bf2 bf3 bf4 z0 z1 z2 zl HLk HFd HLa r2 kh hm dd
    generalize w2.heap.size = fb at *
    have hps : (⟨parts.toArray⟩ : ByteArray).size = parts.length := by simp [ByteArray.size]
    have HMa := Lib.hid (fun w' => fmany_any (w0 := w') (26) nn 0 ⟨#[]⟩ ⟨parts.toArray⟩ l.length (by rw [hps]; have := HSm.out; omega) (by omega))
    have hpd : (⟨parts.toArray⟩ : ByteArray).data.toList = parts := by simp
    rw [hpd] at HMa
    clear hpd
    have hmi : ((l.length : Int) + 1 - 1) = (l.length : Int) := by omega
    obtain ⟨psv, hpsv⟩ : ∃ z : ByteArray, z = ⟨parts.toArray⟩ := ⟨_, rfl⟩
    rw [← hpsv] at HMa HFb hps ⊢
    clear hpsv
    obtain ⟨pl, hpl⟩ : ∃ z : Nat, z = parts.length := ⟨_, rfl⟩
    rw [← hpl] at hps HSm
    rw [← hps] at HSm
    have HPl := Lib.hid hpl
    have HPs2 := Lib.hid hps
    clear hpl hps
    have hpb : (psv.size : Int) ≤ 10 := by have := HSm.out; omega
    have hpb0 : (0 : Int) ≤ (psv.size : Int) := by omega
    have f0 : wE.cell? ⟨fb, 0, none⟩ = some (.int .i64 (26)) := HFb.out.cell 0
    have f1 : wE.cell? ⟨fb, 1, none⟩ = some (.int .i64 nn) := HFb.out.cell 1
    have f2 : wE.cell? ⟨fb, 2, none⟩ = some (.int .i64 0) := HFb.out.cell 2
    have f3 : wE.cell? ⟨fb, 3, none⟩ = some (.string ⟨#[]⟩) := HFb.out.cell 3
    have f4 : wE.cell? ⟨fb, 4, none⟩ = some (.string psv) := HFb.out.cell 4
    have fl' := HFb.out.lt
    go_wp2_with fail
    refine (HMa.out wE).mono ?_
    rintro e wM ⟨rfl, hUM⟩
    have HFm := Lib.hid (HFb.out.under hUM)
    have g0 : wM.cell? ⟨fb, 0, none⟩ = some (.int .i64 (26)) := HFm.out.cell 0
    have g1 : wM.cell? ⟨fb, 1, none⟩ = some (.int .i64 nn) := HFm.out.cell 1
    have g2 : wM.cell? ⟨fb, 2, none⟩ = some (.int .i64 0) := HFm.out.cell 2
    have g3 : wM.cell? ⟨fb, 3, none⟩ = some (.string ⟨#[]⟩) := HFm.out.cell 3
    have g4 : wM.cell? ⟨fb, 4, none⟩ = some (.string psv) := HFm.out.cell 4
    have gl := HFm.out.lt
    have HUm := Lib.hid (HUe.out.trans hUM)
    have HZm := Lib.hid (HZe.out.under hUM)
    have HTm := Lib.hid (HTe.out.ch (D := ResC rb ov) (Ch.of_under hUM))
    have zm : zb < wM.heap.size := HZm.out.lt
    have zc : wM.cell? ⟨zb, 1, none⟩ = some (.int .i64 pp) := HZm.out.cell 1
    clear f0 f1 f2 f3 f4 fl' hUM HMa HUe HZe HTe HFb hze
    have hM6 : ¬ (6 : Int) < max 0 ((l.length : Int) - (psv.size : Int) + 1) := by have := HSm.out; omega
    have hc20 : l.length + 1 ≤ c2 := by simpa using hc2
    by_cases hc1 : c2 = 1
    · subst hc1
      have hl00 : l.length = 0 := by omega
      have HLz := Lib.hid (List.eq_nil_of_length_eq_zero hl00)
      have HL0 := Lib.hid hl00
      clear hl00
      go_wp2_with fail
      refine wp_label ?_
      go_wp2_with fail
      rename_i K hK
      obtain ⟨b1, b2, b3⟩ := HTl.out hd l rfl
      have HNb := box_new wM #[.int .i64 26, .int .i64 nn, .int .i64 ((max 0 ((l.length : Int) - (psv.size : Int) + 1))), .string ⟨#[]⟩] 32
      have hUN := under_alloc (Under.refl wM) (.cells #[.int .i64 26, .int .i64 nn, .int .i64 ((max 0 ((l.length : Int) - (psv.size : Int) + 1))), .string ⟨#[]⟩] 32)
      have hlN : wM.heap.size < (wM.alloc (.cells #[.int .i64 26, .int .i64 nn, .int .i64 ((max 0 ((l.length : Int) - (psv.size : Int) + 1))), .string ⟨#[]⟩] 32)).heap.size := by simp
      generalize wM.alloc (.cells #[.int .i64 26, .int .i64 nn, .int .i64 ((max 0 ((l.length : Int) - (psv.size : Int) + 1))), .string ⟨#[]⟩] 32) = wN at *
      have HOk := Lib.hid (tg_ok_of (R := goS cs ds (kindsP false (spreadP parts l.length)) l ⟨26, nn, ((l.length + 1 - parts.length : Nat) : Int), ⟨#[]⟩⟩ [] st []) (q2 := some ⟨bl, ol, none⟩) (c3 := 0) (parts := spreadP parts l.length) HR.out HUm.out hUN hlN (fun hne => absurd HLz.out hne) HB.out HAb.out hst'.2 b1 b2 b3 (fun x hx => hwx x (by rw [flatSs]; exact List.mem_append_right _ hx)) HCs.out HDs.out hcn hdn HEs.out HBb.out)
      refine wp_mono (tg_rounds _ HOk.out ih' _ _ ⟨[], false, ⟨26, nn, (max 0 ((l.length : Int) - (psv.size : Int) + 1)), ⟨#[]⟩⟩, [], ov, p, e, .slice none 0 0, _, pframe_ex (F := tgFrame rb wM.heap.size bv (.slice none 0 0) false ⟨(spreadP parts l.length).toArray⟩ (some ⟨bl, ol, none⟩) l.length (0) 0) (by rw [HL0.out]; rfl), ?_⟩) ?_
      · exact tgs_init HR.out (HUm.out.trans hUN) HNb (by
          show goS cs ds (kindsP false (spreadP parts l.length)) l ⟨26, nn, ((l.length + 1 - parts.length : Nat) : Int), ⟨#[]⟩⟩ [] st [] = _
          have h1 := HPs2.out
          have h2 := HPl.out
          first
            | rfl
            | rw [show ((l.length + 1 - parts.length : Nat) : Int) = max 0 ((l.length : Int) - (psv.size : Int) + 1) by omega])
      rintro ex a' wr hE
      have HUN := Lib.hid (HUm.out.trans hUN)
      have hwM := HUm.out.size
      rcases hE with ⟨rfl, nms, wt, x, t, ov1, p1, e1, nv, J, rfl, hS⟩ | ⟨rfl, e2, p2, ov2, acc2, ⟨J, rfl⟩, g1, g2, g3, g4⟩
      · have hlate := tg_push hS.re hS.nd (fun e => HOk.out.nrc (.inr (hS.own _ HOk.out.nlt e))) (fun e => HOk.out.nrc (.inl e.symm)) (by
          have h1 : t.length ≤ (flatSs (l.take l.length)).length := hS.tlen
          rw [List.take_length] at h1
          show (acc ++ t).length ≤ 1000000
          rw [List.length_append]
          omega) bv nv wt ⟨(spreadP parts l.length).toArray⟩ (some ⟨bl, ol, none⟩) l.length (0) l.length J
        simp only [Exit.inBlock, if_pos, Exit.then]
        refine hK _ _ ?_
        refine wp_mono hlate ?_
        rintro ex a' w' hL
        obtain ⟨rfl, ⟨J', rfl⟩, hO⟩ := tg_out HOk.out HUN.out hwM hS hL
        have HO := Lib.hid hO
        clear hO hL hlate
        rw [Exit.noGoto_ret]
        unfold tgOut
        go_ret
        exact HO.out
      · have HO := Lib.hid (tg_bad HUN.out hwM g1 g2 g3 g4)
        simp only [Exit.inBlock, Exit.then]
        clear g1 g2 g3 g4
        rw [Exit.noGoto_ret]
        unfold tgOut
        go_ret
        exact HO.out
    · go_wp2_with fail
      refine wp_label ?_
      go_wp2_with fail
      rename_i K hK
      obtain ⟨b1, b2, b3⟩ := HTl.out hd l rfl
      have HNb := box_new wM #[.int .i64 26, .int .i64 nn, .int .i64 ((max 0 ((l.length : Int) - (psv.size : Int) + 1))), .string ⟨#[]⟩] 32
      have hUN := under_alloc (Under.refl wM) (.cells #[.int .i64 26, .int .i64 nn, .int .i64 ((max 0 ((l.length : Int) - (psv.size : Int) + 1))), .string ⟨#[]⟩] 32)
      have hlN : wM.heap.size < (wM.alloc (.cells #[.int .i64 26, .int .i64 nn, .int .i64 ((max 0 ((l.length : Int) - (psv.size : Int) + 1))), .string ⟨#[]⟩] 32)).heap.size := by simp
      generalize wM.alloc (.cells #[.int .i64 26, .int .i64 nn, .int .i64 ((max 0 ((l.length : Int) - (psv.size : Int) + 1))), .string ⟨#[]⟩] 32) = wN at *
      have HOk := Lib.hid (tg_ok_of (R := goS cs ds (kindsP false (spreadP parts l.length)) l ⟨26, nn, ((l.length + 1 - parts.length : Nat) : Int), ⟨#[]⟩⟩ [] st []) (q2 := some ⟨bl, ol + 1, none⟩) (c3 := c2 - 1) (parts := spreadP parts l.length) HR.out HUm.out hUN hlN (HTm.out.tail) HB.out HAb.out hst'.2 b1 b2 b3 (fun x hx => hwx x (by rw [flatSs]; exact List.mem_append_right _ hx)) HCs.out HDs.out hcn hdn HEs.out HBb.out)
      refine wp_mono (tg_rounds _ HOk.out ih' _ _ ⟨[], false, ⟨26, nn, (max 0 ((l.length : Int) - (psv.size : Int) + 1)), ⟨#[]⟩⟩, [], ov, p, e, .slice none 0 0, _, pframe_ex (F := tgFrame rb wM.heap.size bv (.slice none 0 0) false ⟨(spreadP parts l.length).toArray⟩ (some ⟨bl, ol + 1, none⟩) l.length (c2 - 1) 0) (by rfl), ?_⟩) ?_
      · exact tgs_init HR.out (HUm.out.trans hUN) HNb (by
          show goS cs ds (kindsP false (spreadP parts l.length)) l ⟨26, nn, ((l.length + 1 - parts.length : Nat) : Int), ⟨#[]⟩⟩ [] st [] = _
          have h1 := HPs2.out
          have h2 := HPl.out
          first
            | rfl
            | rw [show ((l.length + 1 - parts.length : Nat) : Int) = max 0 ((l.length : Int) - (psv.size : Int) + 1) by omega])
      rintro ex a' wr hE
      have HUN := Lib.hid (HUm.out.trans hUN)
      have hwM := HUm.out.size
      rcases hE with ⟨rfl, nms, wt, x, t, ov1, p1, e1, nv, J, rfl, hS⟩ | ⟨rfl, e2, p2, ov2, acc2, ⟨J, rfl⟩, g1, g2, g3, g4⟩
      · have hlate := tg_push hS.re hS.nd (fun e => HOk.out.nrc (.inr (hS.own _ HOk.out.nlt e))) (fun e => HOk.out.nrc (.inl e.symm)) (by
          have h1 : t.length ≤ (flatSs (l.take l.length)).length := hS.tlen
          rw [List.take_length] at h1
          show (acc ++ t).length ≤ 1000000
          rw [List.length_append]
          omega) bv nv wt ⟨(spreadP parts l.length).toArray⟩ (some ⟨bl, ol + 1, none⟩) l.length (c2 - 1) l.length J
        simp only [Exit.inBlock, if_pos, Exit.then]
        refine hK _ _ ?_
        refine wp_mono hlate ?_
        rintro ex a' w' hL
        obtain ⟨rfl, ⟨J', rfl⟩, hO⟩ := tg_out HOk.out HUN.out hwM hS hL
        have HO := Lib.hid hO
        clear hO hL hlate
        rw [Exit.noGoto_ret]
        unfold tgOut
        go_ret
        exact HO.out
      · have HO := Lib.hid (tg_bad HUN.out hwM g1 g2 g3 g4)
        simp only [Exit.inBlock, Exit.then]
        clear g1 g2 g3 g4
        rw [Exit.noGoto_ret]
        unfold tgOut
        go_ret
        exact HO.out
end Go.Proofs.YtkmbmgmfcecfkaaDoor
