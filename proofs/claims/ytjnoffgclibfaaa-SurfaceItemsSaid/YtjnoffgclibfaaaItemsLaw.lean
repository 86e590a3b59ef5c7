/- SurfaceItems: its contract. -/
import Derived.Test.YtjnoffgclibfaaaRefParts
set_option linter.unusedSimpArgs false
set_option linter.unusedVariables false
namespace Go.Proofs.Ytjnoffgclibfaaa
open Go.Conc Go.Lx Go.RowKit

noncomputable def siRest : Code := sndOf (sndOf (Try.f12.body.getD .skip))
def siFrame (l : Value) (J : Nat → Value) : Array Value := #[l, J 1, J 2, J 3, J 4, J 5, J 6, J 7, J 8, J 9, J 10, J 11, J 12, J 13, J 14, J 15, J 16, J 17, J 18, J 19, J 20, J 21, J 22, J 23, J 24, J 25, J 26, J 27, J 28, J 29, J 30, J 31, J 32, J 33, J 34, J 35, J 36, J 37, J 38, J 39, J 40, J 41, J 42, J 43, J 44, J 45, J 46, J 47, J 48, J 49, J 50, J 51, J 52, J 53, J 54, J 55, J 56, J 57, J 58, J 59, J 60, J 61, J 62, J 63, J 64, J 65, J 66, J 67, J 68, J 69, J 70, J 71, J 72, J 73, J 74, J 75, J 76, J 77, J 78, J 79, J 80, J 81, J 82]
theorem rows_len {row : List Sx} (hn : row.length ≤ 1000) : ((itemsGo row).getD []).length ≤ 1000 ∧ ∀ l ∈ (itemsGo row).getD [], l.length ≤ 1000 := by
  refine ⟨?_, fun l hl => Nat.le_trans (items_len hl) hn⟩
  cases h : itemsGo row with
  | none => simp
  | some ls => exact Nat.le_trans (items_bound' h) hn
theorem parts_len {row : List Sx} (hn : row.length ≤ 1000) : ((partsGo row).getD []).length ≤ 1000 ∧ ∀ l ∈ (partsGo row).getD [], l.length ≤ 1000 := by
  by_cases hne : row = []
  · subst hne; exact ⟨by simp [partsGo, beginsGo], fun l hl => by simp [partsGo, beginsGo] at hl⟩
  obtain ⟨init, x, rfl⟩ := snoc_of hne
  rw [List.length_append, List.length_singleton] at hn
  rw [partsGo_snoc]
  split
  · split
    · exact rows_len (by omega)
    · exact ⟨by simp, fun l hl => by simp at hl⟩
  · exact ⟨by simp, fun l hl => by simp at hl⟩
theorem theirs_row {w0 : World} {cap : Nat} (row : List Sx) {p : Option Addr} (hn : row.length ≤ 1000000) (hp : SxArg w0 p row) :
    Calls Try.prog 21 #[.slice p row.length cap] w0 fun e w' => ∃ q c, e = .returned (.slice q row.length c) ∧ row.length ≤ c ∧ SxArg w' q row ∧ Under w0 w' := by
  refine (theirs_any row hn hp).mono ?_
  rintro e w' ⟨v, rfl, h1, h2⟩
  obtain ⟨q, c, rfl, h3, h4⟩ := sx_arg' h1
  exact ⟨q, c, rfl, h3, h4, h2⟩
section
variable {W : World} {cap : Nat}
set_option maxRecDepth 100000 in
set_option maxHeartbeats 1000000 in
theorem si_rest (row : List Sx) {p : Option Addr} (hn : row.length ≤ 200) (hwd : ∀ x ∈ row, x.word.size ≤ 100) (hcap : row.length ≤ cap) (hp : SxArg W p row) (J : Nat → Value) (w : World) (hU : Under W w) :
    siRest.wp Try.prog (bodyPostG Try.prog Try.f12 (TrueU W)) ⟨siFrame (.slice p row.length cap) J, []⟩ w := by
  have hwt : wt row ≤ 100000 := by have := wt_le hwd; omega
  obtain ⟨r1, r2⟩ := rows_len (row := row) (by omega)
  obtain ⟨q1, q2⟩ := parts_len (row := row) (by omega)
  have C1 := Lib.hid (items_rows (w0 := w) (cap := cap) row (by omega) hcap (hp.under hU))
  have CT := Lib.hid (fun w1 (h : Under W w1) => theirs_row (w0 := w1) (cap := cap) row (by omega) (hp.under h))
  have CI := Lib.hid (fun w1 q c (hc : row.length ≤ c) (hs : SxArg w1 q row) => refItems_rows (w0 := w1) (cap := c) row (by omega) hc hs)
  have CP := Lib.hid (fun w1 (h : Under W w1) => (parts_any (w0 := w1) (cap := cap) row (by omega) hcap (hp.under h)).mono fun e w' h => rowsOut_of h)
  have CQ := Lib.hid (fun w1 q c (hc : row.length ≤ c) (hs : SxArg w1 q row) => refParts_any (w0 := w1) (cap := c) row (by omega) hc hs)
  have CR := Lib.hid (fun w1 (h : Under W w1) => print_any (w0 := w1) (cap := cap) row (by omega) hwt hcap (hp.under h))
  have CS := Lib.hid (fun w1 q c (hc : row.length ≤ c) (hs : SxArg w1 q row) => refPrint_any (w0 := w1) (cap := c) row (by omega) hwt hc hs)
  have CL := Lib.hid (fun w1 c c' q q' h h' => lists_any (w0 := w1) (cz := c) (cp := c') (pz := q) (pp := q') ((itemsGo row).getD []) (by omega) (fun l hl => Nat.le_trans (r2 l hl) (by decide)) h h')
  have CM := Lib.hid (fun w1 c c' q q' h h' => lists_any (w0 := w1) (cz := c) (cp := c') (pz := q) (pp := q') ((partsGo row).getD []) (by omega) (fun l hl => Nat.le_trans (q2 l hl) (by decide)) h h')
  have HU := Lib.hid hU
  clear hp hU hwd hwt r1 r2 q1 q2
  generalize hQ : bodyPostG Try.prog Try.f12 (TrueU W) = Q
  have HQ := Lib.hid hQ
  clear hQ
  unfold PrintOut RowsOut at *
  generalize (printGo row).1 = s at *
  generalize (printGo row).2 = er at *
  generalize (itemsGo row).isSome = t1 at *
  generalize (partsGo row).isSome = t2 at *
  generalize (itemsGo row).getD [] = ls at *
  generalize (partsGo row).getD [] = ls2 at *
  unfold siRest
  simp only [Try.f12, Option.getD_some, sndOf]
  unfold siFrame
  go_wp2_with fail
  refine C1.out.mono ?_
  rintro e w1 ⟨qa, ca, rfl, ha, hU1⟩
  have HA := Lib.hid ha
  have HU1 := Lib.hid (HU.out.trans hU1)
  clear ha hU1 C1 HU
  go_wp2_with fail
  refine (CT.out w1 HU1.out).mono ?_
  rintro e w2 ⟨qt, ct, rfl, hct, hst, hU2⟩
  have C2 := Lib.hid (CI.out w2 qt ct hct hst)
  have HU12 := Lib.hid hU2
  clear hct hst hU2
  go_wp2_with fail
  refine C2.out.mono ?_
  rintro e w3 ⟨qb, cb, rfl, hb, hU3⟩
  have HB := Lib.hid hb
  have HU13 := Lib.hid (HU12.out.trans hU3)
  have HU3 := Lib.hid (HU1.out.trans HU13.out)
  clear hb hU3 C2 HU12
  go_wp2_with fail
  refine (CP.out w3 HU3.out).mono ?_
  rintro e w4 ⟨qc, cc, rfl, hc, hU4⟩
  have HC := Lib.hid hc
  have HU34 := Lib.hid hU4
  have HU4 := Lib.hid (HU3.out.trans hU4)
  clear hc hU4
  go_wp2_with fail
  refine (CT.out w4 HU4.out).mono ?_
  rintro e w5 ⟨qt2, ct2, rfl, hct2, hst2, hU5⟩
  have C3 := Lib.hid (CQ.out w5 qt2 ct2 hct2 hst2)
  have HU45 := Lib.hid hU5
  clear hct2 hst2 hU5
  go_wp2_with fail
  refine C3.out.mono ?_
  rintro e w6 ⟨qd, cd, rfl, hd, hU6⟩
  have HD := Lib.hid hd
  have HU46 := Lib.hid (HU45.out.trans hU6)
  have HU6 := Lib.hid (HU4.out.trans HU46.out)
  clear hd hU6 C3 HU45
  go_wp2_with fail
  refine (CR.out w6 HU6.out).mono ?_
  rintro e w7 ⟨rfl, hU7⟩
  have HU67 := Lib.hid hU7
  have HU7 := Lib.hid (HU6.out.trans hU7)
  clear hU7
  go_wp2_with fail
  refine (CT.out w7 HU7.out).mono ?_
  rintro e w8 ⟨qt3, ct3, rfl, hct3, hst3, hU8⟩
  have C4 := Lib.hid (CS.out w8 qt3 ct3 hct3 hst3)
  have HU78 := Lib.hid hU8
  clear hct3 hst3 hU8
  go_wp2_with fail
  refine C4.out.mono ?_
  rintro e w9 ⟨rfl, hU9⟩
  have HU79 := Lib.hid (HU78.out.trans hU9)
  clear hU9 C4 HU78
  have HU69 := Lib.hid (HU67.out.trans HU79.out)
  have HU49 := Lib.hid (HU46.out.trans HU69.out)
  have HU39 := Lib.hid (HU34.out.trans HU49.out)
  have C5 := Lib.hid (CL.out w9 ca cb qa qb (HA.out.under (HU13.out.trans HU39.out)) (HB.out.under HU39.out))
  have HC9 := Lib.hid (HC.out.under HU49.out)
  have HD9 := Lib.hid (HD.out.under HU69.out)
  have HU9 := Lib.hid (HU7.out.trans HU79.out)
  have e1 : (t1 == t1) = true := by simp
  have e2 : (t2 == t2) = true := by simp
  have e3 : (er == er) = true := by simp
  clear HA HB HC HD HU1 HU13 HU3 HU34 HU4 HU46 HU6 HU67 HU7 HU79 HU69 HU49 HU39 CT CI CP CQ CR CS CL
  go_wp2_with fail
  refine C5.out.mono ?_
  rintro e w10 ⟨rfl, hU10⟩
  have C6 := Lib.hid (CM.out w10 cc cd qc qd (HC9.out.under hU10) (HD9.out.under hU10))
  have HU10 := Lib.hid (HU9.out.trans hU10)
  clear hU10 C5 CM HC9 HD9 HU9
  go_wp2_with fail
  refine C6.out.mono ?_
  rintro e w11 ⟨rfl, hU11⟩
  have HU11 := Lib.hid (HU10.out.trans hU11)
  clear hU11 C6 HU10
  go_wp2
  rw [← HQ.out]
  exact bodyG_tmp rfl rfl ⟨rfl, HU11.out⟩
end

set_option maxRecDepth 100000 in
set_option maxHeartbeats 1000000 in
theorem items_all (row : List Sx) {p : Option Addr} {cap : Nat} (W : World) (hcap : row.length ≤ cap) (hp : SxArg W p row) :
    CallsG Try.prog 12 #[.slice p row.length cap] W (TrueU W) := by
  refine callsG_of_wpG tame Try.func12 rfl ?_ TrueU.re
  have HA := Lib.hid hp
  clear hp
  simp only [Try.ntmps12, List.size_toArray, List.length_cons, List.length_nil, Nat.reduceAdd, Nat.reduceSub, Array.replicate_succ, Array.replicate_zero, List.push_toArray, List.append_toArray, List.nil_append, List.cons_append]
  refine wpG_seq tame (wpG_lone tame fun τ d => ?_)
  go_wp2
  refine wpG_re ?_ τ d
  refine wpG_seq tame (wpG_seq tame ?_)
  refine wpG_split tame 3 (by decide) fun τ d => ?_
  simp only [List.take_succ_cons, List.take_zero]
  go_wp2_with fail
  refine (heavy_any (w0 := re W τ d) (cap := cap) row (HA.out.under ((under_refl' W).re τ d))).mono ?_
  rintro e w1 ⟨hU1, h1⟩
  have HU2 := Lib.hid (((under_refl' W).re τ d).trans hU1)
  clear hU1
  rcases h1 with rfl | ⟨rfl, hla, hwd⟩
  · go_wp2
    refine opsG_split tame 3 3 0 (by decide) fun τ d => ?_
    simp only [List.drop_succ_cons, List.drop_zero, List.take_succ_cons, List.take_zero]
    walk_nrm
    go_wp2
    refine opsG_nil tame ?_
    simp only [Exit.then]
    refine wpG_re ?_ τ d
    refine wpG_cond tame (t := true) rfl ?_
    simp only [if_true]
    refine wpG_seq tame (wpG_region tame ?_)
    refine opsG_call (i := 0) (rest := List.range' 1 1) tame rfl (by rfl) (run_call_fn (vs := #[]) rfl Try.func17 (by kernel_rfl) rfl (by simp)) (shown7_calls _) ?_
    rintro v w3 ⟨rfl, hU3⟩
    refine opsG_split tame 1 1 0 (by decide) fun τ d => ?_
    simp only [List.drop_succ_cons, List.drop_zero, List.take_succ_cons, List.take_zero]
    walk_nrm
    go_wp2
    refine opsG_nil tame ?_
    simp only [Exit.then]
    refine wpG_lone tame fun τ d => ?_
    go_wp2
    exact bodyG_tmp rfl rfl ⟨rfl, (HU2.out.trans hU3).re _ _⟩
  have HWD := Lib.hid hwd
  clear hwd
  go_wp2
  refine opsG_call (i := 3) (rest := List.range' 4 2) tame rfl (by rfl) (run_call_fn (vs := #[]) rfl Try.func17 (by kernel_rfl) rfl (by simp)) (shown7_calls _) ?_
  rintro v w3 ⟨rfl, hU3⟩
  have HU3 := Lib.hid (HU2.out.trans hU3)
  clear hU3 HU2
  refine opsG_split tame 4 2 0 (by decide) fun τ d => ?_
  simp only [List.drop_succ_cons, List.drop_zero, List.take_succ_cons, List.take_zero]
  walk_nrm
  go_wp2
  refine opsG_nil tame ?_
  simp only [Exit.then]
  refine wpG_re ?_ τ d
  refine wpG_cond tame (t := false) rfl ?_
  simp only [Bool.false_eq_true, if_false]
  refine wpG_lone tame fun τ d => ?_
  go_wp2
  refine wpG_re ?_ τ d
  refine wpG_fr (F := siFrame (.slice p row.length cap)) (by rfl) fun J => ?_
  exact wpG_lone tame fun τ d => si_rest row hla HWD.out hcap HA.out J _ (HU3.out.re τ d)
end Go.Proofs.Ytjnoffgclibfaaa
