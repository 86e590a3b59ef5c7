/- decls.Encode: its contract. -/
import Derived.Test.YtiibknlpeodejaaDoorDCheck
import Derived.Test.YtiibknlpeodejaaDoorCodes
import Derived.Test.YtiibknlpeodejaaDoorPack
import Derived.Test.YtiibknlpeodejaaDoorLxM
set_option linter.unusedSimpArgs false
set_option linter.unusedVariables false
namespace Go.Proofs.YtiibknlpeodejaaDoor
open Go.Lx Go.RowKit

def packB : Option (List UInt8) → ByteArray
  | some l => ⟨l.toArray⟩
  | none => ⟨#[]⟩
def packE : Option (List UInt8) → Int
  | some _ => 0
  | none => 21
theorem packOut_eq (o : Option (List UInt8)) : packOut o = .returned (.tuple #[.string (packB o), .int .i64 (packE o)]) := by cases o <;> rfl
/-- What stands ahead of a declaration's terms. -/
def headS (d : Dc) : List ByteArray := [Utf8.encode (IntKind.i32.wrap d.kind), Utf8.encode (IntKind.i32.wrap d.level), d.name]
/-- The constructors' bytes behind what is there. -/
def consGo : List ByteArray → List (List (List Nd)) → Option (List ByteArray)
  | acc, [] => some acc
  | acc, c :: r => if packE (packO (c.map codeT)) = 0 then consGo (acc ++ [packB (packO (c.map codeT))]) r else none
theorem consGo_drop {cs : List (List (List Nd))} {k : Nat} (hk : k < cs.length) (acc : List ByteArray) : consGo acc (cs.drop k) = if packE (packO (cs[k].map codeT)) = 0 then consGo (acc ++ [packB (packO (cs[k].map codeT))]) (cs.drop (k + 1)) else none := by
  rw [List.drop_eq_getElem_cons hk]; rfl
/-- A declaration's bytes. -/
def encO (d : Dc) : Option (List UInt8) := if d.kind = 3 then (consGo (headS d) d.cons).bind packO else packO (headS d ++ (termsOf d).map codeT)
def encDB (d : Dc) : ByteArray := if declE d = 0 then packB (encO d) else ⟨#[]⟩
def encDE (d : Dc) : Int := if declE d = 0 then packE (encO d) else declE d
def encDOut (d : Dc) : Ending := .returned (.tuple #[.string (encDB d), .int .i64 (encDE d)])
theorem encDOut_err {d : Dc} (h : declE d ≠ 0) : encDOut d = .returned (.tuple #[.string ⟨#[]⟩, .int .i64 (declE d)]) := by
  unfold encDOut encDB encDE; rw [if_neg h, if_neg h]
theorem encDOut_ok {d : Dc} (h : declE d = 0) : encDOut d = .returned (.tuple #[.string (packB (encO d)), .int .i64 (packE (encO d))]) := by
  unfold encDOut encDB encDE; rw [if_pos h, if_pos h]
theorem flatten_mem_le {α : Type} {l : List (List α)} {c : List α} (h : c ∈ l) : c.length ≤ l.flatten.length := by
  obtain ⟨a, b, rfl⟩ := List.append_of_mem h
  simp
  omega
theorem packE_cases (o : Option (List UInt8)) : packE o = 0 ∨ packE o = 21 := by cases o; exact .inr rfl; exact .inl rfl
theorem own_three (w : World) (base : Nat) (e : TypeId) (a b c : Value) (hb : base ≤ w.heap.size) : (w.alloc (.cells #[a, b, c] e)).ownsRow base e 1 (.slice (some ⟨w.heap.size, 0, none⟩) 3 3) 3 [a, b, c] :=
  ⟨rfl, .inr ⟨_, 3, #[a, b, c], rfl, hb, box_new w _ _, Nat.le_refl _, by unfold maxLen; omega, rfl, rfl⟩⟩
/-- What is held between two constructors. -/
def DeRel (w0 : World) (d : Dc) (nc : Nat) (v i : Value) (wr : World) : Prop := ∃ (k : Nat) (acc : List ByteArray), k ≤ nc ∧ i = .int .i64 (k : Int) ∧ acc.length = 3 + k ∧ consGo (headS d) d.cons = consGo acc (d.cons.drop k) ∧ wr.ownsRow w0.heap.size 9 1 v acc.length (acc.map .string) ∧ Under w0 wr
section
variable {w0 : World} {d : Dc} {v : Value}
set_option maxRecDepth 100000 in
set_option maxHeartbeats 2000000 in
theorem dencode_any (hd : Small d) (hc9 : d.cons.length ≤ 90000) (hv : DcV w0 v d) (hS : ShapesAt 1 w0) (hF : FieldsAt 0 w0) :
    Calls Tryd.prog 15 #[v] w0 fun e w => e = encDOut d ∧ Under w0 w := by
  have HV := Lib.hid hv
  have HCk := Lib.hid (fun w (h : Under w0 w) => dcheck_any (w0 := w) hd (DcV.mono _ _ _ _ h hv) (hS.under h))
  have HTm := Lib.hid (fun w (h : Under w0 w) => terms_any (w0 := w) hd (DcV.mono _ _ _ _ h hv))
  have HCd := Lib.hid (fun w (h : Under w0 w) ts v hl hv ht => codes_any (w0 := w) ts (v := v) hl hv ht (hS.under h) (hF.under h))
  have HD := Lib.hid hd
  have HC9 := Lib.hid hc9
  obtain ⟨vt, vb, vc, rfl, ⟨pt, ct, rfl, g1⟩, ⟨pb, cb, rfl, g2⟩, ⟨pc, cc, us, rfl, hcc, hpc, hrow, hzip⟩⟩ := hv
  have HU := Lib.hid (under_alloc (Under.refl w0) (.cells #[.int .i64 d.kind, .int .i64 d.level, .string d.name, .slice pt d.type.length ct, .slice pb d.body.length cb, .slice pc d.cons.length cc] 29))
  have HX := Lib.hid (box_new w0 #[.int .i64 d.kind, .int .i64 d.level, .string d.name, .slice pt d.type.length ct, .slice pb d.body.length cb, .slice pc d.cons.length cc] 29)
  have HR := Lib.hid hrow
  have HZ := Lib.hid hzip
  clear g1 g2 hrow hzip hcc hpc hd hS hF hc9
  by_cases hc : declE d = 0
  · have HO := Lib.hid (encDOut_ok hc)
    rw [hc] at HCk
    clear hc
    have hk : IntKind.i32.wrap d.kind = IntKind.i32.wrap d.kind := rfl
    have HH : RowKit.Hid (headS d = [Utf8.encode (IntKind.i32.wrap d.kind), Utf8.encode (IntKind.i32.wrap d.level), d.name]) := Lib.hid rfl
    clear hk
    obtain ⟨i0, hi, hz0, hz1, hz2⟩ := info_parts Tryd.infoStr
    generalize h32k : IntKind.i32.wrap d.kind = k32 at *
    generalize h32l : IntKind.i32.wrap d.level = l32 at *
    by_cases hk3 : d.kind = 3
    · have HE : RowKit.Hid (encO d = (consGo (headS d) d.cons).bind packO) := Lib.hid (by unfold encO; rw [if_pos hk3])
      have hk3' : (d.kind != 3) = false := by simpa using hk3
      have HFr : RowKit.Hid (d.cons.length ≤ 90000 ∧ ∀ c ∈ d.cons, c.length ≤ 100000 ∧ Fair c) := Lib.hid ⟨HC9.out, fun c hc => ⟨by
          have h1 := HD.out.flat
          have h2 := flatten_mem_le hc
          omega, fun t ht => by
          have htt : t ∈ termsOf d := by unfold termsOf; rw [hk3]; simp; exact ⟨c, hc, ht⟩
          exact ⟨(HD.out.terms t htt).1, fun x hx => by have := (HD.out.terms t htt).2 x hx; unfold maxLen; omega⟩⟩⟩
      have hn0 : (0 : Int) ≤ (d.cons.length : Int) := by omega
      clear hk3
      generalize d.type.length = nt at *
      generalize d.body.length = nb at *
      generalize d.kind = k at *
      generalize d.level = l at *
      go_enter Tryd.func15, Tryd.ntmps15
      go_wp2_with fail
      refine (HCk.out _ HU.out).mono ?_
      rintro e w1 ⟨rfl, hU1⟩
      have hcn : w1.cell? ⟨w0.heap.size, 5, none⟩ = some (.slice pc d.cons.length cc) := (HX.out.under hU1).cell 5
      generalize hnc : d.cons.length = nc at *
      have HNC := Lib.hid hnc
      clear hnc hcn
      have c0 : w1.cell? ⟨w0.heap.size, 0, none⟩ = some (.int .i64 k) := (HX.out.under hU1).cell 0
      have c1 : w1.cell? ⟨w0.heap.size, 1, none⟩ = some (.int .i64 l) := (HX.out.under hU1).cell 1
      have c2 : w1.cell? ⟨w0.heap.size, 2, none⟩ = some (.string d.name) := (HX.out.under hU1).cell 2
      have c3 : w1.cell? ⟨w0.heap.size, 3, none⟩ = some (.slice pt nt ct) := (HX.out.under hU1).cell 3
      have c4 : w1.cell? ⟨w0.heap.size, 4, none⟩ = some (.slice pb nb cb) := (HX.out.under hU1).cell 4
      have c5 : w1.cell? ⟨w0.heap.size, 5, none⟩ = some (.slice pc nc cc) := (HX.out.under hU1).cell 5
      have hlt := (HX.out.under hU1).lt
      have HU1 := Lib.hid (HU.out.trans hU1)
      clear hU1
      go_wp2
      have HO0 := Lib.hid (own_three w1 w0.heap.size 9 (.string (Utf8.encode k32)) (.string (Utf8.encode l32)) (.string d.name) HU1.out.size)
      have HU2 := Lib.hid (under_alloc HU1.out (.cells #[.string (Utf8.encode k32), .string (Utf8.encode l32), .string d.name] 9))
      have h9 : nc ≤ 90000 := HC9.out
      go_loopw [5, 40] (fun v i wr => DeRel w0 d nc v i wr) (fun _ i _ => nc - (intOf i).toNat)
      case atStart => exact ⟨0, headS d, Nat.zero_le _, rfl, rfl, by rw [List.drop_zero], by rw [HH.out]; exact HO0.out, HU2.out⟩
      case round =>
        obtain ⟨k, acc, hk, rfl, hacc, hN, hown, hU⟩ := hrel
        have HN := Lib.hid hN
        have HO1 := Lib.hid hown
        have HUr := Lib.hid hU
        have HA := Lib.hid hacc
        clear hN hown hacc
        by_cases hlt : k < nc
        · have hlt' : k < d.cons.length := by rw [HNC.out]; exact hlt
          obtain ⟨u, hu, hterms⟩ := HZ.out.at (List.getElem?_eq_getElem hlt')
          obtain ⟨q, cq, vs', rfl, hq1, hq2, hq3, hq4⟩ := id hterms
          obtain ⟨b, off, rfl, hb, hcs⟩ := HR.out (fun e => by rw [e] at hu; simp at hu)
          have cc := hcs k _ hu
          rw [← under_cell hU hb] at cc
          have hb' := Nat.lt_of_lt_of_le hb hU.size
          have HCc := Lib.hid (HCd.out wr hU _ _ (HFr.out.2 _ (List.getElem_mem hlt')).1 (TermsV.mono _ _ _ _ hU hterms) (HFr.out.2 _ (List.getElem_mem hlt')).2)
          have HS1 := Lib.hid (consGo_drop hlt' acc)
          have HL := Lib.hid (HFr.out.2 _ (List.getElem_mem hlt')).1
          have HPk := Lib.hid (fun w p c (hp : RowArg w p ((d.cons[k].map codeT).map .string)) => pack_any (w0 := w) (d.cons[k].map codeT) (p := p) (c := c) (by simpa using HL.out) hp)
          have hpe := packE_cases (packO (d.cons[k].map codeT))
          simp only [packOut_eq] at HPk
          clear hcs hu hq1 hq2 hq3 hq4 hU hterms
          generalize d.cons[k] = cl at *
          clear hlt'
          generalize packB (packO (cl.map codeT)) = pB at *
          generalize packE (packO (cl.map codeT)) = pE at *
          have HM := Lib.hid (show (cl.map codeT).length = cl.length by simp)
          rw [HM.out] at HPk
          generalize cl.length = m at *
          go_wp2_with fail
          refine HCc.out.mono ?_
          rintro e w3 ⟨u, rfl, hu, hU3⟩
          obtain ⟨q3, c3', rfl, h31, h32, h33⟩ := hu
          have HU3 := Lib.hid (HUr.out.trans hU3)
          have HU13 := Lib.hid hU3
          have HP3 := Lib.hid (HPk.out w3 q3 c3' h33)
          rw [HM.out]
          clear hU3 h31 h32 h33
          go_wp2_with fail
          refine HP3.out.mono ?_
          rintro e w4 ⟨rfl, hU4⟩
          have HU4 := Lib.hid (HU3.out.trans hU4)
          have HO4 := Lib.hid (row_under HO1.out (HU13.out.trans hU4))
          clear hU4
          rcases hpe with rfl | rfl
          · have HS2 : RowKit.Hid (consGo acc (d.cons.drop k) = consGo (acc ++ [pB]) (d.cons.drop (k + 1))) := Lib.hid (by rw [HS1.out, if_pos rfl])
            go_wp2_with (at_builtin; refine wpList_append_own_at _ rfl _ _ 44 rfl w0.heap.size 9 i0 _ 1 16 Tryd.underlying44 hi hz0 hz1 hz2 rfl (by decide) _ _ _ rfl (HO4.out.alloc _) ⟨w4.heap.size, 0, none⟩ 1 1 [.string pB] rfl rfl ?c1 ?c2 (by simp only [maxLen]; have := HA.out; have := HFr.out.1; have := HNC.out; omega) (by have := HA.out; have := HFr.out.1; have := HNC.out; omega) ?c5 ?_)
            case c1 =>
              intro j u hj
              match j, hj with
              | 0, hj => cases hj; simp [Addr.add]
            case c2 => intro u hu; simp at hu; rcases hu with rfl; rfl
            case c5 => have := HU4.out.size; simp; omega
            intro v' w' hown hgrow hnil hat
            have HW := Lib.hid hown
            have HU5 := Lib.hid (under_grown (under_alloc HU4.out _) hgrow fun g e => (row_lt HO4.out e).1)
            clear hown hgrow hnil hat
            go_wp2
            go_roundw
            case rel => exact ⟨k + 1, acc ++ [pB], by omega, by go_num, by rw [List.length_append, HA.out]; simp; omega, by rw [HN.out, HS2.out], by rw [List.map_append, List.length_append]; exact HW.out, HU5.out⟩
            case measure => simp [intOf]; omega
          · have HS2 : RowKit.Hid (encO d = none) := Lib.hid (by rw [HE.out, HN.out, HS1.out, if_neg (by decide)]; rfl)
            go_wp2
            go_ret2
            exact ⟨by rw [HO.out, HS2.out]; rfl, HU4.out⟩
        · obtain rfl : k = nc := by omega
          have HE2 : RowKit.Hid (encO d = packO acc) := Lib.hid (by rw [HE.out, HN.out, ← HNC.out, List.drop_length]; rfl)
          obtain ⟨q5, c5', rfl, hc5, hr5⟩ := RowArg.of_own HO1.out
          have HP5 := Lib.hid (pack_any (w0 := wr) acc (p := q5) (c := c5') (by have := HA.out; have := HFr.out.1; have := HNC.out; omega) hr5)
          rw [packOut_eq, ← HE2.out] at HP5
          clear hr5 hU
          go_wp2_with fail
          refine HP5.out.mono ?_
          rintro e w6 ⟨rfl, hU6⟩
          have HU6 := Lib.hid (HUr.out.trans hU6)
          clear hU6
          go_wp2
          go_ret2
          exact ⟨by rw [HO.out]; rfl, HU6.out⟩
    · have HE : RowKit.Hid (encO d = packO (headS d ++ (termsOf d).map codeT)) := Lib.hid (by unfold encO; rw [if_neg hk3])
      have hk3' : (d.kind == 3) = false := by simpa using hk3
      have HTs : RowKit.Hid ((termsOf d).length ≤ 2 ∧ Fair (termsOf d)) := Lib.hid ⟨by
          unfold termsOf; split <;> (try split) <;> (try split) <;> first | contradiction | simp, fun t ht => ⟨(HD.out.terms t ht).1, fun x hx => by have := (HD.out.terms t ht).2 x hx; unfold maxLen; omega⟩⟩
      clear hk3
      generalize d.type.length = nt at *
      generalize d.body.length = nb at *
      generalize d.cons.length = nc at *
      generalize d.kind = k at *
      generalize d.level = l at *
      go_enter Tryd.func15, Tryd.ntmps15
      go_wp2_with fail
      refine (HCk.out _ HU.out).mono ?_
      rintro e w1 ⟨rfl, hU1⟩
      have c0 : w1.cell? ⟨w0.heap.size, 0, none⟩ = some (.int .i64 k) := (HX.out.under hU1).cell 0
      have c1 : w1.cell? ⟨w0.heap.size, 1, none⟩ = some (.int .i64 l) := (HX.out.under hU1).cell 1
      have c2 : w1.cell? ⟨w0.heap.size, 2, none⟩ = some (.string d.name) := (HX.out.under hU1).cell 2
      have c3 : w1.cell? ⟨w0.heap.size, 3, none⟩ = some (.slice pt nt ct) := (HX.out.under hU1).cell 3
      have c4 : w1.cell? ⟨w0.heap.size, 4, none⟩ = some (.slice pb nb cb) := (HX.out.under hU1).cell 4
      have c5 : w1.cell? ⟨w0.heap.size, 5, none⟩ = some (.slice pc nc cc) := (HX.out.under hU1).cell 5
      have hlt := (HX.out.under hU1).lt
      have HU1 := Lib.hid (HU.out.trans hU1)
      clear hU1
      go_wp2_with fail
      have hU2 := under_alloc HU1.out (.cells #[.string (Utf8.encode k32), .string (Utf8.encode l32), .string d.name] 9)
      refine (HTm.out _ hU2).mono ?_
      rintro e w3 ⟨u, rfl, hu, hU3⟩
      have HU3 := Lib.hid (hU2.trans hU3)
      have HU13 := Lib.hid hU3
      obtain ⟨pu, cu, us2, rfl, hu2, hu3, hu4, hu5⟩ := id hu
      have HTV := Lib.hid hu
      clear hU2 hU3 hu hu2 hu3 hu4 hu5
      go_wp2_with fail
      refine (HCd.out _ HU3.out _ _ (by have := HTs.out.1; omega) HTV.out HTs.out.2).mono ?_
      rintro e w4 ⟨u, rfl, hu, hU4⟩
      have HU4 := Lib.hid (HU3.out.trans hU4)
      have HO4 := Lib.hid (row_under (own_three w1 w0.heap.size 9 (.string (Utf8.encode k32)) (.string (Utf8.encode l32)) (.string d.name) HU1.out.size) (HU13.out.trans hU4))
      obtain ⟨q, qc, rfl, hqc, hq0, hqr⟩ := hu
      have HQ := Lib.hid hqr
      have HM := Lib.hid (show ((termsOf d).map codeT).length = (termsOf d).length by simp)
      have HT3 := HTs.out.1
      clear hU4 hqr
      rw [HM.out] at hqc
      have HQ' : RowKit.Hid (RowArg w4 q (((termsOf d).map codeT).map .string) ∧ (((termsOf d).map codeT).map Value.string).length = (termsOf d).length * 1 ∧ ∀ u ∈ ((termsOf d).map codeT).map Value.string, u.oneCell' = true) :=
        Lib.hid ⟨HQ.out, by simp, fun u hu => by simp at hu; obtain ⟨x, _, rfl⟩ := hu; rfl⟩
      have HP := Lib.hid (fun w p c (hp : RowArg w p ((headS d ++ (termsOf d).map codeT).map .string)) => pack_any (w0 := w) (headS d ++ (termsOf d).map codeT) (p := p) (c := c) (by simp [headS]; omega) hp)
      rw [show (headS d ++ (termsOf d).map codeT).length = 3 + (termsOf d).length by simp [headS]; omega] at HP
      rw [HM.out]
      have HHM : RowKit.Hid ((headS d ++ (termsOf d).map codeT).map Value.string = [.string (Utf8.encode k32), .string (Utf8.encode l32), .string d.name] ++ ((termsOf d).map codeT).map Value.string) := Lib.hid (by rw [HH.out]; rfl)
      rw [HHM.out, ← HE.out, packOut_eq] at HP
      generalize packB (encO d) = pB at *
      generalize packE (encO d) = pE at *
      generalize ((termsOf d).map codeT).map Value.string = news at *
      generalize (termsOf d).length = m at *
      go_wp2_with (at_builtin; refine wpList_append_read rfl _ _ 44 rfl w0.heap.size 9 i0 _ 1 16 Tryd.underlying44 hi hz0 hz1 hz2 rfl (by decide) _ _ _ rfl HO4.out q m qc news rfl HQ'.out.2.1 hqc hq0 HQ'.out.1 HQ'.out.2.2 (by simp only [maxLen]; omega) (by omega) HU4.out.size ?_)
      intro v' w5 hown hgrow
      have HU5 := Lib.hid (under_grown HU4.out hgrow fun g e => (row_lt HO4.out e).1)
      obtain ⟨q5, c5', rfl, hc5, hr5⟩ := RowArg.of_own hown
      have HP5 := Lib.hid (HP.out w5 q5 c5' hr5)
      clear hown hgrow hr5 hc5
      go_wp2_with fail
      refine HP5.out.mono ?_
      rintro e w6 ⟨rfl, hU6⟩
      have HU6 := Lib.hid (HU5.out.trans hU6)
      clear hU6
      go_wp2
      go_ret2
      exact ⟨by rw [HO.out]; rfl, HU6.out⟩
  · have HO := Lib.hid (encDOut_err hc)
    have hce : (declE d == 0) = false := by simpa using hc
    clear hc
    generalize declE d = ce at *
    go_enter Tryd.func15, Tryd.ntmps15
    go_wp2_with fail
    refine (HCk.out _ HU.out).mono ?_
    rintro e w1 ⟨rfl, hU1⟩
    have HU1 := Lib.hid hU1
    clear hU1
    go_wp2
    go_ret2
    exact ⟨by rw [HO.out]; rfl, HU.out.trans HU1.out⟩
end
end Go.Proofs.YtiibknlpeodejaaDoor
