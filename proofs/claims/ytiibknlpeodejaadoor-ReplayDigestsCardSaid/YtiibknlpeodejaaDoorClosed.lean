/- decls.closed: its contract. -/
import Derived.Test.YtiibknlpeodejaaDoorTerms
import Derived.Test.YtiibknlpeodejaaDoorSteps
import Derived.Test.YtiibknlpeodejaaDoorFree
set_option linter.unusedSimpArgs false
set_option linter.unusedVariables false
namespace Go.Proofs.YtiibknlpeodejaaDoor
open Go.Lx Go.RowKit

/-- A term's error, where it has to be closed. -/
def closedT (t : List Nd) : Int := if checkE t = 0 then (if 0 < freeN t then 30 else 0) else checkE t
section
variable {W0 w0 : World} {d : Dc} {v : Value}
set_option maxRecDepth 100000 in
set_option maxHeartbeats 2000000 in
theorem closed1_any {db : Nat} {cs : Array Value} (hd : Small d) (hv : DcV W0 (.agg cs) d) (hU : Under W0 w0) (hS : ShapesAt 1 W0) (hB : BoxAt w0 db 29 cs) :
    Calls Tryd.prog 37 #[.pointer (some ⟨db, 0, none⟩)] w0 fun e w => e = .returned (.int .i64 (firstE ((termsOf d).map closedT))) ∧ Under w0 w := by
  have hv0 := DcV.mono _ _ _ _ hU hv
  have HT := Lib.hid (terms_any (w0 := w0) hd hv0)
  obtain ⟨vt, vb, vc, hcs, ⟨pt, ct, rfl, _⟩, ⟨pb, cb, rfl, _⟩, ⟨pc, cc, us, rfl, _⟩⟩ := hv
  cases hcs
  have c0 := hB.cell 0
  have c1 := hB.cell 1
  have c2 := hB.cell 2
  have c3 := hB.cell 3
  have c4 := hB.cell 4
  have c5 := hB.cell 5
  have hlt := hB.lt
  have HD := Lib.hid hd
  have HS := Lib.hid (hS.under hU)
  clear hd hU hS hB hv0
  go_enter Tryd.func37, Tryd.ntmps37
  go_wp2_with fail
  refine HT.out.mono ?_
  rintro e w1 ⟨u, rfl, hu, hU1⟩
  obtain ⟨p, c, vs, rfl, hc, h0, hr, hz⟩ := hu
  have HU1 := Lib.hid hU1
  have HR := Lib.hid hr
  have HZ := Lib.hid hz
  have hln : (termsOf d).length ≤ 100002 := by
    have := HD.out.flat
    unfold termsOf
    split
    · simp
    · split
      · simp
      · split
        · omega
        · simp
  have HTm := Lib.hid HD.out.terms
  clear c0 c1 c2 c3 c4 c5 hU1 hr hz h0
  generalize htsd : termsOf d = ts at *
  have HTS := Lib.hid htsd
  clear htsd
  go_wp2
  go_loopw [9] (fun i wr => ∃ k : Nat, k ≤ ts.length ∧ i = .int .i64 k ∧ firstE (ts.map closedT) = firstE ((ts.drop k).map closedT) ∧ Under w1 wr) (fun i _ => ts.length - (intOf i).toNat)
  case atStart => exact ⟨0, Nat.zero_le _, rfl, by simp, Under.refl _⟩
  case round =>
    obtain ⟨k, hk, rfl, hN, hU⟩ := hrel
    by_cases hlt : k < ts.length
    · obtain ⟨u, hu, q, c', rfl, hc', h0', hr'⟩ := HZ.out.at (List.getElem?_eq_getElem hlt)
      obtain ⟨b, off, rfl, hb, hcs⟩ := HR.out (fun e => by rw [e] at hu; simp at hu)
      have cc := hcs k _ hu
      rw [← under_cell hU hb] at cc
      have hb' := Nat.lt_of_lt_of_le hb hU.size
      have htm := HTm.out _ (List.getElem_mem hlt)
      have hd : firstE ((ts.drop k).map closedT) = if closedT ts[k] ≠ 0 then closedT ts[k] else firstE ((ts.drop (k + 1)).map closedT) := by rw [List.drop_eq_getElem_cons hlt]; rfl
      have HC := Lib.hid (free_any (w0 := wr) (c := c') (p := q) (t := ts[k]) hc' (by unfold maxLen; omega) (fun x hx => by have := htm.2 x hx; unfold maxLen; omega) (hr'.under hU) ((HS.out.under HU1.out).under hU))
      have HN := Lib.hid hN
      have HDd := Lib.hid hd
      have HU := Lib.hid hU
      have hct : closedT ts[k] = if checkE ts[k] = 0 then (if 0 < freeN ts[k] then 30 else 0) else checkE ts[k] := rfl
      clear hcs hr' hN hd hU hu htm
      generalize ts[k] = t at *
      unfold FreeOut at HC
      by_cases hc0 : checkE t = 0
      · rw [if_pos hc0] at hct
        rw [if_pos hc0, hc0] at HC
        by_cases hf : 0 < freeN t
        · rw [if_pos hf] at hct
          have HCT := Lib.hid hct
          clear hct hc0
          generalize freeN t = fn at *
          go_wp2_with fail
          refine HC.out.mono ?_
          rintro e w2 ⟨rfl, hU2⟩
          have HU2 := Lib.hid hU2
          clear hU2
          go_wp2
          go_ret
          exact ⟨ret_int (by rw [HTS.out, HN.out, HDd.out, HCT.out]; rfl), (HU1.out.trans HU.out).trans HU2.out⟩
        · rw [if_neg hf] at hct
          have HCT := Lib.hid hct
          clear hct hc0
          generalize freeN t = fn at *
          go_wp2_with fail
          refine HC.out.mono ?_
          rintro e w2 ⟨rfl, hU2⟩
          have HU2 := Lib.hid hU2
          clear hU2
          go_wp2
          go_roundw
          case rel => exact ⟨k + 1, by omega, by go_num, by rw [HN.out, HDd.out, HCT.out]; rfl, HU.out.trans HU2.out⟩
          case measure => simp [intOf]; omega
      · rw [if_neg hc0] at hct
        rw [if_neg hc0] at HC
        have HCT := Lib.hid hct
        have HC0 := Lib.hid hc0
        have b0 : (checkE t == 0) = false := by simpa using hc0
        have b1 : (checkE t != 0) = true := by simpa using hc0
        clear hct hc0
        generalize checkE t = ce at *
        go_wp2_with fail
        refine HC.out.mono ?_
        rintro e w2 ⟨rfl, hU2⟩
        have HU2 := Lib.hid hU2
        clear hU2
        go_wp2
        go_ret
        exact ⟨ret_int (by rw [HTS.out, HN.out, HDd.out, HCT.out, if_pos HC0.out]), (HU1.out.trans HU.out).trans HU2.out⟩
    · obtain rfl : k = ts.length := by omega
      have HN := Lib.hid hN
      have HU := Lib.hid hU
      clear hN hU
      go_wp2
      go_ret
      exact ⟨ret_int (by rw [HTS.out, HN.out, List.drop_length]; rfl), HU1.out.trans HU.out⟩
set_option maxRecDepth 100000 in
theorem closed_any (hd : Small d) (hv : DcV w0 v d) (hS : ShapesAt 1 w0) : Calls Tryd.prog 29 #[v] w0 fun x w => ∃ b, x = .returned (.func (.func 37) #[] #[.pointer (some ⟨b, 0, none⟩)]) ∧ StepOk w (.func (.func 37) #[] #[.pointer (some ⟨b, 0, none⟩)]) (firstE ((termsOf d).map closedT)) ∧ Under w0 w := by
  have hv' := hv
  obtain ⟨vt, vb, vc, rfl, ⟨pt, ct, rfl, _⟩, ⟨pb, cb, rfl, _⟩, ⟨pc, cc, us, rfl, _⟩⟩ := hv
  have hB := box_new w0 #[.int .i64 d.kind, .int .i64 d.level, .string d.name, .slice pt d.type.length ct, .slice pb d.body.length cb, .slice pc d.cons.length cc] 29
  have hU := under_alloc (Under.refl w0) (.cells #[.int .i64 d.kind, .int .i64 d.level, .string d.name, .slice pt d.type.length ct, .slice pb d.body.length cb, .slice pc d.cons.length cc] 29)
  have hS' : StepOk _ (.func (.func 37) #[] #[.pointer (some ⟨w0.heap.size, 0, none⟩)]) (firstE ((termsOf d).map closedT)) :=
    ⟨_, _, rfl, enters_of Tryd.func37 (by kernel_rfl) rfl, fun w' hU' => closed1_any hd hv' (hU.trans hU') hS (hB.under hU')⟩
  have HS := Lib.hid hS'
  have HU := Lib.hid hU
  clear hd hv' hS hB hU hS'
  go_enter Tryd.func29, Tryd.ntmps29
  go_wp2
  go_ret
  exact ⟨_, rfl, HS.out, HU.out⟩
end
end Go.Proofs.YtiibknlpeodejaaDoor
