/- corniceref20.Casts: it answers a number. -/
import Derived.Test.YtiibknlpeodejaaDoorRefTerms
set_option linter.unusedSimpArgs false
set_option linter.unusedVariables false
namespace Go.Proofs.YtiibknlpeodejaaDoor
open Go.Lx Go.RowKit

/-- A number, so many. -/
def CtRel (w0 : World) (len : Nat) (v i : Value) (wr : World) : Prop := ∃ (k : Nat) (n : Int), k ≤ len ∧ i = .int .i64 (k : Int) ∧ v = .int .i64 n ∧ Under w0 wr
/-- Few terms. -/
def FewD (d : Dc) : Prop := d.cons.length ≤ 1000 ∧ (∀ c ∈ d.cons, c.length ≤ 1000) ∧ (termsOf d).length ≤ 100000 ∧ ∀ t ∈ termsOf d, t.length ≤ 1000000
section
variable {w0 : World} {ds : List Dc}
set_option maxRecDepth 100000 in
set_option maxHeartbeats 2000000 in
theorem casts_any {q : Option Addr} {c : Nat} (hn : ds.length ≤ 100000) (hds : ∀ d ∈ ds, FewD d) (hp : RowsV 6 DcRow w0 q ds) : Calls Tryd.prog 9 #[.slice q ds.length c] w0 fun e w => (∃ n, e = .returned (.int .i64 n)) ∧ Under w0 w := by
  have HP := Lib.hid hp
  have HDs := Lib.hid hds
  have hn0 : (0 : Int) ≤ (ds.length : Int) := by omega
  clear hp hds
  go_enter Tryd.func9, Tryd.ntmps9
  go_wp2
  go_loopw [3, 4] (fun v i wr => CtRel w0 ds.length v i wr) (fun _ i _ => ds.length - (intOf i).toNat)
  case atStart => exact ⟨0, 0, Nat.zero_le _, rfl, rfl, Under.refl _⟩
  case round =>
    obtain ⟨k, n, hk, rfl, rfl, hU⟩ := hrel
    by_cases hlt : k < ds.length
    · obtain ⟨b, off, r, rfl, hb, hrl, hr, hc⟩ := HP.out.at (List.getElem?_eq_getElem hlt) (by decide)
      obtain ⟨v1, v2, v3, rfl, h1, h2, h3⟩ := hr
      have cc0 := hc 0 _ rfl
      have cc1 := hc 1 _ rfl
      have cc2 := hc 2 _ rfl
      have cc3 := hc 3 _ rfl
      have cc4 := hc 4 _ rfl
      have cc5 := hc 5 _ rfl
      simp only [Nat.add_zero, ← Nat.add_assoc] at cc0 cc1 cc2 cc3 cc4 cc5
      rw [← under_cell hU hb] at cc0 cc1 cc2 cc3 cc4 cc5
      have hb' := Nat.lt_of_lt_of_le hb hU.size
      obtain ⟨f1, f2, f3, f4⟩ := HDs.out _ (List.getElem_mem hlt)
      have HV : RowKit.Hid (DcV wr (.agg #[.int .i64 ds[k].kind, .int .i64 ds[k].level, .string ds[k].name, v1, v2, v3]) ds[k]) := Lib.hid ⟨v1, v2, v3, rfl, TermV.mono _ _ _ _ hU h1, TermV.mono _ _ _ _ hU h2, ConsV.mono _ _ _ _ hU h3⟩
      have HT := Lib.hid (rterms_any f1 f2 HV.out)
      obtain ⟨p1, c1, rfl, _⟩ := h1
      obtain ⟨p2, c2, rfl, _⟩ := h2
      obtain ⟨p3, c3, us3, rfl, _⟩ := h3
      have HF4 := Lib.hid f4
      have HU := Lib.hid hU
      clear hc hU f4
      generalize ds[k] = d at *
      go_wp2_with fail
      refine HT.out.mono ?_
      rintro e w1 ⟨u, rfl, hu, hU1⟩
      obtain ⟨q1, qc1, us1, rfl, hq1, hq2, hq3, hq4⟩ := hu
      have HQ3 := Lib.hid hq3
      have HQ4 := Lib.hid hq4
      have HU1 := Lib.hid (HU.out.trans hU1)
      clear hU1 hq1 hq2 hq3 hq4
      have hm : (termsOf d).length ≤ 100000 := f3
      have hm0 : (0 : Int) ≤ ((termsOf d).length : Int) := by omega
      go_wp2
      go_loopw [3, 6] (fun v i wr => CtRel w1 (termsOf d).length v i wr) (fun _ i _ => (termsOf d).length - (intOf i).toNat)
      case atStart => exact ⟨0, n, Nat.zero_le _, rfl, rfl, Under.refl _⟩
      case round =>
        obtain ⟨k2, n2, hk2, rfl, rfl, hU2⟩ := hrel
        by_cases hlt2 : k2 < (termsOf d).length
        · obtain ⟨u, hu, hterm⟩ := HQ4.out.at (List.getElem?_eq_getElem hlt2)
          have ht2 := HF4.out _ (List.getElem_mem hlt2)
          obtain ⟨q2, cq2, rfl, hq21, hq22, hq23⟩ := hterm
          obtain ⟨b2, off2, rfl, hb2, hcs2⟩ := HQ3.out (fun e => by rw [e] at hu; simp at hu)
          have cc := hcs2 k2 _ hu
          have HCC := Lib.hid cc
          have HQ23 := Lib.hid hq23
          have HU2 := Lib.hid hU2
          have ht20 : (0 : Int) ≤ ((termsOf d)[k2].length : Int) := by omega
          clear cc hcs2 hu hq21 hq22 hq23 hU2
          generalize (termsOf d)[k2] = t2 at *
          go_wp2
          go_loopw [3, 7] (fun v i wr => CtRel w1 t2.length v i wr) (fun _ i _ => t2.length - (intOf i).toNat)
          case atStart => exact ⟨0, n2, Nat.zero_le _, rfl, rfl, HU2.out⟩
          case round =>
            obtain ⟨k3, n3, hk3, rfl, rfl, hU3⟩ := hrel
            have cc := HCC.out
            rw [← under_cell hU3 hb2] at cc
            have hb2' := Nat.lt_of_lt_of_le hb2 hU3.size
            by_cases hlt3 : k3 < t2.length
            · obtain ⟨b3, off3, rfl, hb3, d0, d1, d2, d3⟩ := RowArg.node HQ23.out (List.getElem?_eq_getElem hlt3)
              rw [← under_cell hU3 hb3] at d0
              have hb3' := Nat.lt_of_lt_of_le hb3 hU3.size
              have HU3 := Lib.hid hU3
              clear hU3 d1 d2 d3
              generalize t2[k3] = x at *
              cases hx : (x.k == 20)
              · go_wp2
                go_roundw
                case rel => exact ⟨k3 + 1, _, by omega, by go_num, rfl, HU3.out⟩
                case measure => simp [intOf]; omega
              · go_wp2
                go_roundw
                case rel => exact ⟨k3 + 1, _, by omega, by go_num, rfl, HU3.out⟩
                case measure => simp [intOf]; omega
            · obtain rfl : k3 = t2.length := by omega
              have HU3 := Lib.hid hU3
              clear hU3
              go_wp2
              go_roundw
              case rel => exact ⟨k2 + 1, _, by omega, by go_num, rfl, HU3.out⟩
              case measure => simp [intOf]; omega
        · obtain rfl : k2 = (termsOf d).length := by omega
          have HU2 := Lib.hid hU2
          clear hU2
          go_wp2
          go_roundw
          case rel => exact ⟨k + 1, _, by omega, by go_num, rfl, HU1.out.trans HU2.out⟩
          case measure => simp [intOf]; omega
    · obtain rfl : k = ds.length := by omega
      have HU := Lib.hid hU
      clear hU
      go_wp2
      go_ret
      exact ⟨⟨_, rfl⟩, HU.out⟩
end
end Go.Proofs.YtiibknlpeodejaaDoor
