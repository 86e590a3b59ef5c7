/- cornicelaw21.heavy: it answers a truth; where it answers no, the declarations are small. -/
import Derived.Test.YtiibknlpeodejaaDoorListD
set_option linter.unusedSimpArgs false
set_option linter.unusedVariables false
namespace Go.Proofs.YtiibknlpeodejaaDoor
open Go.Lx Go.RowKit

/-- A small declaration. -/
structure LightD (d : Dc) : Prop where
  cons : d.cons.length ≤ 10
  name : d.name.size ≤ 100
  type : namedB d.type = true
  body : namedB d.body = true
  each : ∀ c ∈ d.cons, c.length ≤ 10 ∧ ∀ t ∈ c, namedB t = true
theorem flat_small {cs : List (List (List Nd))} {n : Nat} (h : ∀ c ∈ cs, c.length ≤ n) : cs.flatten.length ≤ cs.length * n := by
  induction cs with
  | nil => simp
  | cons x l ih =>
    have h1 := h x (List.mem_cons_self ..)
    have h2 := ih fun c hc => h c (List.mem_cons_of_mem _ hc)
    simp only [List.flatten_cons, List.length_append, List.length_cons, Nat.add_mul]
    omega
theorem LightD.flat {d : Dc} (h : LightD d) : d.cons.flatten.length ≤ 100 := by
  have := flat_small (n := 10) fun c hc => (h.each c hc).1
  have := h.cons
  omega
theorem LightD.terms {d : Dc} (h : LightD d) : (termsOf d).length ≤ 100 ∧ ∀ t ∈ termsOf d, t.length ≤ 60 ∧ ∀ x ∈ t, x.s.size ≤ 100 := by
  have h1 := namedB_spec h.type
  have h2 := namedB_spec h.body
  have h3 := h.flat
  unfold termsOf
  split
  · exact ⟨by simp, fun t ht => by simp at ht; rcases ht with rfl | rfl; exact h1; exact h2⟩
  · split
    · exact ⟨by simp, fun t ht => by simp at ht; subst ht; exact h1⟩
    · split
      · exact ⟨h3, fun t ht => by
          obtain ⟨c, hc, ht⟩ := List.mem_flatten.1 ht
          exact namedB_spec ((h.each c hc).2 t ht)⟩
      · exact ⟨by simp, fun t ht => (List.not_mem_nil ht).elim⟩
theorem LightD.few {d : Dc} (h : LightD d) : FewD d :=
  ⟨by have := h.cons; omega, fun c hc => by have := (h.each c hc).1; omega, by have := h.terms.1; omega, fun t ht => by have := (h.terms.2 t ht).1; omega⟩
theorem LightD.fair {d : Dc} (h : LightD d) : FairD d :=
  ⟨⟨by have := h.name; omega, by have := h.cons; omega, by have := h.flat; omega, fun t ht => ⟨by have := (h.terms.2 t ht).1; omega, fun x hx => by have := (h.terms.2 t ht).2 x hx; omega⟩⟩, by have := h.cons; omega⟩
def HvO (w0 : World) (ds : List Dc) (i : Value) (wr : World) : Prop := ∃ k : Nat, k ≤ ds.length ∧ i = .int .i64 (k : Int) ∧ (∀ d ∈ ds.take k, LightD d) ∧ Under w0 wr
def HvI (W : World) (Pr : Nat → Prop) (len : Nat) (i : Value) (wr : World) : Prop := ∃ k : Nat, k ≤ len ∧ i = .int .i64 (k : Int) ∧ Pr k ∧ W = wr
theorem take_all {α : Type} {l : List α} {k : Nat} {Pr : α → Prop} (hk : k < l.length) (h : ∀ x ∈ l.take k, Pr x) (h1 : Pr l[k]) : ∀ x ∈ l.take (k + 1), Pr x := by
  rw [List.take_succ_eq_append_getElem hk]
  intro x hx
  rcases List.mem_append.1 hx with hx | hx
  · exact h x hx
  · rw [List.mem_singleton.1 hx]; exact h1
/-- What heavy says. -/
def HvOut (w0 : World) (ds : List Dc) (e : Ending) (w : World) : Prop := ∃ b, e = .returned (.bool b) ∧ Under w0 w ∧ (b = false → ds.length ≤ 6 ∧ ∀ d ∈ ds, LightD d)
theorem HvOut.yes {w0 w : World} {ds : List Dc} (hU : Under w0 w) : HvOut w0 ds (.returned (.bool true)) w := ⟨true, rfl, hU, fun h => by cases h⟩
section
variable {w0 : World} {ds : List Dc}
set_option maxRecDepth 100000 in
set_option maxHeartbeats 4000000 in
theorem heavy_any {p : Option Addr} {c : Nat} (hp : RowsV 6 DcRow w0 p ds) : Calls Tryd.prog 4 #[.slice p ds.length c] w0 (HvOut w0 ds) := by
  by_cases h6 : ds.length ≤ 6
  · have HP := Lib.hid hp
    have hl' : ¬ (6 : Int) < ds.length := by omega
    have hn0 : (0 : Int) ≤ (ds.length : Int) := by omega
    clear hp
    go_enter Tryd.func4, Tryd.ntmps4
    go_wp2
    go_loopw [3] (fun i wr => HvO w0 ds i wr) (fun i _ => ds.length - (intOf i).toNat)
    case atStart => exact ⟨0, Nat.zero_le _, rfl, fun d hd => by simp at hd, Under.refl _⟩
    case round =>
      obtain ⟨k, hk, rfl, hlight, hU⟩ := hrel
      by_cases hlt : k < ds.length
      · obtain ⟨b, off, r, rfl, hb, hrl, hr, hc⟩ := HP.out.at (List.getElem?_eq_getElem hlt) (by decide)
        obtain ⟨v1, v2, v3, rfl, h1, h2, h3⟩ := hr
        have cc0 := hc 0 _ rfl
        have cc1 := hc 1 _ rfl
        have cc2 := hc 2 _ rfl
        have cc3 := hc 3 _ rfl
        have cc4 := hc 4 _ rfl
        have cc5 := hc 5 _ rfl
        simp only [Nat.add_zero, ← Nat.add_assoc] at cc0 cc1 cc2 cc3 cc4 cc5
        rw [← under_cell hU hb] at cc0 cc1 cc2 cc3 cc4 cc5
        have hb' := Nat.lt_of_lt_of_le hb hU.size
        have hU1 := under_alloc hU (.cells #[.int .i64 ds[k].kind, .int .i64 ds[k].level, .string ds[k].name, v1, v2, v3] 29)
        have HN1 := Lib.hid (named_any ds[k].type (TermV.mono _ _ _ _ hU1 h1))
        have HN2 := Lib.hid (named_any ds[k].body (TermV.mono _ _ _ _ hU1 h2))
        have H3 := Lib.hid (ConsV.mono _ _ _ _ hU1 h3)
        obtain ⟨p1, c1, rfl, _⟩ := h1
        obtain ⟨p2, c2, rfl, _⟩ := h2
        obtain ⟨p3, c3, us3, rfl, _⟩ := h3
        have HL := Lib.hid hlight
        have HTk := Lib.hid (fun h : LightD ds[k] => take_all hlt hlight h)
        have HU := Lib.hid hU
        have HU1 := Lib.hid hU1
        clear hc hU hU1 hlight hrl
        generalize ds[k] = d at *
        by_cases ha : 10 < (d.cons.length : Int)
        · go_wp2
          go_ret
          exact HvOut.yes HU1.out
        · by_cases hb10 : 100 < (d.name.size : Int)
          · go_wp2
            go_ret
            exact HvOut.yes HU1.out
          · cases ht : namedB d.type
            · rw [ht] at HN1
              go_wp2_with fail
              refine HN1.out.mono ?_
              rintro e w1 ⟨rfl, rfl⟩
              go_wp2
              go_ret
              exact HvOut.yes HU1.out
            · rw [ht] at HN1
              cases hbd : namedB d.body
              · rw [hbd] at HN2
                go_wp2_with fail
                refine HN1.out.mono ?_
                rintro e w1 ⟨rfl, rfl⟩
                go_wp2_with fail
                refine HN2.out.mono ?_
                rintro e w1 ⟨rfl, rfl⟩
                go_wp2
                go_ret
                exact HvOut.yes HU1.out
              · rw [hbd] at HN2
                go_wp2_with fail
                refine HN1.out.mono ?_
                rintro e w1 ⟨rfl, rfl⟩
                go_wp2_with fail
                refine HN2.out.mono ?_
                rintro e w1 ⟨rfl, rfl⟩
                have HF := Lib.hid (show (d.cons.length : Int) ≤ 10 ∧ (d.name.size : Int) ≤ 100 ∧ namedB d.type = true ∧ namedB d.body = true from ⟨by omega, by omega, ht, hbd⟩)
                have c5 : (wr.alloc (.cells #[.int .i64 d.kind, .int .i64 d.level, .string d.name, .slice p1 d.type.length c1, .slice p2 d.body.length c2, .slice p3 d.cons.length c3] 29)).cell? ⟨wr.heap.size, 5, none⟩ = some (.slice p3 d.cons.length c3) := (box_new _ _ _).cell 5
                clear HN1 HN2 cc0 cc1 cc2 cc3 cc4 cc5 ht hbd hb'
                generalize wr.alloc (.cells #[.int .i64 d.kind, .int .i64 d.level, .string d.name, .slice p1 d.type.length c1, .slice p2 d.body.length c2, .slice p3 d.cons.length c3] 29) = W1 at *
                have hcn0 : (0 : Int) ≤ (d.cons.length : Int) := by omega
                obtain ⟨q3, cq3, us, e3, _, _, hrow3, hzip3⟩ := H3.out
                cases e3
                have HR3 := Lib.hid hrow3
                have HZ3 := Lib.hid hzip3
                clear hrow3 hzip3
                go_wp2
                go_loopw [5] (fun i wr => HvI W1 (fun k => ∀ c ∈ d.cons.take k, c.length ≤ 10 ∧ ∀ t ∈ c, namedB t = true) d.cons.length i wr) (fun i _ => d.cons.length - (intOf i).toNat)
                case atStart => exact ⟨0, Nat.zero_le _, rfl, fun d hd => by simp at hd, rfl⟩
                case round =>
                  obtain ⟨k2, hk2, rfl, hl2, rfl⟩ := hrel
                  by_cases hlt2 : k2 < d.cons.length
                  · obtain ⟨u, hu, hterms⟩ := HZ3.out.at (List.getElem?_eq_getElem hlt2)
                    obtain ⟨q4, cq4, us4, rfl, _, _, hrow4, hzip4⟩ := hterms
                    obtain ⟨b3, off3, rfl, hb3, hcs3⟩ := HR3.out (fun e => by rw [e] at hu; simp at hu)
                    have cc := hcs3 k2 _ hu
                    have HTk2 := Lib.hid (fun h => take_all (Pr := fun c : List (List Nd) => c.length ≤ 10 ∧ ∀ t ∈ c, namedB t = true) hlt2 hl2 h)
                    have HR4 := Lib.hid hrow4
                    have HZ4 := Lib.hid hzip4
                    have hc40 : (0 : Int) ≤ (d.cons[k2].length : Int) := by omega
                    clear hcs3 hu hrow4 hzip4 hl2
                    generalize d.cons[k2] = cl at *
                    by_cases hcl : 10 < (cl.length : Int)
                    · go_wp2
                      go_ret
                      exact HvOut.yes HU1.out
                    · go_wp2
                      go_loopw [6] (fun i wr => HvI W1 (fun k => ∀ t ∈ cl.take k, namedB t = true) cl.length i wr) (fun i _ => cl.length - (intOf i).toNat)
                      case atStart => exact ⟨0, Nat.zero_le _, rfl, fun d hd => by simp at hd, rfl⟩
                      case round =>
                        obtain ⟨k3, hk3, rfl, hl3, rfl⟩ := hrel
                        by_cases hlt3 : k3 < cl.length
                        · obtain ⟨u5, hu5, hterm5⟩ := HZ4.out.at (List.getElem?_eq_getElem hlt3)
                          have HN5 := Lib.hid (named_any cl[k3] hterm5)
                          obtain ⟨q5, cq5, rfl, _, _, _⟩ := hterm5
                          obtain ⟨b5, off5, rfl, hb5, hcs5⟩ := HR4.out (fun e => by rw [e] at hu5; simp at hu5)
                          have cc5 := hcs5 k3 _ hu5
                          have HTk3 := Lib.hid (fun h => take_all (Pr := fun t : List Nd => namedB t = true) hlt3 hl3 h)
                          clear hcs5 hu5 hl3
                          generalize cl[k3] = t at *
                          cases htn : namedB t
                          · rw [htn] at HN5
                            go_wp2_with fail
                            refine HN5.out.mono ?_
                            rintro e w1 ⟨rfl, rfl⟩
                            go_wp2
                            go_ret
                            exact HvOut.yes HU1.out
                          · have HT3 := Lib.hid (HTk3.out htn)
                            rw [htn] at HN5
                            clear htn
                            go_wp2_with fail
                            refine HN5.out.mono ?_
                            rintro e w1 ⟨rfl, rfl⟩
                            go_wp2
                            go_roundw
                            case rel => exact ⟨k3 + 1, by omega, by go_num, HT3.out, rfl⟩
                            case measure => simp [intOf]; omega
                        · obtain rfl : k3 = cl.length := by omega
                          rw [List.take_length] at hl3
                          have HT2 := Lib.hid (HTk2.out ⟨by omega, hl3⟩)
                          clear hl3
                          go_wp2
                          go_roundw
                          case rel => exact ⟨k2 + 1, by omega, by go_num, HT2.out, rfl⟩
                          case measure => simp [intOf]; omega
                  · obtain rfl : k2 = d.cons.length := by omega
                    rw [List.take_length] at hl2
                    have HT1 := Lib.hid (HTk.out ⟨by have := HF.out.1; omega, by have := HF.out.2.1; omega, HF.out.2.2.1, HF.out.2.2.2, hl2⟩)
                    clear hl2
                    go_wp2
                    go_roundw
                    case rel => exact ⟨k + 1, by omega, by go_num, HT1.out, HU1.out⟩
                    case measure => simp [intOf]; omega
      · obtain rfl : k = ds.length := by omega
        rw [List.take_length] at hlight
        have HL := Lib.hid hlight
        have HLs := Lib.hid (list_any (w0 := wr) (ds := ds) (p := p) (c := c) (by omega) (HP.out.under DcRow.mono hU))
        have HU := Lib.hid hU
        clear hlight hU
        go_wp2_with fail
        refine HLs.out.mono ?_
        rintro e w1 ⟨q, c', rfl, hq, hU1⟩
        have HU1 := Lib.hid (HU.out.trans hU1)
        have HC := Lib.hid (casts_any (w0 := w1) (ds := ds) (q := q) (c := c') (by omega) (fun d hd => (HL.out d hd).few) hq)
        clear hU1 hq
        go_wp2_with fail
        refine HC.out.mono ?_
        rintro e w2 ⟨⟨n, rfl⟩, hU2⟩
        have HU2 := Lib.hid (HU1.out.trans hU2)
        have HH := Lib.hid h6
        clear hU2
        go_wp2
        go_ret
        exact ⟨_, rfl, HU2.out, fun _ => ⟨HH.out, HL.out⟩⟩
  · have hl' : (6 : Int) < ds.length := by omega
    clear hp
    go_enter Tryd.func4, Tryd.ntmps4
    go_wp2
    go_ret
    exact HvOut.yes (Under.refl _)
end
end Go.Proofs.YtiibknlpeodejaaDoor
