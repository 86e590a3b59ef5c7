/- ReplayDigests: for every slice of declarations the law's function returns true, and the argument reads as it did; the tables term.shapes and wire.fields read as the program's text lays them (the card ties them). -/
import Derived.Test.YtiibknlpeodejaaDoorLaidD
set_option linter.unusedSimpArgs false
set_option linter.unusedVariables false
namespace Go.Proofs.YtiibknlpeodejaaDoor
open Go.ChangeShapes Go.WideShapes Go.ChangeAt Go.WideMaps Go.WideElems Go.RowKit Go.Lx Go.Deep

section
variable {H : Type} {enc : TypeId × Value → H} {w : World} {base : Nat} {spare : Nat → Bool} {held : Bool} {fuel : Nat} {cs : List Value} {q : List MemPlace}
theorem fieldsAt_of (hcell : ∀ j, w.cell? ⟨0, j, none⟩ = cs[j]?) (h : DataW.trod enc Tryd.prog w base spare held fuel 87 cs = some (Rows.laid_cornice_wire_fields, q)) : FieldsAt 0 w := by
  rw [fields_eq] at h
  have each : ∀ k, k < 30 → w.cell? ⟨0, k, none⟩ = some (.int .u8 (fieldsN k : Nat)) := by
    intro k hk
    obtain ⟨d, q', m, hd, htr⟩ := arr_at (m' := 0) (size := 1) Tryd.underlying87 (by kernel_rfl) h (i := k) (by omega)
    obtain ⟨z, e1, e2, _⟩ := DataW.trod_int Tryd.underlying5 htr
    have e3 : d = .lit (.int .u8 z) := congrArg Prod.fst e2
    rw [List.getElem?_map] at hd
    have hf : fieldsL[k]? = some (fieldsN k) := by
      unfold fieldsL
      rw [List.getElem?_map, List.getElem?_range (by omega)]
      simp [hk]
    rw [hf, Option.map_some] at hd
    rw [e3] at hd
    cases hd
    have h0 : ((cs.drop (k * 1)).take 1)[0]? = some (.int .u8 (fieldsN k : Nat)) := by rw [e1]; rfl
    have := drop_take_at h0
    rw [hcell]
    simpa using this
  exact ⟨cell_lt (each 0 (by decide)), each⟩
end
/-- What the condition gives the walks. -/
theorem of_laid {W : World} (h : laidMetH Tryd.prog laidL W) : ShapesAt 1 W ∧ FieldsAt 0 W := by
  rw [MakeChecks.laidMetH_plain _ _ _ (by kernel_rfl)] at h
  obtain ⟨ps, ⟨g0, t0, cs0, f0, p0, q0, hg0, ht0, hv0, hd0, ⟨g1, t1, cs1, f1, p1, q1, hg1, ht1, hv1, hd1, _, _⟩, _⟩, _, _⟩ := h
  obtain rfl := Option.some.inj (gShapes.symm.trans hg0)
  obtain rfl := Option.some.inj (gFields.symm.trans hg1)
  obtain rfl := Option.some.inj (tShapes.symm.trans ht0)
  obtain rfl := Option.some.inj (tFields.symm.trans ht1)
  refine ⟨?_, ?_⟩
  · rw [shapes_eq] at hd0
    exact shapesAt_of (cs := cs0.toList) (fun j => by rw [World.var?_cell hg0 hv0 j]; simp) Tryd.underlying124 (by kernel_rfl) Tryd.underlying123 (by kernel_rfl) Tryd.underlying116 Tryd.underlying3 (by kernel_rfl) Tryd.underlying4 Tryd.underlying4 Tryd.underlying4 hd0
  · exact fieldsAt_of (cs := cs1.toList) (fun j => by rw [World.var?_cell hg1 hv1 j]; simp) hd1
section
variable {H : Type} {enc : TypeId × Value → H} {w : World} {spare : Nat → Bool} {held : Bool} {fuel : Nat} {cs : List Value} {x : DataW H × List MemPlace}
theorem openT (h : DataW.trod enc Tryd.prog w 0 spare held fuel 26 cs = some x) : ∃ v l, cs = [v] ∧ TermV w v l :=
  open_termV Tryd.underlying26 Tryd.underlying51 (by kernel_rfl) (by kernel_rfl) Tryd.underlying3 Tryd.underlying3 Tryd.underlying3 Tryd.underlying9 h
theorem openTs (h : DataW.trod enc Tryd.prog w 0 spare held fuel 40 cs = some x) : ∃ v l, cs = [v] ∧ TermsV w v l :=
  open_listV Tryd.underlying40 (by kernel_rfl) (fun _ _ _ hx => openT hx) h
theorem openC (h : DataW.trod enc Tryd.prog w 0 spare held fuel 27 cs = some x) : ∃ v l, cs = [v] ∧ ConsV w v l :=
  open_listV Tryd.underlying27 (by kernel_rfl) (fun _ _ _ hx => openTs hx) h
theorem openD (h : DataW.trod enc Tryd.prog w 0 spare held fuel 22 cs = some x) : ∃ (p : Option Addr) (c : Nat) (ds : List Dc), cs = [.slice p ds.length c] ∧ ds.length ≤ c ∧ (p = none → c = 0) ∧ RowsV 6 DcRow w p ds :=
  open_rows Tryd.underlying22 (by kernel_rfl) (by decide) (fun _ _ _ hcl hx => open_dcRow (tT := 0) (tTs := 0) (tC := 0) Tryd.underlying29 (by kernel_rfl) (by kernel_rfl) Tryd.underlying3 Tryd.underlying3 Tryd.underlying9 (fun _ _ _ h => openT h) (fun _ _ _ h => openT h) (fun _ _ _ h => openC h) hcl hx) h
theorem staysD {W : World} {t : TypeId} {v : Value} {d : DataW H} {ps : List MemPlace} (hr : Tryd.prog.readableRec t = true) (hrow : t < Tryd.prog.types.size) (hU : Under W w) (tp : Nat → Question → Nat)
    (hlt : ∀ p ∈ ps, p.block < W.heap.size) (h : DataW.Trod enc Tryd.prog W 0 (fun _ => true) true t v d ps) : DataW.Trod enc Tryd.prog { w with tape := tp } 0 (fun b => decide (b < W.heap.size)) true t v d ps := by
  refine Go.WideElems.Trod_stays Tryd.laidOut hr hrow h (fun p hp => ?_) (fun p hp => by simpa using hlt p hp)
  have hb := hlt p hp
  cases p with
  | cell b off => exact under_cell hU hb off
  | map b => exact hU.low b hb
end
theorem below_ofD {W w : World} (h : Under W w) : Below W.heap.size W { w with tape := W.tape } := ⟨h.os, rfl, h.output, h.size, fun b hb => h.low b hb⟩
theorem shut_boolD {H : Type} {enc : TypeId × Value → H} {W : World} {base : Nat} {sp : Nat → Bool} {held : Bool} (b : Bool) : DataW.Trod enc Tryd.prog W base sp held 4 (.bool b) (.lit (.bool b)) [] := ⟨1, by simp [DataW.trod, Value.cells, Tryd.underlying4]⟩
set_option maxRecDepth 100000 in
theorem lifted (os : Os) (started : os.Started) (H : Type) (enc : TypeId × Value → H) :
    ReturnsInHanded {} Tryd.checked os 3 .any (fun w args => (Rows.replayDigestsSpec.pre enc Tryd.prog Tryd.f3 [] false w args ∧ laidMetH Tryd.prog laidL w) ∧ sizedMet enc Tryd.prog Tryd.f3 (OpenSpec.ofChange Rows.replayDigestsSpec) false w args)
      (Rows.replayDigestsSpec.post enc Tryd.prog Tryd.f3 false true false false) := by
  refine returnsInHanded_of_change_and (C := Tryd.checked) (X := fun w _ => laidMetH Tryd.prog laidL w) (fun _ _ _ hh h => h.of_heap hh) Tryd.own started (by kernel_rfl) Tryd.func3
    (ChangeSpec.witness_shaped (enc := enc) (C := Tryd.checked) (os := os) (X := fun w _ => laidMetH Tryd.prog laidL w) false (World.doorLaid Tryd.prog 400 os) #[.slice none 0 0] 8 rfl (World.shaped_of_RefB (by kernel_rfl) (by kernel_rfl)) (by kernel_rfl) (by kernel_rfl) (by kernel_rfl) (door_met os _)) ?_
  intro W base args ds gs before hval0 hW _ _ hL _
  have hval : ∀ (j : Nat) t v, Tryd.f3.params[j]? = some t → args[j]? = some v → Value.okWide Tryd.prog W .any base t v := hval0
  have hW' := hW
  obtain ⟨p, q, hA0, hV, rfl, _, _⟩ := hW
  have hA : DataW.TrodAll enc Tryd.prog W 0 (fun _ => true) true Tryd.f3.params.toList args.toList ds p := hA0
  rw [Tryd.params3] at hA hval
  have hlt := hA.lt
  obtain ⟨v0, d0, rfl, rfl, h0⟩ := trodAll_one hA
  obtain ⟨rfl, rfl⟩ := trodVars_none hV
  obtain ⟨pv, len, capv, rfl⟩ := okWide_slice Tryd.underlying22 (hval 0 22 v0 rfl rfl)
  have h0' := h0
  obtain ⟨fuel, hf⟩ := h0'
  obtain ⟨pa, ca, la, hcs, hca, hza, ha⟩ := openD hf
  simp only [Value.cells, List.cons.injEq, and_true, Value.slice.injEq] at hcs
  obtain ⟨rfl, rfl, rfl⟩ := hcs
  obtain ⟨hS, hF⟩ := of_laid hL
  refine (law_any ha hS hF).mono ?_
  rintro e W' ⟨rfl, hU⟩
  refine ⟨_, rfl, ChangeSpec.post_alike (W'' := { W' with tape := W.tape }) ?_ ⟨rfl, rfl, rfl⟩⟩
  have hb := below_ofD hU
  refine ⟨_, _, _, [], p, [], hW', ?_, ?_, rfl, hb.frame _, fun h => by cases h⟩
  · exact trodAll_mk1 (shut_boolD true)
  · exact trodAll_mk1 (staysD (by kernel_rfl) (by decide +kernel) hU _ hlt h0)
theorem replayDigests_holds : Rows.ReplayDigestsSaid :=
  OpenClaim.holds_of_wide 3 Tryd.f3 rfl rfl rfl rfl rfl rfl rfl ⟨rfl, rfl, rfl, rfl, rfl⟩ rfl rfl rfl rfl rfl (by kernel_rfl) Tryd.func3 (by kernel_rfl)
    (of_decide_eq_true (by kernel_rfl)) (by unfold Func.isWrapper; first | (rw [if_pos (by decide +kernel)]; kernel_rfl) | (rw [if_neg (by decide +kernel)]; exact ⟨rfl, rfl⟩))
    (fun os started H enc _ => lifted os started H enc)
end Go.Proofs.YtiibknlpeodejaaDoor
