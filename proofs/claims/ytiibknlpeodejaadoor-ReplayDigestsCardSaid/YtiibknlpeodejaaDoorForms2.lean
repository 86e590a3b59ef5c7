/- scope.forms: its table. -/
import Derived.Test.YtiibknlpeodejaaDoorForms
set_option linter.unusedSimpArgs false
set_option linter.unusedVariables false
namespace Go.Proofs.YtiibknlpeodejaaDoor
open Go.Lx Go.RowKit
section
variable {w0 : World}
set_option maxRecDepth 100000 in
set_option maxHeartbeats 2000000 in
theorem forms_any : Calls Tryd.prog 46 #[] w0 fun e w => e = .returned (.map (some w0.heap.size)) ∧ MapAt w w0.heap.size formsL ∧ Under w0 w := by
  have hmm := @run_makeMap Tryd.prog
  have hM := map_new w0
  have hU := under_alloc (Under.refl w0) (.map #[] 0)
  go_enter Tryd.func46, Tryd.ntmps46
  go_wp2_with (refine wpList_insert_map rfl _ _ _ (.inl rfl) Tryd.underlying98 Tryd.underlying9 rfl hM rfl rfl ?_; intro w1 hM1 hT1; replace hU := hT1.under hU (Nat.le_refl _); replace hM := hM1; clear hM1 hT1)
  rename_i w1 K hK
  have hM20 : MapAt w1 w0.heap.size forms20 := hM.cast (by kernel_rfl)
  have hB := box_new w1 #[.string ⟨#[]⟩, .string ⟨#[49]⟩, .string ⟨#[50]⟩, .string ⟨#[51]⟩] 9
  have hU1 := under_alloc (Under.refl w1) (.cells #[.string ⟨#[]⟩, .string ⟨#[49]⟩, .string ⟨#[50]⟩, .string ⟨#[51]⟩] 9)
  refine wp_mono (fm_rounds (by have := hM.lt; omega) 4 _ _ ⟨0, rfl, frame_ex (F := fmFrame _ w1.heap.size 0) (by rfl) ⟨hM20.under hU1, hB, hU.trans hU1⟩⟩) ?_
  rintro e a' w' ⟨rfl, J, rfl, hM4, _, hU4⟩
  simp only [Exit.inBlock, if_pos, Exit.then]
  refine hK _ _ ?_
  have HM4 := Lib.hid hM4
  have HU4 := Lib.hid hU4
  clear hK hM hU hM20 hB hU1 hM4 hU4
  unfold fmFrame
  go_wp2
  go_ret
  exact ⟨rfl, HM4.out, HU4.out⟩
end
end Go.Proofs.YtiibknlpeodejaaDoor
