/- decls.Check's last region; the call of first on its steps. Printed by r4.py. -/
import Derived.Test.YtiibknlpeodejaaDoorCons
import Derived.Test.YtiibknlpeodejaaDoorClosed
import Derived.Deep.RegionHeld3
set_option linter.unusedSimpArgs false
set_option linter.unusedVariables false
namespace Go.Proofs.YtiibknlpeodejaaDoor
open Go.Lx Go.RowKit

/-- The last region of decls.Check. -/
noncomputable def r4 : Code := match Tryd.f20.body with
  | some (.seq _ (.seq _ (.seq _ (.seq _ (.seq c _))))) => c
  | _ => .skip
set_option maxHeartbeats 400000 in
theorem first8_any {w1 w2 w3 w4 w5 w6 w7 w8 w9 : World} {v1 v2 v3 v4 v5 v6 v7 v8 : Value} {r1 r2 r3 r4 r5 r6 r7 r8 : Int} {T : TypeId}
    (h1 : StepOk w1 v1 r1) (u1 : Under w1 w2) (u2 : Under w2 w3) (h2 : StepOk w3 v2 r2) (u3 : Under w3 w4) (h3 : StepOk w4 v3 r3) (u4 : Under w4 w5) (h4 : StepOk w5 v4 r4) (u5 : Under w5 w6) (h5 : StepOk w6 v5 r5)
    (u6 : Under w6 w7) (h6 : StepOk w7 v6 r6) (u7 : Under w7 w8) (h7 : StepOk w8 v7 r7) (u8 : Under w8 w9) (h8 : StepOk w9 v8 r8) :
    Calls Tryd.prog 26 #[.slice (some ⟨w9.heap.size, 0, none⟩) 8 8] (w9.alloc (.cells #[v1, v2, v3, v4, v5, v6, v7, v8] T)) fun e w => e = .returned (.int .i64 (firstE [r1, r2, r3, r4, r5, r6, r7, r8])) ∧ Under (w9.alloc (.cells #[v1, v2, v3, v4, v5, v6, v7, v8] T)) w := by
  have hU := under_alloc (Under.refl w9) (.cells #[v1, v2, v3, v4, v5, v6, v7, v8] T)
  have a8 := h8.under hU
  have a7 := h7.under (u8.trans hU)
  have a6 := h6.under (u7.trans (u8.trans hU))
  have a5 := h5.under (u6.trans (u7.trans (u8.trans hU)))
  have a4 := h4.under (u5.trans (u6.trans (u7.trans (u8.trans hU))))
  have a3 := h3.under (u4.trans (u5.trans (u6.trans (u7.trans (u8.trans hU)))))
  have a2 := h2.under (u3.trans (u4.trans (u5.trans (u6.trans (u7.trans (u8.trans hU))))))
  have a1 := h1.under (u1.trans (u2.trans (u3.trans (u4.trans (u5.trans (u6.trans (u7.trans (u8.trans hU))))))))
  refine first_any (w0 := w9.alloc (.cells #[v1, v2, v3, v4, v5, v6, v7, v8] T)) [(v1, r1), (v2, r2), (v3, r3), (v4, r4), (v5, r5), (v6, r6), (v7, r7), (v8, r8)] (c := 8) (by simp) (arg_new w9 [v1, v2, v3, v4, v5, v6, v7, v8] T (0, 0)) fun x hx => ?_
  simp only [List.mem_cons, List.not_mem_nil, or_false] at hx
  rcases hx with rfl | rfl | rfl | rfl | rfl | rfl | rfl | rfl <;> assumption
end Go.Proofs.YtiibknlpeodejaaDoor
