/- term.measured: the outer rounds. -/
import Derived.Test.YtiibknlpeodejaaDoorTMeas
set_option linter.unusedSimpArgs false
set_option linter.unusedVariables false
namespace Go.Proofs.YtiibknlpeodejaaDoor
open Go.Lx Go.RowKit

section
variable {w0 : World} {t : List Nd} {b off c n k : Nat} {va vo : Value} {all op : List (Nat × Nat)}
def MNext (w0 : World) (t : List Nd) (l : Value) (n k : Nat) (a : Act) (w : World) : Prop := ∃ va vo all op J, a = ⟨msFrame l va vo n k J, []⟩ ∧ MI w0 t va vo k all op w
def msEnd (v : Value) (b : Bool) (J : Nat → Value) : Array Value := #[J 0, J 1, v, .bool b, J 4, J 5, J 6, J 7, J 8, J 9, J 10, J 11, J 12, J 13, J 14, J 15, J 16, J 17, J 18, J 19, J 20, J 21, J 22, J 23, J 24, J 25, J 26, J 27, J 28, J 29, J 30, J 31, J 32, J 33, J 34, J 35, J 36, J 37, J 38, J 39, J 40, J 41, J 42, J 43, J 44, J 45, J 46, J 47, J 48, J 49, J 50, J 51, J 52, J 53, J 54, J 55, J 56, J 57, J 58, J 59, J 60, J 61, J 62, J 63, J 64, J 65, J 66, J 67, J 68, J 69, J 70, J 71, J 72]
def MBad (w0 : World) (e : Exit) (a : Act) (w : World) : Prop := e = .ret ∧ ∃ J, a = ⟨msEnd (.slice none 0 0) false J, []⟩ ∧ Under w0 w
set_option maxRecDepth 100000 in
set_option maxHeartbeats 1000000 in
theorem ms_bad {x : Nd} (hk : k < n) (hn : n ≤ 4000) (hx : t[k]? = some x) (hbad : rightB x = false ∨ op.length < (binds x).length) (J : Nat → Value) (w : World) (hM : MI w0 t va vo k all op w)
    (hR : ∀ w1, Under w0 w1 → Calls Tryd.prog 52 #[ndV x] w1 fun e w' => e = .returned (.bool (rightB x)) ∧ Under w1 w')
    (hN : rightB x = true → ∀ w1, Under w0 w1 → Calls Tryd.prog 53 #[ndV x] w1 fun e w' => e = .returned (.int .i64 ((binds x).length : Nat)) ∧ Under w1 w')
    (hb : b < w0.heap.size) (c0 : w0.cell? ⟨b, off + k * 4, none⟩ = some (.int .i64 x.k)) (c1 : w0.cell? ⟨b, off + k * 4 + 1, none⟩ = some (.int .i64 x.n)) (c2 : w0.cell? ⟨b, off + k * 4 + 2, none⟩ = some (.int .i64 x.m)) (c3 : w0.cell? ⟨b, off + k * 4 + 3, none⟩ = some (.string x.s)) :
    msRound.wp Tryd.prog (Exit.then (fun _ _ => False) (MBad w0)) ⟨msFrame (.slice (some ⟨b, off, none⟩) n c) va vo n k J, []⟩ w := by
  rw [← under_cell hM.low hb] at c0 c1 c2 c3
  have hb' := Nat.lt_of_lt_of_le hb hM.low.size
  obtain ⟨q, co, rfl, _, _⟩ := RowArg.of_own hM.op_
  have HB := Lib.hid (box_new w #[.int .i64 x.k, .int .i64 x.n, .int .i64 x.m, .string x.s] 51)
  have HU := Lib.hid (under_alloc hM.low (.cells #[.int .i64 x.k, .int .i64 x.n, .int .i64 x.m, .string x.s] 51))
  have HC := Lib.hid (hR _ HU.out)
  have hk' : (k : Int) < n := by omega
  have hk0 : (0 : Int) ≤ k := Int.natCast_nonneg _
  have hol : op.length ≤ 4000 := by have := hM.ol; omega
  clear hM hR hk hx
  by_cases hr : rightB x = true
  · have hl : op.length < (binds x).length := by rcases hbad with h | h; · rw [hr] at h; cases h
                                                 · exact h
    have hl' : (op.length : Int) < ((binds x).length : Nat) := by omega
    have HN := Lib.hid (hN hr)
    rw [hr] at HC
    clear hbad hl hr hN
    unfold msRound msLoop msText
    simp only [Tryd.f49, Option.getD_some, fstOf, sndOf, inOf]
    unfold msFrame
    go_wp2_with fail
    refine HC.out.mono ?_
    rintro e w1 ⟨rfl, hU1⟩
    have hB1 := HB.out.under hU1
    have e0 := hB1.cell 0
    have e1 := hB1.cell 1
    have e2 := hB1.cell 2
    have e3 := hB1.cell 3
    have hlt1 := hB1.lt
    have HU1 := Lib.hid hU1
    have HM1 := Lib.hid (HN.out w1 (HU.out.trans hU1))
    clear hU1 hB1
    go_wp2_with fail
    refine HM1.out.mono ?_
    rintro e w2 ⟨rfl, hU2⟩
    have HU2 := Lib.hid hU2
    clear hU2 e0 e1 e2 e3
    go_wp2
    exact ⟨rfl, frame_ex (F := msEnd _ false) (by rfl) ((HU.out.trans HU1.out).trans HU2.out)⟩
  · have hr' : rightB x = false := by simpa using hr
    rw [hr'] at HC
    clear hbad hr hr' hN
    unfold msRound msLoop msText
    simp only [Tryd.f49, Option.getD_some, fstOf, sndOf, inOf]
    unfold msFrame
    go_wp2_with fail
    refine HC.out.mono ?_
    rintro e w1 ⟨rfl, hU1⟩
    have HU1 := Lib.hid hU1
    clear hU1
    go_wp2
    exact ⟨rfl, frame_ex (F := msEnd _ false) (by rfl) (HU.out.trans HU1.out)⟩
def MDone (w0 : World) (t : List Nd) (l : Value) (n : Nat) (e : Exit) (a : Act) (w : World) : Prop := e = .exit 0 ∧ MNext w0 t l n n a w
set_option maxRecDepth 100000 in
theorem ms_done {l : Value} (J : Nat → Value) (w : World) (hM : MI w0 t va vo n all op w) :
    msRound.wp Tryd.prog (Exit.then (fun _ _ => False) (MDone w0 t l n)) ⟨msFrame l va vo n n J, []⟩ w := by
  have HM := Lib.hid hM
  clear hM
  unfold msRound msLoop msText
  simp only [Tryd.f49, Option.getD_some, fstOf, sndOf, inOf]
  unfold msFrame
  go_wp2
  exact ⟨rfl, va, vo, all, op, frame_ex (F := msFrame _ va vo n n) (by rfl) HM.out⟩
end
end Go.Proofs.YtiibknlpeodejaaDoor
