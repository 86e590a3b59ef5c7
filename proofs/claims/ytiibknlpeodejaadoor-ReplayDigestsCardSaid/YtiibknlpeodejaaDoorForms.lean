/- scope.forms, scope.alone: the tables that they make. -/
import Derived.Test.YtiibknlpeodejaaDoorTName
import Derived.Test.YtiibknlpeodejaaDoorLxM
import Derived.Carry
import Derived.LoopN
set_option linter.unusedSimpArgs false
set_option linter.unusedVariables false
namespace Go.Proofs.YtiibknlpeodejaaDoor
open Go.Lx Go.RowKit

def nodeV (k n : Int) : Value := .agg #[.int .i64 k, .int .i64 n, .int .i64 0, .string ⟨#[]⟩]
def formV (k n : Int) (s : List UInt8) : Value := .agg #[.int .i64 k, .int .i64 n, .int .i64 0, .string ⟨#[]⟩, .string ⟨s.toArray⟩]
def aloneL : Assoc := [(⟨#[80, 114, 111, 112]⟩, nodeV 2 0), (⟨#[78, 97, 116]⟩, nodeV 10 0), (⟨#[122, 101, 114, 111]⟩, nodeV 11 0), (⟨#[69, 109, 112, 116, 121]⟩, nodeV 14 0), (⟨#[85, 110, 105, 116]⟩, nodeV 16 0), (⟨#[115, 116, 97, 114]⟩, nodeV 17 0), (⟨#[116, 105, 99, 107]⟩, nodeV 29 0)]
section
variable {w0 : World}
set_option maxRecDepth 100000 in
set_option maxHeartbeats 1000000 in
theorem alone_any : Calls Tryd.prog 47 #[] w0 fun e w => e = .returned (.map (some w0.heap.size)) ∧ MapAt w w0.heap.size aloneL ∧ Under w0 w := by
  have hmm := @run_makeMap Tryd.prog
  have hM := map_new w0
  have hU := under_alloc (Under.refl w0) (.map #[] 0)
  go_enter Tryd.func47, Tryd.ntmps47
  go_wp2_with (refine wpList_insert_map rfl _ _ _ (.inl rfl) Tryd.underlying100 Tryd.underlying9 rfl hM rfl rfl ?_; intro w1 hM1 hT1; replace hU := hT1.under hU (Nat.le_refl _); replace hM := hM1; clear hM1 hT1)
  go_ret
  exact ⟨rfl, hM, hU⟩
/-- The first forms of keywords; the ends of the others; what a round adds. -/
def forms20 : Assoc := [(⟨#[84, 121, 112, 101]⟩, formV 2 0 [110]), (⟨#[108, 97, 109]⟩, formV 4 0 [119, 46, 46]), (⟨#[97, 112, 112]⟩, formV 5 0 [46, 46]), (⟨#[112, 97, 105, 114]⟩, formV 7 0 [46, 46, 46]), (⟨#[102, 115, 116]⟩, formV 8 0 [46]), (⟨#[115, 110, 100]⟩, formV 9 0 [46]), (⟨#[115, 117, 99]⟩, formV 12 0 [46]), (⟨#[112, 114, 102]⟩, formV 28 0 [46]), (⟨#[114, 101, 99]⟩, formV 13 0 [118, 46, 46, 118, 118, 46, 46]), (⟨#[97, 98, 111, 114, 116]⟩, formV 15 0 [46, 46]), (⟨#[101, 113]⟩, formV 18 0 [46, 46, 46]), (⟨#[114, 101, 102, 108]⟩, formV 19 0 [46, 46]), (⟨#[99, 97, 115, 116]⟩, formV 20 0 [46, 46, 46, 46]), (⟨#[116, 114, 97, 110, 115, 112]⟩, formV 21 0 [46, 46, 118, 46, 46, 46, 46]), (⟨#[113, 117, 111, 116]⟩, formV 22 0 [46, 118, 118, 46, 46, 46, 46]), (⟨#[99, 108, 97, 115, 115]⟩, formV 23 0 [46, 46]), (⟨#[113, 101, 108, 105, 109]⟩, formV 24 0 [46, 118, 46, 46, 46]), (⟨#[100, 97, 116, 97]⟩, formV 25 0 [100]), (⟨#[99, 111, 110]⟩, formV 26 0 [100, 110, 42]), (⟨#[101, 108, 105, 109]⟩, formV 27 0 [100, 118, 46, 42, 46])]
def sfx : List ByteArray := [⟨#[]⟩, ⟨#[49]⟩, ⟨#[50]⟩, ⟨#[51]⟩]
def addPi (ks : Assoc) (j : Nat) : Assoc := mput (mput ks (⟨#[112, 105]⟩ ++ sfx.getD j ⟨#[]⟩) (formV 3 j [119, 46, 46])) (⟨#[115, 105, 103]⟩ ++ sfx.getD j ⟨#[]⟩) (formV 6 j [119, 46, 46])
def formsTo : Nat → Assoc
  | 0 => forms20
  | j + 1 => addPi (formsTo j) j
def formsL : Assoc := formsTo 4
noncomputable def fmText : Code := Tryd.f46.body.getD .skip
noncomputable def fmLoop : Code := fstOf (sndOf (sndOf fmText))
noncomputable def fmRound : Code := inOf (inOf (sndOf fmLoop))
def fmFrame (m b : Nat) (j : Nat) (J : Nat → Value) : Array Value := #[J 0, .map (some m), J 2, J 3, J 4, J 5, J 6, J 7, J 8, J 9, J 10, J 11, J 12, J 13, J 14, J 15, J 16, J 17, J 18, J 19, J 20, J 21, J 22, J 23, J 24, J 25, J 26, J 27, J 28, J 29, J 30, J 31, J 32, J 33, J 34, J 35, J 36, J 37, J 38, J 39, J 40, J 41, J 42, J 43, J 44, J 45, .slice (some ⟨b, 0, none⟩) 4 4, .int .i64 4, .int .i64 (j : Int), J 49, J 50, J 51, J 52, J 53, J 54, J 55, J 56, J 57, J 58, J 59, J 60, J 61, J 62, J 63, J 64, J 65, J 66]
def FmI (w0 : World) (b j : Nat) (a : Act) (w : World) : Prop := ∃ J, a = ⟨fmFrame w0.heap.size b j J, []⟩ ∧ MapAt w w0.heap.size (formsTo j) ∧ BoxAt w b 9 #[.string ⟨#[]⟩, .string ⟨#[49]⟩, .string ⟨#[50]⟩, .string ⟨#[51]⟩] ∧ Under w0 w
def FmD (w0 : World) (b : Nat) (e : Exit) (a : Act) (w : World) : Prop := e = .exit 0 ∧ FmI w0 b 4 a w
set_option maxRecDepth 100000 in
theorem fm_done {b : Nat} (J : Nat → Value) (w : World) (hM : MapAt w w0.heap.size (formsTo 4)) (hB : BoxAt w b 9 #[.string ⟨#[]⟩, .string ⟨#[49]⟩, .string ⟨#[50]⟩, .string ⟨#[51]⟩]) (hU : Under w0 w) :
    fmRound.wp Tryd.prog (Exit.then (fun _ _ => False) (FmD w0 b)) ⟨fmFrame w0.heap.size b 4 J, []⟩ w := by
  have HM := Lib.hid hM
  have HB := Lib.hid hB
  have HU := Lib.hid hU
  clear hM hB hU
  unfold fmRound fmLoop fmText
  simp only [Tryd.f46, Option.getD_some, fstOf, sndOf, inOf]
  unfold fmFrame
  go_wp2
  exact ⟨rfl, frame_ex (F := fmFrame _ b 4) (by rfl) ⟨HM.out, HB.out, HU.out⟩⟩
set_option maxRecDepth 100000 in
set_option maxHeartbeats 1000000 in
theorem fm_one {b j : Nat} (hj : j < 4) (J : Nat → Value) (w : World) (hM : MapAt w w0.heap.size (formsTo j)) (hB : BoxAt w b 9 #[.string ⟨#[]⟩, .string ⟨#[49]⟩, .string ⟨#[50]⟩, .string ⟨#[51]⟩]) (hbm : b ≠ w0.heap.size) (hU : Under w0 w) :
    fmRound.wp Tryd.prog (Exit.then (FmI w0 b (j + 1)) (fun _ _ _ => False)) ⟨fmFrame w0.heap.size b j J, []⟩ w := by
  have hc : w.cell? ⟨b, j, none⟩ = some (.string (sfx.getD j ⟨#[]⟩)) := by
    rw [hB.cell]
    match j, hj with
    | 0, _ => rfl
    | 1, _ => rfl
    | 2, _ => rfl
    | 3, _ => rfl
  have hlt := hB.lt
  have HB := Lib.hid hB
  have hj1 : (j : Int) < 4 := by omega
  have hj0 : (0 : Int) ≤ j := Int.natCast_nonneg _
  have hz : (sfx.getD j ⟨#[]⟩).size ≤ 1 := by
    match j, hj with
    | 0, _ => decide
    | 1, _ => decide
    | 2, _ => decide
    | 3, _ => decide
  clear hB
  generalize hs : sfx.getD j ⟨#[]⟩ = s at *
  have hf : formsTo (j + 1) = mput (mput (formsTo j) (⟨#[112, 105]⟩ ++ s) (formV 3 j [119, 46, 46])) (⟨#[115, 105, 103]⟩ ++ s) (formV 6 j [119, 46, 46]) := by
    show addPi (formsTo j) j = _
    unfold addPi
    rw [hs]
  have HF := Lib.hid hf
  clear hf hs
  unfold fmRound fmLoop fmText
  simp only [Tryd.f46, Option.getD_some, fstOf, sndOf, inOf]
  unfold fmFrame
  go_wp2_with (refine wpList_insert_map rfl _ _ _ (.inr rfl) Tryd.underlying98 Tryd.underlying9 rfl hM rfl rfl ?_; intro w1 hM1 hT1; replace hU := hT1.under hU (Nat.le_refl _); replace hM := hM1; replace HB := Lib.hid (HB.out.turned hT1 (fun e => hbm (Option.some.inj e))); try clear hc; clear hT1 hM1)
  refine frame_ex (F := fmFrame _ b (j + 1)) (by rfl) ⟨?_, HB.out, hU⟩
  rw [HF.out]
  exact hM
theorem fm_rounds {b : Nat} (hbm : b ≠ w0.heap.size) (m : Nat) (a : Act) (w : World) (h0 : ∃ j, m + j = 4 ∧ FmI w0 b j a w) : (Code.loop fmRound).wp Tryd.prog (FmD w0 b) a w := by
  refine wp_loop_ghost (fun m a w => ∃ j, m + j = 4 ∧ FmI w0 b j a w) m h0 ?_
  clear h0
  rintro m a w ⟨j, hmj, J, rfl, hM, hB, hU⟩
  by_cases h4 : j = 4
  · subst h4
    refine wp_mono (fm_done J w hM hB hU) ?_
    rintro e a' w' h
    cases e with
    | normal => exact h.elim
    | _ => exact h
  · refine wp_mono (fm_one (by omega) J w hM hB hbm hU) ?_
    rintro e a' w' h
    cases e with
    | normal => exact ⟨m - 1, by omega, j + 1, by omega, h⟩
    | _ => exact h.elim
end
end Go.Proofs.YtiibknlpeodejaaDoor
