/- Part 16 of what the proof rests on. -/
import Derived.Test.YtkmbmgmfcecfkaaDoorChecked
import Derived.KernelRfl
import Derived.WalkKit
import Derived.Tactics
import Derived.LoopTactic
import Derived.OwnWalk
import Derived.Maps.AppendAt
import Derived.Deep.QuietTactic
import Derived.BigQuiet
import Derived.Deep.LoopGhost
import Derived.Lib.Hide
import Derived.Outline
import Derived.Carry
import Derived.LoopN
import Derived.Deep.RegionHeld3
import Derived.Lib.Bytealg
import Derived.Laws.Externs
import Derived.Test.YtkmbmgmfcecfkaaDoorK00
import Derived.Test.YtkmbmgmfcecfkaaDoorK01
import Derived.Test.YtkmbmgmfcecfkaaDoorK08
set_option linter.unusedSimpArgs false
set_option linter.unusedVariables false
namespace Go.Proofs.YtkmbmgmfcecfkaaDoor
open Go.Lx Go.RowKit
theorem nameFrom_drop {l : List UInt8} {k : Nat} {c : UInt8} (h : l[k]? = some c) : nameFrom k (l.drop k) = (okB k c && nameFrom (k + 1) (l.drop (k + 1))) := by
  obtain ⟨hk, hc⟩ := List.getElem?_eq_some_iff.1 h
  rw [List.drop_eq_getElem_cons hk, hc]
  rfl
theorem ret_bool {a b : Bool} (h : a = b) : Ending.returned (.bool a) = .returned (.bool b) := by rw [h]
theorem ret_int {k : IntKind} {a b : Int} (h : a = b) : Ending.returned (.int k a) = .returned (.int k b) := by rw [h]
theorem name_stop {s : ByteArray} {k : Nat} {b : Bool} (h1 : Hid (nameFrom 0 s.data.toList = nameFrom k (s.data.toList.drop k))) (h2 : Hid (nameFrom k (s.data.toList.drop k) = (b && nameFrom (k + 1) (s.data.toList.drop (k + 1))))) (h : b = false) : false = nameB s := by
  unfold nameB; rw [h1.out, h2.out, h]; rfl
theorem name_go {s : ByteArray} {k : Nat} {b : Bool} (h1 : Hid (nameFrom 0 s.data.toList = nameFrom k (s.data.toList.drop k))) (h2 : Hid (nameFrom k (s.data.toList.drop k) = (b && nameFrom (k + 1) (s.data.toList.drop (k + 1))))) (h : b = true) : nameFrom 0 s.data.toList = nameFrom (k + 1) (s.data.toList.drop (k + 1)) := by
  rw [h1.out, h2.out, h]; rfl
theorem name_end {s : ByteArray} {k : Nat} (h1 : Hid (nameFrom 0 s.data.toList = nameFrom k (s.data.toList.drop k))) (hk : ¬ k < s.size) : nameB s = (!s.toList.isEmpty && decide ((s.size : Int) ≤ 16)) := by
  unfold nameB
  rw [h1.out, List.drop_eq_nil_of_le (by simp [← ByteArray.size_data] at hk ⊢; omega), ByteArray.toList_eq]
  have e1 : decide (s.size ≠ 0) = !s.data.toList.isEmpty := by
    rw [← ByteArray.size_data]
    cases h : s.data.toList with
    | nil => simp [← Array.length_toList, h]
    | cons a b => simp [← Array.length_toList, h]
  have e2 : decide (s.size ≤ 16) = decide ((s.size : Int) ≤ 16) := by rw [Bool.eq_iff_iff]; simp; omega
  rw [e1, e2]
  simp [nameFrom]
set_option maxRecDepth 100000 in
set_option maxHeartbeats 1000000 in
theorem name_any (s : ByteArray) (w : World) (hs : s.size ≤ maxLen) : Calls Tryd.prog 39 #[.string s] w fun e w' => e = .returned (.bool (nameB s)) ∧ w = w' := by
  unfold maxLen at hs
  go_enter Tryd.func39, Tryd.ntmps39
  go_wp2
  go_loop [8] (fun i => ∃ k : Nat, k ≤ s.size ∧ i = .int .i64 k ∧ nameFrom 0 s.data.toList = nameFrom k (s.data.toList.drop k)) (fun i => s.size - (intOf i).toNat)
  case atStart => exact ⟨0, Nat.zero_le _, rfl, by simp⟩
  case round =>
    obtain ⟨k, hk, rfl, hN⟩ := hrel
    have HN := Lib.hid hN
    clear hN
    by_cases hlt : k < s.size
    · have hc := nameFrom_drop (l := s.data.toList) (k := k) (c := s[k]) (by rw [List.getElem?_eq_getElem (by simpa using hlt)]; rfl)
      have HC := Lib.hid hc
      clear hc
      by_cases hz : k = 0
      · subst hz
        go_wp2
        all_goals try (go_round
                       case measure => simp [intOf]; omega)
        all_goals first
          | exact ⟨1, by omega, rfl, name_go HN HC (by unfold okB ltrB digB lowC; simp at *; omega)⟩
          | (exact ⟨1, by omega, rfl, name_go HN HC (by unfold okB ltrB digB lowC; simp [*])⟩)
          | (go_ret; exact ⟨ret_bool (name_stop HN HC (by unfold okB ltrB digB lowC; simp at *; omega)), rfl⟩)
      · have hz' : (0 : Int) < k := by omega
        clear hz
        go_wp2
        all_goals try (go_round
                       case measure => simp [intOf]; omega)
        all_goals first
          | exact ⟨k + 1, by omega, by go_num, name_go HN HC (by unfold okB ltrB digB lowC; simp at *; omega)⟩
          | (go_ret; exact ⟨ret_bool (name_stop HN HC (by unfold okB ltrB digB lowC; simp at *; omega)), rfl⟩)
    · have he := name_end HN hlt
      have HE := Lib.hid he
      clear he
      go_wp2
      all_goals
        go_ret
        exact ⟨by rw [HE.out]; simp [*], rfl⟩
end Go.Proofs.YtkmbmgmfcecfkaaDoor
namespace Go.Proofs.YtkmbmgmfcecfkaaDoor
open Go.Lx Go.RowKit
def nodeV (k n : Int) : Value := .agg #[.int .i64 k, .int .i64 n, .int .i64 0, .string ⟨#[]⟩]
def formV (k n : Int) (s : List UInt8) : Value := .agg #[.int .i64 k, .int .i64 n, .int .i64 0, .string ⟨#[]⟩, .string ⟨s.toArray⟩]
def aloneL : Assoc := [(⟨#[80, 114, 111, 112]⟩, nodeV 2 0), (⟨#[78, 97, 116]⟩, nodeV 10 0), (⟨#[122, 101, 114, 111]⟩, nodeV 11 0), (⟨#[69, 109, 112, 116, 121]⟩, nodeV 14 0), (⟨#[85, 110, 105, 116]⟩, nodeV 16 0), (⟨#[115, 116, 97, 114]⟩, nodeV 17 0), (⟨#[116, 105, 99, 107]⟩, nodeV 29 0)]
section
variable {w0 : World}
set_option maxRecDepth 100000 in
set_option maxHeartbeats 1000000 in
theorem alone_any : Calls Tryd.prog 16 #[] w0 fun e w => e = .returned (.map (some w0.heap.size)) ∧ MapAt w w0.heap.size aloneL ∧ Under w0 w := by
  have hmm := @run_makeMap Tryd.prog
  have hM := map_new w0
  have hU := under_alloc (Under.refl w0) (.map #[] 0)
  go_enter Tryd.func16, Tryd.ntmps16
  go_wp2_with (refine wpList_insert_map rfl _ _ _ (.inl rfl) Tryd.underlying45 Tryd.underlying9 rfl hM rfl rfl ?_; intro w1 hM1 hT1; replace hU := hT1.under hU (Nat.le_refl _); replace hM := hM1; clear hM1 hT1)
  go_ret
  exact ⟨rfl, hM, hU⟩
def forms20 : Assoc := [(⟨#[84, 121, 112, 101]⟩, formV 2 0 [110]), (⟨#[108, 97, 109]⟩, formV 4 0 [119, 46, 46]), (⟨#[97, 112, 112]⟩, formV 5 0 [46, 46]), (⟨#[112, 97, 105, 114]⟩, formV 7 0 [46, 46, 46]), (⟨#[102, 115, 116]⟩, formV 8 0 [46]), (⟨#[115, 110, 100]⟩, formV 9 0 [46]), (⟨#[115, 117, 99]⟩, formV 12 0 [46]), (⟨#[112, 114, 102]⟩, formV 28 0 [46]), (⟨#[114, 101, 99]⟩, formV 13 0 [118, 46, 46, 118, 118, 46, 46]), (⟨#[97, 98, 111, 114, 116]⟩, formV 15 0 [46, 46]), (⟨#[101, 113]⟩, formV 18 0 [46, 46, 46]), (⟨#[114, 101, 102, 108]⟩, formV 19 0 [46, 46]), (⟨#[99, 97, 115, 116]⟩, formV 20 0 [46, 46, 46, 46]), (⟨#[116, 114, 97, 110, 115, 112]⟩, formV 21 0 [46, 46, 118, 46, 46, 46, 46]), (⟨#[113, 117, 111, 116]⟩, formV 22 0 [46, 118, 118, 46, 46, 46, 46]), (⟨#[99, 108, 97, 115, 115]⟩, formV 23 0 [46, 46]), (⟨#[113, 101, 108, 105, 109]⟩, formV 24 0 [46, 118, 46, 46, 46]), (⟨#[100, 97, 116, 97]⟩, formV 25 0 [100]), (⟨#[99, 111, 110]⟩, formV 26 0 [100, 110, 42]), (⟨#[101, 108, 105, 109]⟩, formV 27 0 [100, 118, 46, 42, 46])]
def sfx : List ByteArray := [⟨#[]⟩, ⟨#[49]⟩, ⟨#[50]⟩, ⟨#[51]⟩]
def addPi (ks : Assoc) (j : Nat) : Assoc := mput (mput ks (⟨#[112, 105]⟩ ++ sfx.getD j ⟨#[]⟩) (formV 3 j [119, 46, 46])) (⟨#[115, 105, 103]⟩ ++ sfx.getD j ⟨#[]⟩) (formV 6 j [119, 46, 46])
def formsTo : Nat → Assoc
  | 0 => forms20
  | j + 1 => addPi (formsTo j) j
def formsL : Assoc := formsTo 4
noncomputable def fmText : Code := Tryd.f15.body.getD .skip
noncomputable def fmLoop : Code := fstOf (sndOf (sndOf fmText))
noncomputable def fmRound : Code := inOf (inOf (sndOf fmLoop))
def fmFrame (m b : Nat) (j : Nat) (J : Nat → Value) : Array Value := #[J 0, .map (some m), J 2, J 3, J 4, J 5, J 6, J 7, J 8, J 9, J 10, J 11, J 12, J 13, J 14, J 15, J 16, J 17, J 18, J 19, J 20, J 21, J 22, J 23, J 24, J 25, J 26, J 27, J 28, J 29, J 30, J 31, J 32, J 33, J 34, J 35, J 36, J 37, J 38, J 39, J 40, J 41, J 42, J 43, J 44, J 45, .slice (some ⟨b, 0, none⟩) 4 4, .int .i64 4, .int .i64 (j : Int), J 49, J 50, J 51, J 52, J 53, J 54, J 55, J 56, J 57, J 58, J 59, J 60, J 61, J 62, J 63, J 64, J 65, J 66]
def FmI (w0 : World) (b j : Nat) (a : Act) (w : World) : Prop := ∃ J, a = ⟨fmFrame w0.heap.size b j J, []⟩ ∧ MapAt w w0.heap.size (formsTo j) ∧ BoxAt w b 9 #[.string ⟨#[]⟩, .string ⟨#[49]⟩, .string ⟨#[50]⟩, .string ⟨#[51]⟩] ∧ Under w0 w
def FmD (w0 : World) (b : Nat) (e : Exit) (a : Act) (w : World) : Prop := e = .exit 0 ∧ FmI w0 b 4 a w
set_option maxRecDepth 100000 in
theorem fm_done {b : Nat} (J : Nat → Value) (w : World) (hM : MapAt w w0.heap.size (formsTo 4)) (hB : BoxAt w b 9 #[.string ⟨#[]⟩, .string ⟨#[49]⟩, .string ⟨#[50]⟩, .string ⟨#[51]⟩]) (hU : Under w0 w) :
    fmRound.wp Tryd.prog (Exit.then (fun _ _ => False) (FmD w0 b)) ⟨fmFrame w0.heap.size b 4 J, []⟩ w := by
  have HM := Lib.hid hM
  have HB := Lib.hid hB
  have HU := Lib.hid hU
  clear hM hB hU
  unfold fmRound fmLoop fmText
  simp only [Tryd.f15, Option.getD_some, fstOf, sndOf, inOf]
  unfold fmFrame
  go_wp2
  exact ⟨rfl, frame_ex (F := fmFrame _ b 4) (by rfl) ⟨HM.out, HB.out, HU.out⟩⟩
set_option maxRecDepth 100000 in
set_option maxHeartbeats 1000000 in
theorem fm_one {b j : Nat} (hj : j < 4) (J : Nat → Value) (w : World) (hM : MapAt w w0.heap.size (formsTo j)) (hB : BoxAt w b 9 #[.string ⟨#[]⟩, .string ⟨#[49]⟩, .string ⟨#[50]⟩, .string ⟨#[51]⟩]) (hbm : b ≠ w0.heap.size) (hU : Under w0 w) :
    fmRound.wp Tryd.prog (Exit.then (FmI w0 b (j + 1)) (fun _ _ _ => False)) ⟨fmFrame w0.heap.size b j J, []⟩ w := by
  have hc : w.cell? ⟨b, j, none⟩ = some (.string (sfx.getD j ⟨#[]⟩)) := by
    rw [hB.cell]
    match j, hj with
    | 0, _ => rfl
    | 1, _ => rfl
    | 2, _ => rfl
    | 3, _ => rfl
  have hlt := hB.lt
  have HB := Lib.hid hB
  have hj1 : (j : Int) < 4 := by omega
  have hj0 : (0 : Int) ≤ j := Int.natCast_nonneg _
  have hz : (sfx.getD j ⟨#[]⟩).size ≤ 1 := by
    match j, hj with
    | 0, _ => decide
    | 1, _ => decide
    | 2, _ => decide
    | 3, _ => decide
  clear hB
  generalize hs : sfx.getD j ⟨#[]⟩ = s at *
  have hf : formsTo (j + 1) = mput (mput (formsTo j) (⟨#[112, 105]⟩ ++ s) (formV 3 j [119, 46, 46])) (⟨#[115, 105, 103]⟩ ++ s) (formV 6 j [119, 46, 46]) := by
    show addPi (formsTo j) j = _
    unfold addPi
    rw [hs]
  have HF := Lib.hid hf
  clear hf hs
  unfold fmRound fmLoop fmText
  simp only [Tryd.f15, Option.getD_some, fstOf, sndOf, inOf]
  unfold fmFrame
  go_wp2_with (refine wpList_insert_map rfl _ _ _ (.inr rfl) Tryd.underlying43 Tryd.underlying9 rfl hM rfl rfl ?_; intro w1 hM1 hT1; replace hU := hT1.under hU (Nat.le_refl _); replace hM := hM1; replace HB := Lib.hid (HB.out.turned hT1 (fun e => hbm (Option.some.inj e))); try clear hc; clear hT1 hM1)
  refine frame_ex (F := fmFrame _ b (j + 1)) (by rfl) ⟨?_, HB.out, hU⟩
  rw [HF.out]
  exact hM
theorem fm_rounds {b : Nat} (hbm : b ≠ w0.heap.size) (m : Nat) (a : Act) (w : World) (h0 : ∃ j, m + j = 4 ∧ FmI w0 b j a w) : (Code.loop fmRound).wp Tryd.prog (FmD w0 b) a w := by
  refine wp_loop_ghost (fun m a w => ∃ j, m + j = 4 ∧ FmI w0 b j a w) m h0 ?_
  clear h0
  rintro m a w ⟨j, hmj, J, rfl, hM, hB, hU⟩
  by_cases h4 : j = 4
  · subst h4
    refine wp_mono (fm_done J w hM hB hU) ?_
    rintro e a' w' h
    cases e with
    | normal => exact h.elim
    | _ => exact h
  · refine wp_mono (fm_one (by omega) J w hM hB hbm hU) ?_
    rintro e a' w' h
    cases e with
    | normal => exact ⟨m - 1, by omega, j + 1, by omega, h⟩
    | _ => exact h.elim
end
end Go.Proofs.YtkmbmgmfcecfkaaDoor
namespace Go.Proofs.YtkmbmgmfcecfkaaDoor
open Go.Lx Go.RowKit
section
variable {w0 : World}
set_option maxRecDepth 100000 in
set_option maxHeartbeats 2000000 in
theorem forms_any : Calls Tryd.prog 15 #[] w0 fun e w => e = .returned (.map (some w0.heap.size)) ∧ MapAt w w0.heap.size formsL ∧ Under w0 w := by
  have hmm := @run_makeMap Tryd.prog
  have hM := map_new w0
  have hU := under_alloc (Under.refl w0) (.map #[] 0)
  go_enter Tryd.func15, Tryd.ntmps15
  go_wp2_with (refine wpList_insert_map rfl _ _ _ (.inl rfl) Tryd.underlying43 Tryd.underlying9 rfl hM rfl rfl ?_; intro w1 hM1 hT1; replace hU := hT1.under hU (Nat.le_refl _); replace hM := hM1; clear hM1 hT1)
  rename_i w1 K hK
  have hM20 : MapAt w1 w0.heap.size forms20 := hM.cast (by kernel_rfl)
  have hB := box_new w1 #[.string ⟨#[]⟩, .string ⟨#[49]⟩, .string ⟨#[50]⟩, .string ⟨#[51]⟩] 9
  have hU1 := under_alloc (Under.refl w1) (.cells #[.string ⟨#[]⟩, .string ⟨#[49]⟩, .string ⟨#[50]⟩, .string ⟨#[51]⟩] 9)
  refine wp_mono (fm_rounds (by have := hM.lt; omega) 4 _ _ ⟨0, rfl, frame_ex (F := fmFrame _ w1.heap.size 0) (by rfl) ⟨hM20.under hU1, hB, hU.trans hU1⟩⟩) ?_
  rintro e a' w' ⟨rfl, J, rfl, hM4, _, hU4⟩
  simp only [Exit.inBlock, if_pos, Exit.then]
  refine hK _ _ ?_
  have HM4 := Lib.hid hM4
  have HU4 := Lib.hid hU4
  clear hK hM hU hM20 hB hU1 hM4 hU4
  unfold fmFrame
  go_wp2
  go_ret
  exact ⟨rfl, HM4.out, HU4.out⟩
end
end Go.Proofs.YtkmbmgmfcecfkaaDoor
namespace Go.Proofs.YtkmbmgmfcecfkaaDoor
open Go.Lx Go.RowKit
theorem mget_mem : ∀ {ks : Assoc} {k : ByteArray} {v : Value}, mget ks k = some v → (k, v) ∈ ks
  | (a, u) :: r, k, v, h => by
    simp only [mget] at h
    split at h
    · rename_i e
      cases h; subst e; exact List.mem_cons_self ..
    · exact List.mem_cons_of_mem _ (mget_mem h)
def kwB (s : ByteArray) : Bool := (mget formsL s).isSome || (mget aloneL s).isSome
def isForm : Value → Bool
  | .agg ⟨[.int .i64 _, .int .i64 _, .int .i64 _, .string _, .string _]⟩ => true
  | _ => false
def isNode : Value → Bool
  | .agg ⟨[.int .i64 _, .int .i64 _, .int .i64 _, .string _]⟩ => true
  | _ => false
theorem forms_all : formsL.all (fun p => isForm p.2) = true := by kernel_rfl
theorem alone_all : aloneL.all (fun p => isNode p.2) = true := by kernel_rfl
theorem form_some {s : ByteArray} {v : Value} (h : mget formsL s = some v) : ∃ k n m x y, v = .agg #[.int .i64 k, .int .i64 n, .int .i64 m, .string x, .string y] := by
  have := List.all_eq_true.1 forms_all _ (mget_mem h)
  simp only at this
  unfold isForm at this
  split at this
  · exact ⟨_, _, _, _, _, rfl⟩
  · cases this
theorem alone_some {s : ByteArray} {v : Value} (h : mget aloneL s = some v) : ∃ k n m x, v = .agg #[.int .i64 k, .int .i64 n, .int .i64 m, .string x] := by
  have := List.all_eq_true.1 alone_all _ (mget_mem h)
  simp only at this
  unfold isNode at this
  split at this
  · exact ⟨_, _, _, _, rfl⟩
  · cases this
theorem zeroForm (w : World) : (zeroValue 50).run Tryd.prog w = .ok (.agg #[.int .i64 0, .int .i64 0, .int .i64 0, .string ⟨#[]⟩, .string ⟨#[]⟩]) w := by kernel_rfl
theorem zeroNode (w : World) : (zeroValue 32).run Tryd.prog w = .ok (.agg #[.int .i64 0, .int .i64 0, .int .i64 0, .string ⟨#[]⟩]) w := by kernel_rfl
section
variable {w0 : World}
structure Tables (w : World) (rb m1 m2 : Nat) : Prop where
  lt : rb < w.heap.size
  c1 : w.cell? ⟨rb, 2, none⟩ = some (.map (some m1))
  c2 : w.cell? ⟨rb, 3, none⟩ = some (.map (some m2))
  f : MapAt w m1 formsL
  a : MapAt w m2 aloneL
set_option maxRecDepth 100000 in
set_option maxHeartbeats 1000000 in
theorem keyword_any (s : ByteArray) {rb m1 m2 : Nat} (hT : Tables w0 rb m1 m2) : Calls Tryd.prog 12 #[.pointer (some ⟨rb, 0, none⟩), .string s] w0 fun e w => e = .returned (.bool (kwB s)) ∧ Under w0 w := by
  obtain ⟨hlt, c1, c2, h1, h2⟩ := hT
  have hk : kwB s = ((mget formsL s).isSome || (mget aloneL s).isSome) := rfl
  have HK := Lib.hid hk
  have HM1 := Lib.hid h1
  have HM2 := Lib.hid h2
  clear hk h1 h2
  cases hf : mget formsL s with
  | none =>
    cases ha : mget aloneL s with
    | none =>
      rw [hf, ha] at HK
      go_enter Tryd.func12, Tryd.ntmps12
      go_wp2_with (first
        | (refine wpList_lookup_map rfl _ _ true rfl Tryd.underlying43 Tryd.underlying9 (zeroForm _) rfl HM1.out rfl ?_; rw [hf]; simp only [Option.getD_some, Option.getD_none, Option.isSome_some, Option.isSome_none, if_true])
        | (refine wpList_lookup_map rfl _ _ true rfl Tryd.underlying45 Tryd.underlying9 (zeroNode _) rfl (HM2.out.under (under_alloc (Under.refl _) _)) rfl ?_; rw [ha]; simp only [Option.getD_some, Option.getD_none, Option.isSome_some, Option.isSome_none, if_true]))
      go_ret
      exact ⟨ret_bool HK.out.symm, under_alloc (under_alloc (Under.refl _) _) _⟩
    | some v =>
      obtain ⟨k, n, m, x, rfl⟩ := alone_some ha
      rw [hf, ha] at HK
      go_enter Tryd.func12, Tryd.ntmps12
      go_wp2_with (first
        | (refine wpList_lookup_map rfl _ _ true rfl Tryd.underlying43 Tryd.underlying9 (zeroForm _) rfl HM1.out rfl ?_; rw [hf]; simp only [Option.getD_some, Option.getD_none, Option.isSome_some, Option.isSome_none, if_true])
        | (refine wpList_lookup_map rfl _ _ true rfl Tryd.underlying45 Tryd.underlying9 (zeroNode _) rfl (HM2.out.under (under_alloc (Under.refl _) _)) rfl ?_; rw [ha]; simp only [Option.getD_some, Option.getD_none, Option.isSome_some, Option.isSome_none, if_true]))
      go_ret
      exact ⟨ret_bool HK.out.symm, under_alloc (under_alloc (Under.refl _) _) _⟩
  | some u =>
    obtain ⟨k1, n1, m1', x1, y1, rfl⟩ := form_some hf
    cases ha : mget aloneL s with
    | none =>
      rw [hf, ha] at HK
      go_enter Tryd.func12, Tryd.ntmps12
      go_wp2_with (first
        | (refine wpList_lookup_map rfl _ _ true rfl Tryd.underlying43 Tryd.underlying9 (zeroForm _) rfl HM1.out rfl ?_; rw [hf]; simp only [Option.getD_some, Option.getD_none, Option.isSome_some, Option.isSome_none, if_true])
        | (refine wpList_lookup_map rfl _ _ true rfl Tryd.underlying45 Tryd.underlying9 (zeroNode _) rfl (HM2.out.under (under_alloc (Under.refl _) _)) rfl ?_; rw [ha]; simp only [Option.getD_some, Option.getD_none, Option.isSome_some, Option.isSome_none, if_true]))
      go_ret
      exact ⟨ret_bool HK.out.symm, under_alloc (under_alloc (Under.refl _) _) _⟩
    | some v =>
      obtain ⟨k, n, m, x, rfl⟩ := alone_some ha
      rw [hf, ha] at HK
      go_enter Tryd.func12, Tryd.ntmps12
      go_wp2_with (first
        | (refine wpList_lookup_map rfl _ _ true rfl Tryd.underlying43 Tryd.underlying9 (zeroForm _) rfl HM1.out rfl ?_; rw [hf]; simp only [Option.getD_some, Option.getD_none, Option.isSome_some, Option.isSome_none, if_true])
        | (refine wpList_lookup_map rfl _ _ true rfl Tryd.underlying45 Tryd.underlying9 (zeroNode _) rfl (HM2.out.under (under_alloc (Under.refl _) _)) rfl ?_; rw [ha]; simp only [Option.getD_some, Option.getD_none, Option.isSome_some, Option.isSome_none, if_true]))
      go_ret
      exact ⟨ret_bool HK.out.symm, under_alloc (under_alloc (Under.refl _) _) _⟩
set_option maxRecDepth 100000 in
set_option maxHeartbeats 1000000 in
theorem newResolver_any (p1 p2 : Option Addr) (n1 n2 d1 d2 : Nat) : Calls Tryd.prog 11 #[.agg #[.slice p1 n1 d1, .slice p2 n2 d2]] w0 fun e w => ∃ rb m1 m2, e = .returned (.pointer (some ⟨rb, 0, none⟩)) ∧ Tables w rb m1 m2 ∧ Under w0 w := by
  have HU0 := Lib.hid (under_alloc (Under.refl w0) (.cells #[.slice p1 n1 d1, .slice p2 n2 d2] 30))
  go_enter Tryd.func11, Tryd.ntmps11
  go_wp2_with fail
  go_region_held3 (fun w' => w'.cell? ⟨w0.heap.size, 0, none⟩ = some (.slice p1 n1 d1) ∧ w'.cell? ⟨w0.heap.size, 1, none⟩ = some (.slice p2 n2 d2))
    (first
      | go_keep
      | (go_split_ands
         refine ⟨?_, ?_⟩
         · (rw [under_cell hU2 (by have := hU1.size; simp at this ⊢; omega)]; assumption)
         · (rw [under_cell hU2 (by have := hU1.size; simp at this ⊢; omega)]; assumption))
      | (go_split_ands
         refine ⟨?_, ?_⟩
         · (rw [under_cell hU1 (by simp)]; assumption)
         · (rw [under_cell hU1 (by simp)]; assumption)))
    (first
      | (go_simp; go_at_call 15; refine (forms_any (w0 := _)).mono ?_; rintro e w1 ⟨rfl, hM1, hU1⟩)
      | (go_simp; go_at_call 16; refine (alone_any (w0 := _)).mono ?_; rintro e w2 ⟨rfl, hM2, hU2⟩))
  have hM1' : MapAt w1 (w0.heap.size + 1) formsL := by simpa using hM1
  have hB := box_new w2 #[.slice p1 n1 d1, .slice p2 n2 d2, .map (some (w0.heap.size + 1)), .map (some w1.heap.size), .slice none 0 0, .int .i64 0, .int .i64 0] 48
  have hU3 := under_alloc (Under.refl w2) (.cells #[.slice p1 n1 d1, .slice p2 n2 d2, .map (some (w0.heap.size + 1)), .map (some w1.heap.size), .slice none 0 0, .int .i64 0, .int .i64 0] 48)
  have hT : Tables _ w2.heap.size (w0.heap.size + 1) w1.heap.size := ⟨hB.lt, hB.cell 2, hB.cell 3, (hM1'.under hU2).under hU3, hM2.under hU3⟩
  have hUa := (((under_drew HU0.out).trans hU1).trans hU2).trans hU3
  have HT := Lib.hid hT
  have HUa := Lib.hid hUa
  clear hM1 hM1' hM2 hU1 hU2 hU3 hB hT hUa
  go_wp2
  go_ret
  exact ⟨_, _, _, rfl, HT.out, HUa.out⟩
set_option maxRecDepth 100000 in
theorem Keyword_any (s : ByteArray) : Calls Tryd.prog 7 #[.string s] w0 fun e w => e = .returned (.bool (kwB s)) ∧ Under w0 w := by
  have HN := Lib.hid (newResolver_any (w0 := w0) none none 0 0 0 0)
  go_enter Tryd.func7, Tryd.ntmps7
  go_wp2_with fail
  refine HN.out.mono ?_
  rintro e w1 ⟨rb, m1, m2, rfl, hT, hU⟩
  have HK := Lib.hid (keyword_any s hT)
  have HU := Lib.hid hU
  clear hT hU
  go_wp2_with fail
  refine HK.out.mono ?_
  rintro e w2 ⟨rfl, hU2⟩
  have HU2 := Lib.hid hU2
  clear hU2
  go_wp2
  go_ret
  exact ⟨rfl, HU.out.trans HU2.out⟩
end
end Go.Proofs.YtkmbmgmfcecfkaaDoor
namespace Go.Proofs.YtkmbmgmfcecfkaaDoor
open Go.Lx Go.RowKit
theorem bytes_key {s : ByteArray} {x : List UInt8} : s = ⟨x.toArray⟩ ↔ s.data.toList = x := by
  constructor
  · rintro rfl; simp
  · intro h
    apply ByteArray.ext
    apply Array.ext'
    simpa using h
def formV3 (y : Int × Int × List UInt8) : Value := formV y.1 y.2.1 y.2.2
theorem mget_findF (s : ByteArray) : ∀ T : List (List UInt8 × Int × Int × List UInt8), mget (T.map fun t => ((⟨t.1.toArray⟩ : ByteArray), formV3 t.2)) s = (findF s.data.toList T).map formV3
  | [] => rfl
  | (x, y) :: T => by
    simp only [List.map_cons, mget, findF, bytes_key]
    split
    · rfl
    · exact mget_findF s T
theorem mget_findL (s : ByteArray) : ∀ T : List (List UInt8 × Int), mget (T.map fun t => ((⟨t.1.toArray⟩ : ByteArray), nodeV t.2 0)) s = (findL s.data.toList T).map fun k => nodeV k 0
  | [] => rfl
  | (x, y) :: T => by
    simp only [List.map_cons, mget, findL, bytes_key]
    split
    · rfl
    · exact mget_findL s T
theorem formsL_eq : formsL = formT.map fun t => ((⟨t.1.toArray⟩ : ByteArray), formV3 t.2) := by kernel_rfl
theorem aloneL_eq : aloneL = leafT.map fun t => ((⟨t.1.toArray⟩ : ByteArray), nodeV t.2 0) := by kernel_rfl
theorem form_get (s : ByteArray) : mget formsL s = (formW s).map formV3 := by rw [formsL_eq, mget_findF]; rfl
theorem alone_get (s : ByteArray) : mget aloneL s = (leafW s).map fun k => nodeV k 0 := by rw [aloneL_eq, mget_findL]; rfl
theorem kw_eq (s : ByteArray) : kwB s = kwW s := by
  unfold kwB kwW
  rw [form_get, alone_get, Option.isSome_map, Option.isSome_map]
end Go.Proofs.YtkmbmgmfcecfkaaDoor
namespace Go.Proofs.YtkmbmgmfcecfkaaDoor
open Go.Lx Go.RowKit
structure ReS (W0 : World) (rb m1 m2 : Nat) (cv dv ov : Value) (acc : List Nd) (p e : Int) (w : World) : Prop where
  box : BoxAt w rb 48 #[cv, dv, .map (some m1), .map (some m2), ov, .int .i64 p, .int .i64 e]
  f : MapAt w m1 formsL
  a : MapAt w m2 aloneL
  row : w.ownsRow W0.heap.size 32 4 ov acc.length (ndCells acc)
  und : Under W0 w
  lo : W0.heap.size ≤ rb
def ResC (rb : Nat) (ov : Value) (b : Nat) : Prop := b = rb ∨ ov.ownBlock = some b
theorem map_ch {C : Nat → Prop} {w w' : World} {b : Nat} {ks : Assoc} (h : MapAt w b ks) (k : Ch C w w') (hc : ¬ C b) : MapAt w' b ks := by
  obtain ⟨es, cl, hb, he⟩ := h
  exact ⟨es, cl, (k.block b (Array.getElem?_eq_some_iff.1 hb).1 hc).trans hb, he⟩
section
variable {W0 w w' : World} {rb m1 m2 : Nat} {cv dv ov : Value} {acc : List Nd} {p e : Int}
theorem ReS.rb_m1 (h : ReS W0 rb m1 m2 cv dv ov acc p e w) : rb ≠ m1 := box_map_ne h.box h.f
theorem ReS.rb_m2 (h : ReS W0 rb m1 m2 cv dv ov acc p e w) : rb ≠ m2 := box_map_ne h.box h.a
theorem ReS.ov_rb (h : ReS W0 rb m1 m2 cv dv ov acc p e w) : ov.ownBlock ≠ some rb := box_own_ne h.box h.row (by decide)
theorem ReS.ov_m1 (h : ReS W0 rb m1 m2 cv dv ov acc p e w) : ov.ownBlock ≠ some m1 := map_own_ne h.f h.row
theorem ReS.ov_m2 (h : ReS W0 rb m1 m2 cv dv ov acc p e w) : ov.ownBlock ≠ some m2 := map_own_ne h.a h.row
theorem ReS.low (h : ReS W0 rb m1 m2 cv dv ov acc p e w) : ∀ b, ResC rb ov b → W0.heap.size ≤ b := fun b hb => by
  rcases hb with rfl | hb
  · exact h.lo
  · exact (row_lt h.row hb).1
theorem ReS.under (h : ReS W0 rb m1 m2 cv dv ov acc p e w) (hU : Under w w') : ReS W0 rb m1 m2 cv dv ov acc p e w' :=
  ⟨h.box.under hU, h.f.under hU, h.a.under hU, row_under h.row hU, h.und.trans hU, h.lo⟩
theorem ReS.tables (h : ReS W0 rb m1 m2 cv dv ov acc p e w) : Tables w rb m1 m2 := ⟨h.box.lt, h.box.cell 2, h.box.cell 3, h.f, h.a⟩
theorem ReS.row_out (h : ReS W0 rb m1 m2 cv dv ov acc p e w) {base s n : Nat} {t : TypeId} {v : Value} {xs : List Value} (hr : w.ownsRow base t s v n xs) (h1 : t ≠ 48) (h2 : t ≠ 32) : ∀ g, v.ownBlock = some g → ¬ ResC rb ov g := by
  rintro g hg (rfl | e)
  · exact box_own_ne h.box hr h1 hg
  · rcases own_ne hr h.row h2 with h' | h'
    · rw [h'] at hg; cases hg
    · exact h' (hg.trans e.symm)
def ReOut (W0 : World) (rb m1 m2 : Nat) (cv dv ov : Value) (acc : List Nd) (w : World) (R : Say) (x : Ending) (w' : World) : Prop :=
  ∃ ov' acc' p' e', ReS W0 rb m1 m2 cv dv ov' acc' p' e' w' ∧ Ch (ResC rb ov) w w' ∧ (∀ b, b < w.heap.size → ov'.ownBlock = some b → ov.ownBlock = some b) ∧
    match R with
    | .ok t => x = .returned (.bool true) ∧ acc' = acc ++ t
    | .error (e1, p1) => x = .returned (.bool false) ∧ p' = p1 ∧ e' = e1
theorem ReS.wrong (h : ReS W0 rb m1 m2 cv dv ov acc p e w) (p' e' : Int) : ReS W0 rb m1 m2 cv dv ov acc p' e' ((w.setCell ⟨rb, 6, none⟩ (.int .i64 e')).setCell ⟨rb, 5, none⟩ (.int .i64 p')) ∧ Ch (ResC rb ov) w ((w.setCell ⟨rb, 6, none⟩ (.int .i64 e')).setCell ⟨rb, 5, none⟩ (.int .i64 p')) := by
  have hc : Ch (fun b => b = rb) w ((w.setCell ⟨rb, 6, none⟩ (.int .i64 e')).setCell ⟨rb, 5, none⟩ (.int .i64 p')) := ((Ch.refl (C := fun b => b = rb) w).set (g := rb) (fun _ => rfl) 6 _).set (g := rb) (fun _ => rfl) 5 _
  refine ⟨⟨?_, map_ch h.f hc (fun e => h.rb_m1 e.symm), map_ch h.a hc (fun e => h.rb_m2 e.symm), row_ch h.row hc (fun g hg e => by subst e; exact h.ov_rb hg), under_ch h.und hc (fun b e => by subst e; exact h.lo), h.lo⟩, hc.weak fun b _ e => .inl e⟩
  exact (h.box.set 6 _).set 5 _
set_option maxRecDepth 100000 in
theorem wrong_any (h : ReS W0 rb m1 m2 cv dv ov acc p e w) (p' e' : Int) : Calls Tryd.prog 28 #[.pointer (some ⟨rb, 0, none⟩), .int .i64 e', .int .i64 p'] w (ReOut W0 rb m1 m2 cv dv ov acc w (.error (e', p'))) := by
  have H := Lib.hid (h.wrong p' e')
  have hl := h.box.lt
  have c5 := h.box.cell 5
  have c6 := h.box.cell 6
  have f5 := h.box.free 5
  have f6 := h.box.free 6
  have f5' : (w.setCell ⟨rb, 6, none⟩ (.int .i64 e')).frozen? ⟨rb, 5, none⟩ = false := (h.box.set 6 (.int .i64 e')).free 5
  have c5' : (w.setCell ⟨rb, 6, none⟩ (.int .i64 e')).cell? ⟨rb, 5, none⟩ = some (.int .i64 p) := (h.box.set 6 (.int .i64 e')).cell 5
  clear h
  go_enter Tryd.func28, Tryd.ntmps28
  go_wp2
  go_ret
  exact ⟨ov, acc, p', e', H.out.1, H.out.2, fun b _ e => e, rfl, rfl, rfl⟩
end
end Go.Proofs.YtkmbmgmfcecfkaaDoor
namespace Go.Proofs.YtkmbmgmfcecfkaaDoor
open Go.Conc Go.Lx
def lowB (c : UInt8) : Int := bits BinOp.or IntKind.u8 (c.toNat : Int) 32
def wordB (c : UInt8) : Bool := decide (97 ≤ lowB c) && decide (lowB c ≤ 122) || decide ((48 : Int) ≤ (c.toNat : Int)) && decide ((c.toNat : Int) ≤ 57) || (c.toNat : Int) == 95
section
variable {main : Bool} {d : Deal} {T : TypeId → Prop} {o : Option Nat} {L : List (Nat × Obj)}
set_option maxRecDepth 100000 in
theorem one_c (s : Value) (w : World) (hF : Holds d T o L w) : CallsC Tryd.prog main (Rely d T o) (Lx.Does d T o) 47 #[s] 100 w fun v w' => v = .int .i64 1 ∧ Holds d T o L w' := by
  co_apply Go.Lx.CallsC.more
  · co_apply callsC_of_wpC Tryd.func47 (by rfl) rfl
    simp only [Tryd.ntmps47, List.size_toArray, List.length_cons, List.length_nil, Nat.reduceAdd, Nat.reduceSub, Array.replicate_succ, Array.replicate_zero, List.push_toArray, List.append_toArray, List.nil_append, List.cons_append]
    repeat (first | co_reg terms | co_op Holds.rely hF (co_quiet terms) | (co_apply opsC_unwanted terms rfl (by rfl); try walk_nrm) | (co_ctl terms; try co_then))
    exact ⟨rfl, _, resultsC_tmp (by rfl) _, by simp, hF⟩
  · decide
set_option maxRecDepth 100000 in
theorem line_c (c : UInt8) (w : World) (hF : Holds d T o L w) : CallsC Tryd.prog main (Rely d T o) (Lx.Does d T o) 48 #[.int .u8 c.toNat] 100 w fun v w' => v = .bool ((c.toNat : Int) != 10) ∧ Holds d T o L w' := by
  co_apply Go.Lx.CallsC.more
  · co_apply callsC_of_wpC Tryd.func48 (by rfl) rfl
    simp only [Tryd.ntmps48, List.size_toArray, List.length_cons, List.length_nil, Nat.reduceAdd, Nat.reduceSub, Array.replicate_succ, Array.replicate_zero, List.push_toArray, List.append_toArray, List.nil_append, List.cons_append]
    repeat (first | co_reg terms | co_op Holds.rely hF (co_quiet terms) | (co_apply opsC_unwanted terms rfl (by rfl); try walk_nrm) | (co_ctl terms; try co_then))
    exact ⟨rfl, _, resultsC_tmp (by rfl) _, by simp, hF⟩
  · decide
set_option maxRecDepth 100000 in
set_option maxHeartbeats 2000000 in
theorem word_c (c : UInt8) (w : World) (hF : Holds d T o L w) : CallsC Tryd.prog main (Rely d T o) (Lx.Does d T o) 45 #[.int .u8 c.toNat] 100 w fun v w' => v = .bool (wordB c) ∧ Holds d T o L w' := by
  by_cases h1 : 97 ≤ bits BinOp.or IntKind.u8 (c.toNat : Int) 32 <;> by_cases h2 : bits BinOp.or IntKind.u8 (c.toNat : Int) 32 ≤ 122 <;> by_cases h3 : (48 : Int) ≤ (c.toNat : Int) <;> by_cases h4 : (c.toNat : Int) ≤ 57
  all_goals
    co_apply Go.Lx.CallsC.more
    · co_apply callsC_of_wpC Tryd.func45 (by rfl) rfl
      simp only [Tryd.ntmps45, List.size_toArray, List.length_cons, List.length_nil, Nat.reduceAdd, Nat.reduceSub, Array.replicate_succ, Array.replicate_zero, List.push_toArray, List.append_toArray, List.nil_append, List.cons_append]
      repeat (first | co_reg terms | co_op Holds.rely hF (co_quiet terms) | (co_apply opsC_unwanted terms rfl (by rfl); try walk_nrm) | (co_ctl terms; try co_then))
      refine ⟨rfl, _, resultsC_tmp (by rfl) _, ?_, hF⟩
      simp only [wordB, lowB, h1, h2, h3, h4, decide_true, decide_false, Bool.and_true, Bool.and_false, Bool.or_true, Bool.or_false, Bool.true_or, Bool.false_or, Bool.true_and, Bool.false_and]
      rfl
    · decide
end
end Go.Proofs.YtkmbmgmfcecfkaaDoor
