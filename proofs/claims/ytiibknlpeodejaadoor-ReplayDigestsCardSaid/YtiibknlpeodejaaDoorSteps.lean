/- decls.name, unless, first: their contracts. -/
import Derived.Test.YtiibknlpeodejaaDoorKeyword
import Derived.Shelf.Abstract
set_option linter.unusedSimpArgs false
set_option linter.unusedVariables false
namespace Go.Proofs.YtiibknlpeodejaaDoor
open Go.Lx Go.RowKit

/-- A name that a declaration may have. -/
def dnameB (s : ByteArray) : Bool := nameB s && !kwB s
def unlessE (t : Bool) (e : Int) : Int := if t then 0 else e
/-- A step that answers an error. -/
def StepOk (w : World) (fv : Value) (r : Int) : Prop :=
  ∃ f caps, fv = .func (.func f) #[] caps ∧ (∀ args w, (callFunc f args).run Tryd.prog w = .ok (.enter f args) w) ∧ ∀ w', Under w w' → Calls Tryd.prog f caps w' fun e w'' => e = .returned (.int .i64 r) ∧ Under w' w''
theorem StepOk.under {w w' : World} {fv : Value} {r : Int} (h : StepOk w fv r) (hU : Under w w') : StepOk w' fv r := by
  obtain ⟨f, caps, h1, h2, h3⟩ := h
  exact ⟨f, caps, h1, h2, fun w'' h => h3 w'' (hU.trans h)⟩
section
variable {w0 : World}
set_option maxRecDepth 100000 in
theorem dname_any (s : ByteArray) (hs : s.size ≤ maxLen) : Calls Tryd.prog 28 #[.string s] w0 fun e w => e = .returned (.bool (dnameB s)) ∧ Under w0 w := by
  have HN := Lib.hid (name_any s w0 hs)
  have HK := Lib.hid (Keyword_any (w0 := w0) s)
  have hd : dnameB s = (nameB s && !kwB s) := rfl
  have HD := Lib.hid hd
  clear hd
  cases hn : nameB s with
  | true =>
    rw [hn] at HD HN
    clear hn
    go_enter Tryd.func28, Tryd.ntmps28
    go_wp2_with fail
    refine HN.out.mono ?_
    rintro e w1 ⟨rfl, rfl⟩
    go_wp2_with fail
    refine HK.out.mono ?_
    rintro e w1 ⟨rfl, hU⟩
    have HU := Lib.hid hU
    clear hU
    go_wp2
    go_ret
    exact ⟨ret_bool (by rw [HD.out]; rfl), HU.out⟩
  | false =>
    rw [hn] at HD HN
    clear hn
    go_enter Tryd.func28, Tryd.ntmps28
    go_wp2_with fail
    refine HN.out.mono ?_
    rintro e w1 ⟨rfl, rfl⟩
    go_wp2
    go_ret
    exact ⟨ret_bool (by rw [HD.out]; rfl), Under.refl _⟩
set_option maxRecDepth 100000 in
theorem unless1_any {b1 b2 : Nat} {t : Bool} {e : Int} (h1 : BoxAt w0 b1 4 #[.bool t]) (h2 : BoxAt w0 b2 33 #[.int .i64 e]) :
    Calls Tryd.prog 34 #[.pointer (some ⟨b1, 0, none⟩), .pointer (some ⟨b2, 0, none⟩)] w0 fun x w => x = .returned (.int .i64 (if t then 0 else e)) ∧ Under w0 w := by
  have c1 := h1.cell 0
  have c2 := h2.cell 0
  have l1 := h1.lt
  have l2 := h2.lt
  clear h1 h2
  cases t
  all_goals
    go_enter Tryd.func34, Tryd.ntmps34
    go_wp2
    go_ret
    exact ⟨rfl, Under.refl _⟩
set_option maxRecDepth 100000 in
theorem unless_any (t : Bool) (e : Int) : Calls Tryd.prog 27 #[.bool t, .int .i64 e] w0 fun x w => ∃ b1 b2, x = .returned (.func (.func 34) #[] #[.pointer (some ⟨b1, 0, none⟩), .pointer (some ⟨b2, 0, none⟩)]) ∧ StepOk w (.func (.func 34) #[] #[.pointer (some ⟨b1, 0, none⟩), .pointer (some ⟨b2, 0, none⟩)]) (unlessE t e) ∧ Under w0 w := by
  have hB1 := (box_new w0 #[.bool t] 4).alloc (.cells #[.int .i64 e] 33)
  have hB2 := box_new (w0.alloc (.cells #[.bool t] 4)) #[.int .i64 e] 33
  have hs1 : (w0.alloc (.cells #[.bool t] 4)).heap.size = w0.heap.size + 1 := by simp
  rw [hs1] at hB2
  have hS : StepOk ((w0.alloc (.cells #[.bool t] 4)).alloc (.cells #[.int .i64 e] 33)) (.func (.func 34) #[] #[.pointer (some ⟨w0.heap.size, 0, none⟩), .pointer (some ⟨w0.heap.size + 1, 0, none⟩)]) (unlessE t e) :=
    ⟨_, _, rfl, enters_of Tryd.func34 (by kernel_rfl) rfl, fun w' hU => unless1_any (hB1.under hU) (hB2.under hU)⟩
  have HS := Lib.hid hS
  clear hB1 hB2 hs1 hS
  go_enter Tryd.func27, Tryd.ntmps27
  go_wp2
  go_ret
  exact ⟨_, _, rfl, HS.out, under_alloc (under_alloc (Under.refl _) _) _⟩
/-- The first error. -/
def firstE : List Int → Int
  | [] => 0
  | r :: l => if r ≠ 0 then r else firstE l
set_option maxRecDepth 100000 in
set_option maxHeartbeats 1000000 in
theorem first_any (fs : List (Value × Int)) {p : Option Addr} {c : Nat} (hn : fs.length ≤ 1000) (hp : RowArg w0 p (fs.map (·.1))) (hf : ∀ x ∈ fs, StepOk w0 x.1 x.2) :
    Calls Tryd.prog 26 #[.slice p fs.length c] w0 fun e w => e = .returned (.int .i64 (firstE (fs.map (·.2)))) ∧ Under w0 w := by
  have HP := Lib.hid hp
  have HF := Lib.hid hf
  clear hp hf
  go_enter Tryd.func26, Tryd.ntmps26
  go_wp2
  go_loopw [8] (fun i wr => ∃ k : Nat, k ≤ fs.length ∧ i = .int .i64 k ∧ firstE (fs.map (·.2)) = firstE ((fs.drop k).map (·.2)) ∧ Under w0 wr) (fun i _ => fs.length - (intOf i).toNat)
  case atStart => exact ⟨0, Nat.zero_le _, rfl, by simp, Under.refl _⟩
  case round =>
    obtain ⟨k, hk, rfl, hN, hU⟩ := hrel
    have HN := Lib.hid hN
    have HU := Lib.hid hU
    clear hN hU
    by_cases hlt : k < fs.length
    · obtain ⟨b, off, rfl, hb, hcs⟩ := HP.out (fun e => by have := congrArg List.length e; simp at this; rw [this] at hlt; simp at hlt)
      have cc := hcs k fs[k].1 (by simp [List.getElem?_eq_getElem hlt])
      obtain ⟨f, caps, hfv, hen, hcall⟩ := HF.out fs[k] (List.getElem_mem hlt)
      rw [hfv, ← under_cell HU.out hb] at cc
      have hb' := Nat.lt_of_lt_of_le hb HU.out.size
      have hd : firstE ((fs.drop k).map (·.2)) = if fs[k].2 ≠ 0 then fs[k].2 else firstE ((fs.drop (k + 1)).map (·.2)) := by rw [List.drop_eq_getElem_cons hlt]; rfl
      have HD := Lib.hid hd
      have HC := Lib.hid (hcall wr HU.out)
      clear hcs hfv hd hcall
      generalize fs[k].2 = r at *
      by_cases hr : r = 0
      · have hr' : (r != 0) = false := by simpa using hr
        have HR := Lib.hid hr
        clear hr
        go_wp2_with fail
        refine HC.out.mono ?_
        rintro e w1 ⟨rfl, hU1⟩
        have HU1 := Lib.hid hU1
        clear hU1
        go_wp2
        go_roundw
        case rel => exact ⟨k + 1, by omega, by go_num, by rw [HN.out, HD.out, if_neg (by rw [HR.out]; simp)], HU.out.trans HU1.out⟩
        case measure => simp [intOf]; omega
      · have hr' : (r != 0) = true := by simpa using hr
        have HR := Lib.hid hr
        clear hr
        go_wp2_with fail
        refine HC.out.mono ?_
        rintro e w1 ⟨rfl, hU1⟩
        have HU1 := Lib.hid hU1
        clear hU1
        go_wp2
        go_ret
        exact ⟨ret_int (by rw [HN.out, HD.out, if_pos HR.out]), HU.out.trans HU1.out⟩
    · obtain rfl : k = fs.length := by omega
      go_wp2
      go_ret
      exact ⟨ret_int (by rw [HN.out, List.drop_length]; rfl), HU.out⟩
end
end Go.Proofs.YtiibknlpeodejaaDoor
