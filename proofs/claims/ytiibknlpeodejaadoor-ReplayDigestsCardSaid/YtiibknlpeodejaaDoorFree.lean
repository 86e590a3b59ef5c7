/- shift.Free: its contract. -/
import Derived.Test.YtiibknlpeodejaaDoorEach
set_option linter.unusedSimpArgs false
set_option linter.unusedVariables false
namespace Go.Proofs.YtiibknlpeodejaaDoor
open Go.Lx Go.RowKit

def most1 (s v : Int) : Int := max s (v + 1)
/-- One more than the greatest free variable. -/
def freeN (t : List Nd) : Int := tell t most1 0 (nodesOf t)
theorem tell_bd {t : List Nd} (hr : ∀ x ∈ t, rightB x = true) : ∀ (l : List (Nat × Nat)) (s : Int), 0 ≤ s → s ≤ 100 → 0 ≤ tell t most1 s l ∧ tell t most1 s l ≤ 100 := by
  intro l
  induction l with
  | nil => intro s h0 h1; exact ⟨h0, h1⟩
  | cons x l ih =>
    intro s h0 h1
    have : 0 ≤ tellOne t most1 s x ∧ tellOne t most1 s x ≤ 100 := by
      unfold tellOne
      split
      · rename_i y hy
        split
        · rename_i h
          have := rightB_var (hr y (List.mem_of_getElem? hy)) h.1
          unfold most1
          omega
        · exact ⟨h0, h1⟩
      · exact ⟨h0, h1⟩
    exact ih _ this.1 this.2
set_option maxRecDepth 100000 in
theorem free1_told : Told 44 most1 := by
  refine ⟨enters_of Tryd.func44 (by kernel_rfl) rfl, ?_⟩
  intro nb s v w h0 h1 h2 h3 hB
  have e0 := hB.cell 0
  have f0 := hB.free 0
  have hl := hB.lt
  unfold most1
  clear hB
  by_cases hm : v + 1 ≤ s
  · rw [show max s (v + 1) = s by omega]
    go_enter Tryd.func44, Tryd.ntmps44
    go_wp2
    all_goals
      go_end0
      first
        | exact ⟨⟨_, rfl⟩, rfl⟩
        | (refine ⟨⟨_, rfl⟩, ?_⟩; congr 2; omega)
  · rw [show max s (v + 1) = v + 1 by omega]
    go_enter Tryd.func44, Tryd.ntmps44
    go_wp2
    all_goals
      go_end0
      first
        | exact ⟨⟨_, rfl⟩, rfl⟩
        | (refine ⟨⟨_, rfl⟩, ?_⟩; congr 2; omega)
/-- What Free answers. -/
def FreeOut (w0 : World) (t : List Nd) (e : Ending) (w : World) : Prop := e = .returned (.tuple #[.int .i64 (if checkE t = 0 then freeN t else 0), .int .i64 (checkE t)]) ∧ Under w0 w
theorem ret_ints {a a' b b' : Int} (h : a = a') (h2 : b = b') : Ending.returned (.tuple #[.int .i64 a, .int .i64 b]) = .returned (.tuple #[.int .i64 a', .int .i64 b']) := by rw [h, h2]
section
variable {w0 : World} {t : List Nd} {p : Option Addr} {c : Nat}
set_option maxRecDepth 100000 in
theorem each_err {W0 : World} (f nb : Nat) (hn : t.length ≤ maxLen) (hs : ∀ x ∈ t, x.s.size ≤ maxLen) (hp : RowArg W0 p (ndCells t)) (hS : ShapesAt 1 W0) (hU : Under W0 w0) (hc : checkE t ≠ 0) :
    Calls Tryd.prog 43 #[.slice p t.length c, .func (.func f) #[] #[.pointer (some ⟨nb, 0, none⟩)]] w0 fun e w => e = .returned (.int .i64 (checkE t)) ∧ Under w0 w := by
  have hU2 := under_alloc (under_alloc (Under.refl w0) (.cells #[.slice p t.length c] 26)) (.cells #[.func (.func f) #[] #[.pointer (some ⟨nb, 0, none⟩)]] 94)
  have HC := Lib.hid (check_any (c := c) t hn hs (hp.under (hU.trans hU2)) (hS.under (hU.trans hU2)))
  have HU2 := Lib.hid hU2
  have hc' : (checkE t != 0) = true := by simpa using hc
  clear hp hS hs hU2 hU hc
  generalize checkE t = ce at *
  go_enter Tryd.func43, Tryd.ntmps43
  go_wp2_with fail
  refine HC.out.mono ?_
  rintro e w1 ⟨rfl, hU1⟩
  have HU1 := Lib.hid hU1
  clear hU1
  go_wp2
  go_ret
  exact ⟨rfl, HU2.out.trans HU1.out⟩
set_option maxRecDepth 100000 in
theorem free_any (hcap : t.length ≤ c) (hn : t.length ≤ maxLen) (hs : ∀ x ∈ t, x.s.size ≤ maxLen) (hp : RowArg w0 p (ndCells t)) (hS : ShapesAt 1 w0) :
    Calls Tryd.prog 38 #[.slice p t.length c] w0 (FreeOut w0 t) := by
  have hB := box_new w0 #[.int .i64 0] 3
  have hU := under_alloc (Under.refl w0) (.cells #[.int .i64 0] 3)
  by_cases hc : checkE t = 0
  · have HE := Lib.hid (each_any (W0 := w0) (c := c) (s0 := 0) free1_told hcap hn hs hp hS hU hB (Nat.le_refl _) hc (fun pre _ => by have := tell_bd (check_right hc) pre 0 (by omega) (by omega); omega))
    have HF := Lib.hid (show (if checkE t = 0 then freeN t else 0) = tell t most1 0 (nodesOf t) from if_pos hc)
    have HC := Lib.hid hc
    have HU := Lib.hid hU
    clear hp hS hs hU hc hB
    go_enter Tryd.func38, Tryd.ntmps38
    go_wp2_with fail
    refine HE.out.mono ?_
    rintro e w1 ⟨rfl, hT, hB1⟩
    have e0 := hB1.cell 0
    have hl := hB1.lt
    have HT := Lib.hid hT
    clear hT hB1
    go_wp2
    go_ret2
    exact ⟨ret_ints HF.out.symm HC.out.symm, HT.out.under HU.out (Nat.le_refl _)⟩
  · have HE := Lib.hid (each_err (W0 := w0) (c := c) 44 w0.heap.size hn hs hp hS hU hc)
    have HF := Lib.hid (show (if checkE t = 0 then freeN t else 0) = 0 from if_neg hc)
    have HU := Lib.hid hU
    have HB := Lib.hid hB
    clear hp hS hs hU hc hB
    go_enter Tryd.func38, Tryd.ntmps38
    go_wp2_with fail
    refine HE.out.mono ?_
    rintro e w1 ⟨rfl, hU1⟩
    have hB1 := HB.out.under hU1
    have e0 := hB1.cell 0
    have hl := hB1.lt
    have HU1 := Lib.hid hU1
    clear hU1 hB1
    go_wp2
    go_ret2
    exact ⟨ret_ints HF.out.symm rfl, HU.out.trans HU1.out⟩
end
end Go.Proofs.YtiibknlpeodejaaDoor
