/- SurfaceJoins: its loop. -/
import Derived.Test.YtjnoffgclibfaaaHeavy
set_option linter.unusedSimpArgs false
set_option linter.unusedVariables false
namespace Go.Proofs.Ytjnoffgclibfaaa
open Go.Conc Go.Lx Go.RowKit

noncomputable def jnText : Code := Try.f9.body.getD .skip
noncomputable def jnRest : Code := sndOf (sndOf jnText)
noncomputable def jnLoop : Code := fstOf (sndOf (sndOf (sndOf (sndOf (sndOf (sndOf (sndOf (sndOf (sndOf (sndOf (sndOf (sndOf (sndOf (sndOf jnRest))))))))))))))
noncomputable def jnRound : Code := inOf (inOf (sndOf jnLoop))
def jnFrame (vz vp : Value) (k : Nat) (J : Nat → Value) : Array Value := #[J 0, J 1, J 2, J 3, J 4, J 5, J 6, J 7, J 8, J 9, J 10, J 11, vz, J 13, vp, J 15, J 16, J 17, .int .i64 (k : Int), J 19, J 20, J 21, J 22, J 23, J 24, J 25, J 26, J 27, J 28, J 29, J 30, J 31, J 32, J 33, J 34, J 35, J 36, J 37, J 38, J 39, J 40, J 41, J 42, J 43, J 44, J 45, J 46, J 47, J 48, J 49, J 50, J 51, J 52, J 53, J 54, J 55, J 56, J 57, J 58, J 59, J 60, J 61, J 62, J 63, J 64, J 65, J 66, J 67, J 68, J 69, J 70, J 71, J 72, J 73, J 74, J 75, J 76, J 77, J 78, J 79, J 80, J 81, J 82, J 83, J 84, J 85, J 86, J 87, J 88, J 89, J 90, J 91, J 92, J 93, J 94, J 95, J 96, J 97, J 98, J 99, J 100, J 101, J 102, J 103, J 104, J 105, J 106, J 107, J 108, J 109, J 110, J 111, J 112, J 113, J 114, J 115, J 116, J 117, J 118, J 119, J 120, J 121, J 122, J 123, J 124, J 125, J 126, J 127, J 128, J 129, J 130, J 131, J 132, J 133, J 134, J 135, J 136, J 137, J 138, J 139, J 140, J 141, J 142, J 143, J 144, J 145, J 146, J 147]
def JNext (w0 : World) (vz vp : Value) (k : Nat) (a' : Act) (w' : World) : Prop := ∃ J, a' = ⟨jnFrame vz vp k J, []⟩ ∧ Under w0 w'
def JDone (w0 : World) (vz vp : Value) (k : Nat) (ex : Exit) (a' : Act) (w' : World) : Prop := ex = .exit 0 ∧ JNext w0 vz vp k a' w'
section
variable {w0 : World} {n k cz cp : Nat}
set_option maxRecDepth 100000 in
theorem jn_done {pz : Option Addr} {vp : Value} (J : Nat → Value) (w : World) (hU : Under w0 w) :
    jnRound.wp Try.prog (Exit.then (fun _ _ => False) (JDone w0 (.slice pz n cz) vp n)) ⟨jnFrame (.slice pz n cz) vp n J, []⟩ w := by
  have HU := Lib.hid hU
  clear hU
  unfold jnRound jnLoop jnRest jnText
  simp only [Try.f9, Option.getD_some, fstOf, sndOf, inOf]
  unfold jnFrame
  go_wp2
  exact ⟨rfl, frame_ex (F := jnFrame _ _ n) (by rfl) HU.out⟩
set_option maxRecDepth 100000 in
set_option maxHeartbeats 4000000 in
theorem jn_one {bz oz bp op : Nat} {l : List Sx} {qz qp : Option Addr} {az ap : Nat} (hk : k < n) (hn : n ≤ 1000000) (hl : l.length ≤ 1000000) (J : Nat → Value) (w : World) (hU : Under w0 w)
    (hz0 : bz < w0.heap.size) (hp0 : bp < w0.heap.size) (c1 : w0.cell? ⟨bz, oz + k, none⟩ = some (.slice qz l.length az)) (c2 : w0.cell? ⟨bp, op + k, none⟩ = some (.slice qp l.length ap)) (s1 : SxArg w0 qz l) (s2 : SxArg w0 qp l) :
    jnRound.wp Try.prog (Exit.then (JNext w0 (.slice (some ⟨bz, oz, none⟩) n cz) (.slice (some ⟨bp, op, none⟩) n cp) (k + 1)) (fun _ _ _ => False)) ⟨jnFrame (.slice (some ⟨bz, oz, none⟩) n cz) (.slice (some ⟨bp, op, none⟩) n cp) k J, []⟩ w := by
  rw [← under_cell hU hz0] at c1
  rw [← under_cell hU hp0] at c2
  have gz := Nat.lt_of_lt_of_le hz0 hU.size
  have gp := Nat.lt_of_lt_of_le hp0 hU.size
  have h1 : (k : Int) < n := by omega
  have h2 : (0 : Int) ≤ k := by omega
  have h3 : (k : Int) ≤ 1000000 := by omega
  have HC1 : Calls Try.prog 21 #[.slice qp l.length ap] w.drew fun e w1 => ∃ p1 c1, e = .returned (.slice p1 l.length c1) ∧ SxArg w1 p1 l ∧ Under w w1 := by
    refine (theirs_any (w0 := w.drew) (cap := ap) l hl (s2.under ⟨hU.os, hU.output, hU.size, hU.low⟩)).mono ?_
    rintro e w1 ⟨v, rfl, h3, h4⟩
    obtain ⟨p1, c1, rfl, h5⟩ := sx_arg h3
    exact ⟨p1, c1, rfl, h5, ⟨h4.os, h4.output, h4.size, h4.low⟩⟩
  have HC2 : ∀ w1, Under w w1 → Calls Try.prog 21 #[.slice qz l.length az] w1 fun e w2 => ∃ p2 c2, e = .returned (.slice p2 l.length c2) ∧ SxArg w2 p2 l ∧ Under w1 w2 := by
    intro w1 hU1
    refine (theirs_any (w0 := w1) (cap := az) l hl (s1.under (hU.trans hU1))).mono ?_
    rintro e w2 ⟨v, rfl, h3, h4⟩
    obtain ⟨p2, c2, rfl, h5⟩ := sx_arg h3
    exact ⟨p2, c2, rfl, h5, h4⟩
  have HC1 := Lib.hid HC1
  have HC2 := Lib.hid HC2
  have HU := Lib.hid hU
  clear hU s1 s2
  unfold jnRound jnLoop jnRest jnText
  simp only [Try.f9, Option.getD_some, fstOf, sndOf, inOf]
  unfold jnFrame
  go_wp2_with fail
  go_region_held3 (fun w' => w'.cell? ⟨bz, oz + k, none⟩ = some (.slice qz l.length az) ∧ w'.cell? ⟨bp, op + k, none⟩ = some (.slice qp l.length ap))
    (first
      | go_keep
      | (refine ⟨?_, ?_⟩
         · (rw [under_cell (HUx.out.trans HU3.out) gz]; assumption)
         · (rw [under_cell (HUx.out.trans HU3.out) gp]; assumption))
      | (refine ⟨?_, ?_⟩
         · (rw [under_cell HUx.out gz]; assumption)
         · (rw [under_cell HUx.out gp]; assumption))
      | (refine ⟨?_, ?_⟩
         · (rw [under_cell HU1.out gz]; assumption)
         · (rw [under_cell HU1.out gp]; assumption)))
    (first
      | (go_simp; go_at_call 20; refine (same_any (w0 := w2) (cap := c1') (cap' := c2') l hl ((HS1.out).under HU2.out) HS2.out).mono ?_; rintro e w3 ⟨rfl, hU3⟩; have HU3 := Lib.hid hU3; clear hU3)
      | (go_simp; go_at_call 21; refine (HC2.out w1 HU1.out).mono ?_; rintro e w2 ⟨p2, c2', rfl, hs2, hU2⟩; have HU2 := Lib.hid hU2; have HS2 := Lib.hid hs2; have HUx := Lib.hid (HU1.out.trans hU2); clear hU2 hs2)
      | (go_simp; go_at_call 21; refine HC1.out.mono ?_; rintro e w1 ⟨p1, c1', rfl, hs1, hU1⟩; have HU1 := Lib.hid hU1; have HS1 := Lib.hid hs1; clear hU1 hs1))
  go_wp2
  exact frame_ex (F := jnFrame _ _ (k + 1)) (by rfl) (HU.out.trans (HUx.out.trans HU3.out))

def JI (w0 : World) (vz vp : Value) (n m : Nat) (a : Act) (w : World) : Prop := ∃ k, m + k = n ∧ JNext w0 vz vp k a w
theorem jn_rounds (ls : List (List Sx)) {pz pp : Option Addr} (hn : ls.length ≤ 1000000) (hl : ∀ l ∈ ls, l.length ≤ 1000000) (hz : RowsArg w0 pz ls) (hp : RowsArg w0 pp ls) (m : Nat) (a : Act) (w : World) (h0 : JI w0 (.slice pz ls.length cz) (.slice pp ls.length cp) ls.length m a w) :
    (Code.loop jnRound).wp Try.prog (JDone w0 (.slice pz ls.length cz) (.slice pp ls.length cp) ls.length) a w := by
  refine wp_loop_ghost _ m h0 ?_
  clear h0
  rintro m a w ⟨k, hmk, J, rfl, hU⟩
  by_cases hkn : k = ls.length
  · subst hkn
    refine wp_mono (jn_done J w hU) ?_
    rintro e a' w' h
    cases e with
    | normal => exact h.elim
    | _ => exact h
  have hlt : k < ls.length := by omega
  have hne : ls ≠ [] := fun e => by rw [e] at hlt; exact absurd hlt (Nat.not_lt_zero _)
  obtain ⟨bz, oz, rfl, hb1, h1⟩ := hz hne
  obtain ⟨bp, op, rfl, hb2, h2⟩ := hp hne
  obtain ⟨qz, az, c1, _, s1⟩ := h1 k ls[k] (List.getElem?_eq_getElem hlt)
  obtain ⟨qp, ap, c2, _, s2⟩ := h2 k ls[k] (List.getElem?_eq_getElem hlt)
  refine wp_mono (jn_one hlt hn (hl _ (List.getElem_mem hlt)) J w hU hb1 hb2 c1 c2 s1 s2) ?_
  rintro e a' w' h
  cases e with
  | normal => exact ⟨m - 1, by omega, k + 1, by omega, h⟩
  | _ => exact h.elim
end
end Go.Proofs.Ytjnoffgclibfaaa
