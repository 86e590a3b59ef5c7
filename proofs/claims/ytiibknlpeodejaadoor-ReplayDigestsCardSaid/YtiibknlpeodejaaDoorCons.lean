/- slices.ContainsFunc at the constructors: is one too long? -/
import Derived.Test.YtiibknlpeodejaaDoorTerms
set_option linter.unusedSimpArgs false
set_option linter.unusedVariables false
namespace Go.Proofs.YtiibknlpeodejaaDoor
open Go.Lx Go.RowKit

/-- Where the first list of more than six lies. -/
def longAt : Nat → List (List (List Nd)) → Int
  | _, [] => -1
  | i, c :: l => if 6 < c.length then i else longAt (i + 1) l
/-- Is a list of more than six there? -/
def longB (l : List (List (List Nd))) : Bool := l.any fun c => decide (6 < c.length)
theorem longAt_drop {l : List (List (List Nd))} {k : Nat} (hk : k < l.length) : longAt k (l.drop k) = if 6 < l[k].length then (k : Int) else longAt (k + 1) (l.drop (k + 1)) := by
  rw [List.drop_eq_getElem_cons hk]
  rfl
theorem longAt_any : ∀ (l : List (List (List Nd))) (i : Nat), decide (0 ≤ longAt i l) = longB l := by
  intro l
  induction l with
  | nil => intro i; simp [longAt, longB]
  | cons n l ih =>
    intro i
    have e : longAt i (n :: l) = if 6 < n.length then (i : Int) else longAt (i + 1) l := rfl
    by_cases h : 6 < n.length
    · simp only [e, longB, List.any_cons, h]; simp
    · simp only [e, if_neg h, ih]; simp [longB, h]
section
variable {w0 : World}
set_option maxRecDepth 100000 in
set_option maxHeartbeats 1000000 in
theorem indexLong_any (l : List (List (List Nd))) {v : Value} (hl : l.length ≤ 100000) (hv : ConsV w0 v l) :
    Calls Tryd.prog 33 #[v, .func (.func 25) #[] #[]] w0 fun e w' => e = .returned (.int .i64 (longAt 0 l)) ∧ w0 = w' := by
  obtain ⟨p, c, vs, rfl, _, _, hp, hz⟩ := hv
  have HP := Lib.hid hp
  have HZ := Lib.hid hz
  clear hp hz
  go_enter Tryd.func33, Tryd.ntmps33
  go_wp2
  go_loop [8] (fun i => ∃ k : Nat, k ≤ l.length ∧ i = .int .i64 k ∧ longAt 0 l = longAt k (l.drop k)) (fun i => l.length - (intOf i).toNat)
  case atStart => exact ⟨0, Nat.zero_le _, rfl, by simp⟩
  case round =>
    obtain ⟨k, hk, rfl, hN⟩ := hrel
    have HN := Lib.hid hN
    clear hN
    by_cases hlt : k < l.length
    · have hc := longAt_drop hlt
      have HC := Lib.hid hc
      clear hc
      obtain ⟨u, hu, q, c', us, rfl, _⟩ := HZ.out.at (List.getElem?_eq_getElem hlt)
      obtain ⟨b, off, rfl, hb, hcs⟩ := HP.out (fun e => by rw [e] at hu; simp at hu)
      have cc := hcs k _ hu
      clear hcs hu
      generalize l[k].length = n at *
      by_cases h : 6 < n
      · have h' : (6 : Int) < (n : Int) := by omega
        have H := Lib.hid h
        clear h
        go_wp2
        go_ret
        exact ⟨ret_int (by rw [HN.out, HC.out, if_pos H.out]), rfl⟩
      · have h' : ¬ (6 : Int) < (n : Int) := by omega
        have H := Lib.hid h
        clear h
        go_wp2
        go_round
        case rel => exact ⟨k + 1, by omega, by go_num, by rw [HN.out, HC.out, if_neg H.out]⟩
        case measure => simp [intOf]; omega
    · go_wp2
      go_ret
      exact ⟨ret_int (by rw [HN.out, List.drop_eq_nil_of_le (by omega)]; rfl), rfl⟩
set_option maxRecDepth 100000 in
theorem hasLong_any (l : List (List (List Nd))) {v : Value} (hl : l.length ≤ 100000) (hv : ConsV w0 v l) :
    Calls Tryd.prog 24 #[v, .func (.func 25) #[] #[]] w0 fun e w' => e = .returned (.bool (longB l)) ∧ w0 = w' := by
  have HB := Lib.hid (longAt_any l 0)
  have HI := Lib.hid (indexLong_any l hl hv)
  obtain ⟨p, c, vs, rfl, _⟩ := hv
  go_enter Tryd.func24, Tryd.ntmps24
  go_wp2_with fail
  refine HI.out.mono ?_
  rintro e w' ⟨rfl, rfl⟩
  go_wp2
  go_ret
  exact ⟨ret_bool HB.out, rfl⟩
end
end Go.Proofs.YtiibknlpeodejaaDoor
