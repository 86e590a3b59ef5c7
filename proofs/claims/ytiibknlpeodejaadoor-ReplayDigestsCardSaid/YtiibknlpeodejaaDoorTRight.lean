/- level.Check, term.right, term.many, walked. -/
import Derived.Test.YtiibknlpeodejaaDoorTName
set_option linter.unusedSimpArgs false
set_option linter.unusedVariables false
namespace Go.Proofs.YtiibknlpeodejaaDoor
open Go.Lx Go.RowKit

def ints (l : List Int) : List Value := l.map fun n => .int .i64 n
/-- Is a number a level? -/
def lvlB (n : Int) : Bool := !(decide (n < 0) || decide (9 < n))
/-- The first number that is none. -/
def badAt : Nat → List Int → Int
  | _, [] => -1
  | i, n :: l => if lvlB n = false then i else badAt (i + 1) l
theorem badAt_drop {l : List Int} {k : Nat} {c : Int} (h : l[k]? = some c) : badAt k (l.drop k) = if lvlB c = false then (k : Int) else badAt (k + 1) (l.drop (k + 1)) := by
  obtain ⟨hk, hc⟩ := List.getElem?_eq_some_iff.1 h
  rw [List.drop_eq_getElem_cons hk, hc]
  rfl
theorem badAt_all : ∀ (l : List Int) (i : Nat), decide (0 ≤ badAt i l) = !(l.all lvlB) := by
  intro l
  induction l with
  | nil => intro i; simp [badAt]
  | cons n l ih =>
    intro i
    have e : badAt i (n :: l) = if lvlB n = false then (i : Int) else badAt (i + 1) l := rfl
    by_cases h : lvlB n = false
    · simp only [e, List.all_cons, h]; simp
    · simp only [e, if_neg h, List.all_cons, ih]; simp at h; rw [h]; simp

set_option maxRecDepth 100000 in
set_option maxHeartbeats 1000000 in
theorem indexBad_any (l : List Int) (p : Option Addr) (c : Nat) (w : World) (hl : l.length ≤ maxLen) (hp : RowArg w p (ints l)) :
    Calls Tryd.prog 60 #[.slice p l.length c, .func (.func 59) #[] #[]] w fun e w' => e = .returned (.int .i64 (badAt 0 l)) ∧ w = w' := by
  unfold maxLen at hl
  have HP := Lib.hid hp
  clear hp
  go_enter Tryd.func60, Tryd.ntmps60
  go_wp2
  go_loop [8] (fun i => ∃ k : Nat, k ≤ l.length ∧ i = .int .i64 k ∧ badAt 0 l = badAt k (l.drop k)) (fun i => l.length - (intOf i).toNat)
  case atStart => exact ⟨0, Nat.zero_le _, rfl, by simp⟩
  case round =>
    obtain ⟨k, hk, rfl, hN⟩ := hrel
    have HN := Lib.hid hN
    clear hN
    by_cases hlt : k < l.length
    · have hc := badAt_drop (l := l) (k := k) (c := l[k]) (List.getElem?_eq_getElem hlt)
      have HC := Lib.hid hc
      clear hc
      obtain ⟨b, off, rfl, hb, hcs⟩ := HP.out (by rw [Ne, ints, List.map_eq_nil_iff]; intro e; rw [e] at hlt; simp at hlt)
      have cc := hcs k (.int .i64 l[k]) (by simp [ints, List.getElem?_eq_getElem hlt])
      clear hcs
      generalize hx : l[k] = x at *
      clear hx
      by_cases h1 : x < 0
      · go_wp2
        go_ret
        exact ⟨ret_int (by rw [HN.out, HC.out, if_pos (by simp [lvlB, h1])]), rfl⟩
      · by_cases h2 : 9 < x
        · go_wp2
          go_ret
          exact ⟨ret_int (by rw [HN.out, HC.out, if_pos (by simp [lvlB, h2])]), rfl⟩
        · go_wp2
          go_round
          case rel => exact ⟨k + 1, by omega, by go_num, by rw [HN.out, HC.out, if_neg (by simp [lvlB]; omega)]⟩
          case measure => simp [intOf]; omega
    · go_wp2
      go_ret
      exact ⟨ret_int (by rw [HN.out, List.drop_eq_nil_of_le (by omega)]; rfl), rfl⟩
set_option maxRecDepth 100000 in
theorem hasBad_any (l : List Int) (p : Option Addr) (c : Nat) (w : World) (hl : l.length ≤ maxLen) (hp : RowArg w p (ints l)) :
    Calls Tryd.prog 58 #[.slice p l.length c, .func (.func 59) #[] #[]] w fun e w' => e = .returned (.bool (!l.all lvlB)) ∧ w = w' := by
  have hb := badAt_all l 0
  have HB := Lib.hid hb
  clear hb
  go_enter Tryd.func58, Tryd.ntmps58
  go_wp2_with (go_at_call 60; refine (indexBad_any l p c _ hl hp).mono ?_; rintro e w' ⟨rfl, rfl⟩)
  go_ret
  exact ⟨ret_bool HB.out, rfl⟩
set_option maxRecDepth 100000 in
theorem all_any (l : List Int) (p : Option Addr) (c : Nat) (w : World) (hl : l.length ≤ maxLen) (hp : RowArg w p (ints l)) :
    Calls Tryd.prog 57 #[.slice p l.length c] w fun e w' => e = .returned (.bool (l.all lvlB)) ∧ w = w' := by
  go_enter Tryd.func57, Tryd.ntmps57
  go_wp2_with (go_at_call 58; refine (hasBad_any l p c _ hl hp).mono ?_; rintro e w' ⟨rfl, rfl⟩)
  go_ret
  exact ⟨ret_bool (by simp), rfl⟩
/-- What level.Check says. -/
def levelE (n : Int) : Int := if lvlB n then 0 else 1
set_option maxRecDepth 100000 in
theorem levelCheck_any (n : Int) (w : World) :
    Calls Tryd.prog 55 #[.int .i64 n] w fun e w' => e = .returned (.int .i64 (levelE n)) ∧ Under w w' := by
  have hc := all_any [n] (some ⟨w.heap.size, 0, none⟩) 1 (w.alloc (.cells #[.int .i64 n] 3)) (by unfold maxLen; simp) (by simpa [ints] using arg_new w (ints [n]) 3 (0, 0))
  have e : [n].all lvlB = lvlB n := by simp
  rw [e] at hc
  have HC := Lib.hid hc
  clear hc e
  unfold levelE
  by_cases h : lvlB n
  all_goals
    go_enter Tryd.func55, Tryd.ntmps55
    go_wp2_with (go_at_call 57; refine HC.out.mono ?_; rintro e w' ⟨rfl, rfl⟩)
    go_ret
    exact ⟨by simp, under_alloc (Under.refl _) _⟩

set_option maxRecDepth 100000 in
theorem most_any (k : Int) (w : World) : Calls Tryd.prog 56 #[.int .i64 k] w fun e w' => e = .returned (.int .i64 (mostN k)) ∧ w = w' := by
  unfold mostN
  by_cases h0 : k = 0 <;> by_cases h3 : k = 3 <;> by_cases h6 : k = 6
  all_goals try omega
  all_goals
    go_enter Tryd.func56, Tryd.ntmps56
    go_wp2
    go_ret
    exact ⟨ret_int (by simp [*]), rfl⟩
set_option maxRecDepth 100000 in
theorem many_any (x : Nd) (w : World) (hS : ShapesAt 1 w) (hr : rightB x = true) : Calls Tryd.prog 53 #[ndV x] w fun e w' => e = .returned (.int .i64 ((binds x).length : Nat)) ∧ Under w w' := by
  obtain ⟨k, n, m, s⟩ := x
  unfold ndV binds
  obtain ⟨h0, h1⟩ := rightB_k hr
  have hm := rightB_m hr
  obtain ⟨p, c, c0, _⟩ := hS.row k.toNat (by simp at h0 h1; omega)
  simp only at *
  by_cases h26 : k = 26
  · have := hm (.inl h26)
    go_enter Tryd.func53, Tryd.ntmps53
    go_wp2
    go_ret
    exact ⟨ret_int (by omega), under_alloc (Under.refl _) _⟩
  by_cases h27 : k = 27
  · have := hm (.inr h27)
    go_enter Tryd.func53, Tryd.ntmps53
    go_wp2
    go_ret
    exact ⟨ret_int (by omega), under_alloc (Under.refl _) _⟩
  have hb := hS.lt
  clear hm hr hS
  go_enter Tryd.func53, Tryd.ntmps53
  go_wp2
  go_ret
  exact ⟨ret_int (by simp), under_alloc (Under.refl _) _⟩
end Go.Proofs.YtiibknlpeodejaaDoor
