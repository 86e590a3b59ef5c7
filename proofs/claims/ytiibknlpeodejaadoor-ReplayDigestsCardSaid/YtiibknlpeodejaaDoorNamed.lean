/- cornicelaw21.named; corniceref10.Terms; corniceref20.Casts; cornicelaw21.list. -/
import Derived.Test.YtiibknlpeodejaaDoorDigest
set_option linter.unusedSimpArgs false
set_option linter.unusedVariables false
namespace Go.Proofs.YtiibknlpeodejaaDoor
open Go.Lx Go.RowKit

/-- Few nodes with short names. -/
def namedB (t : List Nd) : Bool := decide (t.length ≤ 60) && t.all fun x => decide (x.s.size ≤ 100)
theorem namedB_spec {t : List Nd} (h : namedB t = true) : t.length ≤ 60 ∧ ∀ x ∈ t, x.s.size ≤ 100 := by
  unfold namedB at h
  simp at h
  exact h
def NmRel (w0 : World) (t : List Nd) (i : Value) (wr : World) : Prop := ∃ k : Nat, k ≤ t.length ∧ i = .int .i64 (k : Int) ∧ (t.all fun x => decide (x.s.size ≤ 100)) = ((t.drop k).all fun x => decide (x.s.size ≤ 100)) ∧ wr = w0
theorem all_drop {α : Type} {l : List α} {f : α → Bool} {k : Nat} (hk : k < l.length) : (l.drop k).all f = (f l[k] && (l.drop (k + 1)).all f) := by
  rw [List.drop_eq_getElem_cons hk]; rfl
section
variable {w0 : World}
set_option maxRecDepth 100000 in
set_option maxHeartbeats 1000000 in
theorem named_any (t : List Nd) {v : Value} (hv : TermV w0 v t) :
    Calls Tryd.prog 8 #[v] w0 fun e w => e = .returned (.bool (namedB t)) ∧ w = w0 := by
  obtain ⟨p, c, rfl, _, _, hp⟩ := hv
  by_cases hl : t.length ≤ 60
  · have HO : RowKit.Hid (namedB t = t.all fun x => decide (x.s.size ≤ 100)) := Lib.hid (by unfold namedB; simp [hl])
    have HP := Lib.hid hp
    have hl' : ¬ (60 : Int) < t.length := by omega
    have hl0 : (0 : Int) ≤ t.length := by omega
    clear hp
    go_enter Tryd.func8, Tryd.ntmps8
    go_wp2
    go_loopw [3] (fun i wr => NmRel w0 t i wr) (fun i _ => t.length - (intOf i).toNat)
    case atStart => exact ⟨0, Nat.zero_le _, rfl, rfl, rfl⟩
    case round =>
      obtain ⟨k, hk, rfl, hN, rfl⟩ := hrel
      have HN := Lib.hid hN
      clear hN
      by_cases hlt : k < t.length
      · obtain ⟨b, off, rfl, hb, c0, c1, c2, c3⟩ := RowArg.node HP.out (List.getElem?_eq_getElem hlt)
        have HD := Lib.hid (all_drop (f := fun x : Nd => decide (x.s.size ≤ 100)) hlt)
        clear c0 c1 c2
        generalize t[k] = x at *
        by_cases hs : x.s.size ≤ 100
        · have hs' : ¬ (100 : Int) < x.s.size := by omega
          have HS := Lib.hid hs
          clear hs
          go_wp2
          go_roundw
          case rel => exact ⟨k + 1, by omega, by go_num, by rw [HN.out, HD.out]; simp [HS.out], rfl⟩
          case measure => simp [intOf]; omega
        · have hs' : (100 : Int) < x.s.size := by omega
          have HS := Lib.hid hs
          clear hs
          go_wp2
          go_ret
          exact ⟨by rw [HO.out, HN.out, HD.out]; simp [HS.out], rfl⟩
      · obtain rfl : k = t.length := by omega
        go_wp2
        go_ret
        exact ⟨by rw [HO.out, HN.out, List.drop_length]; rfl, rfl⟩
  · have HO : RowKit.Hid (namedB t = false) := Lib.hid (by unfold namedB; simp [hl])
    have hl' : (60 : Int) < t.length := by omega
    clear hl hp
    go_enter Tryd.func8, Tryd.ntmps8
    go_wp2
    go_ret
    exact ⟨by rw [HO.out]; rfl, rfl⟩
end
end Go.Proofs.YtiibknlpeodejaaDoor
