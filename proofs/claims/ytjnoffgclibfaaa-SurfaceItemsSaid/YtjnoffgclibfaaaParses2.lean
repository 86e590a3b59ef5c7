/- SurfaceParses, walked: a token of which nothing is promised; the loop. -/
import Derived.Test.YtjnoffgclibfaaaParses
set_option linter.unusedSimpArgs false
set_option linter.unusedVariables false
namespace Go.Proofs.Ytjnoffgclibfaaa
open Go.Conc Go.Lx Go.RowKit

section
variable {W : World} {b off n cap k : Nat} {vt : Value} {row : List PTok} {x : PTok}

/-- behind the test of a token that is bad. -/
def badFrame (J : Nat → Value) : Array Value := #[J 0, J 1, J 2, J 3, J 4, J 5, J 6, J 7, J 8, J 9, J 10, J 11, J 12, J 13, J 14, J 15, J 16, J 17, J 18, J 19, J 20, J 21, J 22, J 23, J 24, J 25, J 26, J 27, J 28, J 29, J 30, J 31, J 32, J 33, J 34, J 35, J 36, J 37, J 38, J 39, J 40, J 41, J 42, J 43, J 44, J 45, J 46, J 47, J 48, J 49, J 50, J 51, J 52, J 53, J 54, J 55, J 56, J 57, J 58, J 59, J 60, J 61, J 62, J 63, .bool true, J 65, J 66, J 67, J 68, J 69, J 70, J 71, J 72, J 73, J 74, J 75, J 76, J 77, J 78, J 79, J 80, J 81, J 82, J 83, J 84, J 85, J 86, J 87, J 88, J 89, J 90, J 91, J 92, J 93, J 94, J 95, J 96, J 97, J 98]
def BadNext (w : World) (a' : Act) (w' : World) : Prop := ∃ J, a' = ⟨badFrame J, []⟩ ∧ w' = w
noncomputable def psTest : Code := fstOf (fstOf (inOf (fstOf (sndOf psRound))))
set_option maxRecDepth 100000 in
set_option maxHeartbeats 4000000 in
theorem ps_bad (hk : k < n) (hn : n ≤ 1000000) (hx : ¬ GoodTok x) (J : Nat → Value) (w : World)
    (c0 : w.cell? ⟨b, off + k * 3, none⟩ = some (.int .i64 x.kind)) (c2 : w.cell? ⟨b, off + k * 3 + 2, none⟩ = some (.string x.text)) :
    psTest.wp Try.prog (Exit.then (BadNext w) (fun _ _ _ => False)) ⟨psFrame (.slice (some ⟨b, off, none⟩) n cap) k vt J, []⟩ w := by
  have hin : (k : Int) < n := by omega
  unfold psTest psRound psLoop psText
  simp only [Try.f7, Option.getD_some, fstOf, sndOf, inOf]
  unfold psFrame
  obtain ⟨kd, q, t⟩ := x
  simp only [GoodTok] at hx c0 c2
  by_cases hA : kd < 1
  · clear hx
    go_wp2
    exact frame_ex (F := badFrame) (by rfl) rfl
  by_cases hB : 3 < kd
  · clear hx
    go_wp2
    exact frame_ex (F := badFrame) (by rfl) rfl
  by_cases hD : (100 : Int) < t.size
  · by_cases hC : kd = 1
    · have k4 : (kd == 1) = true := by simpa using hC
      obtain ⟨e1, e2⟩ := toList_ne (t := t) (by omega)
      clear hx hC
      go_wp2
      exact frame_ex (F := badFrame) (by rfl) rfl
    · have k4 : (kd == 1) = false := by simpa using hC
      clear hx hC
      go_wp2
      exact frame_ex (F := badFrame) (by rfl) rfl
  · have hC : kd = 1 ∧ t.size = 0 := by
      by_cases h1 : kd = 1
      · by_cases h2 : t.size = 0
        · exact ⟨h1, h2⟩
        · exact absurd ⟨by omega, fun _ => h2, by omega⟩ hx
      · exact absurd ⟨by omega, fun h => absurd h h1, by omega⟩ hx
    obtain ⟨hC, hZ⟩ := hC
    have k4 : (kd == 1) = true := by simpa using hC
    have e0 : t = ⟨#[]⟩ := by
      apply ByteArray.ext
      exact Array.eq_empty_of_size_eq_zero hZ
    subst e0
    clear hx hC hZ hD
    go_wp2
    exact frame_ex (F := badFrame) (by rfl) rfl
end
end Go.Proofs.Ytjnoffgclibfaaa
