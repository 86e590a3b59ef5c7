/- surface.joined: the loop. -/
import Derived.Test.YtjnoffgclibfaaaThing
import Derived.Test.YtjnoffgclibfaaaShelf
set_option linter.unusedSimpArgs false
set_option linter.unusedVariables false
namespace Go.Proofs.Ytjnoffgclibfaaa
open Go.Conc Go.Lx Go.RowKit

def tbytes (l : List Sx) : ByteArray := ⟨(thing l).toArray⟩
def strCells (ls : List (List Sx)) : List Value := ls.map fun l => .string (tbytes l)
theorem strCells_app (a b : List (List Sx)) : strCells (a ++ b) = strCells a ++ strCells b := List.map_append
theorem Try.info9 : (Try.prog.info? 9).map (fun i => (i.zero, i.size, i.bytes)) = some (some (.string ⟨#[]⟩), 1, 16) := by kernel_rfl
def jdFn : Value := .func (.func 51) #[] #[]
/-- What said answers. -/
def SaidOut (w0 : World) (row : List Sx) (e : Ending) (w' : World) : Prop := e = .returned (.string (tbytes row)) ∧ Under w0 w'
noncomputable def jdText : Code := Try.f44.body.getD .skip
noncomputable def jdLoop : Code := fstOf (sndOf (sndOf (sndOf (sndOf jdText))))
noncomputable def jdRound : Code := inOf (inOf (sndOf jdLoop))
def jdFrame (by' : ByteArray) (l vs fv : Value) (n k : Nat) (J : Nat → Value) : Array Value :=
  #[.string by', J 1, J 2, J 3, J 4, fv, vs, J 7, J 8, l, .int .i64 (n : Int), .int .i64 (k : Int), J 12, J 13, J 14, J 15, J 16, J 17, J 18, J 19, J 20, J 21, J 22, J 23, J 24]
def KNext (w0 : World) (by' : ByteArray) (l fv : Value) (n k : Nat) (ls : List (List Sx)) (a' : Act) (w' : World) : Prop :=
  ∃ vs J, a' = ⟨jdFrame by' l vs fv n k J, []⟩ ∧ w'.ownsRow w0.heap.size 9 1 vs ls.length (strCells ls) ∧ Under w0 w'
section
variable {w0 : World} {b off n cap k : Nat} {by' : ByteArray}
def KDone (by' : ByteArray) (l vs fv : Value) (n : Nat) (w : World) (e : Exit) (a' : Act) (w' : World) : Prop := e = .exit 0 ∧ ∃ J, a' = ⟨jdFrame by' l vs fv n n J, []⟩ ∧ w' = w
set_option maxRecDepth 100000 in
theorem jd_done {l vs fv : Value} (J : Nat → Value) (w : World) :
    jdRound.wp Try.prog (Exit.then (fun _ _ => False) (KDone by' l vs fv n w)) ⟨jdFrame by' l vs fv n n J, []⟩ w := by
  unfold jdRound jdLoop jdText
  simp only [Try.f44, Option.getD_some, fstOf, sndOf, inOf]
  unfold jdFrame
  go_wp2
  exact ⟨rfl, frame_ex (F := jdFrame by' l vs fv n n) (by rfl) rfl⟩
set_option maxRecDepth 100000 in
set_option maxHeartbeats 1000000 in
theorem jd_one {q : Option Addr} {c : Nat} {row : List Sx} {vs : Value} {ls : List (List Sx)} (hk : k < n) (hn : n ≤ 1000000) (hls : ls.length = k) (J : Nat → Value) (w : World) (hown : w.ownsRow w0.heap.size 9 1 vs ls.length (strCells ls)) (hU : Under w0 w)
    (hb0 : b < w0.heap.size) (cc : w0.cell? ⟨b, off + k, none⟩ = some (.slice q row.length c))
    (IH : ∀ w1, Under w0 w1 → Calls Try.prog 51 #[.slice q row.length c] w1 (SaidOut w1 row)) :
    jdRound.wp Try.prog (Exit.then (KNext w0 by' (.slice (some ⟨b, off, none⟩) n cap) jdFn n (k + 1) (ls ++ [row])) (fun _ _ _ => False)) ⟨jdFrame by' (.slice (some ⟨b, off, none⟩) n cap) vs jdFn n k J, []⟩ w := by
  rw [← under_cell hU hb0] at cc
  have hb := Nat.lt_of_lt_of_le hb0 hU.size
  obtain ⟨i0, hi, hz0, hz1, hz2⟩ := info_parts Try.info9
  have h1 : (k : Int) < n := by omega
  have h2 : (0 : Int) ≤ k := by omega
  have h3 : (k : Int) ≤ 1000000 := by omega
  have hmx : ls.length + 1 ≤ maxLen := by simp only [maxLen]; omega
  have hby : (ls.length + 1) * 16 ≤ 140737488355328 := by omega
  have HU := Lib.hid hU
  have HO := Lib.hid hown
  have HC := Lib.hid (IH w hU)
  have HL := Lib.hid hls
  clear hU hown IH hls
  unfold jdRound jdLoop jdText
  simp only [Try.f44, Option.getD_some, fstOf, sndOf, inOf]
  unfold jdFrame jdFn
  go_wp2_with fail
  refine HC.out.mono ?_
  rintro e w1 ⟨rfl, hU1⟩
  have HU1 := Lib.hid hU1
  clear hU1
  go_wp2_with (at_builtin; refine wpList_append_own_at _ rfl _ _ 98 rfl w0.heap.size 9 i0 _ 1 16 Try.underlying98 hi hz0 hz1 hz2 rfl (by decide) _ _ _ rfl ((row_under HO.out HU1.out).alloc _) ⟨w1.heap.size, 0, none⟩ 1 1 [.string (tbytes row)] rfl rfl ?c1 ?c2 hmx hby ?c5 ?_)
  case c1 =>
    intro j u hj
    match j, hj with
    | 0, hj => cases hj; simp [Addr.add]
  case c2 => intro u hu; simp at hu; rcases hu with rfl; rfl
  case c5 => have := HU.out.size; have := HU1.out.size; simp; omega
  intro v' w' hown hgrow hnil hat
  have HW := Lib.hid hown
  have HU2 := Lib.hid (under_grown (under_alloc (HU.out.trans HU1.out) _) hgrow fun g e => (row_lt HO.out e).1)
  clear hown hgrow hnil hat
  go_wp2
  exact ⟨v', frame_ex (F := jdFrame by' _ v' _ n (k + 1)) (by rfl) ⟨by rw [strCells_app, List.length_append]; exact HW.out, HU2.out⟩⟩
end
end Go.Proofs.Ytjnoffgclibfaaa
