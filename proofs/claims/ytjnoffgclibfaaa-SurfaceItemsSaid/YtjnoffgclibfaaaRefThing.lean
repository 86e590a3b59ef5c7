/- The document's thing and Print: their contracts. -/
import Derived.Test.YtjnoffgclibfaaaJoined2
set_option linter.unusedSimpArgs false
set_option linter.unusedVariables false
namespace Go.Proofs.Ytjnoffgclibfaaa
open Go.Conc Go.Lx Go.RowKit

theorem refItems_rows {w0 : World} {cap : Nat} (row : List Sx) {p : Option Addr} (hn : row.length ≤ 1000000) (hcap : row.length ≤ cap) (hp : SxArg w0 p row) :
    Calls Try.prog 26 #[.slice p row.length cap] w0 fun e w1 => ∃ q c, e = .returned (.tuple #[.slice q ((itemsGo row).getD []).length c, .bool (itemsGo row).isSome]) ∧ RowsArg w1 q ((itemsGo row).getD []) ∧ Under w0 w1 := by
  refine (refItems_any row hn hcap hp).mono ?_
  rintro e w' ⟨hU, h⟩
  cases hR : itemsGo row with
  | none => rw [hR] at h; exact ⟨none, 0, h, fun h => absurd rfl h, hU⟩
  | some ls =>
    rw [hR] at h
    obtain ⟨g, c, vs, rfl, h1, h2⟩ := h
    refine ⟨_, _, rfl, fun hne => ⟨g, 0, rfl, (row_lt h1 rfl).2, fun i l hi => ?_⟩, hU⟩
    obtain ⟨q, c', h3, h4, h5⟩ := h2.at hi
    rw [Nat.zero_add]
    exact ⟨q, c', row_cell h1 rfl h3, h4, h5.under hU⟩
theorem items_rows {w0 : World} {cap : Nat} (row : List Sx) {p : Option Addr} (hn : row.length ≤ 1000000) (hcap : row.length ≤ cap) (hp : SxArg w0 p row) :
    Calls Try.prog 25 #[.slice p row.length cap] w0 fun e w1 => ∃ q c, e = .returned (.tuple #[.slice q ((itemsGo row).getD []).length c, .bool (itemsGo row).isSome]) ∧ RowsArg w1 q ((itemsGo row).getD []) ∧ Under w0 w1 := by
  refine (items_any row hn hcap hp).mono ?_
  rintro e w' ⟨hU, h⟩
  cases hR : itemsGo row with
  | none => rw [hR] at h; exact ⟨none, 0, h, fun h => absurd rfl h, hU⟩
  | some ls =>
    rw [hR] at h
    obtain ⟨vo, vs, rfl, h1, h2⟩ := h
    obtain ⟨q, c, rfl, h3⟩ := rows_arg h1 h2
    exact ⟨q, c, rfl, h3, hU⟩

/-- What is put together: the beginning, then the things, a byte between each two. -/
def sofar (hd : List UInt8) (sep : UInt8) (ls : List (List Sx)) : ByteArray := ⟨(hd ++ joinB (ls.map thing) [sep]).toArray⟩
theorem sofar_first (hd : List UInt8) (sep : UInt8) (l : List Sx) : sofar hd sep [] ++ tbytes l = sofar hd sep ([] ++ [l]) := by
  apply ByteArray.ext
  simp [sofar, tbytes, joinB, List.intercalate, ByteArray.data_append]
theorem sofar_more (hd : List UInt8) (sep : UInt8) (ls : List (List Sx)) (l : List Sx) (h : ls ≠ []) : sofar hd sep ls ++ ⟨#[sep]⟩ ++ tbytes l = sofar hd sep (ls ++ [l]) := by
  apply ByteArray.ext
  have := joinB_snoc [sep] (thing l) (ls.map thing) (by simpa using h)
  simp only [sofar, tbytes, List.map_append, List.map_cons, List.map_nil, this, ByteArray.data_append]
  simp

noncomputable def tgText : Code := Try.f45.body.getD .skip
noncomputable def tgLoop : Code := fstOf (sndOf (sndOf (sndOf (sndOf tgText))))
noncomputable def tgRound : Code := inOf (inOf (sndOf tgLoop))
def tgFrame (l : Value) (s : ByteArray) (k : Nat) (J : Nat → Value) : Array Value := #[J 0, J 1, J 2, l, J 4, .string s, .int .i64 (k : Int), J 7, J 8, J 9, J 10, J 11, J 12, J 13, J 14, J 15, J 16, J 17, J 18, J 19, J 20, J 21, J 22, J 23, J 24, J 25, J 26, J 27, J 28, J 29, J 30, J 31, J 32, J 33, J 34, J 35, J 36, J 37, J 38, J 39, J 40, J 41, J 42, J 43, J 44, J 45, J 46, J 47, J 48, J 49]
def TGNext (w0 : World) (l : Value) (s : ByteArray) (k : Nat) (a' : Act) (w' : World) : Prop := ∃ J, a' = ⟨tgFrame l s k J, []⟩ ∧ Under w0 w'
def TGDone (w0 : World) (l : Value) (s : ByteArray) (k : Nat) (e : Exit) (a' : Act) (w' : World) : Prop := e = .exit 0 ∧ TGNext w0 l s k a' w'
noncomputable def rpxText : Code := Try.f35.body.getD .skip
noncomputable def rpxLoop : Code := fstOf (sndOf (sndOf (sndOf (sndOf rpxText))))
noncomputable def rpxRound : Code := inOf (inOf (sndOf rpxLoop))
def rpxFrame (l : Value) (s : ByteArray) (k : Nat) (J : Nat → Value) : Array Value := #[J 0, J 1, J 2, J 3, l, J 5, .string s, .int .i64 (k : Int), J 8, J 9, J 10, J 11, J 12, J 13, J 14, J 15, J 16, J 17, J 18, J 19, J 20, J 21, J 22, J 23, J 24, J 25, J 26, J 27, J 28, J 29, J 30, J 31, J 32]
def RXNext (w0 : World) (l : Value) (s : ByteArray) (k : Nat) (a' : Act) (w' : World) : Prop := ∃ J, a' = ⟨rpxFrame l s k J, []⟩ ∧ Under w0 w'
def RXDone (w0 : World) (l : Value) (s : ByteArray) (k : Nat) (e : Exit) (a' : Act) (w' : World) : Prop := e = .exit 0 ∧ RXNext w0 l s k a' w'

section
variable {w0 : World} {b off n cap k : Nat} {s : ByteArray}
set_option maxRecDepth 100000 in
theorem tg_done {p : Option Addr} (J : Nat → Value) (w : World) (hU : Under w0 w) :
    tgRound.wp Try.prog (Exit.then (fun _ _ => False) (TGDone w0 (.slice p n cap) s n)) ⟨tgFrame (.slice p n cap) s n J, []⟩ w := by
  have HU := Lib.hid hU
  clear hU
  unfold tgRound tgLoop tgText
  simp only [Try.f45, Option.getD_some, fstOf, sndOf, inOf]
  unfold tgFrame
  go_wp2
  exact ⟨rfl, frame_ex (F := tgFrame _ s n) (by rfl) HU.out⟩
set_option maxRecDepth 100000 in
set_option maxHeartbeats 1000000 in
theorem tg_one {q : Option Addr} {c : Nat} {row : List Sx} (hk : k < n) (hn : n ≤ 1000000) (hs : s.size ≤ 1000000) (ht : (tbytes row).size ≤ 1000000) (J : Nat → Value) (w : World) (hU : Under w0 w)
    (hb0 : b < w0.heap.size) (cc : w0.cell? ⟨b, off + k, none⟩ = some (.slice q row.length c))
    (IH : ∀ w1, Under w0 w1 → Calls Try.prog 45 #[.slice q row.length c] w1 (SaidOut w1 row)) :
    tgRound.wp Try.prog (Exit.then (TGNext w0 (.slice (some ⟨b, off, none⟩) n cap) (if k = 0 then s ++ tbytes row else s ++ ⟨#[32]⟩ ++ tbytes row) (k + 1)) (fun _ _ _ => False)) ⟨tgFrame (.slice (some ⟨b, off, none⟩) n cap) s k J, []⟩ w := by
  rw [← under_cell hU hb0] at cc
  have hb := Nat.lt_of_lt_of_le hb0 hU.size
  have h1 : (k : Int) < n := by omega
  have h2 : (0 : Int) ≤ k := by omega
  have h3 : (k : Int) ≤ 1000000 := by omega
  have HU := Lib.hid hU
  have HC := Lib.hid (IH w hU)
  clear hU IH
  have hcat : (s ++ ⟨#[32]⟩).size = s.size + 1 := ByteArray.size_append
  by_cases hz : k = 0
  · rw [if_pos hz]
    subst hz
    rw [Nat.add_zero] at cc
    unfold tgRound tgLoop tgText
    simp only [Try.f45, Option.getD_some, fstOf, sndOf, inOf]
    unfold tgFrame
    go_wp2_with fail
    refine HC.out.mono ?_
    rintro e w1 ⟨rfl, hU1⟩
    have HU1 := Lib.hid hU1
    clear hU1
    go_wp2
    exact frame_ex (F := tgFrame _ _ (0 + 1)) (by rfl) (HU.out.trans HU1.out)
  · rw [if_neg hz]
    have h4 : (0 : Int) < k := by omega
    clear hz
    unfold tgRound tgLoop tgText
    simp only [Try.f45, Option.getD_some, fstOf, sndOf, inOf]
    unfold tgFrame
    go_wp2_with fail
    refine HC.out.mono ?_
    rintro e w1 ⟨rfl, hU1⟩
    have HU1 := Lib.hid hU1
    clear hU1
    go_wp2
    exact frame_ex (F := tgFrame _ _ (k + 1)) (by rfl) (HU.out.trans HU1.out)
theorem tg_rounds (hd : List UInt8) (ls : List (List Sx)) {p : Option Addr} (hn : ls.length ≤ 1000000) (hj : ∀ k, (sofar hd 32 (ls.take k)).size ≤ 1000000) (ht : ∀ l ∈ ls, (tbytes l).size ≤ 1000000) (hp : RowsArg w0 p ls)
    (IH : ∀ l ∈ ls, ∀ q c w1, Under w0 w1 → l.length ≤ c → SxArg w1 q l → Calls Try.prog 45 #[.slice q l.length c] w1 (SaidOut w1 l)) (m : Nat) (a : Act) (w : World)
    (h0 : ∃ k, m + k = ls.length ∧ TGNext w0 (.slice p ls.length cap) (sofar hd 32 (ls.take k)) k a w) :
    (Code.loop tgRound).wp Try.prog (TGDone w0 (.slice p ls.length cap) (sofar hd 32 ls) ls.length) a w := by
  refine wp_loop_ghost (fun m a w => ∃ k, m + k = ls.length ∧ TGNext w0 (.slice p ls.length cap) (sofar hd 32 (ls.take k)) k a w) m h0 ?_
  clear h0
  rintro m a w ⟨k, hmk, J, rfl, hU⟩
  by_cases hkn : k = ls.length
  · subst hkn
    refine wp_mono (tg_done J w hU) ?_
    rintro e a' w' h
    cases e with
    | normal => exact h.elim
    | _ => rw [List.take_length] at h; exact h
  have hlt : k < ls.length := by omega
  obtain ⟨b, off, rfl, hb, h1⟩ := hp (fun e => by rw [e] at hlt; exact absurd hlt (Nat.not_lt_zero _))
  obtain ⟨q, c, c1, hc, s1⟩ := h1 k ls[k] (List.getElem?_eq_getElem hlt)
  refine wp_mono (tg_one (cap := cap) hlt hn (hj k) (ht _ (List.getElem_mem hlt)) J w hU hb c1 (fun w1 hU1 => IH _ (List.getElem_mem hlt) q c w1 hU1 hc (s1.under hU1))) ?_
  rintro e a' w' h
  cases e with
  | normal =>
    refine ⟨m - 1, by omega, k + 1, by omega, ?_⟩
    have hs : (if k = 0 then sofar hd 32 (ls.take k) ++ tbytes ls[k] else sofar hd 32 (ls.take k) ++ ⟨#[32]⟩ ++ tbytes ls[k]) = sofar hd 32 (ls.take (k + 1)) := by
      rw [List.take_succ_eq_append_getElem hlt]
      by_cases hz : k = 0
      · subst hz
        rw [if_pos rfl, List.take_zero]
        exact sofar_first hd 32 _
      · rw [if_neg hz]
        exact sofar_more hd 32 _ _ (fun e => by have := congrArg List.length e; rw [List.length_take, List.length_nil] at this; omega)
    rw [← hs]
    exact h
  | _ => exact h.elim
set_option maxRecDepth 100000 in
theorem rpx_done {p : Option Addr} (J : Nat → Value) (w : World) (hU : Under w0 w) :
    rpxRound.wp Try.prog (Exit.then (fun _ _ => False) (RXDone w0 (.slice p n cap) s n)) ⟨rpxFrame (.slice p n cap) s n J, []⟩ w := by
  have HU := Lib.hid hU
  clear hU
  unfold rpxRound rpxLoop rpxText
  simp only [Try.f35, Option.getD_some, fstOf, sndOf, inOf]
  unfold rpxFrame
  go_wp2
  exact ⟨rfl, frame_ex (F := rpxFrame _ s n) (by rfl) HU.out⟩
set_option maxRecDepth 100000 in
set_option maxHeartbeats 1000000 in
theorem rpx_one {q : Option Addr} {c : Nat} {row : List Sx} (hk : k < n) (hn : n ≤ 1000000) (hs : s.size ≤ 1000000) (ht : (tbytes row).size ≤ 1000000) (J : Nat → Value) (w : World) (hU : Under w0 w)
    (hb0 : b < w0.heap.size) (cc : w0.cell? ⟨b, off + k, none⟩ = some (.slice q row.length c))
    (IH : ∀ w1, Under w0 w1 → Calls Try.prog 45 #[.slice q row.length c] w1 (SaidOut w1 row)) :
    rpxRound.wp Try.prog (Exit.then (RXNext w0 (.slice (some ⟨b, off, none⟩) n cap) (if k = 0 then s ++ tbytes row else s ++ ⟨#[10]⟩ ++ tbytes row) (k + 1)) (fun _ _ _ => False)) ⟨rpxFrame (.slice (some ⟨b, off, none⟩) n cap) s k J, []⟩ w := by
  rw [← under_cell hU hb0] at cc
  have hb := Nat.lt_of_lt_of_le hb0 hU.size
  have h1 : (k : Int) < n := by omega
  have h2 : (0 : Int) ≤ k := by omega
  have h3 : (k : Int) ≤ 1000000 := by omega
  have HU := Lib.hid hU
  have HC := Lib.hid (IH w hU)
  clear hU IH
  have hcat : (s ++ ⟨#[10]⟩).size = s.size + 1 := ByteArray.size_append
  by_cases hz : k = 0
  · rw [if_pos hz]
    subst hz
    rw [Nat.add_zero] at cc
    unfold rpxRound rpxLoop rpxText
    simp only [Try.f35, Option.getD_some, fstOf, sndOf, inOf]
    unfold rpxFrame
    go_wp2_with fail
    refine HC.out.mono ?_
    rintro e w1 ⟨rfl, hU1⟩
    have HU1 := Lib.hid hU1
    clear hU1
    go_wp2
    exact frame_ex (F := rpxFrame _ _ (0 + 1)) (by rfl) (HU.out.trans HU1.out)
  · rw [if_neg hz]
    have h4 : (0 : Int) < k := by omega
    clear hz
    unfold rpxRound rpxLoop rpxText
    simp only [Try.f35, Option.getD_some, fstOf, sndOf, inOf]
    unfold rpxFrame
    go_wp2_with fail
    refine HC.out.mono ?_
    rintro e w1 ⟨rfl, hU1⟩
    have HU1 := Lib.hid hU1
    clear hU1
    go_wp2
    exact frame_ex (F := rpxFrame _ _ (k + 1)) (by rfl) (HU.out.trans HU1.out)
theorem rpx_rounds (hd : List UInt8) (ls : List (List Sx)) {p : Option Addr} (hn : ls.length ≤ 1000000) (hj : ∀ k, (sofar hd 10 (ls.take k)).size ≤ 1000000) (ht : ∀ l ∈ ls, (tbytes l).size ≤ 1000000) (hp : RowsArg w0 p ls)
    (IH : ∀ l ∈ ls, ∀ q c w1, Under w0 w1 → l.length ≤ c → SxArg w1 q l → Calls Try.prog 45 #[.slice q l.length c] w1 (SaidOut w1 l)) (m : Nat) (a : Act) (w : World)
    (h0 : ∃ k, m + k = ls.length ∧ RXNext w0 (.slice p ls.length cap) (sofar hd 10 (ls.take k)) k a w) :
    (Code.loop rpxRound).wp Try.prog (RXDone w0 (.slice p ls.length cap) (sofar hd 10 ls) ls.length) a w := by
  refine wp_loop_ghost (fun m a w => ∃ k, m + k = ls.length ∧ RXNext w0 (.slice p ls.length cap) (sofar hd 10 (ls.take k)) k a w) m h0 ?_
  clear h0
  rintro m a w ⟨k, hmk, J, rfl, hU⟩
  by_cases hkn : k = ls.length
  · subst hkn
    refine wp_mono (rpx_done J w hU) ?_
    rintro e a' w' h
    cases e with
    | normal => exact h.elim
    | _ => rw [List.take_length] at h; exact h
  have hlt : k < ls.length := by omega
  obtain ⟨b, off, rfl, hb, h1⟩ := hp (fun e => by rw [e] at hlt; exact absurd hlt (Nat.not_lt_zero _))
  obtain ⟨q, c, c1, hc, s1⟩ := h1 k ls[k] (List.getElem?_eq_getElem hlt)
  refine wp_mono (rpx_one (cap := cap) hlt hn (hj k) (ht _ (List.getElem_mem hlt)) J w hU hb c1 (fun w1 hU1 => IH _ (List.getElem_mem hlt) q c w1 hU1 hc (s1.under hU1))) ?_
  rintro e a' w' h
  cases e with
  | normal =>
    refine ⟨m - 1, by omega, k + 1, by omega, ?_⟩
    have hs : (if k = 0 then sofar hd 10 (ls.take k) ++ tbytes ls[k] else sofar hd 10 (ls.take k) ++ ⟨#[10]⟩ ++ tbytes ls[k]) = sofar hd 10 (ls.take (k + 1)) := by
      rw [List.take_succ_eq_append_getElem hlt]
      by_cases hz : k = 0
      · subst hz
        rw [if_pos rfl, List.take_zero]
        exact sofar_first hd 10 _
      · rw [if_neg hz]
        exact sofar_more hd 10 _ _ (fun e => by have := congrArg List.length e; rw [List.length_take, List.length_nil] at this; omega)
    rw [← hs]
    exact h
  | _ => exact h.elim
end
end Go.Proofs.Ytjnoffgclibfaaa
