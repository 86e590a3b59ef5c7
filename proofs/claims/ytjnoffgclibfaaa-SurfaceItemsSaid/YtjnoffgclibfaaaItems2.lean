/- surface.Items: its contract. -/
import Derived.Test.YtjnoffgclibfaaaItems
set_option linter.unusedSimpArgs false
set_option linter.unusedVariables false
namespace Go.Proofs.Ytjnoffgclibfaaa
open Go.Conc Go.Lx Go.RowKit

section
variable {w0 : World} {b off n cap k : Nat}
theorem pieces_at (row : List Sx) (st : List Nat) (n : Nat) {k : Nat} (hk : k < st.length) {a c : Nat} (ha : (st ++ [n])[k]? = some a) (hc : (st ++ [n])[k + 1]? = some c) : (pieces row st n)[k]? = some (piece row a c) := by
  unfold pieces
  rw [List.getElem?_map, List.getElem?_range hk]
  simp only [Option.map_some, List.getD_eq_getElem?_getD, ha, hc, Option.getD_some]
theorem inc_lt {st : List Nat} {n : Nat} (h : Inc st n) {k a c : Nat} (ha : (st ++ [n])[k]? = some a) (hc : (st ++ [n])[k + 1]? = some c) : a < c ∧ c ≤ n := by
  unfold Inc at h
  obtain ⟨h1, e1⟩ := List.getElem?_eq_some_iff.1 ha
  obtain ⟨h2, e2⟩ := List.getElem?_eq_some_iff.1 hc
  refine ⟨by rw [← e1, ← e2]; exact List.pairwise_iff_getElem.1 h k (k + 1) h1 h2 (by omega), ?_⟩
  have hl : (st ++ [n]).length = st.length + 1 := by simp
  by_cases hk : k + 1 = st.length
  · rw [← e2]
    have : (st ++ [n])[k + 1] = n := by simp [hk]
    omega
  · have := List.pairwise_iff_getElem.1 h (k + 1) st.length h2 (by omega) (by omega)
    have e3 : (st ++ [n])[st.length]'(by omega) = n := by simp
    rw [e3] at this
    omega

def II (w0 : World) (l va : Value) (row : List Sx) (st : List Nat) (m : Nat) (a : Act) (w : World) : Prop :=
  ∃ k, m + k = st.length ∧ INext w0 l va st.length k (st ++ [row.length]) ((pieces row st row.length).take k) a w
def IEnd (w0 : World) (l va : Value) (row : List Sx) (st : List Nat) (e : Exit) (a : Act) (w : World) : Prop :=
  e = .exit 0 ∧ INext w0 l va st.length st.length (st ++ [row.length]) (pieces row st row.length) a w
theorem it_rounds (row : List Sx) (st : List Nat) {p : Option Addr} {va : Value} (hn : row.length ≤ 1000000) (hcap : row.length ≤ cap) (hp : SxArg w0 p row) (hst : st.length ≤ row.length) (hinc : Inc st row.length) (m : Nat) (a : Act) (w : World)
    (h0 : II w0 (.slice p row.length cap) va row st m a w) :
    (Code.loop itRound).wp Try.prog (IEnd w0 (.slice p row.length cap) va row st) a w := by
  refine wp_loop_ghost _ m h0 ?_
  clear h0
  rintro m a w ⟨k, hmk, vo, J, rfl, hi⟩
  by_cases hkn : k = st.length
  · subst hkn
    refine wp_mono (it_done J w) ?_
    rintro e a' w' h
    cases e with
    | normal => exact h.elim
    | _ =>
      obtain ⟨h1, J', rfl, rfl⟩ := h
      rw [List.take_of_length_le (by rw [pieces_len]; exact Nat.le_refl _)] at hi
      exact ⟨h1, vo, J', rfl, hi⟩
  have hlt : k < st.length := by omega
  obtain ⟨b, off, rfl, hb0, ht⟩ := hp (fun e => by rw [e, List.length_nil] at hst; omega)
  have hbl : (st ++ [row.length]).length = st.length + 1 := by simp
  obtain ⟨x, hx⟩ : ∃ x, (st ++ [row.length])[k]? = some x := ⟨_, List.getElem?_eq_getElem (by omega)⟩
  obtain ⟨y, hy⟩ : ∃ y, (st ++ [row.length])[k + 1]? = some y := ⟨_, List.getElem?_eq_getElem (by omega)⟩
  obtain ⟨h1, h2⟩ := inc_lt hinc hx hy
  have := it_one (cap := cap) (w0 := w0) (row := row) (va := va) (vo := vo) (ls := (pieces row st row.length).take k) (by omega) (by omega) hx hy h1 h2 hn hcap (by rw [List.length_take, pieces_len]; omega) J w hi hb0 ht
  rw [hbl, Nat.add_sub_cancel] at this
  refine wp_mono this ?_
  rintro e a' w' h
  cases e with
  | normal =>
    refine ⟨m - 1, by omega, k + 1, by omega, ?_⟩
    have hpl : k < (pieces row st row.length).length := by rw [pieces_len]; exact hlt
    have hpk := pieces_at row st row.length hlt hx hy
    rw [List.getElem?_eq_getElem hpl] at hpk
    rw [List.take_succ_eq_append_getElem hpl, Option.some.inj hpk]
    exact h
  | _ => exact h.elim

/-- What Items answers. -/
def ItOut (w0 : World) (R : Option (List (List Sx))) (e : Ending) (w' : World) : Prop :=
  Under w0 w' ∧ match R with
    | some ls => ∃ vo vs, e = .returned (.tuple #[vo, .bool true]) ∧ w'.ownsRow w0.heap.size 36 1 vo ls.length vs ∧ SxOwns w' w0.heap.size vs ls
    | none => e = .returned (.tuple #[.slice none 0 0, .bool false])
theorem begins_len : ∀ (l : List Sx) (i : Nat) (st s : List Nat), beginsGo l i st = some s → s.length ≤ st.length + l.length := by
  intro l
  induction l with
  | nil => intro i st s h; cases h; simp
  | cons x l ih =>
    intro i st s h
    simp only [beginsGo] at h
    split at h
    · have := ih _ _ _ h
      have e : (bgStep x i st).length ≤ st.length + 1 := by unfold bgStep; simp
      simp only [List.length_cons]; omega
    · cases h
set_option maxRecDepth 100000 in
set_option maxHeartbeats 4000000 in
theorem items_any (row : List Sx) {p : Option Addr} (hn : row.length ≤ 1000000) (hcap : row.length ≤ cap) (hp : SxArg w0 p row) :
    Calls Try.prog 25 #[.slice p row.length cap] w0 (ItOut w0 (itemsGo row)) := by
  have C1 := Lib.hid (begins_any (w0 := w0) (cap := cap) row hn hp)
  have HL := Lib.hid (fun st va hst hinc m a w h => it_rounds (w0 := w0) (cap := cap) (va := va) row st hn hcap hp hst hinc m a w h)
  have HI := Lib.hid (fun st h => inc_go row 0 [] st (inc_nil 0) h)
  have HN := Lib.hid (fun st h => begins_len row 0 [] st h)
  unfold itemsGo
  generalize beginsGo row 0 [] = R at *
  clear hp
  go_enter Try.func25, Try.ntmps25
  go_wp2_with fail
  refine C1.out.mono ?_
  rintro e w1 ⟨hU1, hR1⟩
  cases R with
  | none =>
    subst hR1
    have HU1 := Lib.hid hU1
    clear hU1
    go_wp2
    go_ret2
    exact ⟨HU1.out, rfl⟩
  | some st =>
    obtain ⟨va, rfl, hown⟩ := hR1
    have hst := HN.out st rfl
    simp only [List.length_nil, Nat.zero_add] at hst
    have hinc := HI.out st rfl
    rw [Nat.zero_add] at hinc
    obtain ⟨g, gc, rfl, hg, hgb, hgl, _, _⟩ := row_block hown (by omega)
    have HL2 := Lib.hid (HL.out st (.slice (some ⟨g, 0, none⟩) (st.length + 1) gc) hst hinc)
    have HO := Lib.hid hown
    have HU1 := Lib.hid hU1
    clear hU1 hown hinc HL HI HN C1
    go_wp2
    rename_i K hK
    refine wp_mono (HL2.out st.length _ _ ⟨0, rfl, .slice none 0 0, _, pframe_ex (F := itFrame _ _ _ 0 _) (by rfl), ⟨by simpa using HO.out, ⟨[], row_nil _ _ _ _, trivial⟩, HU1.out⟩⟩) ?_
    rintro e a' w' ⟨rfl, vo, J, rfl, hi⟩
    simp only [Exit.inBlock, if_pos, Exit.then]
    refine hK _ _ ?_
    have HH := Lib.hid hi
    clear hi
    unfold itFrame
    go_wp2
    go_ret2
    obtain ⟨vs, h1, h2⟩ := HH.out.out
    exact ⟨HH.out.low, vo, vs, rfl, h1, h2⟩

/-- Rows of rows, as they are read. -/
def RowsArg (w : World) (p : Option Addr) (ls : List (List Sx)) : Prop := ls ≠ [] → ∃ b off, p = some ⟨b, off, none⟩ ∧ b < w.heap.size ∧ ∀ i l, ls[i]? = some l → ∃ q c, w.cell? ⟨b, off + i, none⟩ = some (.slice q l.length c) ∧ l.length ≤ c ∧ SxArg w q l
theorem RowsArg.under {a b : World} {p : Option Addr} {l : List (List Sx)} (h : RowsArg a p l) (hU : Under a b) : RowsArg b p l := by
  intro hne
  obtain ⟨bl, off, rfl, hb, ht⟩ := h hne
  refine ⟨bl, off, rfl, Nat.lt_of_lt_of_le hb hU.size, fun k t hk => ?_⟩
  obtain ⟨q, c, h1, h2, h3⟩ := ht k t hk
  exact ⟨q, c, by rw [under_cell hU hb]; exact h1, h2, h3.under hU⟩
theorem sx_arg' {w : World} {base : Nat} {e : TypeId} {l : Value} {row : List Sx} (h : w.ownsRow base e 3 l row.length (sxCells row)) : ∃ p cap, l = .slice p row.length cap ∧ row.length ≤ cap ∧ SxArg w p row := by
  obtain ⟨p, cap, rfl, h1⟩ := sx_arg h
  refine ⟨p, cap, rfl, ?_, h1⟩
  rcases h.2 with ⟨e, h0⟩ | ⟨g, c, cur, e, _, _, h2, _⟩
  · rw [h0]; exact Nat.zero_le _
  · cases e; exact h2
theorem rows_arg {w : World} {base : Nat} {e : TypeId} {vo : Value} {vs : List Value} {ls : List (List Sx)} (h : w.ownsRow base e 1 vo ls.length vs) (h' : SxOwns w base vs ls) : ∃ p cap, vo = .slice p ls.length cap ∧ RowsArg w p ls := by
  rcases h.2 with ⟨rfl, h0⟩ | ⟨g, cap, cur, rfl, hb, hg, rest⟩
  · refine ⟨none, 0, by rw [h0], fun hne => ?_⟩
    exact absurd (List.length_eq_zero_iff.1 h0) hne
  · refine ⟨_, cap, rfl, fun _ => ⟨g, 0, rfl, (Array.getElem?_eq_some_iff.1 hg).1, fun k t ht => ?_⟩⟩
    obtain ⟨v, h1, h2⟩ := h'.at ht
    obtain ⟨q, c, rfl, h3, h4⟩ := sx_arg' h2
    rw [Nat.zero_add]
    exact ⟨q, c, row_cell h rfl h1, h3, h4⟩
end
end Go.Proofs.Ytjnoffgclibfaaa
