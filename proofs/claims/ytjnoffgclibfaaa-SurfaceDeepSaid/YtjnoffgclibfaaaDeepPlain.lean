/- Texts of parens: their tokens, and what Parse says of them. -/
import Derived.Test.YtjnoffgclibfaaaShown7
namespace Go.Proofs.Ytjnoffgclibfaaa
open Go.Conc Go.Lx Go.RowKit

/-- a opened, b shut. -/
def ptext (a b : Nat) : ByteArray := ⟨(List.replicate a (40 : UInt8) ++ List.replicate b (41 : UInt8)).toArray⟩
def ptk (a i : Nat) : Tok := if i < a then ⟨2, i, ⟨#[40]⟩⟩ else ⟨3, i, ⟨#[41]⟩⟩

theorem ptext_size (a b : Nat) : (ptext a b).size = a + b := by simp [ptext, ByteArray.size]
theorem ptext_list (a b : Nat) : (ptext a b).data.toList = List.replicate a (40 : UInt8) ++ List.replicate b (41 : UInt8) := rfl
theorem plist_at (a b i : Nat) (h : i < (List.replicate a (40 : UInt8) ++ List.replicate b (41 : UInt8)).length) : (List.replicate a (40 : UInt8) ++ List.replicate b (41 : UInt8))[i] = if i < a then 40 else 41 := by
  rw [List.getElem_append]
  by_cases hi : i < a
  · rw [if_pos hi, dif_pos (by simpa using hi), List.getElem_replicate]
  · rw [if_neg hi, dif_neg (by simpa using hi), List.getElem_replicate]
theorem ptext_at (a b i : Nat) (h : i < (ptext a b).size) : (ptext a b)[i] = if i < a then 40 else 41 := plist_at a b i (by rw [ptext_size] at h; simpa using h)
theorem ba_ext {s t : ByteArray} (h : s.data.toList = t.data.toList) : s = t := by
  obtain ⟨⟨l⟩⟩ := s; obtain ⟨⟨r⟩⟩ := t; cases h; rfl
theorem ptext_open (a : Nat) : ptext a 0 ++ ⟨#[40]⟩ = ptext (a + 1) 0 := by
  apply ba_ext
  simp [ptext, ByteArray.data_append, List.replicate_succ']
theorem ptext_shut (a b : Nat) : ptext a b ++ ⟨#[41]⟩ = ptext a (b + 1) := by
  apply ba_ext
  simp [ptext, ByteArray.data_append, List.replicate_succ']
theorem ptext_take (a b m : Nat) (h : m ≤ b) : (ptext a b).extract 0 (a + m) = ptext a m := by
  apply ba_ext
  rw [ByteArray.data_extract, Array.toList_extract, List.extract_eq_take_drop]
  simp [ptext, List.take_append, List.take_replicate]
  omega
theorem ptext_one (a b p : Nat) (h : p < a + b) : (ptext a b).extract p (p + 1) = (ptk a p).text := by
  apply ba_ext
  rw [ByteArray.data_extract, Array.toList_extract, List.extract_eq_take_drop]
  have hp : p < (ptext a b).data.toList.length := by rw [ptext_list]; simpa using h
  rw [Nat.add_sub_cancel_left, List.drop_eq_getElem_cons hp, List.take_succ_cons, List.take_zero]
  have : (ptext a b).data.toList[p] = (ptext a b)[p]'(by rw [ptext_size]; exact h) := rfl
  rw [this, ptext_at]
  unfold ptk
  split <;> rfl

theorem first_open : First 2 40 := ⟨by decide, by decide, by decide⟩
theorem first_shut : First 3 41 := ⟨by decide, by decide, by decide⟩

theorem ptext_scans (a b : Nat) : ∀ c p, p + c = a + b → ∃ acts, Scans (ptext a b) p acts ∧ sends acts = ((List.range' p c).map (ptk a)).map itemV := by
  intro c
  induction c with
  | zero =>
    intro p hp
    have : p = (ptext a b).size := by rw [ptext_size]; omega
    subst this
    exact ⟨[], .done, rfl⟩
  | succ c ih =>
    intro p hp
    obtain ⟨acts, h1, h2⟩ := ih (p + 1) (by omega)
    have hlt : p < (ptext a b).size := by rw [ptext_size]; omega
    have hat := ptext_at a b p hlt
    have hone := ptext_one a b p (by omega)
    by_cases hpa : p < a
    · rw [if_pos hpa] at hat
      refine ⟨_, .token (i := 2) (m := 1) hlt (by rw [hat]; exact first_open) (by decide) rfl (by omega) h1, ?_⟩
      rw [hone]
      simp only [sends, h2, List.range'_succ, List.map_cons, itemV, ptk, if_pos hpa]
      rfl
    · rw [if_neg hpa] at hat
      refine ⟨_, .token (i := 3) (m := 1) hlt (by rw [hat]; exact first_shut) (by decide) rfl (by omega) h1, ?_⟩
      rw [hone]
      simp only [sends, h2, List.range'_succ, List.map_cons, itemV, ptk, if_neg hpa]
      rfl
theorem ptext_lexes (a b : Nat) (h : a + b ≤ 20000) : Lexes (ptext a b) ((List.range' 0 (a + b)).map (ptk a)) :=
  ⟨by rw [ptext_size]; exact h, ptext_scans a b (a + b) 0 (by omega), by simp; omega⟩
theorem ptk_kind (a b : Nat) : ∀ t ∈ (List.range' 0 (a + b)).map (ptk a), t.kind = 1 ∨ t.kind = 2 ∨ t.kind = 3 := by
  intro t ht
  obtain ⟨i, _, rfl⟩ := List.mem_map.1 ht
  unfold ptk
  split
  · exact .inr (.inl rfl)
  · exact .inr (.inr rfl)

def posL : Nat → List Int
  | 0 => [0]
  | j + 1 => (j : Int) :: posL j
theorem posL_len (j : Nat) : (posL j).length = j + 1 := by induction j with | zero => rfl | succ j ih => simp [posL, ih]
theorem posL_st {j : Nat} {x : Sx} {st : List Sx} (h : (x :: st).map Sx.pos = posL j) : st.length = j := by
  have := congrArg List.length h
  rw [posL_len] at this
  simpa using this
def pf (a i : Nat) : PTok := (ptk a i).p
theorem pf_open {a i : Nat} (h : i < a) : pf a i = ⟨2, i, ⟨#[40]⟩⟩ := by unfold pf ptk; rw [if_pos h]; rfl
theorem pf_shut {a i : Nat} (h : ¬ i < a) : pf a i = ⟨3, i, ⟨#[41]⟩⟩ := by unfold pf ptk; rw [if_neg h]; rfl

theorem opens_go (a e : Nat) (ha : a ≤ 60) : ∀ c p row st x, p + c = a → (x :: st).map Sx.pos = posL p → ∃ st' x', (x' :: st').map Sx.pos = posL a ∧ parseGo ((List.range' p (c + e)).map (pf a)) row st x = parseGo ((List.range' a e).map (pf a)) row st' x' := by
  intro c
  induction c with
  | zero =>
    intro p row st x hp h
    obtain rfl : p = a := by omega
    exact ⟨st, x, h, by rw [Nat.zero_add]⟩
  | succ c ih =>
    intro p row st x hp h
    have hl := posL_st h
    obtain ⟨st', x', h1, h2⟩ := ih (p + 1) row (x :: st) ⟨0, p, ⟨#[]⟩⟩ (by omega) (by rw [List.map_cons, h]; rfl)
    refine ⟨st', x', h1, ?_⟩
    rw [show c + 1 + e = (c + e) + 1 by omega, List.range'_succ, List.map_cons, parseGo_cons, pf_open (by omega), if_neg (show ¬ (2 : Int) = 1 by decide), if_pos rfl, if_neg (by omega)]
    exact h2
theorem opens_deep (a e : Nat) (ha : 60 < a) : ∀ c p row st x, p + c = a → p ≤ 60 → (x :: st).map Sx.pos = posL p → parseGo ((List.range' p (c + e)).map (pf a)) row st x = .error (60, 22) := by
  intro c
  induction c with
  | zero => intro p row st x hp hp2; omega
  | succ c ih =>
    intro p row st x hp hp2 h
    have hl := posL_st h
    rw [show c + 1 + e = (c + e) + 1 by omega, List.range'_succ, List.map_cons, parseGo_cons, pf_open (by omega), if_neg (show ¬ (2 : Int) = 1 by decide), if_pos rfl]
    by_cases h60 : st.length = 60
    · rw [if_pos h60]
      obtain rfl : p = 60 := by omega
      rfl
    · rw [if_neg h60]
      exact ih (p + 1) row (x :: st) ⟨0, p, ⟨#[]⟩⟩ (by omega) (by omega) (by rw [List.map_cons, h]; rfl)
theorem shuts_go (a e : Nat) : ∀ c p j row st x, a ≤ p → (x :: st).map Sx.pos = posL (j + c) → ∃ row' st' x', row'.length = row.length + c ∧ (x' :: st').map Sx.pos = posL j ∧ parseGo ((List.range' p (c + e)).map (pf a)) row st x = parseGo ((List.range' (p + c) e).map (pf a)) row' st' x' := by
  intro c
  induction c with
  | zero =>
    intro p j row st x _ h
    exact ⟨row, st, x, rfl, h, by rw [Nat.zero_add]; rfl⟩
  | succ c ih =>
    intro p j row st x hp h
    cases st with
    | nil => have := posL_st h; simp at this
    | cons y st =>
      have h' : (y :: st).map Sx.pos = posL (j + c) := by
        have : (x :: y :: st).map Sx.pos = ((j + c : Nat) : Int) :: posL (j + c) := h
        rw [List.map_cons] at this
        exact (List.cons.inj this).2
      obtain ⟨row', st', x', h1, h2, h3⟩ := ih (p + 1) j (row ++ [x]) st ⟨y.many + 1, y.pos, y.word⟩ (by omega) (by rw [List.map_cons] at h' ⊢; exact h')
      refine ⟨row', st', x', by rw [h1]; simp; omega, h2, ?_⟩
      rw [show c + 1 + e = (c + e) + 1 by omega, List.range'_succ, List.map_cons, parseGo_cons, pf_shut (by omega), if_neg (show ¬ (3 : Int) = 1 by decide), if_neg (show ¬ (3 : Int) = 2 by decide), show p + (c + 1) = p + 1 + c by omega]
      exact h3

/-- Parse of such a text. -/
def pR (a b : Nat) : Except (Int × Int) (List Sx) := parseGo (((List.range' 0 (a + b)).map (ptk a)).map Tok.p) [] [] ⟨0, 0, ⟨#[]⟩⟩
theorem pR_eq (a b : Nat) : pR a b = parseGo ((List.range' 0 (a + b)).map (pf a)) [] [] ⟨0, 0, ⟨#[]⟩⟩ := by unfold pR; rw [List.map_map]; rfl
theorem pR_deep {a b : Nat} (h : 60 < a) : pR a b = .error (60, 22) := by rw [pR_eq]; exact opens_deep a b h a 0 [] [] _ (by omega) (by omega) rfl
theorem pR_even {a : Nat} (h : a ≤ 60) : ∃ row, pR a a = .ok row ∧ row.length = a := by
  rw [pR_eq]
  obtain ⟨st, x, h1, h2⟩ := opens_go a a h a 0 [] [] ⟨0, 0, ⟨#[]⟩⟩ (by omega) rfl
  obtain ⟨row, st', x', h3, h4, h5⟩ := shuts_go a 0 a a 0 [] st x (Nat.le_refl _) (by rw [Nat.zero_add]; exact h1)
  rw [Nat.add_zero] at h5
  rw [h2, h5]
  have := posL_st h4
  have : st' = [] := List.length_eq_zero_iff.1 this
  subst this
  exact ⟨row, rfl, by simpa using h3⟩
theorem pR_less {a b : Nat} (h : a ≤ 60) (hb : b < a) : pR a b = .error ((a : Int) - b - 1, 70) := by
  rw [pR_eq]
  obtain ⟨st, x, h1, h2⟩ := opens_go a b h a 0 [] [] ⟨0, 0, ⟨#[]⟩⟩ (by omega) rfl
  obtain ⟨row, st', x', h3, h4, h5⟩ := shuts_go a 0 b a (a - b) [] st x (Nat.le_refl _) (by rw [Nat.sub_add_cancel (by omega)]; exact h1)
  rw [Nat.add_zero] at h5
  rw [h2, h5]
  obtain ⟨j, hj⟩ : ∃ j, a - b = j + 1 := ⟨a - b - 1, by omega⟩
  rw [hj] at h4
  have hl := posL_st h4
  have hx : x'.pos = (j : Int) := (List.cons.inj h4).1
  cases st' with
  | nil => simp at hl
  | cons y st' =>
    show Except.error (x'.pos, 70) = _
    rw [hx, show (j : Int) = (a : Int) - b - 1 by omega]
theorem pR_more {a : Nat} (h : a ≤ 60) : pR a (a + 1) = .error (2 * (a : Int), 70) := by
  rw [pR_eq]
  obtain ⟨st, x, h1, h2⟩ := opens_go a (a + 1) h a 0 [] [] ⟨0, 0, ⟨#[]⟩⟩ (by omega) rfl
  obtain ⟨row, st', x', h3, h4, h5⟩ := shuts_go a 1 a a 0 [] st x (Nat.le_refl _) (by rw [Nat.zero_add]; exact h1)
  rw [h2, h5]
  have := posL_st h4
  have : st' = [] := List.length_eq_zero_iff.1 this
  subst this
  rw [List.range'_succ, List.map_cons, parseGo_cons, pf_shut (by omega), if_neg (show ¬ (3 : Int) = 1 by decide), if_neg (show ¬ (3 : Int) = 2 by decide)]
  show Except.error (((a + a : Nat) : Int), 70) = _
  rw [show ((a + a : Nat) : Int) = 2 * (a : Int) by omega]
theorem pread (a b : Nat) (h : a + b ≤ 20000) (W : World) : CallsG Try.prog 18 #[.string (ptext a b)] W (ReadPost W (pR a b)) := read_calls (ptext_lexes a b h) (ptk_kind a b) W
end Go.Proofs.Ytjnoffgclibfaaa
