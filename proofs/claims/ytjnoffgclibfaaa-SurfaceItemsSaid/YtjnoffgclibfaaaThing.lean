/- A thing, as it is printed: plainly. -/
import Derived.Test.YtjnoffgclibfaaaHeavy
set_option linter.unusedSimpArgs false
set_option linter.unusedVariables false
namespace Go.Proofs.Ytjnoffgclibfaaa

section
variable {l : List Sx}
def joinB (xs : List (List UInt8)) (sep : List UInt8) : List UInt8 := sep.intercalate xs
theorem joinB_nil (sep : List UInt8) : joinB [] sep = [] := rfl
theorem joinB_one (x sep : List UInt8) : joinB [x] sep = x := by simp [joinB, List.intercalate]
theorem joinB_snoc (sep y : List UInt8) : ∀ (xs : List (List UInt8)), xs ≠ [] → joinB (xs ++ [y]) sep = joinB xs sep ++ sep ++ y := by
  intro xs
  induction xs with
  | nil => intro h; exact absurd rfl h
  | cons x xs ih =>
    intro _
    cases xs with
    | nil => simp [joinB, List.intercalate]
    | cons z xs =>
      have := ih (by simp)
      simp only [joinB, List.intercalate, List.cons_append, List.intersperse_cons_cons, List.flatten_cons] at this ⊢
      rw [this]
      simp
/-- A thing, as it is printed. -/
def thingF : Nat → List Sx → List UInt8
  | 0, _ => []
  | f + 1, row => match row.getLast? with
    | none => []
    | some x => if x.word.size = 0 then 40 :: (joinB (((itemsGo row.dropLast).getD []).map (thingF f)) [32] ++ [41]) else x.word.data.toList
def thing (row : List Sx) : List UInt8 := thingF row.length row
theorem items_len {row : List Sx} {l : List Sx} (h : l ∈ (itemsGo row).getD []) : l.length ≤ row.length := by
  unfold itemsGo at h
  cases hb : beginsGo row 0 [] with
  | none => rw [hb] at h; simp at h
  | some st =>
    rw [hb] at h
    simp only [Option.map_some, Option.getD_some] at h
    unfold pieces piece at h
    obtain ⟨i, _, rfl⟩ := List.mem_map.1 h
    rw [List.length_take, List.length_drop]
    omega
theorem snoc_of {row : List Sx} (hr : row ≠ []) : ∃ init x, row = init ++ [x] := ⟨row.dropLast, row.getLast hr, (List.dropLast_concat_getLast hr).symm⟩
theorem thingF_snoc (f : Nat) (init : List Sx) (x : Sx) : thingF (f + 1) (init ++ [x]) = if x.word.size = 0 then 40 :: (joinB (((itemsGo init).getD []).map (thingF f)) [32] ++ [41]) else x.word.data.toList := by
  simp only [thingF, List.getLast?_concat, List.dropLast_concat]
theorem thingF_same : ∀ (n f g : Nat) (row : List Sx), row.length ≤ n → row.length ≤ f → row.length ≤ g → thingF f row = thingF g row := by
  intro n
  induction n with
  | zero =>
    intro f g row h _ _
    cases row with
    | nil => cases f <;> cases g <;> rfl
    | cons x r => simp at h
  | succ n ih =>
    intro f g row h hf hg
    by_cases hr : row = []
    · subst hr; cases f <;> cases g <;> rfl
    · obtain ⟨init, x, rfl⟩ := snoc_of hr
      rw [List.length_append, List.length_singleton] at h hf hg
      obtain ⟨f, rfl⟩ : ∃ f', f = f' + 1 := ⟨f - 1, by omega⟩
      obtain ⟨g, rfl⟩ : ∃ g', g = g' + 1 := ⟨g - 1, by omega⟩
      rw [thingF_snoc, thingF_snoc]
      split
      · congr 3
        refine List.map_congr_left fun l hl => ?_
        have hl' := items_len hl
        exact ih f g l (by omega) (by omega) (by omega)
      · rfl
theorem thing_snoc (init : List Sx) (x : Sx) : thing (init ++ [x]) = if x.word.size = 0 then 40 :: (joinB (((itemsGo init).getD []).map thing) [32] ++ [41]) else x.word.data.toList := by
  unfold thing
  rw [List.length_append, List.length_singleton, thingF_snoc]
  split
  · congr 3
    refine List.map_congr_left fun l hl => ?_
    have hl' := items_len hl
    exact thingF_same l.length _ _ l (Nat.le_refl _) hl' (Nat.le_refl _)
  · rfl
/-- How much there is to print, at most. -/
def wt : List Sx → Nat
  | [] => 0
  | x :: l => x.word.size + 3 + wt l
theorem wt_app (a b : List Sx) : wt (a ++ b) = wt a + wt b := by
  induction a with
  | nil => simp [wt]
  | cons x a ih => simp [wt, ih]; omega
theorem wt_le {row : List Sx} (h : ∀ x ∈ row, x.word.size ≤ 100) : wt row ≤ 103 * row.length := by
  induction row with
  | nil => simp [wt]
  | cons x r ih =>
    have := ih fun y hy => h y (List.mem_cons_of_mem _ hy)
    have := h x (List.mem_cons_self ..)
    simp [wt]; omega
theorem pieces_flat : ∀ (n : Nat) (s : List Nat) (k : Nat), s.length = n → Inc s k → s.headD k = 0 → (pieces l s k).flatten = l.take k := by
  intro n
  induction n with
  | zero => intro s k hs _ h0; cases List.length_eq_zero_iff.1 hs; simp at h0; subst h0; simp [pieces]
  | succ n ih =>
    intro s k hs hi h0
    obtain ⟨t, b, rfl⟩ : ∃ t b, s = t ++ [b] := ⟨s.dropLast, s.getLast (by intro e; rw [e] at hs; cases hs), (List.dropLast_concat_getLast _).symm⟩
    rw [pieces_snoc, List.flatten_append]
    have hi' : Inc t b := by unfold Inc at hi ⊢; rw [List.pairwise_append] at hi; exact hi.1
    have hbk : b < k := by
      unfold Inc at hi
      rw [List.pairwise_append] at hi
      exact hi.2.2 b (by simp) k (by simp)
    have h0' : t.headD b = 0 := by cases t <;> simpa using h0
    rw [ih t b (by simpa using hs) hi' h0']
    simp only [List.flatten_cons, List.flatten_nil, List.append_nil, piece]
    have : k = b + (k - b) := by omega
    rw [this, List.take_add, Nat.add_sub_cancel_left]
theorem items_flat_eq {row : List Sx} {ls : List (List Sx)} (h : itemsGo row = some ls) : ls.flatten = row := by
  unfold itemsGo at h
  cases hb : beginsGo row 0 [] with
  | none => rw [hb] at h; cases h
  | some st =>
    rw [hb] at h; cases h
    have h1 := inc_go row 0 [] st (inc_nil 0) hb
    have h2 := head_go row 0 [] st rfl hb
    rw [Nat.zero_add] at h1 h2
    rw [pieces_flat st.length st row.length rfl h1 h2, List.take_length]
theorem wt_flat (ls : List (List Sx)) : wt ls.flatten = (ls.map wt).sum := by
  induction ls with
  | nil => rfl
  | cons l ls ih => simp [wt_app, ih]
theorem joinB_len (sep : List UInt8) : ∀ (xs : List (List UInt8)), (joinB xs sep).length ≤ (xs.map fun x => x.length + sep.length).sum := by
  intro xs
  induction xs with
  | nil => simp [joinB]
  | cons x xs ih =>
    cases xs with
    | nil => simp [joinB, List.intercalate]
    | cons z xs =>
      simp only [joinB, List.intercalate, List.intersperse_cons_cons, List.flatten_cons, List.length_append, List.map_cons, List.sum_cons] at ih ⊢
      omega
theorem sum_mono {α : Type} (f g : α → Nat) : ∀ (l : List α), (∀ x ∈ l, f x ≤ g x) → (l.map f).sum ≤ (l.map g).sum := by
  intro l
  induction l with
  | nil => intro _; simp
  | cons x l ih =>
    intro h
    have h1 := h x (List.mem_cons_self ..)
    have h2 := ih fun y hy => h y (List.mem_cons_of_mem _ hy)
    simp only [List.map_cons, List.sum_cons]
    omega
theorem join_wt {ls : List (List Sx)} (h : ∀ l ∈ ls, (thing l).length + 1 ≤ wt l) (c : UInt8) : (joinB (ls.map thing) [c]).length ≤ wt ls.flatten := by
  refine Nat.le_trans (joinB_len _ _) ?_
  rw [wt_flat, List.map_map]
  exact sum_mono _ _ ls h
theorem pieces_at' (row : List Sx) (st : List Nat) (n : Nat) (hi : Inc st n) (hn : n ≤ row.length) : [] ∉ pieces row st n := by
  intro h
  unfold pieces at h
  obtain ⟨i, hi', he⟩ := List.mem_map.1 h
  rw [List.mem_range] at hi'
  have hl : (st ++ [n]).length = st.length + 1 := by simp
  have h1 := List.pairwise_iff_getElem.1 hi i (i + 1) (by omega) (by omega) (by omega)
  have h2 : (st ++ [n])[i + 1]'(by omega) ≤ n := by
    by_cases hk : i + 1 = st.length
    · simp [hk]
    · have := List.pairwise_iff_getElem.1 hi (i + 1) st.length (by omega) (by omega) (by omega)
      have e3 : (st ++ [n])[st.length]'(by omega) = n := by simp
      rw [e3] at this
      omega
  simp only [List.getD_eq_getElem?_getD, List.getElem?_eq_getElem (show i < (st ++ [n]).length by omega), List.getElem?_eq_getElem (show i + 1 < (st ++ [n]).length by omega), Option.getD_some] at he
  have := congrArg List.length he
  unfold piece at this
  rw [List.length_take, List.length_drop, List.length_nil] at this
  omega
theorem items_ne {row : List Sx} {ls : List (List Sx)} (h : itemsGo row = some ls) : [] ∉ ls := by
  unfold itemsGo at h
  cases hb : beginsGo row 0 [] with
  | none => rw [hb] at h; cases h
  | some st =>
    rw [hb] at h; cases h
    have h1 := inc_go row 0 [] st (inc_nil 0) hb
    rw [Nat.zero_add] at h1
    exact pieces_at' row st _ h1 (Nat.le_refl _)
theorem thing_wt : ∀ (n : Nat) (row : List Sx), row.length ≤ n → row ≠ [] → (thing row).length + 1 ≤ wt row := by
  intro n
  induction n with
  | zero => intro row h hne; exact absurd (List.length_eq_zero_iff.1 (by omega)) hne
  | succ n ih =>
    intro row h hne
    obtain ⟨init, x, rfl⟩ := snoc_of hne
    rw [List.length_append, List.length_singleton] at h
    rw [thing_snoc, wt_app]
    simp only [wt]
    split
    · cases hI : itemsGo init with
      | none => simp [joinB, List.intercalate]; omega
      | some ls =>
        simp only [Option.getD_some]
        have hfl := items_flat_eq hI
        have := join_wt (ls := ls) (fun l hl => by
          by_cases hl0 : l = []
          · subst hl0; exact absurd hl (items_ne hI)
          · exact ih l (by have := items_len (row := init) (l := l) (by rw [hI]; exact hl); omega) hl0) 32
        rw [hfl] at this
        simp only [List.length_cons, List.length_append, List.length_nil]
        omega
    · simp only [Array.length_toList]
      have : x.word.data.size = x.word.size := rfl
      omega
theorem items_bound' {row : List Sx} {ls : List (List Sx)} (h : itemsGo row = some ls) : ls.length ≤ row.length := by
  have h1 := items_flat_eq h
  have h2 := items_ne h
  rw [← h1]
  clear h1 h
  induction ls with
  | nil => simp
  | cons l ls ih =>
    have hl : l ≠ [] := fun e => h2 (by rw [e]; exact List.mem_cons_self ..)
    have := ih fun h => h2 (List.mem_cons_of_mem _ h)
    have := List.length_pos_iff.2 hl
    simp only [List.flatten_cons, List.length_append, List.length_cons]
    omega
theorem le_sum {a : Nat} : ∀ {l : List Nat}, a ∈ l → a ≤ l.sum := by
  intro l
  induction l with
  | nil => intro h; simp at h
  | cons x l ih =>
    intro h
    rw [List.sum_cons]
    rcases List.mem_cons.1 h with rfl | h
    · omega
    · have := ih h; omega
end
end Go.Proofs.Ytjnoffgclibfaaa
