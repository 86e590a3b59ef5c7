/- What begins, Items and the document's Items compute, plainly. -/
import Derived.Test.YtjnoffgclibfaaaBegins
set_option linter.unusedSimpArgs false
set_option linter.unusedVariables false
namespace Go.Proofs.Ytjnoffgclibfaaa

section
variable {l : List Sx}
theorem beginsGo_app (a b : List Sx) : ∀ (i : Nat) (st : List Nat), beginsGo (a ++ b) i st = (beginsGo a i st).bind (beginsGo b (i + a.length)) := by
  induction a with
  | nil => intro i st; simp [beginsGo]
  | cons x a ih =>
    intro i st
    simp only [List.cons_append, beginsGo]
    split
    · rw [ih]; simp only [List.length_cons]; rw [show i + 1 + a.length = i + (a.length + 1) by omega]
    · rfl

/-- The things that wait behind the first k. -/
def pre (l : List Sx) (k : Nat) : Option (List Nat) := beginsGo (l.take k) 0 []
theorem pre_zero : pre l 0 = some [] := by simp [pre, beginsGo]
theorem pre_succ {k : Nat} {x : Sx} (h : l[k]? = some x) : pre l (k + 1) = (pre l k).bind fun st => if GoodSx x st.length then some (bgStep x k st) else none := by
  have hk : k < l.length := (List.getElem?_eq_some_iff.1 h).1
  have hx : l[k] = x := (List.getElem?_eq_some_iff.1 h).2
  unfold pre
  rw [List.take_succ_eq_append_getElem hk, beginsGo_app, hx, List.length_take, Nat.min_eq_left (Nat.le_of_lt hk), Nat.zero_add]
  rfl

/-- Each thing begins behind the one ahead of it. -/
def Inc (st : List Nat) (i : Nat) : Prop := (st ++ [i]).Pairwise (· < ·)
theorem inc_step {st : List Nat} {i : Nat} (x : Sx) (h : Inc st i) : Inc (bgStep x i st) (i + 1) := by
  unfold Inc at *
  unfold bgStep
  generalize hm : st.length - x.many.toNat = m
  have hst : st = st.take m ++ st.drop m := (List.take_append_drop m st).symm
  generalize st.take m = s at *
  generalize st.drop m = t at *
  subst hst
  simp only [List.pairwise_append, List.mem_append, List.mem_singleton, List.pairwise_cons, List.Pairwise.nil] at h ⊢
  obtain ⟨⟨h1, h2, h3⟩, h4, h5⟩ := h
  have hh : t.headD i ≤ i ∧ ∀ a ∈ s, a < t.headD i := by
    cases t with
    | nil => exact ⟨Nat.le_refl _, fun a ha => h5 a (.inl ha) i rfl⟩
    | cons y t => exact ⟨Nat.le_of_lt (h5 y (.inr (List.mem_cons_self ..)) i rfl), fun a ha => h3 a ha y (List.mem_cons_self ..)⟩
  refine ⟨⟨h1, ⟨fun _ h => by simp at h, trivial⟩, fun a ha b hb => by rw [hb]; exact hh.2 a ha⟩, ⟨fun _ h => by simp at h, trivial⟩, ?_⟩
  rintro a (ha | ha) b rfl
  · have := h5 a (.inl ha) i rfl; omega
  · omega
theorem inc_go : ∀ (l : List Sx) (i : Nat) (st s : List Nat), Inc st i → beginsGo l i st = some s → Inc s (i + l.length) := by
  intro l
  induction l with
  | nil => intro i st s h e; cases e; exact h
  | cons x l ih =>
    intro i st s h e
    simp only [beginsGo] at e
    split at e
    · have := ih (i + 1) _ s (inc_step x h) e
      rw [List.length_cons, show i + (l.length + 1) = i + 1 + l.length by omega]
      exact this
    · cases e
theorem inc_nil (i : Nat) : Inc [] i := List.pairwise_singleton ..
theorem head_go : ∀ (l : List Sx) (i : Nat) (st s : List Nat), st.headD i = 0 → beginsGo l i st = some s → s.headD (i + l.length) = 0 := by
  intro l
  induction l with
  | nil => intro i st s h e; cases e; exact h
  | cons x l ih =>
    intro i st s h e
    simp only [beginsGo] at e
    split at e
    · rw [List.length_cons, show i + (l.length + 1) = i + 1 + l.length by omega]
      refine ih (i + 1) _ s ?_ e
      unfold bgStep
      generalize st.length - x.many.toNat = m
      have hst : st = st.take m ++ st.drop m := (List.take_append_drop m st).symm
      generalize st.take m = a at *
      generalize st.drop m = t at *
      subst hst
      cases a with
      | nil => simpa using h
      | cons y a => simpa using h
    · cases e

/-- The document's Begin. -/
def rbLoop (f : Nat → Option Nat) : Nat → Nat → Option Nat
  | 0, k => some k
  | m + 1, k => match f k with | none => none | some b => rbLoop f m b
def BadSx (x : Sx) : Prop := x.many < 0 ∨ (x.word.size ≠ 0 ∧ x.many ≠ 0)
instance (x : Sx) : Decidable (BadSx x) := inferInstanceAs (Decidable (_ ∨ _))
def rbF (l : List Sx) : Nat → Nat → Option Nat
  | 0, _ => none
  | _ + 1, 0 => none
  | fuel + 1, e + 1 => match l[e]? with
    | none => none
    | some x => if BadSx x then none else rbLoop (rbF l fuel) x.many.toNat e
/-- Where the thing begins that ends ahead of a place. -/
def rb (l : List Sx) (k : Nat) : Option Nat := rbF l k k
theorem rbLoop_le {f : Nat → Option Nat} (hf : ∀ k b, f k = some b → b < k) : ∀ m k b, rbLoop f m k = some b → b ≤ k := by
  intro m
  induction m with
  | zero => intro k b h; cases h; exact Nat.le_refl _
  | succ m ih =>
    intro k b h
    simp only [rbLoop] at h
    cases hk : f k with
    | none => rw [hk] at h; cases h
    | some c => rw [hk] at h; have := ih c b h; have := hf k c hk; omega
theorem rbF_lt (l : List Sx) : ∀ fuel k b, rbF l fuel k = some b → b < k := by
  intro fuel
  induction fuel with
  | zero => intro k b h; cases h
  | succ fuel ih =>
    intro k b h
    cases k with
    | zero => cases h
    | succ e =>
      simp only [rbF] at h
      split at h
      · cases h
      · split at h
        · cases h
        · have := rbLoop_le ih _ _ _ h; omega
theorem rbLoop_congr {f g : Nat → Option Nat} (hf : ∀ k b, f k = some b → b < k) {e : Nat} (h : ∀ k, k ≤ e → f k = g k) : ∀ m k, k ≤ e → rbLoop f m k = rbLoop g m k := by
  intro m
  induction m with
  | zero => intro k _; rfl
  | succ m ih =>
    intro k hk
    simp only [rbLoop]
    rw [← h k hk]
    cases hc : f k with
    | none => rfl
    | some c => have := hf k c hc; exact ih c (by omega)
theorem rbF_rb (l : List Sx) : ∀ k fuel, k ≤ fuel → rbF l fuel k = rb l k := by
  intro k
  induction k using Nat.strongRecOn with
  | _ k ih =>
    intro fuel hf
    cases k with
    | zero => unfold rb; cases fuel <;> rfl
    | succ e =>
      obtain ⟨f, rfl⟩ : ∃ f, fuel = f + 1 := ⟨fuel - 1, by omega⟩
      simp only [rb, rbF]
      split
      · rfl
      · split
        · rfl
        · refine rbLoop_congr (rbF_lt l f) (e := e) (fun k hk => ?_) _ _ (Nat.le_refl _)
          rw [ih k (by omega) f (by omega), ih k (by omega) e hk]
theorem rb_zero (l : List Sx) : rb l 0 = none := rfl
theorem rb_succ {e : Nat} {x : Sx} (h : l[e]? = some x) : rb l (e + 1) = if BadSx x then none else rbLoop (rb l) x.many.toNat e := by
  simp only [rb, rbF, h]
  split
  · rfl
  · exact rbLoop_congr (rbF_lt l e) (fun k hk => rbF_rb l k e hk) _ _ (Nat.le_refl _)
theorem rb_lt {k b : Nat} (h : rb l k = some b) : b < k := rbF_lt l k k b h

theorem bgStep_mk (x : Sx) (i : Nat) (s t : List Nat) (h : x.many.toNat = t.length) : bgStep x i (s ++ t) = s ++ [t.headD i] := by
  unfold bgStep
  rw [h, List.length_append, Nat.add_sub_cancel, List.take_left, List.drop_left]

theorem rb_forth : ∀ e, e < l.length → ∀ b, rb l (e + 1) = some b → ∀ s, pre l b = some s → pre l (e + 1) = some (s ++ [b]) := by
  intro e
  induction e using Nat.strongRecOn with
  | _ e ih =>
    intro he b hb s hs
    obtain ⟨x, hx⟩ : ∃ x, l[e]? = some x := ⟨_, List.getElem?_eq_getElem he⟩
    rw [rb_succ hx] at hb
    split at hb
    · cases hb
    · rename_i hbad
      have loop : ∀ m k b, k ≤ e → rbLoop (rb l) m k = some b → ∀ s, pre l b = some s → ∃ t : List Nat, t.length = m ∧ pre l k = some (s ++ t) ∧ t.headD k = b := by
        intro m
        induction m with
        | zero => intro k b _ h s hs; cases h; exact ⟨[], rfl, by simpa using hs, rfl⟩
        | succ m ihm =>
          intro k b hk h s hs
          simp only [rbLoop] at h
          cases hc : rb l k with
          | none => rw [hc] at h; cases h
          | some c =>
            rw [hc] at h
            have hck := rb_lt hc
            obtain ⟨t, h1, h2, h3⟩ := ihm c b (by omega) h s hs
            cases k with
            | zero => rw [rb_zero] at hc; cases hc
            | succ k =>
              refine ⟨t ++ [c], by simp [h1], ?_, ?_⟩
              · rw [← List.append_assoc]
                exact ih k (by omega) (by omega) c hc _ h2
              · rw [← h3]
                cases t <;> simp
      obtain ⟨t, h1, h2, h3⟩ := loop _ _ _ (Nat.le_refl _) hb s hs
      unfold BadSx at hbad
      rw [pre_succ hx, h2]
      simp only [Option.bind_some]
      rw [if_pos, bgStep_mk _ _ _ _ h1.symm, h3]
      refine ⟨by omega, fun h => ?_, ?_⟩
      · exact Decidable.byContradiction fun h' => hbad (.inr ⟨h, h'⟩)
      · rw [List.length_append]; omega

theorem rb_back : ∀ e, e < l.length → ∀ st, pre l (e + 1) = some st → ∃ s b, st = s ++ [b] ∧ rb l (e + 1) = some b ∧ pre l b = some s := by
  intro e
  induction e using Nat.strongRecOn with
  | _ e ih =>
    intro he st hst
    obtain ⟨x, hx⟩ : ∃ x, l[e]? = some x := ⟨_, List.getElem?_eq_getElem he⟩
    rw [pre_succ hx] at hst
    cases hp : pre l e with
    | none => rw [hp] at hst; cases hst
    | some st0 =>
      rw [hp] at hst
      simp only [Option.bind_some] at hst
      split at hst
      · rename_i hg
        cases hst
        obtain ⟨g1, g2, g3⟩ := hg
        have loop : ∀ n (t : List Nat), t.length = n → ∀ (s : List Nat) k, k ≤ e → pre l k = some (s ++ t) → rbLoop (rb l) n k = some (t.headD k) ∧ pre l (t.headD k) = some s := by
          intro n
          induction n with
          | zero => intro t ht s k hk h; cases List.length_eq_zero_iff.1 ht; exact ⟨rfl, by simpa using h⟩
          | succ n ihn =>
            intro t ht s k hk h
            obtain ⟨t', c, rfl⟩ : ∃ t' c, t = t' ++ [c] := ⟨t.dropLast, t.getLast (by intro e; rw [e] at ht; cases ht), (List.dropLast_concat_getLast _).symm⟩
            cases k with
            | zero =>
              rw [pre_zero] at h
              simp at h
            | succ k =>
              obtain ⟨s', b, h1, h2, h3⟩ := ih k (by omega) (by omega) _ h
              rw [← List.append_assoc] at h1
              obtain ⟨rfl, h1'⟩ := List.append_inj' h1 rfl
              cases h1'
              have hlt := rb_lt h2
              obtain ⟨i1, i2⟩ := ihn t' (by simpa using ht) s c (by omega) h3
              have hh : (t' ++ [c]).headD (k + 1) = t'.headD c := by cases t' <;> simp
              rw [hh]
              simp only [rbLoop, h2]
              exact ⟨i1, i2⟩
        have hs : st0 = st0.take (st0.length - x.many.toNat) ++ st0.drop (st0.length - x.many.toNat) := (List.take_append_drop _ _).symm
        obtain ⟨i1, i2⟩ := loop _ (st0.drop (st0.length - x.many.toNat)) (List.length_drop ..) _ _ (Nat.le_refl _) (by rw [← hs]; exact hp)
        rw [show st0.length - (st0.length - x.many.toNat) = x.many.toNat by omega] at i1
        refine ⟨_, _, rfl, ?_, i2⟩
        rw [rb_succ hx, if_neg, i1]
        rintro (h | ⟨h, h'⟩)
        · omega
        · exact h' (g2 h)
      · cases hst

/-- The things between beginnings. -/
def piece (l : List Sx) (a b : Nat) : List Sx := (l.drop a).take (b - a)
def pieces (l : List Sx) (st : List Nat) (k : Nat) : List (List Sx) := (List.range st.length).map fun i => piece l ((st ++ [k]).getD i 0) ((st ++ [k]).getD (i + 1) 0)
theorem pieces_snoc (s : List Nat) (b k : Nat) : pieces l (s ++ [b]) k = pieces l s b ++ [piece l b k] := by
  unfold pieces
  rw [List.length_append, List.length_singleton, List.range_succ, List.map_append]
  congr 1
  · refine List.map_congr_left fun i hi => ?_
    rw [List.mem_range] at hi
    congr 1
    · simp only [List.getD_eq_getElem?_getD]
      rw [List.getElem?_append_left (by simp; omega)]
    · simp only [List.getD_eq_getElem?_getD]
      rw [List.getElem?_append_left (by simp; omega)]
  · simp
/-- What the document's Items computes, from behind. -/
inductive RItems (l : List Sx) : Nat → List (List Sx) → Option (List (List Sx)) → Prop
  | done (acc) : RItems l 0 acc (some acc)
  | bad {k acc} : 0 < k → rb l k = none → RItems l k acc none
  | one {k acc b R} : 0 < k → rb l k = some b → RItems l b (piece l b k :: acc) R → RItems l k acc R
theorem ri_ex (l : List Sx) : ∀ k acc, ∃ R, RItems l k acc R := by
  intro k
  induction k using Nat.strongRecOn with
  | _ k ih =>
    intro acc
    by_cases hk : k = 0
    · subst hk; exact ⟨_, .done acc⟩
    · cases hb : rb l k with
      | none => exact ⟨_, .bad (by omega) hb⟩
      | some b =>
        obtain ⟨R, h⟩ := ih b (rb_lt hb) (piece l b k :: acc)
        exact ⟨R, .one (by omega) hb h⟩
theorem ri_pre {k : Nat} {acc : List (List Sx)} {R : Option (List (List Sx))} (h : RItems l k acc R) (hk : k ≤ l.length) : R = (pre l k).map fun st => pieces l st k ++ acc := by
  induction h with
  | done acc => rw [pre_zero]; rfl
  | @bad k acc h0 hb =>
    obtain ⟨e, rfl⟩ : ∃ e, k = e + 1 := ⟨k - 1, by omega⟩
    cases hp : pre l (e + 1) with
    | none => rfl
    | some st =>
      obtain ⟨s, b, _, h2, _⟩ := rb_back e (by omega) st hp
      rw [hb] at h2; cases h2
  | @one k acc b R h0 hb hr ih =>
    have hlt := rb_lt hb
    rw [ih (by omega)]
    obtain ⟨e, rfl⟩ : ∃ e, k = e + 1 := ⟨k - 1, by omega⟩
    cases hp : pre l (e + 1) with
    | none =>
      cases hq : pre l b with
      | none => rfl
      | some s => rw [rb_forth e (by omega) b hb s hq] at hp; cases hp
    | some st =>
      obtain ⟨s, b', rfl, h2, h3⟩ := rb_back e (by omega) st hp
      rw [hb] at h2; cases h2
      rw [h3]
      simp only [Option.map_some]
      rw [pieces_snoc]
      simp
/-- What Items computes. -/
def itemsGo (l : List Sx) : Option (List (List Sx)) := (beginsGo l 0 []).map fun st => pieces l st l.length
theorem ri_items {R : Option (List (List Sx))} (h : RItems l l.length [] R) : R = itemsGo l := by
  rw [ri_pre h (Nat.le_refl _), pre, List.take_length, itemsGo]
  simp
end
section
theorem begins_shift (n : Nat) (s : List Nat) : ∀ (b : List Sx) (i : Nat) (st t : List Nat), beginsGo b i st = some t → beginsGo b (i + n) (s ++ st.map (· + n)) = some (s ++ t.map (· + n)) := by
  intro b
  induction b with
  | nil => intro i st t h; cases h; rfl
  | cons x b ih =>
    intro i st t h
    simp only [beginsGo] at h ⊢
    split at h
    · rename_i hg
      obtain ⟨g1, g2, g3⟩ := hg
      rw [if_pos ⟨g1, g2, by rw [List.length_append, List.length_map]; omega⟩]
      have hst : st = st.take (st.length - x.many.toNat) ++ st.drop (st.length - x.many.toNat) := (List.take_append_drop _ _).symm
      have hl : x.many.toNat = (st.drop (st.length - x.many.toNat)).length := by rw [List.length_drop]; omega
      have e1 := bgStep_mk x i (st.take (st.length - x.many.toNat)) _ hl
      rw [← hst] at e1
      have e2 := bgStep_mk x (i + n) (s ++ (st.take (st.length - x.many.toNat)).map (· + n)) ((st.drop (st.length - x.many.toNat)).map (· + n)) (by rw [List.length_map]; exact hl)
      rw [List.append_assoc, ← List.map_append, ← hst] at e2
      have e3 : ∀ (t : List Nat), (t.map (· + n)).headD (i + n) = t.headD i + n := by intro t; cases t <;> rfl
      rw [e2, e3]
      have := ih (i + 1) _ t h
      rw [e1, List.map_append, ← List.append_assoc] at this
      rw [show i + n + 1 = i + 1 + n by omega]
      exact this
    · cases h
theorem begins_join {a b : List Sx} {s t : List Nat} (ha : beginsGo a 0 [] = some s) (hb : beginsGo b 0 [] = some t) : beginsGo (a ++ b) 0 [] = some (s ++ t.map (· + a.length)) := by
  rw [beginsGo_app, ha, Option.bind_some]
  have := begins_shift a.length s b 0 [] t hb
  simpa using this
theorem begins_list {l : List Sx} {s : List Nat} (h : beginsGo l 0 [] = some s) (p : Int) : beginsGo (l ++ [⟨s.length, p, ⟨#[]⟩⟩]) 0 [] = some [0] := by
  rw [beginsGo_app, h, Option.bind_some]
  simp only [beginsGo]
  rw [if_pos ⟨Int.natCast_nonneg _, fun h => absurd rfl h, Int.le_refl _⟩]
  have := bgStep_mk ⟨s.length, p, ⟨#[]⟩⟩ (0 + l.length) [] s (by simp)
  rw [List.nil_append] at this
  rw [this, head_go l 0 [] s rfl h]
  rfl
theorem pieces_len (l : List Sx) (st : List Nat) (k : Nat) : (pieces l st k).length = st.length := by simp [pieces]
theorem items_join {a b : List Sx} {x y : List (List Sx)} (ha : itemsGo a = some x) (hb : itemsGo b = some y) : ∃ z, itemsGo (a ++ b) = some z ∧ z.length = x.length + y.length := by
  unfold itemsGo at *
  cases h1 : beginsGo a 0 [] with
  | none => rw [h1] at ha; cases ha
  | some s =>
    cases h2 : beginsGo b 0 [] with
    | none => rw [h2] at hb; cases hb
    | some t =>
      rw [h1] at ha; rw [h2] at hb
      cases ha; cases hb
      rw [begins_join h1 h2]
      exact ⟨_, rfl, by simp [pieces_len]⟩
theorem items_list {l : List Sx} {z : List (List Sx)} (h : itemsGo l = some z) (p : Int) : beginsGo (l ++ [⟨z.length, p, ⟨#[]⟩⟩]) 0 [] = some [0] ∧ itemsGo (l ++ [⟨z.length, p, ⟨#[]⟩⟩]) = some [l ++ [⟨z.length, p, ⟨#[]⟩⟩]] := by
  unfold itemsGo at *
  cases h1 : beginsGo l 0 [] with
  | none => rw [h1] at h; cases h
  | some s =>
    rw [h1] at h; cases h
    rw [pieces_len]
    have := begins_list h1 p
    rw [this]
    refine ⟨rfl, ?_⟩
    simp only [pieces, piece]
    simp
    rw [List.take_of_length_le (by simp)]
end
end Go.Proofs.Ytjnoffgclibfaaa
