/- Part 1 of what the proof rests on. -/
import Derived.Laws.Strings
import Derived.Lib.ItoaLen
import Derived.Test.YtkmbmgmfcecfkaaDoorK00
set_option linter.unusedSimpArgs false
set_option linter.unusedVariables false
namespace Go.Lx
open Go.RowKit
theorem toList_ne {t : ByteArray} (h : t.size ≠ 0) : ¬ t.toList = [] ∧ t.toList.isEmpty = false := by
  have : t.toList.length ≠ 0 := by rw [ByteArray.toList_eq]; exact h
  constructor
  · intro e; rw [e] at this; exact this rfl
  · cases hl : t.toList with
    | nil => rw [hl] at this; exact absurd rfl this
    | cons a l => rfl
structure Sx where
  many : Int
  pos : Int
  word : ByteArray
def sxCells : List Sx → List Value
  | [] => []
  | x :: l => .int .i64 x.many :: .int .i64 x.pos :: .string x.word :: sxCells l
theorem sxCells_app (l r : List Sx) : sxCells (l ++ r) = sxCells l ++ sxCells r := by
  induction l with
  | nil => rfl
  | cons x l ih => simp [sxCells, ih]
theorem sxCells_len (l : List Sx) : (sxCells l).length = l.length * 3 := by
  induction l with
  | nil => rfl
  | cons x l ih => simp [sxCells, ih]; omega
def GoodSx (x : Sx) (n : Nat) : Prop := 0 ≤ x.many ∧ (x.word.size ≠ 0 → x.many = 0) ∧ x.many ≤ n
instance (x : Sx) (n : Nat) : Decidable (GoodSx x n) := inferInstanceAs (Decidable (_ ∧ _ ∧ _))
def bgStep (x : Sx) (i : Nat) (st : List Nat) : List Nat := st.take (st.length - x.many.toNat) ++ [(st.drop (st.length - x.many.toNat)).headD i]
def beginsGo : List Sx → Nat → List Nat → Option (List Nat)
  | [], _, st => some st
  | x :: l, i, st => if GoodSx x st.length then beginsGo l (i + 1) (bgStep x i st) else none
section
variable {l : List Sx}
theorem beginsGo_app (a b : List Sx) : ∀ (i : Nat) (st : List Nat), beginsGo (a ++ b) i st = (beginsGo a i st).bind (beginsGo b (i + a.length)) := by
  induction a with
  | nil => intro i st; simp [beginsGo]
  | cons x a ih =>
    intro i st
    simp only [List.cons_append, beginsGo]
    split
    · rw [ih]; simp only [List.length_cons]; rw [show i + 1 + a.length = i + (a.length + 1) by omega]
    · rfl
def pre (l : List Sx) (k : Nat) : Option (List Nat) := beginsGo (l.take k) 0 []
def Inc (st : List Nat) (i : Nat) : Prop := (st ++ [i]).Pairwise (· < ·)
theorem inc_step {st : List Nat} {i : Nat} (x : Sx) (h : Inc st i) : Inc (bgStep x i st) (i + 1) := by
  unfold Inc at *
  unfold bgStep
  generalize hm : st.length - x.many.toNat = m
  have hst : st = st.take m ++ st.drop m := (List.take_append_drop m st).symm
  generalize st.take m = s at *
  generalize st.drop m = t at *
  subst hst
  simp only [List.pairwise_append, List.mem_append, List.mem_singleton, List.pairwise_cons, List.Pairwise.nil] at h ⊢
  obtain ⟨⟨h1, h2, h3⟩, h4, h5⟩ := h
  have hh : t.headD i ≤ i ∧ ∀ a ∈ s, a < t.headD i := by
    cases t with
    | nil => exact ⟨Nat.le_refl _, fun a ha => h5 a (.inl ha) i rfl⟩
    | cons y t => exact ⟨Nat.le_of_lt (h5 y (.inr (List.mem_cons_self ..)) i rfl), fun a ha => h3 a ha y (List.mem_cons_self ..)⟩
  refine ⟨⟨h1, ⟨fun _ h => by simp at h, trivial⟩, fun a ha b hb => by rw [hb]; exact hh.2 a ha⟩, ⟨fun _ h => by simp at h, trivial⟩, ?_⟩
  rintro a (ha | ha) b rfl
  · have := h5 a (.inl ha) i rfl; omega
  · omega
theorem inc_go : ∀ (l : List Sx) (i : Nat) (st s : List Nat), Inc st i → beginsGo l i st = some s → Inc s (i + l.length) := by
  intro l
  induction l with
  | nil => intro i st s h e; cases e; exact h
  | cons x l ih =>
    intro i st s h e
    simp only [beginsGo] at e
    split at e
    · have := ih (i + 1) _ s (inc_step x h) e
      rw [List.length_cons, show i + (l.length + 1) = i + 1 + l.length by omega]
      exact this
    · cases e
theorem inc_nil (i : Nat) : Inc [] i := List.pairwise_singleton ..
def rbLoop (f : Nat → Option Nat) : Nat → Nat → Option Nat
  | 0, k => some k
  | m + 1, k => match f k with | none => none | some b => rbLoop f m b
def BadSx (x : Sx) : Prop := x.many < 0 ∨ (x.word.size ≠ 0 ∧ x.many ≠ 0)
instance (x : Sx) : Decidable (BadSx x) := inferInstanceAs (Decidable (_ ∨ _))
def rbF (l : List Sx) : Nat → Nat → Option Nat
  | 0, _ => none
  | _ + 1, 0 => none
  | fuel + 1, e + 1 => match l[e]? with
    | none => none
    | some x => if BadSx x then none else rbLoop (rbF l fuel) x.many.toNat e
def rb (l : List Sx) (k : Nat) : Option Nat := rbF l k k
def piece (l : List Sx) (a b : Nat) : List Sx := (l.drop a).take (b - a)
def pieces (l : List Sx) (st : List Nat) (k : Nat) : List (List Sx) := (List.range st.length).map fun i => piece l ((st ++ [k]).getD i 0) ((st ++ [k]).getD (i + 1) 0)
inductive RItems (l : List Sx) : Nat → List (List Sx) → Option (List (List Sx)) → Prop
  | done (acc) : RItems l 0 acc (some acc)
  | bad {k acc} : 0 < k → rb l k = none → RItems l k acc none
  | one {k acc b R} : 0 < k → rb l k = some b → RItems l b (piece l b k :: acc) R → RItems l k acc R
def itemsGo (l : List Sx) : Option (List (List Sx)) := (beginsGo l 0 []).map fun st => pieces l st l.length
end
section
theorem pieces_len (l : List Sx) (st : List Nat) (k : Nat) : (pieces l st k).length = st.length := by simp [pieces]
end
def partsGo (row : List Sx) : Option (List (List Sx)) :=
  match beginsGo row 0 [], row.getLast? with
  | some [_], some x => if x.word.size = 0 then itemsGo row.dropLast else none
  | _, _ => none
theorem partsGo_snoc (init : List Sx) (x : Sx) : partsGo (init ++ [x]) = match beginsGo (init ++ [x]) 0 [] with
    | some [_] => if x.word.size = 0 then itemsGo init else none
    | _ => none := by
  unfold partsGo
  rw [List.getLast?_concat, List.dropLast_concat]
  split
  · rename_i h1 h2
    cases h2
    rw [h1]
  · rename_i h
    split
    · rename_i h1
      exact absurd rfl (h _ _ h1)
    · rfl
structure PTok where
  kind : Int
  pos : Int
  text : ByteArray
def parseGo : List PTok → List Sx → List Sx → Sx → Except (Int × Int) (List Sx)
  | [], row, [], _ => .ok row
  | [], _, _ :: _, x => .error (x.pos, 70)
  | t :: ts, row, st, x =>
    if t.kind = 1 then parseGo ts (row ++ [⟨0, t.pos, t.text⟩]) st ⟨x.many + 1, x.pos, x.word⟩
    else if t.kind = 2 then (if st.length = 60 then .error (t.pos, 22) else parseGo ts row (x :: st) ⟨0, t.pos, ⟨#[]⟩⟩)
    else match st with
      | [] => .error (t.pos, 70)
      | y :: st => parseGo ts (row ++ [x]) st ⟨y.many + 1, y.pos, y.word⟩
theorem parseGo_cons (t : PTok) (ts : List PTok) (row st : List Sx) (x : Sx) : parseGo (t :: ts) row st x =
    if t.kind = 1 then parseGo ts (row ++ [⟨0, t.pos, t.text⟩]) st ⟨x.many + 1, x.pos, x.word⟩
    else if t.kind = 2 then (if st.length = 60 then .error (t.pos, 22) else parseGo ts row (x :: st) ⟨0, t.pos, ⟨#[]⟩⟩)
    else match st with
      | [] => .error (t.pos, 70)
      | y :: st => parseGo ts (row ++ [x]) st ⟨y.many + 1, y.pos, y.word⟩ := by
  cases st <;> rfl
def SxAt (w0 : World) (b off : Nat) (row : List Sx) : Prop := ∀ k x, row[k]? = some x → w0.cell? ⟨b, off + k * 3, none⟩ = some (.int .i64 x.many) ∧ w0.cell? ⟨b, off + k * 3 + 1, none⟩ = some (.int .i64 x.pos) ∧ w0.cell? ⟨b, off + k * 3 + 2, none⟩ = some (.string x.word)
def SxArg (w0 : World) (p : Option Addr) (row : List Sx) : Prop := row ≠ [] → ∃ b off, p = some ⟨b, off, none⟩ ∧ b < w0.heap.size ∧ SxAt w0 b off row
theorem sxCells_at (all : List Sx) : ∀ k t, all[k]? = some t → (sxCells all)[k * 3]? = some (.int .i64 t.many) ∧ (sxCells all)[k * 3 + 1]? = some (.int .i64 t.pos) ∧ (sxCells all)[k * 3 + 2]? = some (.string t.word) := by
  induction all with
  | nil => intro k t h; simp at h
  | cons x l ih =>
    intro k t h
    cases k with
    | zero => cases h; exact ⟨rfl, rfl, rfl⟩
    | succ k =>
      have := ih k t h
      rw [show (k + 1) * 3 = k * 3 + 1 + 1 + 1 by omega, show k * 3 + 1 + 1 + 1 + 1 = (k * 3 + 1) + 1 + 1 + 1 by omega, show k * 3 + 1 + 1 + 1 + 2 = (k * 3 + 2) + 1 + 1 + 1 by omega]
      exact this
theorem sx_arg {w : World} {base : Nat} {e : TypeId} {l : Value} {row : List Sx} (h : w.ownsRow base e 3 l row.length (sxCells row)) : ∃ p cap, l = .slice p row.length cap ∧ SxArg w p row := by
  rcases h.2 with ⟨rfl, h0⟩ | ⟨g, cap, cur, rfl, hb, hg, rest⟩
  · refine ⟨none, 0, by rw [h0], fun hne => ?_⟩
    exact absurd (List.length_eq_zero_iff.1 h0) hne
  · refine ⟨_, cap, rfl, fun _ => ⟨g, 0, rfl, (Array.getElem?_eq_some_iff.1 hg).1, fun k t ht => ?_⟩⟩
    obtain ⟨h1, h2, h3⟩ := sxCells_at row k t ht
    rw [Nat.zero_add]
    exact ⟨row_cell h rfl h1, row_cell h rfl h2, row_cell h rfl h3⟩
theorem SxArg.under {a b : World} {p : Option Addr} {l : List Sx} (h : SxArg a p l) (hU : Under a b) : SxArg b p l := by
  intro hne
  obtain ⟨bl, off, rfl, hb, ht⟩ := h hne
  refine ⟨bl, off, rfl, Nat.lt_of_lt_of_le hb hU.size, fun k t hk => ?_⟩
  rw [under_cell hU hb, under_cell hU hb, under_cell hU hb]
  exact ht k t hk
theorem row_new0 (w : World) (base : Nat) (e : TypeId) (size : Nat) (hb : base ≤ w.heap.size) : (w.alloc (.cells #[] e)).ownsRow base e size (.slice (some ⟨w.heap.size, 0, none⟩) 0 0) 0 [] :=
  ⟨by simp, .inr ⟨w.heap.size, 0, #[], rfl, hb, box_new w _ _, Nat.le_refl _, by decide, by simp, by simp⟩⟩
end Go.Lx
namespace Go.Lx
inductive ST where
  | word (p : Int) (s : ByteArray)
  | list (p : Int) (l : List ST)
mutual
def flatS : ST → List Sx
  | .word p s => [⟨0, p, s⟩]
  | .list p l => flatSs l ++ [⟨(l.length : Int), p, ⟨#[]⟩⟩]
def flatSs : List ST → List Sx
  | [] => []
  | a :: l => flatS a ++ flatSs l
end
mutual
def okS : ST → Prop
  | .word _ s => s.size ≠ 0
  | .list _ l => okSs l
def okSs : List ST → Prop
  | [] => True
  | a :: l => okS a ∧ okSs l
end
def ST.last : ST → Sx
  | .word p s => ⟨0, p, s⟩
  | .list p l => ⟨(l.length : Int), p, ⟨#[]⟩⟩
theorem flatSs_app (a b : List ST) : flatSs (a ++ b) = flatSs a ++ flatSs b := by
  induction a with
  | nil => rfl
  | cons x l ih => simp [flatSs, ih]
theorem okSs_mem {l : List ST} : okSs l ↔ ∀ a ∈ l, okS a := by
  induction l with
  | nil => simp [okSs]
  | cons x l ih => simp [okSs, ih]
theorem flatS_snoc (a : ST) : ∃ i, flatS a = i ++ [a.last] := by
  cases a with
  | word p s => exact ⟨[], by simp [flatS, ST.last]⟩
  | list p l => exact ⟨flatSs l, by simp [flatS, ST.last]⟩
theorem flatS_pos (a : ST) : 0 < (flatS a).length := by
  obtain ⟨i, h⟩ := flatS_snoc a
  rw [h]; simp
def startsS : Nat → List ST → List Nat
  | _, [] => []
  | i, a :: l => i :: startsS (i + (flatS a).length) l
theorem startsS_len (i : Nat) (l : List ST) : (startsS i l).length = l.length := by
  induction l generalizing i with
  | nil => rfl
  | cons x l ih => simp [startsS, ih]
theorem startsS_app (i : Nat) (a b : List ST) : startsS i (a ++ b) = startsS i a ++ startsS (i + (flatSs a).length) b := by
  induction a generalizing i with
  | nil => simp [startsS, flatSs]
  | cons x l ih => simp [startsS, ih, flatSs, Nat.add_assoc]
theorem begins_tree (T : ST) : okS T → ∀ (Fs : List ST), beginsGo (flatS T) (flatSs Fs).length (startsS 0 Fs) = some (startsS 0 (Fs ++ [T])) := by
  induction T using ST.rec (motive_2 := fun l => okSs l → ∀ (Fs : List ST), beginsGo (flatSs l) (flatSs Fs).length (startsS 0 Fs) = some (startsS 0 (Fs ++ l))) with
  | word p s =>
    rintro h Fs
    rw [flatS]
    unfold beginsGo
    rw [if_pos ⟨Int.le_refl _, fun _ => rfl, Int.natCast_nonneg _⟩]
    unfold beginsGo bgStep
    simp [startsS_app, startsS]
  | list p l ih =>
    rintro h Fs
    rw [flatS, beginsGo_app, ih h Fs]
    simp only [Option.bind_some]
    unfold beginsGo
    rw [if_pos ⟨Int.natCast_nonneg _, fun h => absurd rfl h, by rw [startsS_len, List.length_append]; show (l.length : Int) ≤ _; omega⟩]
    unfold beginsGo bgStep
    have e2 : (startsS 0 Fs).length = Fs.length := startsS_len _ _
    rw [startsS_len, startsS_app, List.length_append]
    simp only [Int.toNat_natCast]
    rw [show Fs.length + l.length - l.length = Fs.length by omega, List.take_left' e2, List.drop_left' e2, startsS_app]
    cases l with
    | nil => simp [startsS, flatSs]
    | cons a l => simp [startsS]
  | nil => rename_i h Fs; simp [flatSs, beginsGo]
  | cons a l iha ihl =>
    rename_i h Fs
    rw [flatSs, beginsGo_app, iha h.1 Fs]
    simp only [Option.bind_some]
    have e : (flatSs Fs).length + (flatS a).length = (flatSs (Fs ++ [a])).length := by rw [flatSs_app]; simp [flatSs]
    rw [e, ihl h.2]
    simp
theorem begins_forest : ∀ (l : List ST), okSs l → ∀ Fs : List ST, beginsGo (flatSs l) (flatSs Fs).length (startsS 0 Fs) = some (startsS 0 (Fs ++ l))
  | [], _, Fs => by simp [flatSs, beginsGo]
  | a :: l, h, Fs => by
    rw [flatSs, beginsGo_app, begins_tree a h.1 Fs]
    simp only [Option.bind_some]
    have e : (flatSs Fs).length + (flatS a).length = (flatSs (Fs ++ [a])).length := by rw [flatSs_app]; simp [flatSs]
    rw [e, begins_forest l h.2]
    simp
theorem pieces_trees : ∀ (ts : List ST) (pre : List Sx), (List.range ts.length).map (fun i => piece (pre ++ flatSs ts) ((startsS pre.length ts ++ [(pre ++ flatSs ts).length]).getD i 0) ((startsS pre.length ts ++ [(pre ++ flatSs ts).length]).getD (i + 1) 0)) = ts.map flatS
  | [], pre => rfl
  | a :: l, pre => by
    have ih := pieces_trees l (pre ++ flatS a)
    rw [List.length_cons, List.range_succ_eq_map, List.map_cons, List.map_map, List.map_cons]
    have e : pre ++ flatSs (a :: l) = pre ++ flatS a ++ flatSs l := by simp [flatSs]
    rw [e]
    congr 1
    · have h1 : (startsS pre.length (a :: l) ++ [(pre ++ flatS a ++ flatSs l).length]).getD 0 0 = pre.length := by simp [startsS]
      have h2 : (startsS pre.length (a :: l) ++ [(pre ++ flatS a ++ flatSs l).length]).getD (0 + 1) 0 = pre.length + (flatS a).length := by
        cases l with
        | nil => simp [startsS, flatSs]
        | cons b l => simp [startsS]
      rw [h1, h2]
      unfold piece
      rw [List.append_assoc, List.drop_left, show pre.length + (flatS a).length - pre.length = (flatS a).length by omega, List.take_left]
    · rw [← ih]
      refine List.map_congr_left fun i hi => ?_
      simp only [Function.comp]
      simp only [startsS, List.cons_append, List.getD_eq_getElem?_getD, List.getElem?_cons_succ, List.length_append]
theorem items_of_trees {ts : List ST} (h : okSs ts) : itemsGo (flatSs ts) = some (ts.map flatS) := by
  have hb := begins_forest ts h []
  simp only [flatSs, startsS, List.length_nil, List.nil_append] at hb
  unfold itemsGo
  rw [hb]
  have := pieces_trees ts []
  simp only [List.nil_append, List.length_nil] at this
  rw [Option.map_some]
  unfold pieces
  rw [startsS_len, this]
theorem parts_list {p : Int} {l : List ST} (h : okSs l) : partsGo (flatS (.list p l)) = some (l.map flatS) := by
  have hb := begins_tree (.list p l) h []
  simp only [flatSs, startsS, List.length_nil, List.nil_append] at hb
  rw [flatS, partsGo_snoc]
  rw [flatS] at hb
  rw [hb]
  show (if (⟨#[]⟩ : ByteArray).size = 0 then itemsGo (flatSs l) else none) = _
  rw [if_pos (show (⟨#[]⟩ : ByteArray).size = 0 from rfl), items_of_trees h]
theorem sizeS_mem {l : List ST} {a : ST} (h : a ∈ l) : (flatS a).length ≤ (flatSs l).length := by
  induction l with
  | nil => cases h
  | cons b l ih =>
    rw [flatSs, List.length_append]
    rcases List.mem_cons.1 h with rfl | h
    · omega
    · have := ih h; omega
theorem lenS_le (l : List ST) : l.length ≤ (flatSs l).length := by
  induction l with
  | nil => simp
  | cons a l ih => rw [flatSs, List.length_append, List.length_cons]; have := flatS_pos a; omega
end Go.Lx
namespace Go.Lx
open Go.RowKit
def Zip {α β : Type} (R : α → β → Prop) (vs : List α) (ls : List β) : Prop := vs.length = ls.length ∧ ∀ (i : Nat) v x, vs[i]? = some v → ls[i]? = some x → R v x
theorem Zip.nil {α β : Type} (R : α → β → Prop) : Zip R [] [] := ⟨rfl, fun i v x h => by simp at h⟩
theorem Zip.app {α β : Type} {R : α → β → Prop} {vs us : List α} {ls ks : List β} (h : Zip R vs ls) (k : Zip R us ks) : Zip R (vs ++ us) (ls ++ ks) := by
  refine ⟨by rw [List.length_append, List.length_append, h.1, k.1], fun i v x hv hx => ?_⟩
  by_cases hi : i < vs.length
  · rw [List.getElem?_append_left hi] at hv
    rw [List.getElem?_append_left (by rw [← h.1]; exact hi)] at hx
    exact h.2 i v x hv hx
  · rw [List.getElem?_append_right (by omega)] at hv
    rw [List.getElem?_append_right (by rw [← h.1]; omega), ← h.1] at hx
    exact k.2 _ v x hv hx
theorem Zip.one {α β : Type} {R : α → β → Prop} {v : α} {x : β} (h : R v x) : Zip R [v] [x] := ⟨rfl, fun i u y hu hy => by
  match i, hu, hy with
  | 0, hu, hy => cases hu; cases hy; exact h⟩
theorem Zip.mono {α β : Type} {R S : α → β → Prop} {vs : List α} {ls : List β} (h : Zip R vs ls) (hRS : ∀ v x, R v x → S v x) : Zip S vs ls := ⟨h.1, fun i v x hv hx => hRS v x (h.2 i v x hv hx)⟩
theorem Zip.at {α β : Type} {R : α → β → Prop} {vs : List α} {ls : List β} (h : Zip R vs ls) {i : Nat} {x : β} (hx : ls[i]? = some x) : ∃ v, vs[i]? = some v ∧ R v x := by
  have hi : i < vs.length := by rw [h.1]; exact (List.getElem?_eq_some_iff.1 hx).1
  exact ⟨vs[i], List.getElem?_eq_getElem hi, h.2 i _ x (List.getElem?_eq_getElem hi) hx⟩
def ListV {α : Type} (R : World → Value → α → Prop) (w : World) (v : Value) (ls : List α) : Prop := ∃ p c vs, v = .slice p ls.length c ∧ ls.length ≤ c ∧ (p = none → c = 0) ∧ RowArg w p vs ∧ Zip (R w) vs ls
def TermV (w : World) (v : Value) (t : List Nd) : Prop := ∃ p c, v = .slice p t.length c ∧ t.length ≤ c ∧ (p = none → c = 0) ∧ RowArg w p (ndCells t)
def Mono {α : Type} (R : World → Value → α → Prop) : Prop := ∀ w w' v x, Under w w' → R w v x → R w' v x
theorem TermV.mono : Mono TermV := fun w w' v t hU ⟨p, c, h1, h2, h0, h3⟩ => ⟨p, c, h1, h2, h0, h3.under hU⟩
theorem ListV.mono {α : Type} {R : World → Value → α → Prop} (hR : Mono R) : Mono (ListV R) := fun w w' v ls hU ⟨p, c, vs, h1, h2, h0, h3, h4⟩ => ⟨p, c, vs, h1, h2, h0, h3.under hU, h4.mono fun v x h => hR w w' v x hU h⟩
theorem TermV.one {w : World} {v : Value} {t : List Nd} (h : TermV w v t) : v.oneCell' = true := by obtain ⟨p, c, rfl, _⟩ := h; rfl
theorem ListV.one {α : Type} {R : World → Value → α → Prop} {w : World} {v : Value} {ls : List α} (h : ListV R w v ls) : v.oneCell' = true := by obtain ⟨p, c, vs, rfl, _⟩ := h; rfl
abbrev TermsV := ListV TermV
abbrev ConsV := ListV TermsV
theorem ListV.of_own {α : Type} {R : World → Value → α → Prop} {w : World} {base : Nat} {e : TypeId} {v : Value} {ls : List α} {vs : List Value} (h : w.ownsRow base e 1 v ls.length vs) (hz : Zip (R w) vs ls) : ListV R w v ls := by
  have hc : ∀ q n c, v = .slice q n c → q = none → c = 0 := by
    intro q n c e hq
    subst hq
    rcases h.2 with ⟨rfl, _⟩ | ⟨g, cap, cur, e', _⟩
    · cases e; rfl
    · rw [e'] at e; cases e
  obtain ⟨q, c, rfl, h1, h2⟩ := RowArg.of_own h
  exact ⟨q, c, vs, rfl, h1, hc q _ c rfl, h2, hz⟩
section
variable {P : Program}
theorem run_append_zeros_nil (w : World) (base : Nat) (t u ty e : TypeId) (i : TypeInfo) (z : Value) (ht : P.underlying t = some (.slice e)) (hu : P.underlying u = some (.int .i64)) (hi : P.info? e = some i) (hz : i.zero = some z) (hs : i.size = 1) (hzs : z.cells = #[z])
    (n : Nat) (h1 : 1 ≤ n) (h8 : n * i.bytes ≤ 140737488355328) (hmx : n ≤ 1000000) (hbase : base ≤ w.heap.size) :
    ∃ g c w', (Builtin.append_ #[t, u] ty #[.slice none 0 0, .int .i64 (n : Int)]).run P w = .ok (.slice (some ⟨g, 0, none⟩) n c) w' ∧ w'.ownsRow base e 1 (.slice (some ⟨g, 0, none⟩) n c) n (List.replicate n z) ∧ w.grownBy w' none := by
  have hw : IntKind.i64.wrap (n : Int) = n := by rw [IntKind.wrap_i64]; omega
  have hn : ¬ n = 0 := by omega
  have h63' : ¬ (9223372036854775807 < (n : Int)) := by omega
  have h48' : ¬ (281474976710656 < Builtin.nextslicecap n 0 * i.bytes) := by rw [nextslicecap_zero (by omega)]; omega
  have hneg : ¬ ((n : Int) < 0) := by omega
  have hbig : ¬ ((281474976710656 : Int) < (n : Int) * i.bytes) := by
    have : ((n * i.bytes : Nat) : Int) = (n : Int) * i.bytes := by simp
    omega
  refine ⟨w.heap.size, grownCap w n 0 e, w.drew.alloc (.cells (Builtin.zeroCells z.cells n ++ Builtin.zeroCells z.cells (grownCap w n 0 e - n)) e), ?_, ?_, ?_⟩
  · simp [Builtin.append_, run_underlying ht, run_underlying hu, sizeOf, typeInfo, zeroValue, hi, hz, hs, Builtin.lenOf, Builtin.firstCells, hn, h63', h48', Question.forced, newRow, grownCap, asInt, asIntOf, hw, hneg, hbig]
  · have hge := grownCap_ge w n 0 e
    have hcm : grownCap w n 0 e ≤ maxLen := grownCap_le_maxLen w n 0 e (by simp only [maxLen]; omega)
    refine ⟨by simp, .inr ⟨w.heap.size, _, _, rfl, hbase, box_new w.drew _ _, hge, hcm, ?_, ?_⟩⟩
    · simp only [Array.size_append, size_zeroCells, hzs]
      simp
      omega
    · have hzc : (Builtin.zeroCells z.cells n).toList = List.replicate n z := by
        rw [hzs]
        apply List.ext_getElem
        · simp [Builtin.zeroCells]
        · intro j h1 h2
          simp [Builtin.zeroCells, Nat.mod_one]
      simp only [Array.toList_append, hzc, Nat.mul_one]
      rw [List.take_left' (by simp)]
  · exact ⟨rfl, rfl, rfl, by simp, fun k hk _ => by
      show (w.heap.push _)[k]? = _
      rw [Array.getElem?_push_lt hk, ← Array.getElem?_eq_getElem]⟩
theorem wpList_append_zeros_nil {w : World} {ops : Array Oper} {rest : List Oper} {o : Oper} {a : Act} {Q : Exit → Act → World → Prop} (hgd : o.guard = none) (s x : Operand) (base : Nat) (t u e : TypeId)
    (ho : o.op = .call { callee := .builtin .append, args := #[s, x], argTypes := #[t, u] }) (i : TypeInfo) (z : Value) (ht : P.underlying t = some (.slice e)) (hu : P.underlying u = some (.int .i64)) (hi : P.info? e = some i) (hz : i.zero = some z) (hs : i.size = 1) (hzs : z.cells = #[z])
    (n : Nat) (es : a.eval s = .slice none 0 0) (ex : a.eval x = .int .i64 (n : Int)) (h1 : 1 ≤ n) (h8 : n * i.bytes ≤ 140737488355328) (hmx : n ≤ 1000000) (hbase : base ≤ w.heap.size)
    (h : ∀ g c w', w'.ownsRow base e 1 (.slice (some ⟨g, 0, none⟩) n c) n (List.replicate n z) → w.grownBy w' none → wpList P ops Q rest (a.put o.dst (.slice (some ⟨g, 0, none⟩) n c)) w') :
    wpList P ops Q (o :: rest) a w := by
  refine wpList_plain hgd fun K hK' => ?_
  obtain ⟨g, c, w', hrun, r1, r2⟩ := run_append_zeros_nil (P := P) w base t u o.type e i z ht hu hi hz hs hzs n h1 h8 hmx hbase
  unfold Oper.wp
  simp [execOp, ho, resolve, invoke, builtin, es, ex, hrun, Result.andThen]
  exact hK' _ _ (h g c w' r1 r2)
end
end Go.Lx
namespace Go.Lx
open Go.RowKit
def TextsV (w : World) (v : Value) (ss : List ByteArray) : Prop := ∃ p c, v = .slice p ss.length c ∧ ss.length ≤ c ∧ (p = none → c = 0) ∧ RowArg w p (ss.map .string)
theorem TextsV.under {w w' : World} {v : Value} {ss : List ByteArray} (h : TextsV w v ss) (hU : Under w w') : TextsV w' v ss := by
  obtain ⟨p, c, rfl, h1, h2, h3⟩ := h
  exact ⟨p, c, rfl, h1, h2, h3.under hU⟩
theorem TextsV.of_own {w : World} {base : Nat} {e : TypeId} {v : Value} {ss : List ByteArray} (h : w.ownsRow base e 1 v ss.length (ss.map .string)) : TextsV w v ss := by
  have hc : ∀ q n c, v = .slice q n c → q = none → c = 0 := by
    intro q n c e hq
    subst hq
    rcases h.2 with ⟨rfl, _⟩ | ⟨g, cap, cur, e', _⟩
    · cases e; rfl
    · rw [e'] at e; cases e
  obtain ⟨q, c, rfl, h1, h2⟩ := RowArg.of_own h
  exact ⟨q, c, rfl, h1, hc q _ c rfl, h2⟩
theorem TextsV.nil (w : World) : TextsV w (.slice none 0 0) [] := ⟨none, 0, rfl, Nat.le_refl _, fun _ => rfl, RowArg.nil⟩
end Go.Lx
namespace Go.Lx
open Go.RowKit
def amongB (ss : List ByteArray) (s : ByteArray) : Bool := ss.any fun x => x.toList == s.toList
end Go.Lx
namespace Go.Lx
def formT : List (List UInt8 × Int × Int × List UInt8) := [([84, 121, 112, 101], 2, 0, [110]), ([108, 97, 109], 4, 0, [119, 46, 46]), ([97, 112, 112], 5, 0, [46, 46]), ([112, 97, 105, 114], 7, 0, [46, 46, 46]), ([102, 115, 116], 8, 0, [46]), ([115, 110, 100], 9, 0, [46]), ([115, 117, 99], 12, 0, [46]), ([112, 114, 102], 28, 0, [46]), ([114, 101, 99], 13, 0, [118, 46, 46, 118, 118, 46, 46]), ([97, 98, 111, 114, 116], 15, 0, [46, 46]), ([101, 113], 18, 0, [46, 46, 46]), ([114, 101, 102, 108], 19, 0, [46, 46]), ([99, 97, 115, 116], 20, 0, [46, 46, 46, 46]), ([116, 114, 97, 110, 115, 112], 21, 0, [46, 46, 118, 46, 46, 46, 46]), ([113, 117, 111, 116], 22, 0, [46, 118, 118, 46, 46, 46, 46]), ([99, 108, 97, 115, 115], 23, 0, [46, 46]), ([113, 101, 108, 105, 109], 24, 0, [46, 118, 46, 46, 46]), ([100, 97, 116, 97], 25, 0, [100]), ([99, 111, 110], 26, 0, [100, 110, 42]), ([101, 108, 105, 109], 27, 0, [100, 118, 46, 42, 46]), ([112, 105], 3, 0, [119, 46, 46]), ([115, 105, 103], 6, 0, [119, 46, 46]), ([112, 105, 49], 3, 1, [119, 46, 46]), ([115, 105, 103, 49], 6, 1, [119, 46, 46]), ([112, 105, 50], 3, 2, [119, 46, 46]), ([115, 105, 103, 50], 6, 2, [119, 46, 46]), ([112, 105, 51], 3, 3, [119, 46, 46]), ([115, 105, 103, 51], 6, 3, [119, 46, 46])]
def leafT : List (List UInt8 × Int) := [([80, 114, 111, 112], 2), ([78, 97, 116], 10), ([122, 101, 114, 111], 11), ([69, 109, 112, 116, 121], 14), ([85, 110, 105, 116], 16), ([115, 116, 97, 114], 17), ([116, 105, 99, 107], 29)]
def findF (w : List UInt8) : List (List UInt8 × Int × Int × List UInt8) → Option (Int × Int × List UInt8)
  | [] => none
  | (x, y) :: l => if w = x then some y else findF w l
def findL (w : List UInt8) : List (List UInt8 × Int) → Option Int
  | [] => none
  | (x, y) :: l => if w = x then some y else findL w l
def formW (s : ByteArray) : Option (Int × Int × List UInt8) := findF s.data.toList formT
def leafW (s : ByteArray) : Option Int := findL s.data.toList leafT
def kwW (s : ByteArray) : Bool := (formW s).isSome || (leafW s).isSome
inductive PK where
  | nm
  | nu
  | da
  | te (wait : Bool)
def spreadP (parts : List UInt8) (n : Nat) : List UInt8 := parts.flatMap fun c => if c = 42 then List.replicate (n + 1 - parts.length) c else [c]
def kindsP : Bool → List UInt8 → List PK
  | _, [] => []
  | w, c :: l => if c = 118 then .nm :: kindsP false l else if c = 119 then .nm :: kindsP true l else if c = 110 then .nu :: kindsP w l else if c = 100 then .da :: kindsP w l else .te w :: kindsP false l
abbrev Say := Except (Int × Int) (List Nd)
def fromEnd (st : List ByteArray) (s : ByteArray) : Option Nat := st.reverse.findIdx? fun x => x.toList == s.toList
def nameK (s : ByteArray) : Bool := nameB s && !kwW s
def wordS (cs : List ByteArray) (p : Int) (s : ByteArray) (st : List ByteArray) : Say :=
  match leafW s with
  | some k => .ok [⟨k, 0, 0, ⟨#[]⟩⟩]
  | none => if nameK s then
      match fromEnd st s with
      | some i => if 99 < i then .error (2, p) else .ok [⟨0, (i : Int), 0, ⟨#[]⟩⟩]
      | none => if amongB cs s then .ok [⟨1, 0, 0, s⟩] else .error (80, p)
    else .error (71, p)
def numS (s : ByteArray) : Option Nat := (List.range 100).find? fun n => s.data.toList == Lib.decDigits n
def numOk (k : Int) (n : Nat) : Bool := if k = 26 then n < 6 else (1 ≤ n && n ≤ 9)
mutual
def sayS (cs ds : List ByteArray) : ST → List ByteArray → Say
  | .word p s, st => wordS cs p s st
  | .list p l, st => listS cs ds p l st
def listS (cs ds : List ByteArray) (p : Int) : List ST → List ByteArray → Say
  | [], _ => .error (71, p)
  | h :: l, st =>
    match formW h.last.word with
    | none => .error (71, p)
    | some (k, n, parts) =>
      if (spreadP parts l.length).length = l.length ∧ ((k = 26 ∨ k = 27) → l.length + 1 - parts.length ≤ 6) then
        goS cs ds (kindsP false (spreadP parts l.length)) l ⟨k, n, if k = 26 ∨ k = 27 then ((l.length + 1 - parts.length : Nat) : Int) else 0, ⟨#[]⟩⟩ [] st []
      else .error (71, p)
def goS (cs ds : List ByteArray) : List PK → List ST → Nd → List ByteArray → List ByteArray → List Nd → Say
  | .nm :: ks, y :: ys, x, nms, st, acc => if nameK y.last.word then goS cs ds ks ys x (nms ++ [y.last.word]) st acc else .error (71, y.last.pos)
  | .nu :: ks, y :: ys, x, nms, st, acc =>
    match numS y.last.word with
    | some n => if numOk x.k n then goS cs ds ks ys ⟨x.k, (n : Int), x.m, x.s⟩ nms st acc else .error (71, y.last.pos)
    | none => .error (71, y.last.pos)
  | .da :: ks, y :: ys, x, nms, st, acc =>
    if nameK y.last.word then (if amongB ds y.last.word then goS cs ds ks ys ⟨x.k, x.n, x.m, y.last.word⟩ nms st acc else .error (80, y.last.pos)) else .error (71, y.last.pos)
  | .te w :: ks, y :: ys, x, nms, st, acc =>
    match sayS cs ds y (if w then st else st ++ nms) with
    | .ok t => goS cs ds ks ys x (if w then nms else []) st (acc ++ t)
    | .error e => .error e
  | _, _, x, _, _, acc => .ok (acc ++ [x])
end
end Go.Lx
namespace Go.Lx
theorem spread_flat {parts : List UInt8} (h : parts.all (· != 42) = true) (n : Nat) : spreadP parts n = parts := by
  unfold spreadP
  generalize parts.length = m
  induction parts with
  | nil => rfl
  | cons c l ih =>
    simp only [List.all_cons, Bool.and_eq_true] at h
    rw [List.flatMap_cons, ih h.2, if_neg (by simpa using h.1)]
    rfl
theorem findF_mem {w : List UInt8} {y : Int × Int × List UInt8} : ∀ {l : List (List UInt8 × Int × Int × List UInt8)}, findF w l = some y → (w, y) ∈ l
  | (x, z) :: l, h => by
    unfold findF at h
    split at h
    · rename_i e
      cases h
      rw [e]
      exact List.mem_cons_self ..
    · exact List.mem_cons_of_mem _ (findF_mem h)
theorem formW_mem {s : ByteArray} {k m : Int} {parts : List UInt8} (h : formW s = some (k, m, parts)) : (s.data.toList, k, m, parts) ∈ formT := findF_mem h
end Go.Lx
namespace Go.Lx
open Go.RowKit
structure Ch (C : Nat → Prop) (w w' : World) : Prop where
  os : w'.os = w.os
  output : w'.output = w.output
  size : w.heap.size ≤ w'.heap.size
  block : ∀ b, b < w.heap.size → ¬ C b → w'.heap[b]? = w.heap[b]?
theorem Ch.refl {C : Nat → Prop} (w : World) : Ch C w w := ⟨rfl, rfl, Nat.le_refl _, fun _ _ _ => rfl⟩
theorem Ch.of_under {C : Nat → Prop} {w w' : World} (h : Under w w') : Ch C w w' := ⟨h.os, h.output, h.size, fun b hb _ => h.low b hb⟩
theorem Ch.trans {C D : Nat → Prop} {a b c : World} (h : Ch C a b) (k : Ch D b c) (hD : ∀ i, i < a.heap.size → D i → C i) : Ch C a c :=
  ⟨k.os.trans h.os, k.output.trans h.output, Nat.le_trans h.size k.size, fun i hi hc => (k.block i (Nat.lt_of_lt_of_le hi h.size) (fun hd => hc (hD i hi hd))).trans (h.block i hi hc)⟩
theorem Ch.under {C : Nat → Prop} {a b c : World} (h : Ch C a b) (k : Under b c) : Ch C a c := h.trans (Ch.of_under (C := fun _ => False) k) fun _ _ h => h.elim
theorem Ch.weak {C D : Nat → Prop} {a b : World} (h : Ch C a b) (k : ∀ i, i < a.heap.size → C i → D i) : Ch D a b := ⟨h.os, h.output, h.size, fun i hi hc => h.block i hi fun hd => hc (k i hi hd)⟩
theorem Ch.set {C : Nat → Prop} {a b : World} (h : Ch C a b) {g : Nat} (hg : g < a.heap.size → C g) (j : Nat) (u : Value) : Ch C a (b.setCell ⟨g, j, none⟩ u) :=
  ⟨h.os, h.output, by rw [set_size]; exact h.size, fun i hi hc => (heap_set b _ u i (by show i ≠ g; intro e; subst e; exact hc (hg hi))).trans (h.block i hi hc)⟩
theorem Ch.turned {C : Nat → Prop} {a b c : World} (h : Ch C a b) {r : Option Nat} (k : Turned r b c) (hr : ∀ g, r = some g → g < a.heap.size → C g) : Ch C a c :=
  ⟨k.os.trans h.os, k.output.trans h.output, Nat.le_trans h.size k.size, fun i hi hc => (k.block i (Nat.lt_of_lt_of_le hi h.size) (fun e => hc (hr i e.symm hi))).trans (h.block i hi hc)⟩
theorem Ch.grown {C : Nat → Prop} {a b c : World} (h : Ch C a b) {r : Option Nat} (k : b.grownBy c r) (hr : ∀ g, r = some g → g < a.heap.size → C g) : Ch C a c :=
  ⟨k.os.trans h.os, k.output.trans h.output, Nat.le_trans h.size k.size, fun i hi hc => (k.block i (Nat.lt_of_lt_of_le hi h.size) (fun e => hc (hr i e.symm hi))).trans (h.block i hi hc)⟩
theorem box_ch {C : Nat → Prop} {w w' : World} {b : Nat} {t : TypeId} {cs : Array Value} (h : BoxAt w b t cs) (k : Ch C w w') (hc : ¬ C b) : BoxAt w' b t cs := (k.block b h.lt hc).trans h
theorem row_ch {C : Nat → Prop} {w w' : World} {base : Nat} {e : TypeId} {s n : Nat} {v : Value} {xs : List Value} (h : w.ownsRow base e s v n xs) (k : Ch C w w') (hc : ∀ g, v.ownBlock = some g → ¬ C g) : w'.ownsRow base e s v n xs := by
  refine ⟨h.1, ?_⟩
  rcases h.2 with hn | ⟨g, cap, cur, rfl, hb, hgg, rest⟩
  · exact .inl hn
  · exact .inr ⟨g, cap, cur, rfl, hb, by rw [k.block g (Array.getElem?_eq_some_iff.1 hgg).1 (hc g rfl)]; exact hgg, rest⟩
theorem box_own_ne {w : World} {b : Nat} {t e : TypeId} {cs : Array Value} {base s n : Nat} {v : Value} {xs : List Value} (h : BoxAt w b t cs) (k : w.ownsRow base e s v n xs) (hne : e ≠ t) : v.ownBlock ≠ some b := by
  rcases k.2 with ⟨rfl, _⟩ | ⟨g, cap, cur, rfl, _, hg, _⟩
  · simp [Value.ownBlock]
  · intro e0
    obtain rfl : g = b := by simpa [Value.ownBlock] using e0
    unfold BoxAt at h
    rw [h] at hg
    cases hg
    exact hne rfl
theorem map_own_ne {w : World} {b : Nat} {e : TypeId} {ks : Assoc} {base s n : Nat} {v : Value} {xs : List Value} (h : MapAt w b ks) (k : w.ownsRow base e s v n xs) : v.ownBlock ≠ some b := by
  obtain ⟨es, cl, hb, _⟩ := h
  rcases k.2 with ⟨rfl, _⟩ | ⟨g, cap, cur, rfl, _, hg, _⟩
  · simp [Value.ownBlock]
  · intro e0
    obtain rfl : g = b := by simpa [Value.ownBlock] using e0
    rw [hb] at hg
    cases hg
theorem box_map_ne {w : World} {a b : Nat} {t : TypeId} {cs : Array Value} {ks : Assoc} (h : BoxAt w a t cs) (k : MapAt w b ks) : a ≠ b := by
  rintro rfl
  obtain ⟨es, cl, hb, _⟩ := k
  unfold BoxAt at h
  rw [h] at hb
  cases hb
theorem under_ch {W0 w : World} {C : Nat → Prop} {w' : World} (h : Under W0 w) (k : Ch C w w') (hC : ∀ b, C b → W0.heap.size ≤ b) : Under W0 w' :=
  ⟨k.os.trans h.os, k.output.trans h.output, Nat.le_trans h.size k.size, fun b hb => (k.block b (Nat.lt_of_lt_of_le hb h.size) fun hc => by have := hC b hc; omega).trans (h.low b hb)⟩
end Go.Lx
