/- slices.Clone and surface.Items, walked. -/
import Derived.Test.YtjnoffgclibfaaaItemsPlain
import Derived.Deep.AppendLies
import Derived.Deep.RegionHeld3
import Derived.Lib.SliceRun
set_option linter.unusedSimpArgs false
set_option linter.unusedVariables false
namespace Go.Proofs.Ytjnoffgclibfaaa
open Go.Conc Go.Lx Go.RowKit

section
variable {w0 : World} {b off n cap k : Nat}
theorem add_off (b off j : Nat) : (⟨b, off, none⟩ : Addr).add j = ⟨b, off + j, none⟩ := by unfold Addr.add; split <;> simp_all
theorem sxCells_cell : ∀ (row : List Sx) (j : Nat) (u : Value), (sxCells row)[j]? = some u → ∃ k x, row[k]? = some x ∧ ((j = k * 3 ∧ u = .int .i64 x.many) ∨ (j = k * 3 + 1 ∧ u = .int .i64 x.pos) ∨ (j = k * 3 + 2 ∧ u = .string x.word)) := by
  intro row
  induction row with
  | nil => intro j u h; simp [sxCells] at h
  | cons x row ih =>
    intro j u h
    match j, h with
    | 0, h => cases h; exact ⟨0, x, rfl, .inl ⟨rfl, rfl⟩⟩
    | 1, h => cases h; exact ⟨0, x, rfl, .inr (.inl ⟨rfl, rfl⟩)⟩
    | 2, h => cases h; exact ⟨0, x, rfl, .inr (.inr ⟨rfl, rfl⟩)⟩
    | j + 3, h =>
      obtain ⟨k, y, h1, h2⟩ := ih j u h
      refine ⟨k + 1, y, h1, ?_⟩
      rcases h2 with ⟨rfl, rfl⟩ | ⟨rfl, rfl⟩ | ⟨rfl, rfl⟩
      · exact .inl ⟨by omega, rfl⟩
      · exact .inr (.inl ⟨by omega, rfl⟩)
      · exact .inr (.inr ⟨by omega, rfl⟩)
theorem sx_cell {row : List Sx} (h : SxAt w0 b off row) {j : Nat} {u : Value} (hj : (sxCells row)[j]? = some u) : w0.cell? ⟨b, off + j, none⟩ = some u := by
  obtain ⟨k, x, h1, h2⟩ := sxCells_cell row j u hj
  obtain ⟨c0, c1, c2⟩ := h k x h1
  rcases h2 with ⟨rfl, rfl⟩ | ⟨rfl, rfl⟩ | ⟨rfl, rfl⟩
  · exact c0
  · exact c1
  · exact c2
theorem sx_one {row : List Sx} {u : Value} (h : u ∈ sxCells row) : u.oneCell' = true := by
  obtain ⟨j, hj⟩ := List.getElem?_of_mem h
  obtain ⟨k, x, _, h2⟩ := sxCells_cell row j u hj
  rcases h2 with ⟨_, rfl⟩ | ⟨_, rfl⟩ | ⟨_, rfl⟩ <;> rfl

set_option maxRecDepth 100000 in
set_option maxHeartbeats 4000000 in
theorem clone_any (row : List Sx) (hne : row ≠ []) (hn : row.length ≤ 1000000) (hb0 : b < w0.heap.size) (ht : SxAt w0 b off row) :
    Calls Try.prog 40 #[.slice (some ⟨b, off, none⟩) row.length cap] w0 fun e w' => ∃ v, e = .returned v ∧ w'.ownsRow w0.heap.size 57 3 v row.length (sxCells row) ∧ Under w0 w' := by
  obtain ⟨i0, hi, hz0, hz1, hz2⟩ := info_parts Try.info57
  have hmx : 0 + row.length ≤ maxLen := by simp only [maxLen]; omega
  have hby : (0 + row.length) * 32 ≤ 140737488355328 := by omega
  have HT := Lib.hid ht
  clear ht
  have eqn := Lib.run_eql_slice_nil (P := Try.prog) w0 36 57 (some ⟨b, off, none⟩) row.length cap 0 0 Try.underlying36
  go_enter Try.func40, Try.ntmps40
  go_wp2_with (at_builtin; refine wpList_append_own_at _ rfl _ _ 36 rfl w0.heap.size 57 i0 _ 3 32 Try.underlying36 hi hz0 hz1 hz2 rfl (by decide) _ _ _ rfl (row_new0 w0 _ _ _ (Nat.le_refl _)) ⟨b, off, none⟩ row.length cap (sxCells row) rfl (sxCells_len row) ?c1 (fun u hu => sx_one hu) hmx hby ?c5 ?_)
  case c1 =>
    intro j u hj
    rw [add_off]
    exact (under_cell (W := w0) (under_alloc ⟨rfl, rfl, Nat.le_refl _, fun _ _ => rfl⟩ _) hb0 _).trans (sx_cell HT.out hj)
  case c5 => simp
  intro v' w1 hown hgrow hnil hat
  have HW := Lib.hid hown
  have HU2 := Lib.hid (under_grown (W := w0) (under_alloc ⟨rfl, rfl, Nat.le_refl _, fun _ _ => rfl⟩ _) hgrow fun g e => by cases e; exact Nat.le_refl _)
  clear hown hgrow hnil hat
  go_wp2
  go_ret
  exact ⟨v', rfl, HW.out, HU2.out⟩

/-- Rows of rows, each of its own. -/
def SxOwns (w : World) (base : Nat) : List Value → List (List Sx) → Prop
  | [], [] => True
  | v :: vs, l :: ls => w.ownsRow base 57 3 v l.length (sxCells l) ∧ SxOwns w base vs ls
  | _, _ => False
theorem SxOwns.app {w : World} {base : Nat} : ∀ {vs : List Value} {ls : List (List Sx)} {v : Value} {l : List Sx}, SxOwns w base vs ls → w.ownsRow base 57 3 v l.length (sxCells l) → SxOwns w base (vs ++ [v]) (ls ++ [l])
  | [], [], _, _, _, h => ⟨h, trivial⟩
  | _ :: _, _ :: _, _, _, h, h' => ⟨h.1, SxOwns.app h.2 h'⟩
  | [], _ :: _, _, _, h, _ => h.elim
  | _ :: _, [], _, _, h, _ => h.elim
theorem SxOwns.map {w w' : World} {base base' : Nat} : ∀ {vs : List Value} {ls : List (List Sx)}, SxOwns w base vs ls → (∀ v n xs, w.ownsRow base 57 3 v n xs → w'.ownsRow base' 57 3 v n xs) → SxOwns w' base' vs ls
  | [], [], _, _ => trivial
  | _ :: _, _ :: _, h, h' => ⟨h' _ _ _ h.1, SxOwns.map h.2 h'⟩
  | [], _ :: _, h, _ => h.elim
  | _ :: _, [], h, _ => h.elim
theorem SxOwns.at {w : World} {base : Nat} : ∀ {vs : List Value} {ls : List (List Sx)}, SxOwns w base vs ls → ∀ {i : Nat} {l : List Sx}, ls[i]? = some l → ∃ v, vs[i]? = some v ∧ w.ownsRow base 57 3 v l.length (sxCells l)
  | [], [], _, _, _, hi => by simp at hi
  | v :: _, _ :: _, h, 0, _, hi => by cases hi; exact ⟨v, rfl, h.1⟩
  | _ :: _, _ :: _, h, i + 1, _, hi => by
    obtain ⟨v, h1, h2⟩ := SxOwns.at h.2 (i := i) hi
    exact ⟨v, h1, h2⟩
  | [], _ :: _, h, _, _, _ => h.elim
  | _ :: _, [], h, _, _, _ => h.elim
theorem own_ne {w : World} {base base' : Nat} {e e' : TypeId} {s s' n n' : Nat} {v v' : Value} {xs xs' : List Value} (h : w.ownsRow base e s v n xs) (h' : w.ownsRow base' e' s' v' n' xs') (hne : e ≠ e') : v.ownBlock = none ∨ v.ownBlock ≠ v'.ownBlock := by
  rcases h.2 with ⟨rfl, _⟩ | ⟨g, c, cur, rfl, _, hg, _⟩
  · exact .inl rfl
  · right
    rcases h'.2 with ⟨rfl, _⟩ | ⟨g', c', cur', rfl, _, hg', _⟩
    · simp [Value.ownBlock]
    · intro e0
      obtain rfl : g = g' := by simpa [Value.ownBlock] using e0
      rw [hg] at hg'
      cases hg'
      exact hne rfl
theorem row_base {w : World} {base base' : Nat} {e : TypeId} {s n : Nat} {v : Value} {xs : List Value} (h : w.ownsRow base e s v n xs) (hb : base' ≤ base) : w.ownsRow base' e s v n xs := by
  refine ⟨h.1, ?_⟩
  rcases h.2 with hn | ⟨g, cap, cur, rfl, hb', rest⟩
  · exact .inl hn
  · exact .inr ⟨g, cap, cur, rfl, Nat.le_trans hb hb', rest⟩
theorem row_under {w w' : World} {base : Nat} {e : TypeId} {s n : Nat} {v : Value} {xs : List Value} (h : w.ownsRow base e s v n xs) (hU : Under w w') : w'.ownsRow base e s v n xs := by
  refine ⟨h.1, ?_⟩
  rcases h.2 with hn | ⟨g, cap, cur, rfl, hb, hgg, rest⟩
  · exact .inl hn
  · exact .inr ⟨g, cap, cur, rfl, hb, by rw [hU.low g (Array.getElem?_eq_some_iff.1 hgg).1]; exact hgg, rest⟩

/-- What Items holds between two things. -/
structure IH (w0 : World) (va : Value) (bs : List Nat) (vo : Value) (ls : List (List Sx)) (w : World) : Prop where
  at_ : w.ownsRow w0.heap.size 3 1 va bs.length (natCells bs)
  out : ∃ vs, w.ownsRow w0.heap.size 36 1 vo ls.length vs ∧ SxOwns w w0.heap.size vs ls
  low : Under w0 w

theorem Try.info36 : (Try.prog.info? 36).map (fun i => (i.zero, i.size, i.bytes)) = some (some (.slice none 0 0), 1, 24) := by kernel_rfl

noncomputable def itText : Code := Try.f25.body.getD .skip
noncomputable def itLoop : Code := fstOf (sndOf (sndOf (sndOf (sndOf itText))))
noncomputable def itRound : Code := inOf (inOf (sndOf itLoop))
def itFrame (l va : Value) (m k : Nat) (vo : Value) (J : Nat → Value) : Array Value :=
  #[l, J 1, J 2, J 3, va, J 5, vo, J 7, J 8, J 9, J 10, J 11, J 12, J 13, J 14, J 15, J 16, .int .i64 (m : Int), .int .i64 (k : Int), J 19, J 20, J 21, J 22, J 23, J 24, J 25, J 26, J 27, J 28, J 29, J 30, J 31, J 32, J 33, J 34, J 35, J 36, J 37]
def INext (w0 : World) (l va : Value) (m k : Nat) (bs : List Nat) (ls : List (List Sx)) (a' : Act) (w' : World) : Prop :=
  ∃ vo J, a' = ⟨itFrame l va m k vo J, []⟩ ∧ IH w0 va bs vo ls w'
def IDone (l va : Value) (m : Nat) (vo : Value) (w : World) (e : Exit) (a' : Act) (w' : World) : Prop := e = .exit 0 ∧ ∃ J, a' = ⟨itFrame l va m m vo J, []⟩ ∧ w' = w
set_option maxRecDepth 100000 in
theorem it_done {l va vo : Value} {m : Nat} (J : Nat → Value) (w : World) :
    itRound.wp Try.prog (Exit.then (fun _ _ => False) (IDone l va m vo w)) ⟨itFrame l va m m vo J, []⟩ w := by
  unfold itRound itLoop itText
  simp only [Try.f25, Option.getD_some, fstOf, sndOf, inOf]
  unfold itFrame
  go_wp2
  exact ⟨rfl, frame_ex (F := itFrame l va m m vo) (by rfl) rfl⟩

theorem piece_len (row : List Sx) {a c : Nat} (hc : c ≤ row.length) : (piece row a c).length = c - a := by
  unfold piece; rw [List.length_take, List.length_drop]; omega
theorem piece_at {row : List Sx} {a c : Nat} (h : SxAt w0 b off row) : SxAt w0 b (off + a * 3) (piece row a c) := by
  intro k x hk
  unfold piece at hk
  have : row[a + k]? = some x := by
    rw [List.getElem?_take] at hk
    split at hk
    · rw [List.getElem?_drop] at hk; exact hk
    · cases hk
  have := h (a + k) x this
  rw [Nat.add_mul] at this
  simpa [Nat.add_assoc] using this

set_option maxRecDepth 100000 in
set_option maxHeartbeats 4000000 in
theorem it_one {row : List Sx} {bs : List Nat} {va vo : Value} {ls : List (List Sx)} {a c : Nat} (hk : k + 1 < bs.length) (hbs : bs.length ≤ 1000001) (ha : bs[k]? = some a) (hc : bs[k + 1]? = some c) (hac : a < c) (hcn : c ≤ row.length) (hn : row.length ≤ 1000000) (hcap : row.length ≤ cap) (hls : ls.length = k) (J : Nat → Value) (w : World) (hP : IH w0 va bs vo ls w)
    (hb0 : b < w0.heap.size) (ht : SxAt w0 b off row) :
    itRound.wp Try.prog (Exit.then (INext w0 (.slice (some ⟨b, off, none⟩) row.length cap) va (bs.length - 1) (k + 1) bs (ls ++ [piece row a c])) (fun _ _ _ => False)) ⟨itFrame (.slice (some ⟨b, off, none⟩) row.length cap) va (bs.length - 1) k vo J, []⟩ w := by
  have hb := Nat.lt_of_lt_of_le hb0 hP.low.size
  obtain ⟨i0, hi, hz0, hz1, hz2⟩ := info_parts Try.info36
  obtain ⟨m, hm⟩ : ∃ m, bs.length = m + 1 := ⟨bs.length - 1, by omega⟩
  obtain ⟨vs, ho, hel⟩ := hP.out
  obtain ⟨ga, gac, hva, hga, hgab, hgal, _, _⟩ := row_block hP.at_ (by omega)
  have hne := own_ne ho hP.at_ (by decide)
  rw [hm] at hva
  subst hva
  have ca := row_cell hP.at_ hga (natCells_at ha)
  have cc := row_cell hP.at_ hga (natCells_at hc)
  have hat0 := hP.at_
  have hU := hP.low
  rw [hm] at hk hbs ⊢
  rw [Nat.add_sub_cancel]
  clear hP
  have hin : (k : Int) < m := by omega
  have hk0 : (0 : Int) ≤ k := Int.natCast_nonneg _
  have ix1 : (k : Int) < (m : Int) + 1 := by omega
  have ix2 : (k : Int) + 1 < (m : Int) + 1 := by omega
  have ix3 : (0 : Int) ≤ (k : Int) + 1 := by omega
  have wr : IntKind.i64.wrap ((k : Int) + 1) = (k : Int) + 1 := by rw [IntKind.wrap_i64]; omega
  have a0 : (0 : Int) ≤ a := Int.natCast_nonneg _
  have a1 : (a : Int) ≤ c := by omega
  have a2 : (c : Int) ≤ cap := by omega
  have hmx : k + 1 ≤ maxLen := by simp only [maxLen]; omega
  have hby : (k + 1) * 24 ≤ 140737488355328 := by omega
  have HO := Lib.hid ho
  have HE := Lib.hid hel
  have HA := Lib.hid hat0
  have HU := Lib.hid hU
  have HT := Lib.hid ht
  clear ho hel hat0 hU ht
  have hca : ¬ cap = a := by omega
  have hpl : (piece row a c).length = c - a := piece_len row hcn
  have HC0 : Calls Try.prog 40 #[.slice (some ⟨b, off + a * 3, none⟩) (c - a) (cap - a)] w.drew fun e w1 => ∃ g1 c1, e = .returned (.slice (some ⟨g1, 0, none⟩) (c - a) c1) ∧ w1.ownsRow w0.heap.size 57 3 (.slice (some ⟨g1, 0, none⟩) (c - a) c1) (c - a) (sxCells (piece row a c)) ∧ Under w w1 := by
    have := clone_any (w0 := w.drew) (b := b) (off := off + a * 3) (cap := cap - a) (piece row a c) (fun e => by rw [e] at hpl; simp at hpl; omega) (by omega) hb (piece_at fun k x hk => by
      have := HT.out k x hk
      rw [← under_cell HU.out hb0, ← under_cell HU.out hb0, ← under_cell HU.out hb0] at this
      exact this)
    rw [hpl] at this
    refine this.mono ?_
    rintro e w1 ⟨v, rfl, h1, h2⟩
    obtain ⟨g1, c1, rfl, _⟩ := row_block h1 (by omega)
    exact ⟨g1, c1, rfl, row_base h1 HU.out.size, ⟨h2.os, h2.output, h2.size, h2.low⟩⟩
  have HC := Lib.hid HC0
  clear HC0
  have hnx : some ga ≠ vo.ownBlock := by
    rcases hne with e | e
    · rw [e]; simp
    · exact fun e' => e (e'.symm)
  subst hls
  clear hpl hne ca cc
  unfold itRound itLoop itText
  simp only [Try.f25, Option.getD_some, fstOf, sndOf, inOf]
  unfold itFrame
  have ca := row_cell HA.out hga (natCells_at ha)
  have cc := row_cell HA.out hga (natCells_at hc)
  go_wp2_with fail
  go_region_held3 (fun w' => w'.cell? ⟨ga, ls.length, none⟩ = some (.int .i64 (a : Int)) ∧ w'.cell? ⟨ga, ls.length + 1, none⟩ = some (.int .i64 (c : Int)))
    (first
      | go_keep
      | (go_split_ands
         refine ⟨?_, ?_⟩
         · (rw [hgrow.cell_far _ (by have := hU1.size; simp; omega) hnx]; assumption)
         · (rw [hgrow.cell_far _ (by have := hU1.size; simp; omega) hnx]; assumption))
      | (refine ⟨?_, ?_⟩
         · (rw [under_cell hU1 hgal]; assumption)
         · (rw [under_cell hU1 hgal]; assumption)))
    (first
      | (go_simp; go_at_call 40; refine HC.out.mono ?_; rintro e w1 ⟨g1, c1, rfl, hown1, hU1⟩; have HU1 := Lib.hid hU1; have HW1 := Lib.hid hown1)
      | (refine step_append_lies _ (by rfl) _ _ _ (by rfl) w0.heap.size 36 i0 _ 1 24 Try.underlying50 hi hz0 hz1 hz2 rfl (by omega) vo ls.length vs (by rfl) ((row_under HO.out hU1).alloc _) ⟨w1.heap.size, 0, none⟩ 1 1 [.slice (some ⟨g1, 0, none⟩) (c - a) c1] (by rfl) (by rfl) (World.news_of_block (cs := #[.slice (some ⟨g1, 0, none⟩) (c - a) c1]) (t := 36) (fr := (0, 0)) (heap_alloc_new w1 _)) (by simp [Value.oneCell']) (by omega) hmx hby (by have := HU1.out.size; have := HU.out.size; simp; omega) (w1.heap.size + 1) (by simp) ?_; intro gg cc' w2 hown2 hgrow hat2 hlt2))
  have hpl : (piece row a c).length = c - a := piece_len row hcn
  have HP2 : IH w0 (.slice (some ⟨ga, 0, none⟩) (m + 1) gac) bs (.slice (some ⟨gg, 0, none⟩) (ls.length + 1) cc') (ls ++ [piece row a c]) w2 := by
    refine ⟨row_grown ((row_under HA.out hU1).alloc _) hgrow (.inr (by rw [hga]; exact hnx)), ⟨_, by rw [List.length_append]; exact hown2, ?_⟩, under_grown (under_alloc (HU.out.trans hU1) _) hgrow fun g e => (row_lt HO.out e).1⟩
    refine SxOwns.app (HE.out.map fun v n xs h => row_grown ((row_under h hU1).alloc _) hgrow (own_ne h HO.out (by decide))) ?_
    rw [hpl]
    exact row_grown (hown1.alloc _) hgrow (own_ne hown1 (row_under HO.out hU1) (by decide))
  have HP3 := Lib.hid HP2
  clear hown2 hgrow hat2 hlt2 hown1 hU1 HP2 hpl
  go_wp2
  exact ⟨_, frame_ex (F := itFrame _ _ m (ls.length + 1) _) (by rfl) HP3.out⟩
end
end Go.Proofs.Ytjnoffgclibfaaa
