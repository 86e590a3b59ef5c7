/- corniceref07.Parse: the rounds, and that it computes what Parse computes. -/
import Derived.Test.YtjnoffgclibfaaaRefParse
set_option linter.unusedSimpArgs false
set_option linter.unusedVariables false
namespace Go.Proofs.Ytjnoffgclibfaaa
open Go.Conc Go.Lx Go.RowKit

section
variable {w0 : World} {b off cap : Nat}
structure RInv (w0 : World) (toks : List PTok) (R : Except (Int × Int) (List Sx)) (m k : Nat) (vr vo : Value) (row st : List Sx) (x : Sx) (w : World) : Prop where
  cnt : m + k = toks.length
  ph : RH w0 vr row vo st.reverse x w
  go : parseGo (toks.drop k) row st x = R
  rowL : row.length ≤ k
  stL : st.length ≤ 60
  x0 : 0 ≤ x.many
  x1 : x.many ≤ k
  xw : x.word = ⟨#[]⟩
  ys : ∀ y ∈ st, 0 ≤ y.many ∧ y.many ≤ k ∧ y.word = ⟨#[]⟩
def RI (w0 : World) (l : Value) (toks : List PTok) (R : Except (Int × Int) (List Sx)) (m : Nat) (a : Act) (w : World) : Prop :=
  ∃ k vr vo row st x J, a = ⟨rpFrame l k vr vo J, []⟩ ∧ RInv w0 toks R m k vr vo row st x w
def REnd (w0 : World) (l : Value) (toks : List PTok) (R : Except (Int × Int) (List Sx)) (e : Exit) (a : Act) (w : World) : Prop :=
  (e = .exit 0 ∧ ∃ vr vo row st x J, a = ⟨rpFrame l toks.length vr vo J, []⟩ ∧ RInv w0 toks R 0 toks.length vr vo row st x w) ∨ ∃ p c, R = .error (p, c) ∧ RBad w0 p c e a w

theorem rp_rounds (toks : List PTok) {p : Option Addr} (hn : toks.length ≤ 1000000) (hp : TokArg w0 p toks) (hk : ∀ t ∈ toks, t.kind = 1 ∨ t.kind = 2 ∨ t.kind = 3) (R : Except (Int × Int) (List Sx)) (m : Nat) (a : Act) (w : World)
    (h0 : RI w0 (.slice p toks.length cap) toks R m a w) :
    (Code.loop rpRound).wp Try.prog (REnd w0 (.slice p toks.length cap) toks R) a w := by
  refine wp_loop_ghost _ m h0 ?_
  clear h0
  rintro m a w ⟨k, vr, vo, row, st, x, J, rfl, hi⟩
  have hmk := hi.cnt
  by_cases hkn : k = toks.length
  · subst hkn
    refine wp_mono (rp_done p J w) ?_
    rintro e a' w' h
    cases e with
    | normal => exact h.elim
    | _ =>
      obtain ⟨h1, J', rfl, rfl⟩ := h
      have : m = 0 := by omega
      subst this
      exact .inl ⟨h1, vr, vo, row, st, x, J', rfl, hi⟩
  have hlt : k < toks.length := by omega
  obtain ⟨b, off, rfl, hb0, ht⟩ := hp (fun e => by rw [e] at hlt; exact absurd hlt (Nat.not_lt_zero _))
  obtain ⟨t, ht0⟩ : ∃ t, toks[k]? = some t := ⟨_, List.getElem?_eq_getElem hlt⟩
  have hd : toks.drop k = t :: toks.drop (k + 1) := by
    rw [List.drop_eq_getElem_cons hlt]
    rw [List.getElem?_eq_getElem hlt] at ht0
    cases ht0; rfl
  have hgo := hi.go
  rw [hd, parseGo_cons] at hgo
  obtain ⟨c0, c1, c2⟩ := ht k t ht0
  have hrow := hi.rowL
  have hst := hi.stL
  have hx0 := hi.x0
  have hx1 := hi.x1
  have next : ∀ {row' st' : List Sx} {x' : Sx}, parseGo (toks.drop (k + 1)) row' st' x' = R → row'.length ≤ k + 1 → st'.length ≤ 60 → 0 ≤ x'.many → x'.many ≤ k + 1 → x'.word = ⟨#[]⟩ → (∀ y ∈ st', 0 ≤ y.many ∧ y.many ≤ k + 1 ∧ y.word = ⟨#[]⟩) →
      rpRound.wp Try.prog (Exit.then (RNext w0 (.slice (some ⟨b, off, none⟩) toks.length cap) (k + 1) row' st'.reverse x') (fun _ _ _ => False)) ⟨rpFrame (.slice (some ⟨b, off, none⟩) toks.length cap) k vr vo J, []⟩ w →
      rpRound.wp Try.prog (Exit.then (fun a' w' => ∃ n', n' < m ∧ RI w0 (.slice (some ⟨b, off, none⟩) toks.length cap) toks R n' a' w') (REnd w0 (.slice (some ⟨b, off, none⟩) toks.length cap) toks R)) ⟨rpFrame (.slice (some ⟨b, off, none⟩) toks.length cap) k vr vo J, []⟩ w := by
    intro row' st' x' g1 g2 g3 g4 g5 g6 g7 h
    refine wp_mono h ?_
    rintro e a' w' h
    cases e with
    | normal =>
      obtain ⟨vr', vo', J', rfl, hP'⟩ := h
      exact ⟨m - 1, by omega, k + 1, vr', vo', row', st', x', J', rfl, by omega, hP', g1, g2, g3, g4, by omega, g6, fun y hy => by have := g7 y hy; exact ⟨this.1, by omega, this.2.2⟩⟩
    | _ => exact h.elim
  have bad : ∀ {q c : Int}, Except.error (q, c) = R → rpRound.wp Try.prog (Exit.then (fun _ _ => False) (RBad w0 q c)) ⟨rpFrame (.slice (some ⟨b, off, none⟩) toks.length cap) k vr vo J, []⟩ w →
      rpRound.wp Try.prog (Exit.then (fun a' w' => ∃ n', n' < m ∧ RI w0 (.slice (some ⟨b, off, none⟩) toks.length cap) toks R n' a' w') (REnd w0 (.slice (some ⟨b, off, none⟩) toks.length cap) toks R)) ⟨rpFrame (.slice (some ⟨b, off, none⟩) toks.length cap) k vr vo J, []⟩ w := by
    intro q c g h
    refine wp_mono h ?_
    rintro e a' w' h
    cases e with
    | normal => exact h.elim
    | _ => exact .inr ⟨q, c, g.symm, h⟩
  rcases hk t (List.mem_of_getElem? ht0) with e | e | e
  · rw [if_pos e] at hgo
    rw [e] at c0
    exact next hgo (by simp; omega) hst (by show 0 ≤ x.many + 1; omega) (by show x.many + 1 ≤ (k : Int) + 1; omega) hi.xw (fun y hy => by have := hi.ys y hy; exact ⟨this.1, by omega, this.2.2⟩) (rp_word t.pos t.text hlt hn (by omega) (by simp; omega) hx0 (by omega) J w hi.ph hb0 c0 c1 c2)
  · rw [if_neg (by omega), if_pos e] at hgo
    rw [e] at c0
    by_cases h60 : st.length = 60
    · rw [if_pos h60] at hgo
      exact bad hgo (rp_deep t.pos t.text hlt hn (by simp; exact h60) J w hi.ph hb0 c0 c1 c2)
    · rw [if_neg h60] at hgo
      have := rp_open (cap := cap) t.pos t.text hlt hn (by simp; omega) J w hi.ph hb0 c0 c1 c2
      rw [← List.reverse_cons] at this
      refine next hgo (by omega) (by simp; omega) (by simp) (by simp; omega) rfl ?_ this
      intro y hy
      rcases List.mem_cons.1 hy with rfl | hy
      · exact ⟨hx0, by omega, hi.xw⟩
      · have := hi.ys y hy; exact ⟨this.1, by omega, this.2.2⟩
  · rw [if_neg (by omega), if_neg (by omega)] at hgo
    rw [e] at c0
    have hP := hi.ph
    have hys := hi.ys
    have hxw := hi.xw
    clear hi hd
    cases st with
    | nil => exact bad hgo (rp_shut t.pos t.text hlt hn J w hP hb0 c0 c1 c2)
    | cons y st =>
      rw [List.reverse_cons] at hP
      have hy := hys y (List.mem_cons_self ..)
      simp only [List.length_cons] at hst
      exact next hgo (by simp; omega) (by omega) (by show 0 ≤ y.many + 1; omega) (by show y.many + 1 ≤ (k : Int) + 1; omega) hy.2.2 (fun z hz => by have := hys z (List.mem_cons_of_mem _ hz); exact ⟨this.1, by omega, this.2.2⟩) (rp_close t.pos t.text hlt hn (by omega) (by simp; omega) hy.1 (by omega) hxw J w hP hb0 c0 c1 c2)

theorem row_new2 (w : World) (base : Nat) (hb : base ≤ w.heap.size) (x : Sx) : (w.alloc (.cells #[.int .i64 x.pos, .int .i64 x.many] 78)).ownsRow base 78 2 (.slice (some ⟨w.heap.size, 0, none⟩) 1 1) 1 (opCells [x]) :=
  ⟨rfl, .inr ⟨w.heap.size, 1, #[.int .i64 x.pos, .int .i64 x.many], rfl, hb, heap_alloc_new w _, Nat.le_refl _, by decide, rfl, rfl⟩⟩

theorem row_new0 (w : World) (base : Nat) (e : TypeId) (size : Nat) (hb : base ≤ w.heap.size) : (w.alloc (.cells #[] e)).ownsRow base e size (.slice (some ⟨w.heap.size, 0, none⟩) 0 0) 0 [] :=
  ⟨by simp, .inr ⟨w.heap.size, 0, #[], rfl, hb, heap_alloc_new w _, Nat.le_refl _, by decide, by simp, by simp⟩⟩

/-- What the document's Parse answers. -/
def RefOut (w0 : World) (R : Except (Int × Int) (List Sx)) (e : Ending) (w' : World) : Prop :=
  Under w0 w' ∧ match R with
    | .ok row => ∃ vr, e = .returned (.tuple #[vr, .int .i64 0, .int .i64 0]) ∧ w'.ownsRow w0.heap.size 75 3 vr row.length (sxCells row)
    | .error (p, c) => e = .returned (.tuple #[.slice none 0 0, .int .i64 p, .int .i64 c])

set_option maxRecDepth 100000 in
set_option maxHeartbeats 4000000 in
theorem rp_any (toks : List PTok) {p : Option Addr} (hn : toks.length ≤ 1000000) (hp : TokArg w0 p toks) (hk : ∀ t ∈ toks, t.kind = 1 ∨ t.kind = 2 ∨ t.kind = 3) :
    Calls Try.prog 23 #[.slice p toks.length cap] w0 (RefOut w0 (parseGo toks [] [] ⟨0, 0, ⟨#[]⟩⟩)) := by
  have HL := Lib.hid (fun m a w h => rp_rounds (w0 := w0) (cap := cap) toks hn hp hk (parseGo toks [] [] ⟨0, 0, ⟨#[]⟩⟩) m a w h)
  generalize hR : parseGo toks [] [] ⟨0, 0, ⟨#[]⟩⟩ = R at *
  have HR := Lib.hid hR
  clear hR hp hk
  go_enter Try.func23, Try.ntmps23
  go_wp2
  rename_i K hK
  have hN : Value.slice (some ⟨w0.heap.size + 1, 0, none⟩) 1 1 = .slice (some ⟨(w0.alloc (Obj.cells #[] 75)).heap.size, 0, none⟩) 1 1 := by simp
  refine wp_mono (HL.out toks.length _ _ ⟨0, .slice (some ⟨w0.heap.size, 0, none⟩) 0 0, .slice (some ⟨w0.heap.size + 1, 0, none⟩) 1 1, [], [], ⟨0, 0, ⟨#[]⟩⟩, _, pframe_ex (by rfl), ⟨rfl, ⟨(row_new0 w0 _ _ _ (Nat.le_refl _)).alloc _, by rw [hN]; exact row_new2 _ _ (by simp) ⟨0, 0, ⟨#[]⟩⟩, .inr (by simp [Value.ownBlock]), under_alloc (under_alloc ⟨rfl, rfl, Nat.le_refl _, fun _ _ => rfl⟩ _) _⟩, HR.out, Nat.le_refl _, by decide, Int.le_refl _, Int.le_refl _, rfl, fun y hy => by cases hy⟩⟩) ?_
  clear hN
  rintro e a' w' (⟨rfl, vr, vo, row, st, x, J, rfl, hi⟩ | ⟨q, c, rfl, rfl, J, rfl, hu⟩)
  · simp only [Exit.inBlock, if_pos, Exit.then]
    refine hK _ _ ?_
    have hgo := hi.go
    have hst := hi.stL
    rw [List.drop_length] at hgo
    obtain ⟨g, gc, rfl, hg, hgb, hgl, _, _⟩ := row_block hi.ph.op (by omega)
    cases st with
    | nil =>
      have HI := Lib.hid hi
      have HG := Lib.hid hgo
      clear hi hgo
      unfold rpFrame
      go_wp2
      go_ret3
      obtain rfl : Except.ok row = R := HG.out
      exact ⟨HI.out.ph.low, vr, rfl, HI.out.ph.row⟩
    | cons y st =>
      have hl : (y :: st).reverse.length = st.length + 1 := by simp
      obtain ⟨hcp, hcm, hfr⟩ := hi.ph.topCells hg
      have HI := Lib.hid hi
      have HG := Lib.hid hgo
      clear hi hgo
      rw [hl] at hcp ⊢
      simp only [List.length_cons] at hst
      clear hl hcm hfr
      unfold rpFrame
      go_wp2
      go_quiet (fail)
      go_wp2
      go_ret3
      obtain rfl : Except.error (x.pos, 70) = R := HG.out
      exact ⟨under_drewN HI.out.ph.low _, rfl⟩
  · simp only [Exit.inBlock, Exit.then]
    go_ret3
    exact ⟨hu, rfl⟩
end
end Go.Proofs.Ytjnoffgclibfaaa
