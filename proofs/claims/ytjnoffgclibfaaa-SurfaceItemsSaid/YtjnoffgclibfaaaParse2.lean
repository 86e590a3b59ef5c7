/- surface.Parse: the rounds, and what it computes. -/
import Derived.Test.YtjnoffgclibfaaaParse
import Derived.Deep.LoopGhost
import Derived.Test.YtjnoffgclibfaaaChecked
set_option linter.unusedSimpArgs false
set_option linter.unusedVariables false
namespace Go.Proofs.Ytjnoffgclibfaaa
open Go.Conc Go.Lx Go.RowKit

/-- What Parse computes: the place and the error, or the row. -/
def parseGo : List PTok → List Sx → List Sx → Sx → Except (Int × Int) (List Sx)
  | [], row, [], _ => .ok row
  | [], _, _ :: _, x => .error (x.pos, 70)
  | t :: ts, row, st, x =>
    if t.kind = 1 then parseGo ts (row ++ [⟨0, t.pos, t.text⟩]) st ⟨x.many + 1, x.pos, x.word⟩
    else if t.kind = 2 then (if st.length = 60 then .error (t.pos, 22) else parseGo ts row (x :: st) ⟨0, t.pos, ⟨#[]⟩⟩)
    else match st with
      | [] => .error (t.pos, 70)
      | y :: st => parseGo ts (row ++ [x]) st ⟨y.many + 1, y.pos, y.word⟩

theorem parseGo_cons (t : PTok) (ts : List PTok) (row st : List Sx) (x : Sx) : parseGo (t :: ts) row st x =
    if t.kind = 1 then parseGo ts (row ++ [⟨0, t.pos, t.text⟩]) st ⟨x.many + 1, x.pos, x.word⟩
    else if t.kind = 2 then (if st.length = 60 then .error (t.pos, 22) else parseGo ts row (x :: st) ⟨0, t.pos, ⟨#[]⟩⟩)
    else match st with
      | [] => .error (t.pos, 70)
      | y :: st => parseGo ts (row ++ [x]) st ⟨y.many + 1, y.pos, y.word⟩ := by
  cases st <;> rfl
/-- The tokens lie in memory. -/
def TokAt (w0 : World) (b off : Nat) (toks : List PTok) : Prop := ∀ k t, toks[k]? = some t → w0.cell? ⟨b, off + k * 3, none⟩ = some (.int .i64 t.kind) ∧ w0.cell? ⟨b, off + k * 3 + 1, none⟩ = some (.int .i64 t.pos) ∧ w0.cell? ⟨b, off + k * 3 + 2, none⟩ = some (.string t.text)

section
variable {w0 : World} {b off cap : Nat}
structure PInv (w0 : World) (l : Value) (toks : List PTok) (R : Except (Int × Int) (List Sx)) (m k : Nat) (vr vo : Value) (row st : List Sx) (x : Sx) (w : World) : Prop where
  cnt : m + k = toks.length
  ph : PH w0 vr row vo st.reverse x w
  go : parseGo (toks.drop k) row st x = R
  rowL : row.length ≤ k
  stL : st.length ≤ 60
  x0 : 0 ≤ x.many
  x1 : x.many ≤ k
  ys : ∀ y ∈ st, 0 ≤ y.many ∧ y.many ≤ k
def PI (w0 : World) (l : Value) (toks : List PTok) (R : Except (Int × Int) (List Sx)) (m : Nat) (a : Act) (w : World) : Prop :=
  ∃ k vr vo row st x J, a = ⟨pFrame l toks.length k vr vo J, []⟩ ∧ PInv w0 l toks R m k vr vo row st x w
def PEnd (w0 : World) (l : Value) (toks : List PTok) (R : Except (Int × Int) (List Sx)) (e : Exit) (a : Act) (w : World) : Prop :=
  (e = .exit 0 ∧ ∃ vr vo row st x J, a = ⟨pFrame l toks.length toks.length vr vo J, []⟩ ∧ PInv w0 l toks R 0 toks.length vr vo row st x w) ∨ ∃ p c, R = .error (p, c) ∧ PBad w0 p c e a w

/-- An argument that holds tokens. -/
def TokArg (w0 : World) (p : Option Addr) (toks : List PTok) : Prop := toks ≠ [] → ∃ b off, p = some ⟨b, off, none⟩ ∧ b < w0.heap.size ∧ TokAt w0 b off toks
theorem parse_rounds (toks : List PTok) {p : Option Addr} (hn : toks.length ≤ 1000000) (hp : TokArg w0 p toks) (hk : ∀ t ∈ toks, t.kind = 1 ∨ t.kind = 2 ∨ t.kind = 3) (R : Except (Int × Int) (List Sx)) (m : Nat) (a : Act) (w : World)
    (h0 : PI w0 (.slice p toks.length cap) toks R m a w) :
    (Code.loop parseRound).wp Try.prog (PEnd w0 (.slice p toks.length cap) toks R) a w := by
  refine wp_loop_ghost _ m h0 ?_
  clear h0
  rintro m a w ⟨k, vr, vo, row, st, x, J, rfl, hi⟩
  have hmk := hi.cnt
  by_cases hkn : k = toks.length
  · subst hkn
    refine wp_mono (parse_done _ J w) ?_
    rintro e a' w' h
    cases e with
    | normal => exact h.elim
    | _ =>
      obtain ⟨h1, J', rfl, rfl⟩ := h
      have : m = 0 := by omega
      subst this
      exact .inl ⟨h1, vr, vo, row, st, x, J', rfl, hi⟩
  have hlt : k < toks.length := by omega
  obtain ⟨b, off, rfl, hb0, ht⟩ := hp (fun e => by rw [e] at hlt; exact absurd hlt (Nat.not_lt_zero _))
  obtain ⟨t, ht0⟩ : ∃ t, toks[k]? = some t := ⟨_, List.getElem?_eq_getElem hlt⟩
  have hd : toks.drop k = t :: toks.drop (k + 1) := by
    rw [List.drop_eq_getElem_cons hlt]
    rw [List.getElem?_eq_getElem hlt] at ht0
    cases ht0; rfl
  have hgo := hi.go
  rw [hd, parseGo_cons] at hgo
  obtain ⟨c0, c1, c2⟩ := ht k t ht0
  have hrow := hi.rowL
  have hst := hi.stL
  have hx0 := hi.x0
  have hx1 := hi.x1
  have next : ∀ {row' st' : List Sx} {x' : Sx}, parseGo (toks.drop (k + 1)) row' st' x' = R → row'.length ≤ k + 1 → st'.length ≤ 60 → 0 ≤ x'.many → x'.many ≤ k + 1 → (∀ y ∈ st', 0 ≤ y.many ∧ y.many ≤ k + 1) →
      parseRound.wp Try.prog (Exit.then (PNext w0 (.slice (some ⟨b, off, none⟩) toks.length cap) toks.length (k + 1) row' st'.reverse x') (fun _ _ _ => False)) ⟨pFrame (.slice (some ⟨b, off, none⟩) toks.length cap) toks.length k vr vo J, []⟩ w →
      parseRound.wp Try.prog (Exit.then (fun a' w' => ∃ n', n' < m ∧ PI w0 (.slice (some ⟨b, off, none⟩) toks.length cap) toks R n' a' w') (PEnd w0 (.slice (some ⟨b, off, none⟩) toks.length cap) toks R)) ⟨pFrame (.slice (some ⟨b, off, none⟩) toks.length cap) toks.length k vr vo J, []⟩ w := by
    intro row' st' x' g1 g2 g3 g4 g5 g6 h
    refine wp_mono h ?_
    rintro e a' w' h
    cases e with
    | normal =>
      obtain ⟨vr', vo', J', rfl, hP'⟩ := h
      exact ⟨m - 1, by omega, k + 1, vr', vo', row', st', x', J', rfl, by omega, hP', g1, g2, g3, g4, by omega, fun y hy => by have := g6 y hy; omega⟩
    | _ => exact h.elim
  have bad : ∀ {q c : Int}, Except.error (q, c) = R → parseRound.wp Try.prog (Exit.then (fun _ _ => False) (PBad w0 q c)) ⟨pFrame (.slice (some ⟨b, off, none⟩) toks.length cap) toks.length k vr vo J, []⟩ w →
      parseRound.wp Try.prog (Exit.then (fun a' w' => ∃ n', n' < m ∧ PI w0 (.slice (some ⟨b, off, none⟩) toks.length cap) toks R n' a' w') (PEnd w0 (.slice (some ⟨b, off, none⟩) toks.length cap) toks R)) ⟨pFrame (.slice (some ⟨b, off, none⟩) toks.length cap) toks.length k vr vo J, []⟩ w := by
    intro q c g h
    refine wp_mono h ?_
    rintro e a' w' h
    cases e with
    | normal => exact h.elim
    | _ => exact .inr ⟨q, c, g.symm, h⟩
  rcases hk t (List.mem_of_getElem? ht0) with e | e | e
  · rw [if_pos e] at hgo
    rw [e] at c0
    exact next hgo (by simp; omega) hst (by show 0 ≤ x.many + 1; omega) (by show x.many + 1 ≤ (k : Int) + 1; omega) (fun y hy => by have := hi.ys y hy; omega) (parse_word t.pos t.text hlt hn (by omega) (by simp; omega) hx0 (by omega) J w hi.ph hb0 c0 c1 c2)
  · rw [if_neg (by omega), if_pos e] at hgo
    rw [e] at c0
    by_cases h60 : st.length = 60
    · rw [if_pos h60] at hgo
      exact bad hgo (parse_deep t.pos t.text hlt hn (by simp; exact h60) J w hi.ph hb0 c0 c1 c2)
    · rw [if_neg h60] at hgo
      have := parse_open (cap := cap) t.pos t.text hlt hn (by simp; omega) J w hi.ph hb0 c0 c1 c2
      rw [← List.reverse_cons] at this
      refine next hgo (by omega) (by simp; omega) (by simp) (by simp; omega) ?_ this
      intro y hy
      rcases List.mem_cons.1 hy with rfl | hy
      · omega
      · have := hi.ys y hy; omega
  · rw [if_neg (by omega), if_neg (by omega)] at hgo
    rw [e] at c0
    have hP := hi.ph
    have hys := hi.ys
    clear hi hd
    cases st with
    | nil => exact bad hgo (parse_shut t.pos t.text hlt hn J w hP hb0 c0 c1 c2)
    | cons y st =>
      rw [List.reverse_cons] at hP
      have hy := hys y (List.mem_cons_self ..)
      simp only [List.length_cons] at hst
      exact next hgo (by simp; omega) (by omega) (by show 0 ≤ y.many + 1; omega) (by show y.many + 1 ≤ (k : Int) + 1; omega) (fun z hz => by have := hys z (List.mem_cons_of_mem _ hz); omega) (parse_close t.pos t.text hlt hn (by omega) (by simp; omega) hy.1 (by omega) J w hP hb0 c0 c1 c2)

theorem row_nil (w : World) (base : Nat) (e : TypeId) (size : Nat) : w.ownsRow base e size (.slice none 0 0) 0 [] := ⟨by simp, .inl ⟨rfl, rfl⟩⟩
theorem row_new (w : World) (base : Nat) (hb : base ≤ w.heap.size) (x : Sx) : (w.alloc (.cells #[.int .i64 x.many, .int .i64 x.pos, .string x.word] 57)).ownsRow base 57 3 (.slice (some ⟨w.heap.size, 0, none⟩) 1 1) 1 (sxCells [x]) :=
  ⟨rfl, .inr ⟨w.heap.size, 1, #[.int .i64 x.many, .int .i64 x.pos, .string x.word], rfl, hb, heap_alloc_new w _, Nat.le_refl _, by decide, rfl, rfl⟩⟩

theorem pframe_ex {A : Array Value} {F : (Nat → Value) → Array Value} (h : A = F fun n => A.getD n undef) : (⟨A, []⟩ : Act) = ⟨F fun n => A.getD n undef, []⟩ := by rw [← h]
/-- What Parse answers. -/
def ParseOut (w0 : World) (R : Except (Int × Int) (List Sx)) (e : Ending) (w' : World) : Prop :=
  Under w0 w' ∧ match R with
    | .ok row => ∃ vr, e = .returned (.tuple #[vr, .int .i64 0, .int .i64 0]) ∧ w'.ownsRow w0.heap.size 57 3 vr row.length (sxCells row)
    | .error (p, c) => e = .returned (.tuple #[.slice none 0 0, .int .i64 p, .int .i64 c])

set_option maxRecDepth 100000 in
set_option maxHeartbeats 4000000 in
theorem parse_any (toks : List PTok) {p : Option Addr} (hn : toks.length ≤ 1000000) (hp : TokArg w0 p toks) (hk : ∀ t ∈ toks, t.kind = 1 ∨ t.kind = 2 ∨ t.kind = 3) :
    Calls Try.prog 22 #[.slice p toks.length cap] w0 (ParseOut w0 (parseGo toks [] [] ⟨0, 0, ⟨#[]⟩⟩)) := by
  have HL := Lib.hid (fun m a w h => parse_rounds (w0 := w0) (cap := cap) toks hn hp hk (parseGo toks [] [] ⟨0, 0, ⟨#[]⟩⟩) m a w h)
  generalize hR : parseGo toks [] [] ⟨0, 0, ⟨#[]⟩⟩ = R at *
  have HR := Lib.hid hR
  clear hR hp hk
  have HN := Lib.hid hn
  go_enter Try.func22, Try.ntmps22
  go_wp2
  rename_i K hK
  refine wp_mono (HL.out toks.length _ _ ⟨0, .slice none 0 0, .slice (some ⟨w0.heap.size, 0, none⟩) 1 1, [], [], ⟨0, 0, ⟨#[]⟩⟩, _, pframe_ex (by rfl), ⟨rfl, ⟨row_nil _ _ _ _, row_new w0 _ (Nat.le_refl _) ⟨0, 0, ⟨#[]⟩⟩, .inl rfl, under_alloc ⟨rfl, rfl, Nat.le_refl _, fun _ _ => rfl⟩ _⟩, HR.out, Nat.le_refl _, by decide, Int.le_refl _, Int.le_refl _, fun y hy => by cases hy⟩⟩) ?_
  rintro e a' w' (⟨rfl, vr, vo, row, st, x, J, rfl, hi⟩ | ⟨q, c, rfl, rfl, J, rfl, hu⟩)
  · simp only [Exit.inBlock, if_pos, Exit.then]
    refine hK _ _ ?_
    have hgo := hi.go
    have hst := hi.stL
    rw [List.drop_length] at hgo
    obtain ⟨g, gc, rfl, hg, hgb, hgl, _, _⟩ := row_block hi.ph.op (by omega)
    cases st with
    | nil =>
      have HI := Lib.hid hi
      have HG := Lib.hid hgo
      clear hi hgo
      unfold pFrame
      go_wp2
      go_ret3
      obtain rfl : Except.ok row = R := HG.out
      exact ⟨HI.out.ph.low, vr, rfl, HI.out.ph.row⟩
    | cons y st =>
      have hl : (y :: st).reverse.length = st.length + 1 := by simp
      obtain ⟨hcm, hcp, hcw, hfr⟩ := hi.ph.topCells hg
      have HI := Lib.hid hi
      have HG := Lib.hid hgo
      clear hi hgo
      rw [hl] at hcp ⊢
      simp only [List.length_cons] at hst
      clear hl hcm hcw hfr
      unfold pFrame
      go_wp2
      go_quiet (fail)
      go_wp2
      go_ret3
      obtain rfl : Except.error (x.pos, 70) = R := HG.out
      exact ⟨under_drewN HI.out.ph.low _, rfl⟩
  · simp only [Exit.inBlock, Exit.then]
    go_ret3
    exact ⟨hu, rfl⟩
end
end Go.Proofs.Ytjnoffgclibfaaa
