/- shift.nodes, an iterator: its word. -/
import Derived.Test.YtiibknlpeodejaaDoorNodes2
set_option linter.unusedSimpArgs false
set_option linter.unusedVariables false
namespace Go.Proofs.YtiibknlpeodejaaDoor
open Go.Lx Go.RowKit
attribute [local go_sem] Oper.semAt_some

section
variable {W0 w : World} {tb c n : Nat} {t : List Nd} {p : Option Addr}
/-- At the loop's head. -/
def NdI (W0 : World) (tb : Nat) (vt : Value) (B : Nat) (J : Option Nat → List (Nat × Nat) → World → Prop) (t : List Nd) (l m : Nat) (a : Act) (A : World) : Prop :=
  ∃ pre st, NNext W0 tb vt B (fun b A => J b pre A) (.func (.yield l) #[] #[]) m st a A ∧ pre ++ nodesGo t m st = nodesOf t ∧ (nodesGo t m st).length = m ∧ m ≤ t.length ∧ (∀ u ∈ st, u + 2 * m ≤ 8000) ∧ st.length + 8 * m ≤ 33000
/-- What the iterator's loop comes to. -/
def NdD (J : Option Nat → List (Nat × Nat) → World → Prop) (Jx : List (Nat × Nat) → World → Prop) (t : List Nd) (e : Exit) (a : Act) (A : World) : Prop :=
  a.defers = [] ∧ ((e = .exit 0 ∧ ∃ b, J b (nodesOf t) A) ∨ (e = .ret ∧ ∃ pre, Jx pre A))
theorem own_one (w0 : World) (base : Nat) (e : TypeId) (v : Value) (hb : base ≤ w0.heap.size) : (w0.alloc (.cells #[v] e)).ownsRow base e 1 (.slice (some ⟨w0.heap.size, 0, none⟩) 1 1) 1 [v] :=
  ⟨by simp, .inr ⟨w0.heap.size, 1, #[v], rfl, hb, box_new w0 _ _, Nat.le_refl _, by decide, by simp, by simp⟩⟩
theorem nd_rounds {B l : Nat} {W : World} {J : Option Nat → List (Nat × Nat) → World → Prop} {Jx : List (Nat × Nat) → World → Prop} (hn : t.length ≤ 4000) (hcap : t.length ≤ c) (hs : ∀ x ∈ t, x.s.size ≤ maxLen) (hp : RowArg W0 p (ndCells t)) (hS : ShapesAt 1 W0)
    (hW : W0.heap.size ≤ B) (ht : tb < B) (hJ : ∀ b b' pre A A', J b pre A → IStep b b' A A' → J b' pre A')
    (hY : ∀ b pre x A, J b pre A → pre ++ [x] <+: nodesOf t → YieldAt Fence.wide (n - 1) Tryd.prog l #[.int .i64 (x.1 : Int), .int .i64 (x.2 : Int)] A fun e A' =>
      (e = .returned (.bool true) ∧ J b (pre ++ [x]) A' ∧ Kept (fun k => k < W0.heap.size ∨ k = tb) b A A') ∨ (e = .returned (.bool false) ∧ Jx (pre ++ [x]) A'))
    (m : Nat) (a : Act) (A : World) (h0 : NdI W0 tb (.slice p t.length c) B J t l m a A) :
    (Code.loop ndRound).wpIn Fence.wide n Tryd.prog (NdD J Jx t) a A := by
  refine wpIn_wide.2 (wp_loop_ghost (NdI W0 tb (.slice p t.length c) B J t l) m h0 ?_)
  clear h0
  rintro m a A ⟨pre, st, ⟨vo, Jn, rfl, hH⟩, hx, hl, hm, hu, hst⟩
  refine (wpIn_wide (n := n)).1 ?_
  cases m with
  | zero =>
    have he : nodesGo t 0 st = [] := List.eq_nil_of_length_eq_zero hl
    rw [he, List.append_nil] at hx
    subst hx
    have hH' : NH W0 tb (.slice p t.length c) B (fun b A => J b (nodesOf t) A) vo st.reverse A := hH
    have HJ := Lib.hid hH.j
    clear hH hH' hu hst hY hJ
    unfold ndRound ndText
    simp only [Tryd.f50, Option.getD_some, sndOf, inOf]
    unfold ndFrame
    gi_wp2
    exact ⟨rfl, .inl ⟨rfl, _, HJ.out⟩⟩
  | succ k =>
    cases st with
    | nil => simp [nodesGo] at hl
    | cons u st =>
      have hk : k < t.length := by omega
      have hxk : t[k]? = some t[k] := List.getElem?_eq_getElem hk
      rw [nodesGo_succ hxk] at hx hl
      obtain ⟨b, off, rfl, hb, c0, c1, c2, c3⟩ := hp.node hxk
      have hu1 := hu u (List.mem_cons_self ..)
      rw [List.length_cons] at hst
      have hpre : pre ++ [(k, u)] <+: nodesOf t := ⟨nodesGo t k (((bindsR t[k]).map (u + ·)).reverse ++ st), by rw [← hx]; simp⟩
      refine wpIn_mono (nd_one (Jd := fun b A => J b (pre ++ [(k, u)]) A) (Jx := Jx (pre ++ [(k, u)])) (R := fun k => k < W0.heap.size ∨ k = tb) (l := l) (fun b b' A A' h1 h2 => hJ b b' _ A A' h1 h2) hW ht (fun k hk => Or.inl hk) (Or.inr rfl) hk hn hcap (by omega) (by omega) rfl (hs _ (List.getElem_mem hk)) hS hb c0 c1 c2 c3 Jn A hH (hY _ pre (k, u) A hH.j hpre)) ?_
      rintro e a' A' h
      cases e with
      | normal =>
        refine ⟨k, by omega, pre ++ [(k, u)], _, h, by rw [← hx]; simp, by simpa using hl, by omega, ?_, ?_⟩
        · intro v hv
          rcases List.mem_append.1 hv with hv | hv
          · rw [List.mem_reverse, List.mem_map] at hv
            obtain ⟨y, hy, rfl⟩ := hv
            have := bindsR_le y hy
            omega
          · have := hu v (List.mem_cons_of_mem _ hv); omega
        · rw [List.length_append, List.length_reverse, List.length_map]
          have := bindsR_len t[k]
          omega
      | _ => exact ⟨h.2.1, .inr ⟨h.1, _, h.2.2⟩⟩
set_option maxRecDepth 100000 in
set_option maxHeartbeats 1000000 in
theorem nodes_iter (hn : t.length ≤ 4000) (hcap : t.length ≤ c) (hs : ∀ x ∈ t, x.s.size ≤ maxLen) (hp : RowArg W0 p (ndCells t)) (hS : ShapesAt 1 W0) (hU : Under W0 w) (hB : BoxAt w tb 26 #[.slice p t.length c]) (hlen : (nodesOf t).length = t.length) :
    Iter Fence.wide n Tryd.prog 50 #[.pointer (some ⟨tb, 0, none⟩)] (fun x : Nat × Nat => #[.int .i64 (x.1 : Int), .int .i64 (x.2 : Int)]) (fun k => k < W0.heap.size ∨ k = tb) (nodesOf t) w := by
  intro l J Jx W hW hJ hY h0
  have HL := Lib.hid (nd_rounds (n := n) (l := l) (B := W.heap.size) (tb := tb) (W := W) (c := c) (p := p) (t := t) (W0 := W0) (J := J) (Jx := Jx) hn hcap hs hp hS (Nat.le_trans hU.size hW.size) (Nat.lt_of_lt_of_le hB.lt hW.size) hJ hY t.length)
  have HB := Lib.hid (hB.under hW)
  have eb := HB.out.cell 0
  have elt := HB.out.lt
  have HU := Lib.hid (hU.trans hW)
  have HJ := Lib.hid hJ
  have H0 := Lib.hid h0
  have HLen := Lib.hid hlen
  have hn1 : (t.length : Int) ≤ 4000 := by omega
  have hn0 : (0 : Int) ≤ t.length := Int.natCast_nonneg _
  clear hJ hY h0 hp hS hs hlen
  refine callsIn_of_wp Tryd.func50 rfl trivial ?_ rfl
  simp only [Tryd.ntmps50, List.size_toArray, List.length_cons, List.length_nil, Nat.reduceAdd, Nat.reduceSub, Array.replicate_succ, Array.replicate_zero, List.push_toArray, List.append_toArray, List.nil_append, List.cons_append]
  gi_wp2
  have hNH : NH W0 tb (.slice p t.length c) W.heap.size (fun b A => J b [] A) (.slice (some ⟨W.heap.size, 0, none⟩) 1 1) [0].reverse (W.alloc (.cells #[.int .i64 0] 3)) :=
    ⟨HJ.out none _ [] W _ H0.out ⟨rfl, rfl, by simp, fun k hk _ => (under_alloc (Under.refl W) _).low k hk, .inr ⟨W.heap.size, rfl, Nat.le_refl _⟩⟩,
     own_one W _ _ _ (Nat.le_refl _), under_alloc HU.out _, HB.out.alloc _, by simp⟩
  refine wpIn_mono (HL.out _ _ ⟨[], [0], ⟨_, frame_ex (F := ndFrame _ tb _ ((t.length : Int) - 1)) (by rfl) hNH⟩, rfl, HLen.out, Nat.le_refl _, fun u hu => by rw [List.mem_singleton.1 hu]; omega, by simp; omega⟩) ?_
  rintro e a' A' ⟨hd, (⟨rfl, b, hb⟩ | ⟨rfl, pre, hpre⟩)⟩
  · simp only [Exit.inBlock, if_pos]
    exact bodyPost_end (P := Tryd.prog) (fn := Tryd.f50) (R := fun e W' => (∃ v, e = Ending.returned v) ∧ ((∃ b, J b (nodesOf t) W') ∨ ∃ pre, Jx pre W')) (results_none rfl _ _ _) hd ⟨⟨_, rfl⟩, .inl ⟨b, hb⟩⟩
  · simp only [Exit.inBlock]
    exact bodyPost_ret (P := Tryd.prog) (fn := Tryd.f50) (R := fun e W' => (∃ v, e = Ending.returned v) ∧ ((∃ b, J b (nodesOf t) W') ∨ ∃ pre, Jx pre W')) (results_none rfl _ _ _) hd ⟨⟨_, rfl⟩, .inr ⟨pre, hpre⟩⟩
end
end Go.Proofs.YtiibknlpeodejaaDoor
