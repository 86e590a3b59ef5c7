/- SurfaceParses, walked: the loop. -/
import Derived.Test.YtjnoffgclibfaaaParses2
set_option linter.unusedSimpArgs false
set_option linter.unusedVariables false
namespace Go.Proofs.Ytjnoffgclibfaaa
open Go.Conc Go.Lx Go.RowKit

def psSlot (a : Act) : Nat := match a.tmps.getD 4 undef with | .int _ n => n.toNat | _ => 0
theorem psSlot_of (l : Value) (k : Nat) (vt : Value) (J : Nat → Value) : psSlot ⟨psFrame l k vt J, []⟩ = k := by
  have : (psFrame l k vt J).getD 4 undef = .int .i64 k := rfl
  simp only [psSlot, this]; omega

section
variable {W : World} {b off n cap k : Nat} {vt : Value} {row : List PTok} {x : PTok}
def PQ (W : World) (l : Value) (toks : List PTok) (e : Exit) (a : Act) (w : World) : Prop :=
  (e = .exit 0 ∧ ANext W l toks.length toks a w ∧ ∀ t ∈ toks, GoodTok t) ∨ (e = .ret ∧ bodyPostG Try.prog Try.f7 (TrueU W) e a w)
set_option maxRecDepth 100000 in
set_option maxHeartbeats 4000000 in
theorem ps_out (hk : k < n) (hn : n ≤ 1000000) (hx : ¬ GoodTok x) (J : Nat → Value) (w : World) (hU : Under W w) (hb0 : b < W.heap.size)
    (c0 : W.cell? ⟨b, off + k * 3, none⟩ = some (.int .i64 x.kind)) (c2 : W.cell? ⟨b, off + k * 3 + 2, none⟩ = some (.string x.text)) :
    psRound.wpG Try.prog (fun e a w => e = .ret ∧ bodyPostG Try.prog Try.f7 (TrueU W) e a w) ⟨psFrame (.slice (some ⟨b, off, none⟩) n cap) k vt J, []⟩ w := by
  rw [← under_cell hU hb0] at c0 c2
  have HB := Lib.hid fun J τ d => ps_bad (cap := cap) (vt := vt) hk hn hx J (re w τ d) c0 c2
  have hin : (k : Int) < n := by omega
  generalize hQ : (fun (e : Exit) (a : Act) (w : World) => e = .ret ∧ bodyPostG Try.prog Try.f7 (TrueU W) e a w) = Q
  unfold psRound psLoop psText
  simp only [Try.f7, Option.getD_some, fstOf, sndOf, inOf]
  unfold psFrame
  refine wpG_seq tame (wpG_lone tame fun τ d => ?_)
  go_wp2
  refine wpG_re ?_ τ d
  refine wpG_seq tame (wpG_block tame (wpG_seq tame (wpG_seq tame ?_)))
  refine wpG_fr (F := psFrame (.slice (some ⟨b, off, none⟩) n cap) k vt) (by rfl) fun J => ?_
  refine wpG_lone tame fun τ d => wp_mono (HB.out J τ d) ?_
  rintro e a' w' h
  cases e with
  | normal =>
    obtain ⟨J, rfl, rfl⟩ := h
    simp only [Exit.then]
    refine wpG_re ?_ τ d
    refine wpG_cond tame (t := true) rfl ?_
    simp only [if_true]
    refine wpG_seq tame (wpG_region tame ?_)
    refine opsG_call (i := 0) (rest := List.range' 1 1) tame rfl (by rfl) (run_call_fn (vs := #[]) rfl Try.func17 (by kernel_rfl) rfl (by simp)) (shown7_calls w) ?_
    rintro v w1 ⟨rfl, hU1⟩
    refine opsG_split tame 1 1 0 (by decide) fun τ d => ?_
    simp only [List.drop_succ_cons, List.drop_zero, List.take_succ_cons, List.take_zero]
    unfold badFrame
    walk_nrm
    go_wp2
    refine opsG_nil tame ?_
    simp only [Exit.then]
    refine wpG_lone tame fun τ d => ?_
    go_wp2
    subst hQ
    exact ⟨rfl, bodyG_tmp rfl rfl ⟨rfl, (hU.trans hU1).re _ _⟩⟩
  | _ => exact h.elim

theorem ps_loop (toks : List PTok) {p : Option Addr} (hn : toks.length ≤ 1000000) (hp : TokArg W p toks) (a : Act) (w : World) (h0 : ANext W (.slice p toks.length cap) 0 [] a w) :
    (Code.loop psRound).wpG Try.prog (PQ W (.slice p toks.length cap) toks) a w := by
  refine wpG_loop tame (fun a w => ∃ k, k ≤ toks.length ∧ (∀ t ∈ toks.take k, GoodTok t) ∧ ANext W (.slice p toks.length cap) k (toks.take k) a w) (fun a _ => toks.length - psSlot a) ⟨0, Nat.zero_le _, by simp, by rw [List.take_zero]; exact h0⟩ ?_
  clear h0
  rintro a w ⟨k, hkn, hg, vt, J, rfl, hown, hU⟩
  rw [psSlot_of]
  by_cases hk : k = toks.length
  · subst hk
    refine wpG_lone tame fun τ d => wp_mono (ps_done (vt := vt) p J (re w τ d)) ?_
    rintro e a' w' h
    cases e with
    | normal => exact h.elim
    | _ =>
      obtain ⟨h1, J', rfl, rfl⟩ := h
      rw [List.take_length] at hown hg
      exact .inl ⟨h1, ⟨vt, J', rfl, own_re hown τ d, hU.re τ d⟩, hg⟩
  have hlt : k < toks.length := by omega
  obtain ⟨b, off, rfl, hb0, ht⟩ := hp (fun e => by rw [e] at hlt; exact absurd hlt (Nat.not_lt_zero _))
  obtain ⟨c0, c1, c2⟩ := ht k toks[k] (List.getElem?_eq_getElem hlt)
  by_cases hx : GoodTok toks[k]
  · refine wpG_lone tame fun τ d => wp_mono (ps_good (cap := cap) hlt hn hx J (re w τ d) (own_re hown τ d) (hU.re τ d) hb0 c0 c1 c2) ?_
    rintro e a' w' h
    cases e with
    | normal =>
      rw [← List.take_succ_eq_append_getElem hlt] at h
      refine ⟨⟨k + 1, by omega, ?_, h⟩, ?_⟩
      · intro t htt
        rw [List.take_succ_eq_append_getElem hlt, List.mem_append] at htt
        rcases htt with htt | htt
        · exact hg t htt
        · rw [List.mem_singleton.1 htt]; exact hx
      · obtain ⟨vt', J', rfl, _⟩ := h
        rw [psSlot_of]; omega
    | _ => exact h.elim
  · refine wpG_mono (ps_out (cap := cap) (vt := vt) hlt hn hx J w hU hb0 c0 c2) ?_
    rintro e a' w' ⟨rfl, h⟩
    exact .inr ⟨rfl, h⟩
end
end Go.Proofs.Ytjnoffgclibfaaa
