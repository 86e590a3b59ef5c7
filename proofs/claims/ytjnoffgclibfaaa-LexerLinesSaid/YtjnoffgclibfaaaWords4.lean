/- LexerWords: its contract. -/
import Derived.Test.YtjnoffgclibfaaaWords3
namespace Go.Proofs.Ytjnoffgclibfaaa
open Go.Conc Go.Lx Go.RowKit

section
variable {s : ByteArray} {x y : Int} {W : World}
set_option maxRecDepth 100000 in
theorem look_first (J : Nat → Value) (w : World) :
    (fstOf wordsLook).wp Try.prog (Exit.then (IsF (w1Frame s x y 0) [] (w = ·)) (fun _ _ _ => False)) ⟨wFrame s x y J, []⟩ w := by
  unfold wordsLook wordsRest wordsText
  simp only [Try.f5, Option.getD_some, fstOf, sndOf]
  unfold wFrame
  go_wp2
  exact isFa (F := w1Frame s x y 0) (by rfl) rfl

set_option maxRecDepth 100000 in
set_option maxHeartbeats 4000000 in
theorem words_last {t r : ByteArray} (hlex : Lexes (t ++ s ++ r) [⟨1, t.size, s⟩]) (hs : s.size ≤ 1024) (ht : t.size ≤ 19) (J : Nat → Value) (w : World) (hU : Under W w) :
    wordsLast.wpG Try.prog (bodyPostG Try.prog Try.f5 (TrueU W)) ⟨w10Frame s x y t (t ++ s ++ r) J, []⟩ w := by
  have hcall := hlex.calls w
  revert hcall
  generalize t ++ s ++ r = u
  intro hcall
  unfold wordsLast wordsTail wordsRest wordsText
  simp only [Try.f5, Option.getD_some, sndOf]
  unfold w10Frame
  refine wpG_seq tame ?_
  refine wpG_split tame 1 (by decide) fun τ d => ?_
  simp only [List.take_succ_cons, List.take_zero]
  go_wp2
  refine opsG_re ?_ τ d
  refine opsG_call (i := 1) (rest := List.range' 2 7) tame rfl (by rfl) (run_call_fn (vs := #[.string u]) rfl Try.func14 (by kernel_rfl) rfl (by simp [Act.eval])) hcall ?_
  rintro v w1 ⟨l, rfl, hown, hU1⟩
  refine opsG_split tame 2 7 0 (by decide) fun τ d => ?_
  simp only [List.drop_succ_cons, List.drop_zero, List.take_succ_cons, List.take_zero]
  walk_nrm
  go_wp2
  refine opsG_nil tame ?_
  simp only [Exit.then]
  refine wpG_re ?_ τ d
  rcases hown.2 with ⟨_, h0⟩ | ⟨g, cap, cur, rfl, _⟩
  · cases h0
  have hcell := hown.cells (g := g) rfl
  have c0 : w1.cell? ⟨g, 0, none⟩ = some (.int .i64 1) := by have := hcell 0 (.int .i64 1) rfl; rwa [add_at] at this
  have c1 : w1.cell? ⟨g, 1, none⟩ = some (.int .i64 (t.size : Int)) := by have := hcell 1 (.int .i64 (t.size : Int)) rfl; rwa [add_at] at this
  have c2 : w1.cell? ⟨g, 2, none⟩ = some (.string s) := by have := hcell 2 (.string s) rfl; rwa [add_at] at this
  clear hcell hown
  refine wpG_lone tame fun τ d => ?_
  have k0 : (re w1 τ d).cell? ⟨g, 0, none⟩ = some (.int .i64 1) := c0
  have k1 : (re w1 τ d).cell? ⟨g, 1, none⟩ = some (.int .i64 (t.size : Int)) := c1
  have k2 : (re w1 τ d).cell? ⟨g, 2, none⟩ = some (.string s) := c2
  clear c0 c1 c2
  simp only [List.length_cons, List.length_nil, Nat.zero_add]
  go_wp2
  exact bodyG_tmp rfl rfl ⟨rfl, (hU.trans hU1).re _ _⟩

theorem Under.alike {w w' : World} (h : Under W w) (ha : w'.Alike w) : Under W w' :=
  ⟨ha.2.1.trans h.os, ha.2.2.trans h.output, by rw [ha.1]; exact h.size, fun b hb => by rw [ha.1]; exact h.low b hb⟩

theorem words_rest (hx : 0 ≤ x) (hx2 : x ≤ 255) (hy : 0 ≤ y) (hy2 : y ≤ 255) (hn : 0 < s.size) (hs : s.size ≤ 1024) (J : Nat → Value) (w : World) (hU : Under W w) :
    wordsRest.wpG Try.prog (bodyPostG Try.prog Try.f5 (TrueU W)) ⟨wFrame s x y J, []⟩ w := by
  have e : wordsRest = .seq wordsLook wordsTail := rfl
  rw [e, wordsLook_eq, wordsTail_eq]
  refine wpG_seq tame (wpG_seq tame (wpG_mono (wpG_lone tame (Q := Exit.then (IsF (w1Frame s x y 0) [] (·.Alike w)) (fun _ _ _ => False)) (wp_same ⟨rfl, rfl, rfl⟩ fun w' hw' => wp_mono (look_first J w') (mono_same hw'))) ?_))
  intro e a1 w1 h1
  cases e with
  | normal =>
    obtain ⟨⟨J1, rfl⟩, hA1⟩ := h1
    refine wpG_mono (look_all hs J1 w1 (hU.alike hA1)) ?_
    intro e a2 w2 h2
    cases e with
    | normal =>
      obtain ⟨hword, ⟨J2, rfl⟩, hU2⟩ := h2
      refine wpG_seq tame (wpG_mono (wpG_lone tame (Q := Exit.then (IsF (w8Frame s x y ⟨#[]⟩) [] (·.Alike w2)) (fun _ _ _ => False)) (wp_same ⟨rfl, rfl, rfl⟩ fun w' hw' => wp_mono (empty_text J2 w') (mono_same hw'))) ?_)
      intro e a3 w3 h3
      cases e with
      | normal =>
        obtain ⟨⟨J3, rfl⟩, hA3⟩ := h3
        have hU3 := hU2.alike hA3
        refine wpG_seq tame (wpG_mono (wpG_lone tame (Q := Exit.then (fun a' w' => ∃ t n, Blanks t n ∧ n ≤ 19 ∧ IsF (w8Frame s x y t) [] (·.Alike w3) a' w') (fun _ _ _ => False)) (wp_same ⟨rfl, rfl, rfl⟩ fun w' hw' => wp_mono (ahead_all hx hx2 J3 w') ?_)) ?_)
        · intro e a w'' h
          cases e with
          | normal => obtain ⟨t, n, h1, h2, h3, rfl⟩ := h; exact ⟨t, n, h1, h2, h3, hw'⟩
          | _ => exact h
        intro e a4 w4 h4
        cases e with
        | normal =>
          obtain ⟨t, n, hb, hn19, ⟨J4, rfl⟩, hA4⟩ := h4
          have hU4 := hU3.alike hA4
          have ht : t.size ≤ 19 := by rw [hb.1]; exact hn19
          refine wpG_seq tame (wpG_mono (wpG_lone tame (Q := Exit.then (IsF (w10Frame s x y t (t ++ s)) [] (·.Alike w4)) (fun _ _ _ => False)) (wp_same ⟨rfl, rfl, rfl⟩ fun w' hw' => wp_mono (joined_text hs ht J4 w') (mono_same hw'))) ?_)
          intro e a5 w5 h5
          cases e with
          | normal =>
            obtain ⟨⟨J5, rfl⟩, hA5⟩ := h5
            have hU5 := hU4.alike hA5
            refine wpG_seq tame (wpG_mono (wpG_lone tame (Q := Exit.then (fun a' w' => ∃ r n, Blanks r n ∧ n ≤ 19 ∧ IsF (w10Frame s x y t (t ++ s ++ r)) [] (·.Alike w5) a' w') (fun _ _ _ => False)) (wp_same ⟨rfl, rfl, rfl⟩ fun w' hw' => wp_mono (behind_all hs ht hy hy2 J5 w') ?_)) ?_)
            · intro e a w'' h
              cases e with
              | normal => obtain ⟨t, n, h1, h2, h3, rfl⟩ := h; exact ⟨t, n, h1, h2, h3, hw'⟩
              | _ => exact h
            intro e a6 w6 h6
            cases e with
            | normal =>
              obtain ⟨r, m, hr, hm19, ⟨J6, rfl⟩, hA6⟩ := h6
              have hrz : r.size ≤ 19 := by rw [hr.1]; exact hm19
              exact words_last (lexes_word t s r hb.2 hword hr.2 hn (by omega)) hs ht J6 w6 (hU5.alike hA6)
            | _ => exact h6.elim
          | _ => exact h5.elim
        | _ => exact h4.elim
      | _ => exact h3.elim
    | _ => exact h2
  | _ => exact h1.elim

theorem words_all (s : ByteArray) (x y : Int) (hx : 0 ≤ x) (hx2 : x ≤ 255) (hy : 0 ≤ y) (hy2 : y ≤ 255) (W : World) : CallsG Try.prog 5 #[.string s, .int .u8 x, .int .u8 y] W (TrueU W) :=
  words_calls s x y W fun h J w hU => words_rest hx hx2 hy hy2 h.1 h.2 J w hU
end
end Go.Proofs.Ytjnoffgclibfaaa
