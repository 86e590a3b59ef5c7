/- SurfaceParses, walked to its end. -/
import Derived.Test.YtjnoffgclibfaaaParses3
set_option linter.unusedSimpArgs false
set_option linter.unusedVariables false
namespace Go.Proofs.Ytjnoffgclibfaaa
open Go.Conc Go.Lx Go.RowKit

theorem TokArg.under {a b : World} {p : Option Addr} {l : List PTok} (h : TokArg a p l) (hU : Under a b) : TokArg b p l := by
  intro hne
  obtain ⟨bl, off, rfl, hb, ht⟩ := h hne
  refine ⟨bl, off, rfl, Nat.lt_of_lt_of_le hb hU.size, fun k t hk => ?_⟩
  rw [under_cell hU hb, under_cell hU hb, under_cell hU hb]
  exact ht k t hk
theorem SxArg.under {a b : World} {p : Option Addr} {l : List Sx} (h : SxArg a p l) (hU : Under a b) : SxArg b p l := by
  intro hne
  obtain ⟨bl, off, rfl, hb, ht⟩ := h hne
  refine ⟨bl, off, rfl, Nat.lt_of_lt_of_le hb hU.size, fun k t hk => ?_⟩
  rw [under_cell hU hb, under_cell hU hb, under_cell hU hb]
  exact ht k t hk
theorem ptCells_at (all : List PTok) : ∀ k t, all[k]? = some t → (ptCells all)[k * 3]? = some (.int .i64 t.kind) ∧ (ptCells all)[k * 3 + 1]? = some (.int .i64 t.pos) ∧ (ptCells all)[k * 3 + 2]? = some (.string t.text) := by
  induction all with
  | nil => intro k t h; simp at h
  | cons x l ih =>
    intro k t h
    cases k with
    | zero => cases h; exact ⟨rfl, rfl, rfl⟩
    | succ k =>
      have := ih k t h
      rw [show (k + 1) * 3 = k * 3 + 1 + 1 + 1 by omega, show k * 3 + 1 + 1 + 1 + 1 = (k * 3 + 1) + 1 + 1 + 1 by omega, show k * 3 + 1 + 1 + 1 + 2 = (k * 3 + 2) + 1 + 1 + 1 by omega]
      exact this
theorem pt_arg {w : World} {base : Nat} {e : TypeId} {l : Value} {row : List PTok} (h : w.ownsRow base e 3 l row.length (ptCells row)) : ∃ p cap, l = .slice p row.length cap ∧ TokArg w p row := by
  rcases h.2 with ⟨rfl, h0⟩ | ⟨g, cap, cur, rfl, hb, hg, rest⟩
  · refine ⟨none, 0, by rw [h0], fun hne => ?_⟩
    exact absurd (List.length_eq_zero_iff.1 h0) hne
  · refine ⟨_, cap, rfl, fun _ => ⟨g, 0, rfl, (Array.getElem?_eq_some_iff.1 hg).1, fun k t ht => ?_⟩⟩
    obtain ⟨h1, h2, h3⟩ := ptCells_at row k t ht
    rw [Nat.zero_add]
    exact ⟨row_cell h rfl h1, row_cell h rfl h2, row_cell h rfl h3⟩
theorem parseGo_len : ∀ (toks : List PTok) (row st : List Sx) (x : Sx) (r : List Sx), parseGo toks row st x = .ok r → r.length ≤ row.length + toks.length := by
  intro toks
  induction toks with
  | nil =>
    intro row st x r h
    cases st with
    | nil => cases h; simp
    | cons y st => cases h
  | cons t ts ih =>
    intro row st x r h
    rw [parseGo_cons] at h
    split at h
    · have := ih _ _ _ _ h; simp at this ⊢; omega
    · split at h
      · split at h
        · cases h
        · have := ih _ _ _ _ h; simp at this ⊢; omega
      · cases st with
        | nil => cases h
        | cons y st => have := ih _ _ _ _ h; simp at this ⊢; omega

section
variable {W : World} {cap : Nat}
set_option maxRecDepth 100000 in
set_option maxHeartbeats 4000000 in
theorem ps_rest (toks : List PTok) {p : Option Addr} (hn : toks.length ≤ 1000) (hp : TokArg W p toks) (hg : ∀ t ∈ toks, GoodTok t) {vt : Value} (J : Nat → Value) (w : World) (hown : w.ownsRow W.heap.size 44 3 vt toks.length (ptCells toks)) (hU : Under W w) :
    psRest.wp Try.prog (bodyPostG Try.prog Try.f7 (TrueU W)) ⟨psFrame (.slice p toks.length cap) toks.length vt J, []⟩ w := by
  obtain ⟨pt, ct, rfl, hpt⟩ := pt_arg hown
  have hk : ∀ t ∈ toks, t.kind = 1 ∨ t.kind = 2 ∨ t.kind = 3 := fun t ht => (hg t ht).1
  have C1 := Lib.hid (parse_any (w0 := w) (cap := cap) toks (by omega) (hp.under hU) hk)
  have C2 := Lib.hid fun w1 (hU1 : Under w w1) => rp_any (w0 := w1) (cap := ct) toks (by omega) (hpt.under hU1) hk
  have HL := Lib.hid fun r h => parseGo_len toks [] [] ⟨0, 0, ⟨#[]⟩⟩ r h
  generalize parseGo toks [] [] ⟨0, 0, ⟨#[]⟩⟩ = R at C1 C2 HL
  clear hown hk hg
  generalize hQ : bodyPostG Try.prog Try.f7 (TrueU W) = Q
  have HQ := Lib.hid hQ
  clear hQ
  unfold psRest psText
  simp only [Try.f7, Option.getD_some, sndOf]
  unfold psFrame
  go_wp2_with fail
  refine C1.out.mono ?_
  rintro e w1 ⟨hU1, hR1⟩
  cases R with
  | error pc =>
    obtain ⟨q, c⟩ := pc
    subst hR1
    have HU1 := Lib.hid hU1
    clear hU1
    go_wp2_with fail
    refine (C2.out w1 HU1.out).mono ?_
    rintro e w2 ⟨hU2, rfl⟩
    have HU2 := Lib.hid hU2
    clear hU2
    go_wp2_with fail
    refine (theirs_any (w0 := w2) (cap := 0) [] (by simp) (p := none) (fun h => absurd rfl h)).mono ?_
    rintro e w3 ⟨v3, rfl, hown3, hU3⟩
    have HU3 := Lib.hid hU3
    obtain ⟨p3, c3, rfl, hp3⟩ := sx_arg (row := []) hown3
    clear hU3 hown3
    go_wp2_with fail
    refine (same_any (w0 := w3) (cap := c3) (cap' := 0) [] (by simp) (p := p3) (q := none) hp3 (fun h => absurd rfl h)).mono ?_
    rintro e w4 ⟨rfl, hU4⟩
    go_wp2
    rw [← HQ.out]
    exact bodyG_tmp rfl rfl ⟨rfl, (((hU.trans HU1.out).trans HU2.out).trans HU3.out).trans hU4⟩
  | ok row =>
    obtain ⟨vr, rfl, hown1⟩ := hR1
    have hlen := HL.out row rfl
    simp only [List.length_nil, Nat.zero_add] at hlen
    obtain ⟨p1, c1, rfl, hp1⟩ := sx_arg hown1
    have HU1 := Lib.hid hU1
    clear hU1 hown1
    go_wp2_with fail
    refine (C2.out w1 HU1.out).mono ?_
    rintro e w2 ⟨hU2, vr2, rfl, hown2⟩
    obtain ⟨p2, c2, rfl, hp2⟩ := sx_arg hown2
    have HU2 := Lib.hid hU2
    clear hU2 hown2
    go_wp2_with fail
    refine (theirs_any (w0 := w2) (cap := c1) row (by omega) (hp1.under HU2.out)).mono ?_
    rintro e w3 ⟨v3, rfl, hown3, hU3⟩
    have HU3 := Lib.hid hU3
    obtain ⟨p3, c3, rfl, hp3⟩ := sx_arg hown3
    clear hU3 hown3
    go_wp2_with fail
    refine (same_any (w0 := w3) (cap := c3) (cap' := c2) row (by omega) hp3 (hp2.under HU3.out)).mono ?_
    rintro e w4 ⟨rfl, hU4⟩
    go_wp2
    rw [← HQ.out]
    exact bodyG_tmp rfl rfl ⟨rfl, (((hU.trans HU1.out).trans HU2.out).trans HU3.out).trans hU4⟩
end
end Go.Proofs.Ytjnoffgclibfaaa
