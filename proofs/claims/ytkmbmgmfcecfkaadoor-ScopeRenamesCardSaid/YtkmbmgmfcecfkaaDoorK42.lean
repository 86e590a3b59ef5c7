/- Part 42 of what the proof rests on. -/
import Derived.Laws.ResultCell
import Derived.Deep.QuietTactic
import Derived.Test.YtkmbmgmfcecfkaaDoorK01
import Derived.Test.YtkmbmgmfcecfkaaDoorK14
import Derived.Test.YtkmbmgmfcecfkaaDoorK16
import Derived.Test.YtkmbmgmfcecfkaaDoorK41
set_option linter.unusedSimpArgs false
set_option linter.unusedVariables false
namespace Go.Proofs.YtkmbmgmfcecfkaaDoor
open Go.Conc Go.Lx Go.RowKit
theorem byte_allT {p : UInt8 → Bool} (h : (List.range 256).all (fun n => p n.toUInt8) = true) (c : UInt8) : p c = true := by
  have := List.all_eq_true.1 h c.toNat (List.mem_range.2 c.toNat_lt)
  have e : c.toNat.toUInt8 = c := by simp
  rwa [e] at this
def blankT (c : UInt8) : Bool := inB [9, 10, 13, 32] c
theorem blank_wordT (c : UInt8) (h : blankT c = true) : wordB c = false := by
  have := byte_allT (p := fun c => !blankT c || !wordB c) (by decide +kernel) c
  simpa [h] using this
theorem word_blankT (c : UInt8) (h : wordB c = true) : blankT c = false := by
  have := byte_allT (p := fun c => !blankT c || !wordB c) (by decide +kernel) c
  simpa [h] using this
theorem first_wordT (c : UInt8) (h : wordB c = true) : First 0 c := ⟨by decide, h, fun j hj => absurd hj (by omega)⟩
theorem first_blankT (c : UInt8) (h : blankT c = true) : First 1 c := ⟨by decide, h, fun j hj => by
  obtain rfl : j = 0 := by omega
  exact blank_wordT c h⟩
theorem first_openT : First 2 40 := ⟨by decide, by decide, by decide⟩
theorem first_shutT : First 3 41 := ⟨by decide, by decide, by decide⟩
theorem many_allT (p : UInt8 → Bool) : ∀ (l r : List UInt8), (∀ c ∈ l, p c = true) → (∀ c, r.head? = some c → p c = false) → many p (l ++ r) = l.length
  | [], r, _, hr => by
    cases r with
    | nil => rfl
    | cons c r => simp [many, hr c rfl]
  | c :: l, r, hl, hr => by
    have := many_allT p l r (fun x hx => hl x (List.mem_cons_of_mem _ hx)) hr
    simp only [many, List.cons_append, List.takeWhile_cons, hl c List.mem_cons_self, if_true, List.length_cons] at this ⊢
    omega
def tokP (t : PTok) : Tok := ⟨t.kind, t.pos.toNat, t.text⟩
def noW (r : List UInt8) : Prop := ∀ c, r.head? = some c → wordB c = false
section
variable {s : ByteArray}
theorem byte_here {k : Nat} {c : UInt8} {l : List UInt8} (hd : s.data.toList.drop k = c :: l) : ∃ hlt : k < s.size, s[k]'hlt = c := by
  have hlen : (s.data.toList.drop k).length = s.size - k := by rw [List.length_drop]; rfl
  have hlen2 := congrArg List.length hd
  rw [hlen, List.length_cons] at hlen2
  have hlt : k < s.size := by omega
  refine ⟨hlt, ?_⟩
  have : (s.data.toList.drop k).head? = some c := by rw [hd]; rfl
  rw [List.head?_drop] at this
  have e : s.data.toList[k]? = some (s[k]'hlt) := by
    rw [List.getElem?_eq_getElem (by exact hlt)]; rfl
  rw [e] at this
  exact Option.some.inj this
theorem drop_on {k : Nat} {a r : List UInt8} (hd : s.data.toList.drop k = a ++ r) : s.data.toList.drop (k + a.length) = r := by
  rw [← List.drop_drop, hd, List.drop_left]
theorem drop_size {k : Nat} {a r : List UInt8} (hd : s.data.toList.drop k = a ++ r) (hk : k ≤ s.size) : k + a.length ≤ s.size := by
  have hlen : (s.data.toList.drop k).length = s.size - k := by rw [List.length_drop]; rfl
  have hlen2 := congrArg List.length hd
  rw [hlen, List.length_append] at hlen2
  omega
theorem extract_here {k : Nat} {a r : List UInt8} (hd : s.data.toList.drop k = a ++ r) : s.extract k (k + a.length) = ⟨a.toArray⟩ := by
  apply ByteArray.ext
  apply Array.ext'
  rw [ByteArray.data_extract, Array.toList_extract, List.extract_eq_take_drop, hd, Nat.add_sub_cancel_left, List.take_left]
theorem scans_blankT {k : Nat} {acts : List SAct} (l r : List UInt8) (hd : s.data.toList.drop k = l ++ r) (hk : k ≤ s.size) (hl : ∀ c ∈ l, blankT c = true) (hr : ∀ c, r.head? = some c → blankT c = false) (h : Scans s (k + l.length) acts) :
    ∃ acts', Scans s k acts' ∧ sends acts' = sends acts := by
  cases l with
  | nil => exact ⟨acts, by simpa using h, rfl⟩
  | cons c l =>
    obtain ⟨hlt, hc⟩ := byte_here hd
    have hsz := drop_size hd hk
    have hm : goN 1 (s.data.toList.drop k) = (c :: l).length := by rw [hd]; exact many_allT _ _ _ hl hr
    exact ⟨_, .blank hlt (by rw [hc]; exact first_blankT c (hl c List.mem_cons_self)) rfl hm hsz h, rfl⟩
theorem scans_wordT {k : Nat} {acts : List SAct} (x : ByteArray) (r : List UInt8) (hd : s.data.toList.drop k = x.data.toList ++ r) (hk : k ≤ s.size) (hne : x.size ≠ 0) (hl : ∀ c ∈ x.data.toList, wordB c = true) (hr : noW r) (h : Scans s (k + x.data.toList.length) acts) :
    ∃ acts', Scans s k acts' ∧ sends acts' = itemV ⟨1, k, x⟩ :: sends acts := by
  have hsz := drop_size hd hk
  have hex := extract_here hd
  have hex2 : s.extract k (k + x.data.toList.length) = x := by rw [hex]
  cases hx : x.data.toList with
  | nil =>
    have : x.data.toList.length = x.size := by rw [Array.length_toList]; rfl
    rw [hx] at this
    exact absurd this.symm hne
  | cons c l =>
    have hd' := hd
    rw [hx, List.cons_append] at hd'
    obtain ⟨hlt, hc⟩ := byte_here hd'
    have hm : goN 0 (s.data.toList.drop k) = x.data.toList.length := by rw [hd]; exact many_allT _ _ _ hl hr
    refine ⟨_, .token hlt (by rw [hc]; exact first_wordT c (hl c (by rw [hx]; exact List.mem_cons_self))) rfl hm hsz h, ?_⟩
    rw [hex2]
    rfl
theorem scans_open {k : Nat} {acts : List SAct} (r : List UInt8) (hd : s.data.toList.drop k = 40 :: r) (h : Scans s (k + 1) acts) : ∃ acts', Scans s k acts' ∧ sends acts' = itemV ⟨2, k, ⟨#[40]⟩⟩ :: sends acts := by
  obtain ⟨hlt, hc⟩ := byte_here hd
  have hex := extract_here (s := s) (a := [40]) (r := r) hd
  refine ⟨_, .token (i := 2) (m := 1) hlt (by rw [hc]; exact first_openT) (by decide) rfl (by omega) h, ?_⟩
  rw [show s.extract k (k + 1) = ⟨#[40]⟩ from hex]
  rfl
theorem scans_shut {k : Nat} {acts : List SAct} (r : List UInt8) (hd : s.data.toList.drop k = 41 :: r) (h : Scans s (k + 1) acts) : ∃ acts', Scans s k acts' ∧ sends acts' = itemV ⟨3, k, ⟨#[41]⟩⟩ :: sends acts := by
  obtain ⟨hlt, hc⟩ := byte_here hd
  have hex := extract_here (s := s) (a := [41]) (r := r) hd
  refine ⟨_, .token (i := 3) (m := 1) hlt (by rw [hc]; exact first_shutT) (by decide) rfl (by omega) h, ?_⟩
  rw [show s.extract k (k + 1) = ⟨#[41]⟩ from hex]
  rfl
theorem text_head {p : UInt8 → Bool} (hp : ∀ c, p c = true → wordB c = true) (x : SX) (h : okX p x) (r : List UInt8) : ∀ c, (textX x ++ r).head? = some c → blankT c = false := by
  intro c hc
  cases x with
  | w s =>
    unfold okX at h
    unfold textX at hc
    cases hs : s.data.toList with
    | nil =>
      have : s.data.toList.length = s.size := by rw [Array.length_toList]; rfl
      rw [hs] at this
      exact absurd this.symm h.1
    | cons a l =>
      rw [hs] at hc h
      obtain rfl : a = c := by simpa using hc
      exact word_blankT _ (hp _ (h.2 _ List.mem_cons_self))
  | l xs =>
    unfold textX at hc
    obtain rfl : (40 : UInt8) = c := by simpa using hc
    decide
def ScansX (s : ByteArray) (x : SX) : Prop := ∀ (k : Nat) (r : List UInt8) (acts : List SAct), s.data.toList.drop k = textX x ++ r → noW r → k ≤ s.size → Scans s (k + (textX x).length) acts → ∃ acts', Scans s k acts' ∧ sends acts' = (toksX k x).map (fun t => itemV (tokP t)) ++ sends acts
theorem noW_tail (l : List SX) {r : List UInt8} (h : noW r) : noW (tailX l ++ r) := by
  cases l with
  | nil => exact h
  | cons a l =>
    intro c hc
    unfold tailX at hc
    obtain rfl : (32 : UInt8) = c := by simpa using hc
    decide
theorem scans_tail {p : UInt8 → Bool} (hp : ∀ c, p c = true → wordB c = true) : ∀ (l : List SX), okXs p l → (∀ a ∈ l, ScansX s a) → ∀ (k : Nat) (r : List UInt8) (acts : List SAct), s.data.toList.drop k = tailX l ++ r → noW r → k ≤ s.size → Scans s (k + (tailX l).length) acts →
    ∃ acts', Scans s k acts' ∧ sends acts' = (toksTl k l).map (fun t => itemV (tokP t)) ++ sends acts
  | [], _, _, k, r, acts, hd, hr, hk, h => ⟨acts, by simpa [tailX] using h, by simp [toksTl]⟩
  | a :: l, ho, ha, k, r, acts, hd, hr, hk, h => by
    unfold tailX at hd h
    have hd0 : s.data.toList.drop k = [32] ++ (textX a ++ (tailX l ++ r)) := by rw [hd]; simp
    have hd1 := drop_on hd0
    have hk1 := drop_size hd0 hk
    have hd2 := drop_on hd1
    have hk2 := drop_size hd1 hk1
    obtain ⟨a1, h1, g1⟩ := scans_tail hp l ho.2 (fun b hb => ha b (List.mem_cons_of_mem _ hb)) _ r acts hd2 hr hk2 (by
      rw [show k + [(32 : UInt8)].length + (textX a).length + (tailX l).length = k + (32 :: (textX a ++ tailX l)).length by simp; omega]; exact h)
    obtain ⟨a2, h2, g2⟩ := ha a List.mem_cons_self _ _ a1 hd1 (noW_tail l hr) hk1 h1
    obtain ⟨a3, h3, g3⟩ := scans_blankT [32] _ hd0 hk (by intro c hc; rw [List.mem_singleton.1 hc]; decide) (text_head hp a ho.1 _) h2
    refine ⟨a3, h3, ?_⟩
    rw [g3, g2, g1, toksTl, List.map_append, List.append_assoc]
    rfl
theorem scans_thing {p : UInt8 → Bool} (hp : ∀ c, p c = true → wordB c = true) (x : SX) : okX p x → ScansX s x := by
  induction x using SX.rec (motive_2 := fun l => okXs p l → ∀ a ∈ l, ScansX s a) with
  | w y =>
    intro h k r acts hd hr hk hs
    unfold textX at hd hs
    obtain ⟨a, h1, g1⟩ := scans_wordT y r hd hk h.1 (fun c hc => hp c (h.2 c hc)) hr hs
    exact ⟨a, h1, by rw [g1]; simp [toksX, tokP]⟩
  | l xs ih =>
    intro h k r acts hd hr hk hs
    have hX := ih h
    unfold textX at hd hs
    have hd0 : s.data.toList.drop k = [40] ++ (textXs xs ++ 41 :: r) := by rw [hd]; simp
    have hd1 := drop_on hd0
    have hk1 := drop_size hd0 hk
    have hd2 := drop_on hd1
    have hk2 := drop_size hd1 hk1
    obtain ⟨a1, h1, g1⟩ := scans_shut r hd2 (by rw [show k + [(40 : UInt8)].length + (textXs xs).length + 1 = k + (40 :: (textXs xs ++ [41])).length by simp; omega]; exact hs)
    have hn : noW (41 :: r) := fun c hc => by
      obtain rfl : (41 : UInt8) = c := by simpa using hc
      decide
    have mid : ∃ acts', Scans s (k + [(40 : UInt8)].length) acts' ∧ sends acts' = (toksXs (k + 1) xs).map (fun t => itemV (tokP t)) ++ sends a1 := by
      cases xs with
      | nil => exact ⟨a1, by simpa [textXs] using h1, by simp [toksXs]⟩
      | cons a l =>
        unfold textXs at hd1 h1
        rw [List.append_assoc] at hd1
        have hd3 := drop_on hd1
        have hk3 := drop_size hd1 hk1
        obtain ⟨a2, h2, g2⟩ := scans_tail hp l h.2 (fun b hb => hX b (List.mem_cons_of_mem _ hb)) _ _ a1 hd3 hn hk3 (by rw [List.length_append, ← Nat.add_assoc] at h1; exact h1)
        obtain ⟨a3, h3, g3⟩ := hX a List.mem_cons_self _ _ a2 hd1 (noW_tail l hn) hk1 h2
        refine ⟨a3, h3, ?_⟩
        rw [g3, g2, toksXs, List.map_append, List.append_assoc]
        rfl
    obtain ⟨a2, h2, g2⟩ := mid
    obtain ⟨a3, h3, g3⟩ := scans_open _ hd h2
    refine ⟨a3, h3, ?_⟩
    rw [g3, g2, g1, toksX, List.map_cons, List.map_append, List.cons_append, List.append_assoc]
    rfl
  | nil => rename_i h a ha; cases ha
  | cons a l iha ihl =>
    rename_i h b hb
    rcases List.mem_cons.1 hb with rfl | hb
    · exact iha h.1
    · exact ihl h.2 b hb
end
theorem toksTl_pos : ∀ (l : List SX), (∀ a ∈ l, ∀ k, ∀ t ∈ toksX k a, (tokP t).p = t ∧ (t.kind = 1 ∨ t.kind = 2 ∨ t.kind = 3)) → ∀ k, ∀ t ∈ toksTl k l, (tokP t).p = t ∧ (t.kind = 1 ∨ t.kind = 2 ∨ t.kind = 3)
  | [], _, k, t, ht => by simp [toksTl] at ht
  | a :: l, h, k, t, ht => by
    unfold toksTl at ht
    rcases List.mem_append.1 ht with ht | ht
    · exact h a List.mem_cons_self _ t ht
    · exact toksTl_pos l (fun b hb => h b (List.mem_cons_of_mem _ hb)) _ t ht
theorem toksX_pos (x : SX) : ∀ k, ∀ t ∈ toksX k x, (tokP t).p = t ∧ (t.kind = 1 ∨ t.kind = 2 ∨ t.kind = 3) := by
  induction x using SX.rec (motive_2 := fun l => ∀ a ∈ l, ∀ k, ∀ t ∈ toksX k a, (tokP t).p = t ∧ (t.kind = 1 ∨ t.kind = 2 ∨ t.kind = 3)) with
  | w s =>
    intro k t ht
    unfold toksX at ht
    rw [List.mem_singleton.1 ht]
    exact ⟨rfl, .inl rfl⟩
  | l xs ih =>
    intro k t ht
    unfold toksX at ht
    rcases List.mem_cons.1 ht with rfl | ht
    · exact ⟨rfl, .inr (.inl rfl)⟩
    rcases List.mem_append.1 ht with ht | ht
    · cases xs with
      | nil => simp [toksXs] at ht
      | cons a l =>
        unfold toksXs at ht
        rcases List.mem_append.1 ht with ht | ht
        · exact ih a List.mem_cons_self _ t ht
        · exact toksTl_pos l (fun b hb => ih b (List.mem_cons_of_mem _ hb)) _ t ht
    · rw [List.mem_singleton.1 ht]
      exact ⟨rfl, .inr (.inr rfl)⟩
  | nil => rename_i a ha k t ht; cases ha
  | cons a l iha ihl =>
    rename_i b hb k t ht
    rcases List.mem_cons.1 hb with rfl | hb
    · exact iha k t ht
    · exact ihl b hb k t ht
theorem lexes_thing {x : SX} (h : okX wordB x) (hn : (textX x).length ≤ 20000) : Lexes ⟨(textX x).toArray⟩ ((toksX 0 x).map tokP) := by
  have hsz : (⟨(textX x).toArray⟩ : ByteArray).size = (textX x).length := by simp [ByteArray.size]
  obtain ⟨acts, h1, h2⟩ := scans_thing (s := ⟨(textX x).toArray⟩) (fun c hc => hc) x h 0 [] [] (by simp) (fun c hc => by cases hc) (Nat.zero_le _) (by rw [Nat.zero_add, ← hsz]; exact .done)
  have hl : (toksX 0 x).length ≤ (textX x).length := toksX_le x h 0
  refine ⟨by rw [hsz]; exact hn, ⟨acts, h1, ?_⟩, by rw [List.length_map]; omega⟩
  rw [h2]
  simp [sends]
end Go.Proofs.YtkmbmgmfcecfkaaDoor
namespace Go.Proofs.YtkmbmgmfcecfkaaDoor
open Go.Conc Go.Lx Go.RowKit
theorem reads_thing {x : SX} (h : okX wordB x) (hn : (textX x).length ≤ 20000) (hd : deepX x ≤ 60) : Lexes ⟨(textX x).toArray⟩ ((toksX 0 x).map tokP) ∧ (∀ t ∈ (toksX 0 x).map tokP, t.kind = 1 ∨ t.kind = 2 ∨ t.kind = 3) ∧ parseGo (((toksX 0 x).map tokP).map Tok.p) [] [] ⟨0, 0, ⟨#[]⟩⟩ = .ok (flatS (posX 0 x)) := by
  refine ⟨lexes_thing h hn, fun t ht => ?_, ?_⟩
  · obtain ⟨u, hu, rfl⟩ := List.mem_map.1 ht
    exact (toksX_pos x 0 u hu).2
  · have e : ((toksX 0 x).map tokP).map Tok.p = toksX 0 x := by
      rw [List.map_map]
      conv => rhs; rw [← List.map_id (toksX 0 x)]
      exact List.map_congr_left fun t ht => (toksX_pos x 0 t ht).1
    rw [e]
    exact parse_text x hd 0
def sucX : SX := .l [.w ⟨#[115, 117, 99]⟩, zeroW]
theorem suc_term : termS [] [] (posX 0 sucX) = .ok [⟨11, 0, 0, ⟨#[]⟩⟩, ⟨12, 0, 0, ⟨#[]⟩⟩] := by rfl
set_option maxRecDepth 100000 in
set_option maxHeartbeats 1000000 in
theorem shown8_calls (W : World) (hE : StrcAt W) (hS : ShapesAt 0 W) : CallsG Tryd.prog 5 #[] W (TrueU W) := by
  obtain ⟨h1, h2, h3⟩ := reads_thing (x := sucX) (by unfold sucX zeroW; simp [okX, okXs]; decide) (by decide) (by decide)
  have hR := sread_calls h1 h2 h3 [] [] W (posX_ok sucX (p := wordB) (by unfold sucX zeroW; simp [okX, okXs]; decide) 0) (by decide) (by decide) hE hS (TextsV.nil W) (TextsV.nil W) (by decide) (by decide)
  rw [suc_term] at hR
  clear h1 h2 h3
  refine callsG_of_wpG tame Tryd.func5 rfl ?_ TrueU.re
  simp only [Tryd.ntmps5, List.size_toArray, List.length_cons, List.length_nil, Nat.reduceAdd, Nat.reduceSub, Array.replicate_succ, Array.replicate_zero, List.push_toArray, List.append_toArray, List.nil_append, List.cons_append]
  refine wpG_seq tame (wpG_lone tame fun τ d => ?_)
  go_wp2
  refine wpG_re ?_ τ d
  refine wpG_seq tame ?_
  refine wpG_split tame 1 (by decide) fun τ d => ?_
  simp only [List.take_succ_cons, List.take_zero]
  go_wp2
  refine opsG_re ?_ τ d
  refine opsG_call (i := 1) (rest := List.range' 2 7) tame rfl (by rfl) (run_call_fn (vs := #[.agg #[.slice none 0 0, .slice none 0 0], .string ⟨#[40, 115, 117, 99, 32, 122, 101, 114, 111, 41]⟩]) rfl Tryd.func8 (by kernel_rfl) rfl (by simp [Act.eval])) hR ?_
  rintro v w1 ⟨hU1, u, rfl, hT⟩
  obtain ⟨qo, co, rfl, _⟩ := hT
  refine opsG_split tame 2 7 0 (by decide) fun τ d => ?_
  simp only [List.drop_succ_cons, List.drop_zero, List.take_succ_cons, List.take_zero]
  walk_nrm
  go_wp2
  refine opsG_nil tame ?_
  simp only [Exit.then]
  refine wpG_re ?_ τ d
  refine wpG_lone tame fun τ d => ?_
  have HK := Lib.hid (Keyword_any (w0 := re w1 τ d) ⟨#[112, 105]⟩)
  rw [show kwB ⟨#[112, 105]⟩ = true by rfl] at HK
  have hU1' := Lib.hid (hU1.re τ d)
  clear hR hU1
  go_wp2_with fail
  refine HK.out.mono ?_
  rintro e w2 ⟨rfl, hU2⟩
  have HU2 := Lib.hid (hU1'.out.trans hU2)
  clear hU2
  go_wp2
  exact bodyG_tmp rfl rfl ⟨rfl, HU2.out⟩
end Go.Proofs.YtkmbmgmfcecfkaaDoor
namespace Go.Proofs.YtkmbmgmfcecfkaaDoor
open Go.Lx Go.RowKit
section
variable {w0 : World}
def ndEqB (x y : Nd) : Bool := x.k == y.k && (x.n == y.n && (x.m == y.m && x.s.toList == y.s.toList))
def sameB : List Nd → List Nd → Bool
  | [], [] => true
  | x :: a, y :: b => ndEqB x y && sameB a b
  | _, _ => false
theorem ndEq_refl (x : Nd) : ndEqB x x = true := by simp [ndEqB]
theorem same_refl : ∀ t : List Nd, sameB t t = true
  | [] => rfl
  | x :: t => by simp [sameB, ndEq_refl, same_refl t]
theorem sameB_len : ∀ {a b : List Nd}, a.length ≠ b.length → sameB a b = false
  | [], [], h => absurd rfl h
  | x :: a, y :: b, h => by
    simp only [sameB]
    rw [sameB_len (a := a) (b := b) (by simpa using h)]
    simp
  | [], y :: b, h => rfl
  | x :: a, [], h => rfl
def SmRel (w0 : World) (a b : List Nd) (i : Value) (wr : World) : Prop := ∃ k : Nat, k ≤ a.length ∧ i = .int .i64 (k : Int) ∧ (sameB a b = sameB (a.drop k) (b.drop k)) ∧ Under w0 wr
set_option maxRecDepth 100000 in
set_option maxHeartbeats 1000000 in
theorem same_any (a b : List Nd) {u v : Value} (hn : a.length ≤ maxLen) (hu : TermV w0 u a) (hv : TermV w0 v b) : Calls Tryd.prog 9 #[u, v] w0 fun e w => e = .returned (.bool (sameB a b)) ∧ Under w0 w := by
  obtain ⟨p, c, rfl, _, _, hr⟩ := hu
  obtain ⟨p2, c2, rfl, _, _, hr2⟩ := hv
  have HR := Lib.hid hr
  have HR2 := Lib.hid hr2
  have hn0 : (0 : Int) ≤ (a.length : Int) := by omega
  have hn' : (a.length : Int) ≤ 9223372036854775807 := by unfold maxLen at hn; omega
  clear hr hn hr2
  by_cases hl : a.length = b.length
  · have HLb := Lib.hid hl
    have hl1 : ((a.length : Int) == (b.length : Int)) = true := by rw [hl]; simp
    rw [← hl] at hl1 ⊢
    clear hl
    go_enter Tryd.func9, Tryd.ntmps9
    go_wp2
    go_loopw [5] (fun i wr => SmRel w0 a b i wr) (fun i _ => a.length - (intOf i).toNat)
    case atStart => exact ⟨0, Nat.zero_le _, rfl, by simp, Under.refl _⟩
    case round =>
      obtain ⟨k, hk, rfl, hN, hU⟩ := hrel
      have HN := Lib.hid hN
      clear hN
      by_cases hlt : k < a.length
      · have hlt2 : k < b.length := by rw [← HLb.out]; exact hlt
        obtain ⟨b1, off1, rfl, hb1, c0, c1, c2, c3⟩ := RowArg.node HR.out (List.getElem?_eq_getElem hlt)
        obtain ⟨b2, off2, rfl, hb2, d0, d1, d2, d3⟩ := RowArg.node HR2.out (List.getElem?_eq_getElem hlt2)
        rw [← under_cell hU hb1] at c0 c1 c2 c3
        rw [← under_cell hU hb2] at d0 d1 d2 d3
        have hb1' := Nat.lt_of_lt_of_le hb1 hU.size
        have hb2' := Nat.lt_of_lt_of_le hb2 hU.size
        have hd : sameB (a.drop k) (b.drop k) = (ndEqB a[k] b[k] && sameB (a.drop (k + 1)) (b.drop (k + 1))) := by rw [List.drop_eq_getElem_cons hlt, List.drop_eq_getElem_cons hlt2]; rfl
        have HD := Lib.hid hd
        have HU := Lib.hid hU
        clear hd hU
        generalize a[k] = x at *
        generalize b[k] = y at *
        cases h1 : (x.k == y.k)
        · skip
          have HX : RowKit.Hid (ndEqB x y = false) := Lib.hid (by unfold ndEqB; simp [*])
          go_wp2_with fail
          go_quiet (fail)
          go_wp2
          go_ret
          exact ⟨by rw [HN.out, HD.out, HX.out]; rfl, under_drewN HU.out _⟩
        cases h2 : (x.n == y.n)
        · skip
          have HX : RowKit.Hid (ndEqB x y = false) := Lib.hid (by unfold ndEqB; simp [*])
          go_wp2_with fail
          go_quiet (fail)
          go_wp2
          go_ret
          exact ⟨by rw [HN.out, HD.out, HX.out]; rfl, under_drewN HU.out _⟩
        cases h3 : (x.m == y.m)
        · skip
          have HX : RowKit.Hid (ndEqB x y = false) := Lib.hid (by unfold ndEqB; simp [*])
          go_wp2_with fail
          go_quiet (fail)
          go_wp2
          go_ret
          exact ⟨by rw [HN.out, HD.out, HX.out]; rfl, under_drewN HU.out _⟩
        cases h4 : (x.s.toList == y.s.toList)
        · skip
          have HX : RowKit.Hid (ndEqB x y = false) := Lib.hid (by unfold ndEqB; simp [*])
          go_wp2_with fail
          go_quiet (fail)
          go_wp2
          go_ret
          exact ⟨by rw [HN.out, HD.out, HX.out]; rfl, under_drewN HU.out _⟩
        have HX : RowKit.Hid (ndEqB x y = true) := Lib.hid (by unfold ndEqB; rw [h1, h2, h3, h4]; rfl)
        go_wp2_with fail
        go_quiet (fail)
        go_wp2
        go_roundw
        case rel => exact ⟨k + 1, by omega, by go_num, by rw [HN.out, HD.out, HX.out]; rfl, under_drewN HU.out _⟩
        case measure => simp [intOf]; omega
      · obtain rfl : k = a.length := by omega
        have HE : RowKit.Hid (sameB a b = true) := Lib.hid (by rw [HN.out, List.drop_length, HLb.out, List.drop_length]; rfl)
        have HU := Lib.hid hU
        clear hU
        go_wp2
        go_ret
        exact ⟨by rw [HE.out]; rfl, HU.out⟩
  · have HE := Lib.hid (sameB_len hl)
    have hl1 : ((a.length : Int) == (b.length : Int)) = false := by simp; omega
    clear hl
    go_enter Tryd.func9, Tryd.ntmps9
    go_wp2
    go_ret
    exact ⟨by rw [HE.out]; rfl, Under.refl _⟩
end
end Go.Proofs.YtkmbmgmfcecfkaaDoor
namespace Go.Proofs.YtkmbmgmfcecfkaaDoor
open Go.Lx Go.RowKit
def letR (c : UInt8) : Bool := (decide (97 ≤ (c.toNat : Int)) && decide ((c.toNat : Int) ≤ 122)) || (decide (65 ≤ (c.toNat : Int)) && decide ((c.toNat : Int) ≤ 90)) || ((c.toNat : Int) == 95)
theorem letR_nat : ∀ n : Nat, n < 256 → letR (UInt8.ofNat n) = ltrB (UInt8.ofNat n) := by decide +kernel
theorem letR_eq (c : UInt8) : letR c = ltrB c := by
  have h := letR_nat c.toNat c.toNat_lt
  rwa [UInt8.ofNat_toNat] at h
section
variable {w0 : World}
set_option maxRecDepth 100000 in
set_option maxHeartbeats 1000000 in
theorem letter_any (c : UInt8) : Calls Tryd.prog 10 #[.int .u8 c.toNat] w0 fun e w => e = .returned (.bool (ltrB c)) ∧ w = w0 := by
  rw [← letR_eq]
  have HR : RowKit.Hid (letR c = ((decide (97 ≤ (c.toNat : Int)) && decide ((c.toNat : Int) ≤ 122)) || (decide (65 ≤ (c.toNat : Int)) && decide ((c.toNat : Int) ≤ 90)) || ((c.toNat : Int) == 95))) := Lib.hid rfl
  generalize letR c = r at *
  generalize (c.toNat : Int) = n at *
  by_cases h1 : 97 ≤ n
  all_goals by_cases h2 : n ≤ 122
  all_goals by_cases h3 : 65 ≤ n
  all_goals by_cases h4 : n ≤ 90
  all_goals first | omega | skip
  all_goals
    go_enter Tryd.func10, Tryd.ntmps10
    go_wp2
    go_ret
    exact ⟨by rw [HR.out]; simp [*] <;> omega, rfl⟩
def okR (c : UInt8) : Bool := ltrB c || digB c
theorem nameFrom_all : ∀ (l : List UInt8) (i : Nat), i ≠ 0 → nameFrom i l = l.all okR
  | [], i, h => rfl
  | c :: r, i, h => by
    simp only [nameFrom, List.all_cons, okB, okR]
    rw [nameFrom_all r (i + 1) (by omega)]
    simp [h]
theorem nameB_all {s : ByteArray} {c : UInt8} {r : List UInt8} (h : s.data.toList = c :: r) (hs : s.size ≤ 16) (hc : ltrB c = true) : nameB s = s.data.toList.all okR := by
  unfold nameB
  have h0 : s.size ≠ 0 := by
    have : s.data.toList.length = s.size := by rw [Array.length_toList]; rfl
    rw [h] at this; intro e; rw [e] at this; cases this
  rw [h]
  simp only [nameFrom, List.all_cons]
  rw [nameFrom_all r 1 (by decide)]
  simp [okB, okR, hc, h0, hs]
theorem nameB_not {s : ByteArray} {c : UInt8} {r : List UInt8} (h : s.data.toList = c :: r) (hc : ltrB c = false) : nameB s = false := by
  unfold nameB
  rw [h]
  simp [nameFrom, okB, hc]
def RnRel (w0 : World) (s : ByteArray) (i : Value) (wr : World) : Prop := ∃ k : Nat, k ≤ s.size ∧ i = .int .i64 (k : Int) ∧ s.data.toList.all okR = (s.data.toList.drop k).all okR ∧ w0 = wr
set_option maxRecDepth 100000 in
set_option maxHeartbeats 2000000 in
theorem rname_any (s : ByteArray) : Calls Tryd.prog 6 #[.string s] w0 fun e w => e = .returned (.bool (nameB s)) ∧ w = w0 := by
  have HLen := Lib.hid (show s.data.toList.length = s.size by rw [Array.length_toList]; rfl)
  by_cases h1 : (s.size : Int) < 1
  · have HO : RowKit.Hid (nameB s = false) := Lib.hid (by
      have : s.size = 0 := by omega
      unfold nameB; simp [this])
    go_enter Tryd.func6, Tryd.ntmps6
    go_wp2
    go_ret
    exact ⟨by rw [HO.out]; rfl, rfl⟩
  by_cases h16 : 16 < (s.size : Int)
  · have HO : RowKit.Hid (nameB s = false) := Lib.hid (by unfold nameB; simp; intros; omega)
    go_enter Tryd.func6, Tryd.ntmps6
    go_wp2
    go_ret
    exact ⟨by rw [HO.out]; rfl, rfl⟩
  have h0 : 0 < s.size := by omega
  have hs16 : s.size ≤ 16 := by omega
  obtain ⟨c, r, hcr⟩ : ∃ c r, s.data.toList = c :: r := by
    cases h : s.data.toList with
    | nil => have := HLen.out; rw [h] at this; simp at this; omega
    | cons c r => exact ⟨c, r, rfl⟩
  have hs0 : s[0] = c := by
    show s.data[0] = c
    rw [← Array.getElem_toList]
    simp [hcr]
  have HL0 := Lib.hid (letter_any (w0 := w0) c)
  cases hc : ltrB c
  · have HO := Lib.hid (nameB_not hcr hc)
    rw [hc] at HL0
    clear hcr hc
    go_enter Tryd.func6, Tryd.ntmps6
    go_wp2_with fail
    refine HL0.out.mono ?_
    rintro e w1 ⟨rfl, rfl⟩
    go_wp2
    go_ret
    exact ⟨by rw [HO.out]; rfl, rfl⟩
  · have HO := Lib.hid (nameB_all hcr hs16 hc)
    rw [hc] at HL0
    have HL := Lib.hid (fun c => letter_any (w0 := w0) c)
    clear hcr hc
    go_enter Tryd.func6, Tryd.ntmps6
    go_wp2_with fail
    refine HL0.out.mono ?_
    rintro e w1 ⟨rfl, rfl⟩
    clear hs0 HL0
    go_wp2
    go_loopw [3] (fun i wr => RnRel w1 s i wr) (fun i _ => s.size - (intOf i).toNat)
    case atStart => exact ⟨0, Nat.zero_le _, rfl, by simp, rfl⟩
    case round =>
      obtain ⟨k, hk, rfl, hN, rfl⟩ := hrel
      have HN := Lib.hid hN
      clear hN
      by_cases hlt : k < s.size
      · have hk' : k < s.data.toList.length := by rw [HLen.out]; exact hlt
        have hd : (s.data.toList.drop k).all okR = (okR s[k] && (s.data.toList.drop (k + 1)).all okR) := by rw [List.drop_eq_getElem_cons hk']; rfl
        have HD := Lib.hid hd
        have HLk := Lib.hid (HL.out s[k])
        have hdg : digB s[k] = (!(decide ((s[k].toNat : Int) < 48)) && !(decide (57 < (s[k].toNat : Int)))) := rfl
        have HDg := Lib.hid hdg
        clear hd hdg
        generalize hx : s[k] = x at *
        have hok : okR x = (ltrB x || digB x) := rfl
        have HOk := Lib.hid hok
        clear hok
        cases hl : ltrB x
        · rw [hl] at HLk HOk
          by_cases h48 : (x.toNat : Int) < 48
          · go_wp2_with fail
            refine HLk.out.mono ?_
            rintro e w1 ⟨rfl, rfl⟩
            go_wp2
            go_ret
            exact ⟨by rw [HO.out, HN.out, HD.out, HOk.out, HDg.out]; simp [h48], rfl⟩
          · by_cases h57 : 57 < (x.toNat : Int)
            · go_wp2_with fail
              refine HLk.out.mono ?_
              rintro e w1 ⟨rfl, rfl⟩
              go_wp2
              go_ret
              exact ⟨by rw [HO.out, HN.out, HD.out, HOk.out, HDg.out]; simp [h57], rfl⟩
            · have HT : RowKit.Hid (okR x = true) := Lib.hid (by rw [HOk.out, HDg.out]; simp; omega)
              go_wp2_with fail
              refine HLk.out.mono ?_
              rintro e w1 ⟨rfl, rfl⟩
              go_wp2
              go_roundw
              case rel => exact ⟨k + 1, by omega, by go_num, by rw [HN.out, HD.out, HT.out]; rfl, rfl⟩
              case measure => simp [intOf]; omega
        · rw [hl] at HLk HOk
          go_wp2_with fail
          refine HLk.out.mono ?_
          rintro e w1 ⟨rfl, rfl⟩
          go_wp2
          go_roundw
          case rel => exact ⟨k + 1, by omega, by go_num, by rw [HN.out, HD.out, HOk.out]; rfl, rfl⟩
          case measure => simp [intOf]; omega
      · obtain rfl : k = s.size := by omega
        have HE : RowKit.Hid (nameB s = true) := Lib.hid (by rw [HO.out, HN.out, ← HLen.out, List.drop_length]; rfl)
        go_wp2
        go_ret
        exact ⟨by rw [HE.out]; rfl, rfl⟩
end
end Go.Proofs.YtkmbmgmfcecfkaaDoor
namespace Go.Proofs.YtkmbmgmfcecfkaaDoor
open Go.Conc Go.Lx Go.RowKit
theorem ok_word (i : Nat) (c : UInt8) (h : okB i c = true) : wordB c = true := by
  have h1 : okB 1 c = true := by
    unfold okB at h ⊢
    simp only [Bool.or_eq_true, Bool.and_eq_true, decide_eq_true_eq] at h ⊢
    rcases h with h | h
    · exact .inl h
    · exact .inr ⟨by decide, h.2⟩
  have := byte_allT (p := fun c => !okB 1 c || wordB c) (by decide +kernel) c
  simpa [h1] using this
theorem name_words : ∀ (l : List UInt8) (i : Nat), nameFrom i l = true → ∀ c ∈ l, wordB c = true
  | [], _, _, c, hc => by cases hc
  | x :: l, i, h, c, hc => by
    simp only [nameFrom, Bool.and_eq_true] at h
    rcases List.mem_cons.1 hc with rfl | hc
    · exact ok_word i _ h.1
    · exact name_words l (i + 1) h.2 c hc
theorem name_okX {s : ByteArray} (h : nameB s = true) : okX wordB (.w s) := by
  unfold nameB at h
  simp only [Bool.and_eq_true, decide_eq_true_eq] at h
  exact ⟨h.2.1, name_words _ 0 h.1⟩
theorem name_len {s : ByteArray} (h : nameB s = true) : s.size ≤ 16 := by
  unfold nameB at h
  simp only [Bool.and_eq_true, decide_eq_true_eq] at h
  exact h.2.2
theorem head_okX {h : ByteArray} {k n : Int} (hh : (h.data.toList, k, n) ∈ headR) : okX wordB (.w h) ∧ h.size ≤ 4 := by
  have hs : h.size = h.data.toList.length := by rw [Array.length_toList]; rfl
  simp only [headR, List.mem_cons, List.not_mem_nil, or_false, Prod.mk.injEq] at hh
  unfold okX
  rw [hs]
  rcases hh with ⟨e, rfl, rfl⟩ | ⟨e, rfl, rfl⟩ | ⟨e, rfl, rfl⟩ | ⟨e, rfl, rfl⟩ <;> rw [e] <;> decide
theorem ren_okX {h a b : ByteArray} {k n : Int} (hh : (h.data.toList, k, n) ∈ headR) (ha : nameB a = true) (hb : nameB b = true) : okX wordB (renSX h a b) := by
  have h1 := (head_okX hh).1
  have h2 := name_okX ha
  have h3 := name_okX hb
  have h4 : okX wordB natW := by unfold natW okX; decide
  have h5 : okX wordB sucW := by unfold sucW okX; decide
  have h6 : okX wordB appW := by unfold appW okX; decide
  unfold renSX
  simp only [okX, okXs, and_true]
  exact ⟨h1, h2, h4, h1, h3, ⟨h5, h2⟩, h6, h2, h3⟩
theorem size_list (s : ByteArray) : s.data.toList.length = s.size := by rw [Array.length_toList]; rfl
theorem ren_size {h a b : ByteArray} {k n : Int} (hh : (h.data.toList, k, n) ∈ headR) (ha : nameB a = true) (hb : nameB b = true) : (textX (renSX h a b)).length ≤ 20000 ∧ deepX (renSX h a b) ≤ 60 := by
  have h1 := (head_okX hh).2
  have h2 := name_len ha
  have h3 := name_len hb
  refine ⟨?_, ?_⟩
  · unfold renSX natW sucW appW
    simp only [textX, textXs, tailX, List.length_cons, List.length_append, List.length_nil, size_list]
    omega
  · simp [renSX, natW, sucW, appW, deepX, deepXs]
theorem thing_read {x : SX} {R : Say} (ho : okX wordB x) (hl : (textX x).length ≤ 20000) (hd : deepX x ≤ 60) (cs ds : List ByteArray) {p1 p2 : Option Addr} {d1 d2 : Nat} (hR : termS cs ds (posX 0 x) = R) (W : World) (hE : StrcAt W) (hS : ShapesAt 0 W)
    (hcs : TextsV W (.slice p1 cs.length d1) cs) (hds : TextsV W (.slice p2 ds.length d2) ds) (hcn : cs.length ≤ 1000000) (hdn : ds.length ≤ 1000000) :
    CallsG Tryd.prog 8 #[.agg #[.slice p1 cs.length d1, .slice p2 ds.length d2], .string ⟨(textX x).toArray⟩] W (TermPost W R) := by
  obtain ⟨g1, g2, g3⟩ := reads_thing ho hl hd
  rw [← hR]
  exact sread_calls g1 g2 g3 cs ds W (posX_ok x ho 0) (Nat.le_trans (flatX_len x ho 0) hl) (fun y hy => Nat.le_trans (flatX_word x 0 y hy) (by omega)) hE hS hcs hds hcn hdn
theorem ren_read {h a b : ByteArray} {k n : Int} (hh : (h.data.toList, k, n) ∈ headR) (ha : nameK a = true) (hb : nameK b = true) (W : World) (hE : StrcAt W) (hS : ShapesAt 0 W) :
    CallsG Tryd.prog 8 #[.agg #[.slice none 0 0, .slice none 0 0], .string ⟨(textX (renSX h a b)).toArray⟩] W (TermPost W (.ok (renTm k n (if a = b then 0 else 1)))) := by
  have ha' : nameB a = true := by unfold nameK at ha; simp at ha; exact ha.1
  have hb' : nameB b = true := by unfold nameK at hb; simp at hb; exact hb.1
  obtain ⟨hl, hd⟩ := ren_size hh ha' hb'
  exact thing_read (ren_okX hh ha' hb') hl hd [] [] (ren_say hh ha hb) W hE hS (TextsV.nil W) (TextsV.nil W) (by decide) (by decide)
end Go.Proofs.YtkmbmgmfcecfkaaDoor
