/- The document's Items: its contract. -/
import Derived.Test.YtjnoffgclibfaaaRefBegin
set_option linter.unusedSimpArgs false
set_option linter.unusedVariables false
namespace Go.Proofs.Ytjnoffgclibfaaa
open Go.Conc Go.Lx Go.RowKit

/-- Slices that are rows. -/
def SxVals (w0 : World) : List Value → List (List Sx) → Prop
  | [], [] => True
  | v :: vs, l :: ls => (∃ q c, v = .slice q l.length c ∧ l.length ≤ c ∧ SxArg w0 q l) ∧ SxVals w0 vs ls
  | _, _ => False
theorem SxVals.len {w0 : World} : ∀ {vs : List Value} {ls : List (List Sx)}, SxVals w0 vs ls → vs.length = ls.length
  | [], [], _ => rfl
  | _ :: _, _ :: _, h => by simp [SxVals.len h.2]
  | [], _ :: _, h => h.elim
  | _ :: _, [], h => h.elim
theorem SxVals.one {w0 : World} : ∀ {vs : List Value} {ls : List (List Sx)}, SxVals w0 vs ls → ∀ u ∈ vs, u.oneCell' = true
  | [], [], _, u, hu => by simp at hu
  | v :: vs, _ :: _, h, u, hu => by
    rcases List.mem_cons.1 hu with rfl | hu
    · obtain ⟨q, c, rfl, _⟩ := h.1; rfl
    · exact SxVals.one h.2 u hu
  | [], _ :: _, h, _, _ => h.elim
  | _ :: _, [], h, _, _ => h.elim
theorem SxVals.at {w0 : World} : ∀ {vs : List Value} {ls : List (List Sx)}, SxVals w0 vs ls → ∀ {i : Nat} {l : List Sx}, ls[i]? = some l → ∃ q c, vs[i]? = some (.slice q l.length c) ∧ l.length ≤ c ∧ SxArg w0 q l
  | [], [], _, _, _, hi => by simp at hi
  | v :: _, _ :: _, h, 0, _, hi => by
    cases hi
    obtain ⟨q, c, rfl, h1, h2⟩ := h.1
    exact ⟨q, c, rfl, h1, h2⟩
  | _ :: _, _ :: _, h, i + 1, _, hi => SxVals.at h.2 (i := i) hi
  | [], _ :: _, h, _, _, _ => h.elim
  | _ :: _, [], h, _, _, _ => h.elim

theorem Try.info39 : (Try.prog.info? 39).map (fun i => (i.zero, i.size, i.bytes)) = some (some (.slice none 0 0), 1, 24) := by kernel_rfl
theorem row_one (w : World) (base : Nat) (hb : base ≤ w.heap.size) (e : TypeId) (v : Value) : (w.alloc (.cells #[v] e)).ownsRow base e 1 (.slice (some ⟨w.heap.size, 0, none⟩) 1 1) 1 [v] :=
  ⟨rfl, .inr ⟨w.heap.size, 1, #[v], rfl, hb, heap_alloc_new w _, Nat.le_refl _, by decide, rfl, rfl⟩⟩

noncomputable def qiText : Code := Try.f26.body.getD .skip
noncomputable def qiRound : Code := inOf (inOf (fstOf (sndOf (sndOf (sndOf qiText)))))
def qiFrame (l vo : Value) (k : Nat) (J : Nat → Value) : Array Value :=
  #[l, J 1, J 2, J 3, vo, .int .i64 (k : Int), J 6, J 7, J 8, J 9, J 10, J 11, J 12, J 13, J 14, J 15, J 16, J 17, J 18, J 19, J 20, J 21, J 22, J 23, J 24, J 25, J 26, J 27, J 28]
def qiOut (J : Nat → Value) : Array Value := #[J 0, J 1, .slice none 0 0, .bool false, J 4, J 5, J 6, J 7, J 8, J 9, J 10, J 11, J 12, J 13, J 14, J 15, J 16, J 17, J 18, J 19, J 20, J 21, J 22, J 23, J 24, J 25, J 26, J 27, J 28]

structure QH (w0 : World) (g c : Nat) (ls : List (List Sx)) (w : World) : Prop where
  out : ∃ vs, w.ownsRow w0.heap.size 39 1 (.slice (some ⟨g, 0, none⟩) ls.length c) ls.length vs ∧ SxVals w0 vs ls
  low : Under w0 w
def QNext (w0 : World) (l : Value) (k : Nat) (ls : List (List Sx)) (a' : Act) (w' : World) : Prop :=
  ∃ g c J, a' = ⟨qiFrame l (.slice (some ⟨g, 0, none⟩) ls.length c) k J, []⟩ ∧ QH w0 g c ls w'
def QBad (w0 : World) (ex : Exit) (a' : Act) (w' : World) : Prop := ex = .ret ∧ ∃ J, a' = ⟨qiOut J, []⟩ ∧ Under w0 w'
def QDone (l vo : Value) (w : World) (e : Exit) (a' : Act) (w' : World) : Prop := e = .exit 0 ∧ ∃ J, a' = ⟨qiFrame l vo 0 J, []⟩ ∧ w' = w

section
variable {w0 : World} {b off cap k : Nat}
set_option maxRecDepth 100000 in
theorem qi_done {l vo : Value} (J : Nat → Value) (w : World) :
    qiRound.wp Try.prog (Exit.then (fun _ _ => False) (QDone l vo w)) ⟨qiFrame l vo 0 J, []⟩ w := by
  unfold qiRound qiText
  simp only [Try.f26, Option.getD_some, fstOf, sndOf, inOf]
  unfold qiFrame
  go_wp2
  exact ⟨rfl, frame_ex (F := qiFrame l vo 0) (by rfl) rfl⟩
set_option maxRecDepth 100000 in
set_option maxHeartbeats 4000000 in
theorem qi_one {row : List Sx} {g gc : Nat} {ls : List (List Sx)} (hk : 0 < k) (hkn : k ≤ row.length) (hn : row.length ≤ 1000000) (hcap : row.length ≤ cap) (hls : ls.length ≤ 1000000) (J : Nat → Value) (w : World) (hP : QH w0 g gc ls w)
    (hb0 : b < w0.heap.size) (ht : SxAt w0 b off row) :
    qiRound.wp Try.prog (Exit.then (fun a' w' => ∃ c, rb row k = some c ∧ QNext w0 (.slice (some ⟨b, off, none⟩) row.length cap) c (piece row c k :: ls) a' w') (fun ex a' w' => rb row k = none ∧ QBad w0 ex a' w')) ⟨qiFrame (.slice (some ⟨b, off, none⟩) row.length cap) (.slice (some ⟨g, 0, none⟩) ls.length gc) k J, []⟩ w := by
  obtain ⟨vs, ho, hv⟩ := hP.out
  obtain ⟨i0, hi, hz0, hz1, hz2⟩ := info_parts Try.info39
  have hU := hP.low
  have HC := Lib.hid (begin_any (cap := cap) (off := off) row hn k hkn w (Nat.lt_of_lt_of_le hb0 hU.size) (fun k x hx => by
    rw [under_cell hU hb0, under_cell hU hb0, under_cell hU hb0]; exact ht k x hx))
  have HLT := Lib.hid (fun c (h : rb row k = some c) => rb_lt h)
  have HO := Lib.hid ho
  have HV := Lib.hid hv
  have HU := Lib.hid hU
  have HT := Lib.hid ht
  clear hP ho hv hU ht
  generalize rb row k = R at *
  have h1 : (0 : Int) < k := by omega
  have h2 : (k : Int) ≤ cap := by omega
  have h3 : (k : Int) ≤ 1000000 := by omega
  have hmx : 1 + ls.length ≤ maxLen := by simp only [maxLen]; omega
  have hby : (1 + ls.length) * 24 ≤ 140737488355328 := by omega
  unfold qiRound qiText
  simp only [Try.f26, Option.getD_some, fstOf, sndOf, inOf]
  unfold qiFrame
  go_wp2_with fail
  refine HC.out.mono ?_
  rintro ed w1 ⟨hU1, rfl⟩
  have HU1 := Lib.hid hU1
  clear hU1
  cases R with
  | none =>
    simp only [rbInt]
    go_wp2
    exact ⟨by simp, rfl, frame_ex (F := qiOut) (by rfl) (HU.out.trans HU1.out)⟩
  | some c =>
    simp only [rbInt]
    have hck := HLT.out c rfl
    have h4 : (0 : Int) ≤ c := by omega
    have h5 : (c : Int) ≤ k := by omega
    have h6 : ¬ cap = c := by omega
    have h7 : (c : Int) ≤ cap := by omega
    have hsz := HU.out.size
    have hsz1 := HU1.out.size
    go_wp2_with (at_builtin; refine wpList_append_own_at _ rfl _ _ 53 rfl w0.heap.size 39 i0 _ 1 24 Try.underlying53 hi hz0 hz1 hz2 rfl (by decide) _ _ _ rfl (row_one w1 w0.heap.size (by omega) 39 _) ⟨g, 0, none⟩ ls.length gc vs rfl ?c0 ?c1 ?c2 hmx hby ?c5 ?_)
    case c0 => rw [HV.out.len, Nat.mul_one]
    case c1 =>
      intro j u hj
      rw [add_off, Nat.zero_add]
      exact row_cell ((row_under HO.out HU1.out).alloc _) rfl hj
    case c2 => exact HV.out.one
    case c5 => simp; omega
    intro v' w' hown hgrow hnil hat
    obtain ⟨g', c', rfl, _⟩ := row_block hown (by omega)
    have hpl : (piece row c k).length = k - c := piece_len row hkn
    have HP2 : QH w0 g' c' (piece row c k :: ls) w' := by
      refine ⟨⟨.slice (some ⟨b, off + c * 3, none⟩) (k - c) (cap - c) :: vs, by rw [List.length_cons, Nat.add_comm]; exact hown, ⟨⟨_, _, by rw [hpl], by omega, fun _ => ⟨b, off + c * 3, rfl, hb0, piece_at HT.out⟩⟩, HV.out⟩⟩, ?_⟩
      exact under_grown (under_alloc (HU.out.trans HU1.out) _) hgrow fun g e => by cases e; show w0.heap.size ≤ w1.heap.size; omega
    have HP3 := Lib.hid HP2
    clear hown hgrow hnil hat HP2 hpl
    go_wp2
    refine ⟨c, rfl, g', c', frame_ex (F := qiFrame _ _ c) (by rw [List.length_cons, Nat.add_comm ls.length 1]; rfl) HP3.out⟩

/-- The loop. -/
def QI (w0 : World) (l : Value) (row : List Sx) (R : Option (List (List Sx))) (m : Nat) (a : Act) (w : World) : Prop :=
  ∃ ls, m ≤ row.length ∧ ls.length + m ≤ row.length ∧ RItems row m ls R ∧ QNext w0 l m ls a w
def QEnd (w0 : World) (l : Value) (R : Option (List (List Sx))) (e : Exit) (a : Act) (w : World) : Prop :=
  (e = .exit 0 ∧ ∃ ls, R = some ls ∧ QNext w0 l 0 ls a w) ∨ (R = none ∧ QBad w0 e a w)
theorem qi_rounds (row : List Sx) {p : Option Addr} (hn : row.length ≤ 1000000) (hcap : row.length ≤ cap) (hp : SxArg w0 p row) (R : Option (List (List Sx))) (m : Nat) (a : Act) (w : World)
    (h0 : QI w0 (.slice p row.length cap) row R m a w) :
    (Code.loop qiRound).wp Try.prog (QEnd w0 (.slice p row.length cap) R) a w := by
  refine wp_loop_ghost _ m h0 ?_
  clear h0
  rintro m a w ⟨ls, hm, hlm, hR, g, c, J, rfl, hi⟩
  cases hR with
  | done acc =>
    refine wp_mono (qi_done J w) ?_
    rintro e a' w' h
    cases e with
    | normal => exact h.elim
    | _ =>
      obtain ⟨h1, J', rfl, rfl⟩ := h
      exact .inl ⟨h1, ls, rfl, g, c, J', rfl, hi⟩
  | bad hk hb =>
    obtain ⟨b, off, rfl, hb0, ht⟩ := hp (fun e => by rw [e, List.length_nil] at hm; omega)
    refine wp_mono (qi_one (cap := cap) hk hm hn hcap (by omega) J w hi hb0 ht) ?_
    rintro e a' w' h
    cases e with
    | normal => obtain ⟨c, hc, _⟩ := h; rw [hb] at hc; cases hc
    | _ => exact .inr ⟨rfl, h.2⟩
  | one hk hb hr =>
    rename_i b0
    obtain ⟨b, off, rfl, hb0, ht⟩ := hp (fun e => by rw [e, List.length_nil] at hm; omega)
    have hlt := rb_lt hb
    refine wp_mono (qi_one (cap := cap) hk hm hn hcap (by omega) J w hi hb0 ht) ?_
    rintro e a' w' h
    cases e with
    | normal =>
      obtain ⟨c, hc, h⟩ := h
      rw [hb] at hc; cases hc
      exact ⟨b0, hlt, _, by omega, by rw [List.length_cons]; omega, hr, h⟩
    | _ => obtain ⟨hc, _⟩ := h; rw [hb] at hc; cases hc

/-- What the document's Items answers. -/
def RefItOut (w0 : World) (R : Option (List (List Sx))) (e : Ending) (w' : World) : Prop :=
  Under w0 w' ∧ match R with
    | some ls => ∃ g c vs, e = .returned (.tuple #[.slice (some ⟨g, 0, none⟩) ls.length c, .bool true]) ∧ w'.ownsRow w0.heap.size 39 1 (.slice (some ⟨g, 0, none⟩) ls.length c) ls.length vs ∧ SxVals w0 vs ls
    | none => e = .returned (.tuple #[.slice none 0 0, .bool false])
set_option maxRecDepth 100000 in
set_option maxHeartbeats 4000000 in
theorem refItems_any (row : List Sx) {p : Option Addr} (hn : row.length ≤ 1000000) (hcap : row.length ≤ cap) (hp : SxArg w0 p row) :
    Calls Try.prog 26 #[.slice p row.length cap] w0 (RefItOut w0 (itemsGo row)) := by
  obtain ⟨R, hR⟩ := ri_ex row row.length []
  have := ri_items hR
  rw [← this]
  clear this
  have HL := Lib.hid (fun m a w h => qi_rounds (w0 := w0) (cap := cap) row hn hcap hp R m a w h)
  have HR := Lib.hid hR
  clear hp hR
  go_enter Try.func26, Try.ntmps26
  go_wp2
  rename_i K hK
  refine wp_mono (HL.out row.length _ _ ⟨[], Nat.le_refl _, by simp, HR.out, w0.heap.size, 0, _, pframe_ex (F := qiFrame _ _ row.length) (by rfl), ⟨⟨[], row_new0 w0 _ _ _ (Nat.le_refl _), trivial⟩, under_alloc ⟨rfl, rfl, Nat.le_refl _, fun _ _ => rfl⟩ _⟩⟩) ?_
  rintro e a' w' (⟨rfl, ls, rfl, g, c, J, rfl, hi⟩ | ⟨rfl, rfl, J, rfl, hu⟩)
  · simp only [Exit.inBlock, if_pos, Exit.then]
    refine hK _ _ ?_
    have HH := Lib.hid hi
    clear hi
    unfold qiFrame
    go_wp2
    go_ret2
    obtain ⟨vs, h1, h2⟩ := HH.out.out
    exact ⟨HH.out.low, g, c, vs, rfl, h1, h2⟩
  · simp only [Exit.inBlock, Exit.then]
    go_ret2
    exact ⟨hu, rfl⟩
end
end Go.Proofs.Ytjnoffgclibfaaa
