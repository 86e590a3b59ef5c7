/- Part 1 of what the proof rests on. -/
import Derived.Lib.SliceRun
import Derived.TacticsInMore
import Derived.LoopNIn
import Derived.LoopIn
import Derived.Shelf.Abstract
import Derived.Shelf.RegionOpen
import Derived.Laws.ResultCell
import Derived.Deep.QuietTactic
import Derived.Deep.RegionHeld3
import Derived.Deep.AppendLies
import Derived.Test.YtiibknlpeodejaaGreatDoorQ0
set_option linter.unusedSimpArgs false
set_option linter.unusedVariables false
/- term.measured: a good round. -/
namespace Go.Proofs.YtiibknlpeodejaaGreatDoor
open Go.Lx Go.RowKit

section
variable {w0 : World} {t : List Nd} {b off c n k : Nat} {va vo : Value} {all op : List (Nat × Nat)}
theorem measCells_drop (l : List (Nat × Nat)) (k : Nat) : measCells (l.drop k) = (measCells l).drop (k * 2) := by
  induction k generalizing l with
  | zero => simp
  | succ k ih => cases l with
    | nil => simp [measCells]
    | cons x l => rw [List.drop_succ_cons, ih, show (k + 1) * 2 = k * 2 + 2 by omega]; rfl
theorem measCells_take (l : List (Nat × Nat)) (k : Nat) : measCells (l.take k) = (measCells l).take (k * 2) := by
  induction k generalizing l with
  | zero => simp [measCells]
  | succ k ih => cases l with
    | nil => simp [measCells]
    | cons x l => rw [List.take_succ_cons, show (k + 1) * 2 = k * 2 + 2 by omega]; simp [measCells, ih]
/-- What is open is cut. -/
inductive OpenAt (vo : Value) (kk bl : Nat) : Prop
  | nil (h : vo = .slice none 0 0) (hk : kk = 0) (hb : bl = 0)
  | full (g : Nat) (h : vo = .slice (some ⟨g, 0, none⟩) kk kk) (hb : bl = 0)
  | some (g co : Nat) (h : vo = .slice (some ⟨g, 0, none⟩) (kk + bl) co) (hc : kk + bl ≤ co) (hk : kk < co) (hco : co ≤ maxLen)
set_option maxRecDepth 100000 in
set_option maxHeartbeats 4000000 in
theorem ms_one {x : Nd} {kk bl : Nat} (hk : k < n) (hn : n ≤ 4000) (hx : t[k]? = some x) (hr : rightB x = true) (hbl : (binds x).length = bl) (hkk : op.length = kk + bl) (hd : ∀ y ∈ op, y.2 ≤ 4000) (J : Nat → Value) (w : World) (hM : MI w0 t va vo k all op w)
    (hR : ∀ w1, Under w0 w1 → Calls Tryz.prog 58 #[ndV x] w1 fun e w' => e = .returned (.bool true) ∧ Under w1 w')
    (hN : ∀ w1, Under w0 w1 → Calls Tryz.prog 60 #[ndV x] w1 fun e w' => e = .returned (.int .i64 (bl : Nat)) ∧ Under w1 w')
    (hb : b < w0.heap.size) (c0 : w0.cell? ⟨b, off + k * 4, none⟩ = some (.int .i64 x.k)) (c1 : w0.cell? ⟨b, off + k * 4 + 1, none⟩ = some (.int .i64 x.n)) (c2 : w0.cell? ⟨b, off + k * 4 + 2, none⟩ = some (.int .i64 x.m)) (c3 : w0.cell? ⟨b, off + k * 4 + 3, none⟩ = some (.string x.s)) :
    msRound.wp Tryz.prog (Exit.then (MNext w0 t (.slice (some ⟨b, off, none⟩) n c) n (k + 1)) (fun _ _ _ => False)) ⟨msFrame (.slice (some ⟨b, off, none⟩) n c) va vo n k J, []⟩ w := by
  obtain ⟨i0, hi, hz0, hz1, hz2⟩ := info_parts Tryz.info117
  rw [← under_cell hM.low hb] at c0 c1 c2 c3
  have hb' := Nat.lt_of_lt_of_le hb hM.low.size
  have hO : OpenAt vo kk bl := by
    rcases hM.op_.2 with ⟨rfl, h0⟩ | ⟨g, co, cur, rfl, hgb, hgg, hle, hml, _⟩
    · exact .nil rfl (by omega) (by omega)
    · rw [hkk] at hle ⊢
      by_cases hc : kk < co
      · exact .some g co rfl hle hc hml
      · obtain rfl : bl = 0 := by omega
        obtain rfl : co = kk := by omega
        exact .full g rfl rfl
  have HB := Lib.hid (box_new w #[.int .i64 x.k, .int .i64 x.n, .int .i64 x.m, .string x.s] 38)
  have HU := Lib.hid (under_alloc hM.low (.cells #[.int .i64 x.k, .int .i64 x.n, .int .i64 x.m, .string x.s] 38))
  have HC := Lib.hid (hR _ HU.out)
  have HN := Lib.hid hN
  have HM := Lib.hid hM
  have HK := Lib.hid hkk
  have HD := Lib.hid hd
  have hk' : (k : Int) < n := by omega
  have hk0 : (0 : Int) ≤ k := Int.natCast_nonneg _
  have hol : kk + bl ≤ 4000 := by have := hM.ol; omega
  have hbl8 : bl ≤ 8 := by have := binds_len hr; omega
  have HX := Lib.hid hx
  have HR := Lib.hid hr
  have HBL := Lib.hid hbl
  clear hM hR hN hk hkk hd hx hr hbl
  rcases hO with ⟨rfl, rfl, rfl⟩ | ⟨g, rfl, rfl⟩ | ⟨g, co, rfl, hc, hkc, hco⟩
  · unfold msRound msLoop msText
    simp only [Tryz.f70, Option.getD_some, fstOf, sndOf, inOf]
    unfold msFrame
    go_wp2_with fail
    refine HC.out.mono ?_
    rintro e w1 ⟨rfl, hU1⟩
    have hB1 := HB.out.under hU1
    have e0 := hB1.cell 0
    have e1 := hB1.cell 1
    have e2 := hB1.cell 2
    have e3 := hB1.cell 3
    have hlt1 := hB1.lt
    have HU1 := Lib.hid hU1
    have HB1 := Lib.hid hB1
    have HM1 := Lib.hid (HN.out w1 (HU.out.trans hU1))
    clear hU1 hB1
    go_wp2_with fail
    refine HM1.out.mono ?_
    rintro e w2 ⟨rfl, hU2⟩
    have hB2 := HB1.out.under hU2
    have HU2 := Lib.hid hU2
    have HM2 := Lib.hid (HN.out w2 ((HU.out.trans HU1.out).trans hU2))
    clear e0 e1 e2 e3
    have e0 := hB2.cell 0
    have e1 := hB2.cell 1
    have e2 := hB2.cell 2
    have e3 := hB2.cell 3
    have hlt2 := hB2.lt
    clear hU2 hB2
    go_wp2_with fail
    refine HM2.out.mono ?_
    rintro e w3 ⟨rfl, hU3⟩
    have HU3 := Lib.hid hU3
    clear e0 e1 e2 e3 hU3
    go_wp2
    rename_i K hK
    have hUw3 := ((HU.out.trans HU1.out).trans HU2.out).trans HU3.out
    have hUw := ((under_alloc (Under.refl w) (.cells #[.int .i64 x.k, .int .i64 x.n, .int .i64 x.m, .string x.s] 38)).trans HU1.out).trans (HU2.out.trans HU3.out)
    have hls : (op.drop 0).length = 0 := by have := HK.out; rw [List.length_drop]; omega
    have hA3 := row_under HM.out.all_ hUw
    have HL := fun p1 c1 => mi_rounds (W1 := w3) (l := .slice (some ⟨b, off, none⟩) n c) (va := va) (vo := .slice none 0 0) (n := n) (k := k) (kk := 0) (b9 := w3.heap.size) (op.drop 0) (p := p1) (c := c1) (i := k) (by omega) (Nat.le_refl _) (fun y hy => HD.out y (List.mem_of_mem_drop hy))
      (fun hne => absurd (List.eq_nil_of_length_eq_zero (by rw [measCells_len, hls])) hne)
    simp only [hls] at HL
    refine wp_mono (HL _ _ 0 _ _ ⟨0, by omega, frame_ex (F := miFrame _ _ _ _ _ _ _ _ 0 0) (by rfl) ⟨under_alloc (Under.refl _) _, box_new w3 _ _⟩⟩) ?_
    rintro e a' w4 ⟨rfl, J', rfl, hU4, hB4⟩
    simp only [Exit.inBlock, if_pos, Exit.then]
    refine hK _ _ ?_
    clear hK HL
    have hm4 : meas k (op.drop 0) = meas k (op.drop 0) := rfl
    generalize hf : (meas k (op.drop 0)).1 = f at hB4
    generalize hd : (meas k (op.drop 0)).2 = d at hB4
    have hO4 := World.ownsRow_nil w4 w0.heap.size 117 2
    have hA4 := row_under hA3 hU4
    have e0 := hB4.cell 0
    have e1 := hB4.cell 1
    have h9 := hB4.lt
    have hb4 := Nat.le_trans hUw3.size hU4.size
    have hu4 := hUw3.trans hU4
    have hmx : 0 + 1 ≤ maxLen := by simp only [maxLen]; omega
    have hby : (0 + 1) * 16 ≤ 140737488355328 := by omega
    have HM4 := Lib.hid hm4
    have HF := Lib.hid hf
    have HDd := Lib.hid hd
    have HO4 := Lib.hid hO4
    have HA4 := Lib.hid hA4
    have HU4 := Lib.hid hu4
    have HB4 := Lib.hid hB4
    clear hm4 hf hd hO4 hA4 hu4 hB4 hA3 hUw hUw3 hls hU4
    unfold miFrame
    go_wp2_with fail
    go_region_held3 (fun w' => w'.cell? ⟨w3.heap.size, 0, none⟩ = some (.int .i64 (f : Int)) ∧ w'.cell? ⟨w3.heap.size, 1, none⟩ = some (.int .i64 (d : Int)))
      (first
        | go_keep
        | (go_split_ands
           refine ⟨?_, ?_⟩
           · (rw [hgrow.cell_far _ (by simp; omega) (by simp [Value.ownBlock] <;> omega)]; assumption)
           · (rw [hgrow.cell_far _ (by simp; omega) (by simp [Value.ownBlock] <;> omega)]; assumption)))
      ((refine step_append_lies _ (by rfl) _ _ _ (by rfl) w0.heap.size 117 i0 _ 2 16 Tryz.underlying78 hi hz0 hz1 hz2 rfl (by omega) (.slice none 0 0) 0 [] (by rfl) ((HO4.out.alloc _).drew)
          ⟨w4.heap.size, 0, none⟩ 1 1 [.int .i64 (f : Int), .int .i64 (d : Int)] (by rfl) (by rfl) (World.news_of_block (cs := #[.int .i64 (f : Int), .int .i64 (d : Int)]) (t := 117) (fr := (0, 0)) (box_new w4 _ _)) (by simp [Value.oneCell'])
          (by omega) hmx hby (by simp; omega) (w4.heap.size + 1) (by simp) ?_; intro gg cc w5 hown5 hgrow hat hlt))
    have hne5 : va.ownBlock = none ∨ va.ownBlock ≠ (Value.slice none 0 0).ownBlock := HM.out.ne
    have hA5 := row_grown ((HA4.out.alloc _).drew) hgrow hne5
    have hB5 := ((HB4.out.alloc _).drew).grown hgrow (by simp [Value.ownBlock] <;> omega)
    have hU5 := under_grown (under_drew (under_alloc HU4.out _)) hgrow (fun g' e => by cases e)
    clear e0 e1
    have e0 := hB5.cell 0
    have e1 := hB5.cell 1
    have h95 := hB5.lt
    have hz5 := hU5.size
    have hgg : va.ownBlock = none ∨ va.ownBlock ≠ some gg := by
      rcases hat with e | rfl
      · rw [← e]; exact hne5
      · cases hv : va.ownBlock with
        | none => exact .inl rfl
        | some g' => right; intro e; cases e; have := (row_lt HA4.out hv).2; omega
    have hk4 : all.length + 1 ≤ maxLen := by have := HM.out.al; simp only [maxLen]; omega
    have hb4 : (all.length + 1) * 16 ≤ 140737488355328 := by have := HM.out.al; omega
    have HA5 := Lib.hid hA5
    have HU5 := Lib.hid hU5
    have HO5 := Lib.hid hown5
    have HG := Lib.hid hgg
    clear hA5 hB5 hU5 hown5 hgg hne5 hat hgrow
    go_wp2_with (at_builtin; refine wpList_append_own_at _ rfl _ _ 78 rfl w0.heap.size 117 i0 _ 2 16 Tryz.underlying78 hi hz0 hz1 hz2 rfl (by decide) _ _ _ rfl (HA5.out.alloc _) ⟨w5.heap.size, 0, none⟩ 1 1 [.int .i64 (f : Int), .int .i64 (d : Int)] rfl rfl ?c1 ?c2 hk4 hb4 ?c5 ?_)
    case c1 =>
      intro j u hj
      match j, hj with
      | 0, hj => cases hj; simp [Addr.add]
      | 1, hj => cases hj; simp [Addr.add]
    case c2 => intro u hu; simp at hu; rcases hu with rfl | rfl <;> rfl
    case c5 => simp; omega
    intro v' w6 hown6 hgrow6 hnil6 hat6
    have hO6 := row_grown (HO5.out.alloc (.cells #[.int .i64 (f : Int), .int .i64 (d : Int)] 117)) hgrow6 (by
      rcases HG.out with e | e
      · right; rw [e]; simp [Value.ownBlock]
      · right; exact fun e' => e e'.symm)
    have hne6 : v'.ownBlock = none ∨ v'.ownBlock ≠ (Value.slice (some ⟨gg, 0, none⟩) (0 + 1) cc).ownBlock := by
      rcases hat6 with e | e
      · rw [e]; exact HG.out
      · right; rw [e]; have := hlt; simp [Value.ownBlock]; omega
    have hU6 := under_grown (under_alloc HU5.out (.cells #[.int .i64 (f : Int), .int .i64 (d : Int)] 117)) hgrow6 (fun g' e => (row_lt HA5.out e).1)
    have HM6 : MI w0 t v' (.slice (some ⟨gg, 0, none⟩) (0 + 1) cc) (k + 1) (all ++ [(f, d)]) (op.take 0 ++ [(f, d)]) w6 := by
      have htl : (op.take 0 ++ [(f, d)]).length = 0 + 1 := by rw [List.length_append, List.length_take, HK.out]; simp
      refine ⟨by rw [List.length_append, measCells_app]; exact hown6, by rw [htl, measCells_app, measCells_take]; exact hO6, hne6, hU6, ?_, by rw [List.length_append, HM.out.al]; rfl, by rw [htl]; have := HM.out.ol; rw [HK.out] at this; omega, fun y hy => by
        rcases List.mem_append.1 hy with h | h
        · have := HM.out.dp y (List.mem_of_mem_take h); omega
        · rw [List.mem_singleton.1 h]; show d ≤ k + 1; rw [← HDd.out]; exact meas_le fun y hy => HM.out.dp y (List.mem_of_mem_drop hy)⟩
      rw [← HM.out.res]
      obtain ⟨hkt, hx⟩ := List.getElem?_eq_some_iff.1 HX.out
      rw [List.drop_eq_getElem_cons hkt, hx]
      show _ = if rightB x = false ∨ op.length < (binds x).length then none else measGo (t.drop (k + 1)) (k + 1) (all ++ [meas k (op.drop (op.length - (binds x).length))]) (op.take (op.length - (binds x).length) ++ [meas k (op.drop (op.length - (binds x).length))])
      have e : op.length - (binds x).length = 0 := by have h1 := HK.out; have h2 := HBL.out; omega
      have e' : meas k (op.drop 0) = (f, d) := Prod.ext HF.out HDd.out
      rw [if_neg (by rw [HR.out, HK.out, HBL.out]; simp), e, e']
    have HM7 := Lib.hid HM6
    clear hO6 hne6 hU6 HM6 hown6 hgrow6 hnil6 hat6
    go_wp2
    exact ⟨v', _, _, _, frame_ex (F := msFrame _ v' _ n (k + 1)) (by rfl) HM7.out⟩
  · unfold msRound msLoop msText
    simp only [Tryz.f70, Option.getD_some, fstOf, sndOf, inOf]
    unfold msFrame
    have i1 : (0 : Int) ≤ kk := Int.natCast_nonneg _
    have i3 : (kk : Int) ≤ 4000 := by omega
    go_wp2_with fail
    refine HC.out.mono ?_
    rintro e w1 ⟨rfl, hU1⟩
    have hB1 := HB.out.under hU1
    have e0 := hB1.cell 0
    have e1 := hB1.cell 1
    have e2 := hB1.cell 2
    have e3 := hB1.cell 3
    have hlt1 := hB1.lt
    have HU1 := Lib.hid hU1
    have HB1 := Lib.hid hB1
    have HM1 := Lib.hid (HN.out w1 (HU.out.trans hU1))
    clear hU1 hB1
    go_wp2_with fail
    refine HM1.out.mono ?_
    rintro e w2 ⟨rfl, hU2⟩
    have hB2 := HB1.out.under hU2
    have HU2 := Lib.hid hU2
    have HM2 := Lib.hid (HN.out w2 ((HU.out.trans HU1.out).trans hU2))
    clear e0 e1 e2 e3
    have e0 := hB2.cell 0
    have e1 := hB2.cell 1
    have e2 := hB2.cell 2
    have e3 := hB2.cell 3
    have hlt2 := hB2.lt
    clear hU2 hB2
    go_wp2_with fail
    refine HM2.out.mono ?_
    rintro e w3 ⟨rfl, hU3⟩
    have HU3 := Lib.hid hU3
    clear e0 e1 e2 e3 hU3
    go_wp2
    rename_i K hK
    have hUw3 := ((HU.out.trans HU1.out).trans HU2.out).trans HU3.out
    have hUw := ((under_alloc (Under.refl w) (.cells #[.int .i64 x.k, .int .i64 x.n, .int .i64 x.m, .string x.s] 38)).trans HU1.out).trans (HU2.out.trans HU3.out)
    have hls : (op.drop kk).length = 0 := by have := HK.out; rw [List.length_drop]; omega
    have hO3 := row_under HM.out.op_ hUw
    rw [HK.out] at hO3
    have hA3 := row_under HM.out.all_ hUw
    have hgl : g < w3.heap.size := (row_lt hO3 rfl).2
    have HL := fun p1 c1 => mi_rounds (W1 := w3) (l := .slice (some ⟨b, off, none⟩) n c) (va := va) (vo := .slice (some ⟨g, 0, none⟩) kk kk) (n := n) (k := k) (kk := kk) (b9 := w3.heap.size) (op.drop kk) (p := p1) (c := c1) (i := k) (by omega) (Nat.le_refl _) (fun y hy => HD.out y (List.mem_of_mem_drop hy))
      (fun hne => absurd (List.eq_nil_of_length_eq_zero (by rw [measCells_len, hls])) hne)
    simp only [hls] at HL
    refine wp_mono (HL _ _ 0 _ _ ⟨0, by omega, frame_ex (F := miFrame _ _ _ _ _ _ _ _ 0 0) (by rfl) ⟨under_alloc (Under.refl _) _, box_new w3 _ _⟩⟩) ?_
    rintro e a' w4 ⟨rfl, J', rfl, hU4, hB4⟩
    simp only [Exit.inBlock, if_pos, Exit.then]
    refine hK _ _ ?_
    clear hK HL
    have hm4 : meas k (op.drop kk) = meas k (op.drop kk) := rfl
    generalize hf : (meas k (op.drop kk)).1 = f at hB4
    generalize hd : (meas k (op.drop kk)).2 = d at hB4
    have hO4 := row_cut (row_under hO3 hU4) (m := kk) (Nat.le_refl kk)
    have hA4 := row_under hA3 hU4
    have e0 := hB4.cell 0
    have e1 := hB4.cell 1
    have h9 := hB4.lt
    have hgl4 := Nat.lt_of_lt_of_le hgl hU4.size
    have hb4 := Nat.le_trans hUw3.size hU4.size
    have hu4 := hUw3.trans hU4
    have hmx : kk + 1 ≤ maxLen := by simp only [maxLen]; omega
    have hby : (kk + 1) * 16 ≤ 140737488355328 := by omega
    have hgne : g ≠ w3.heap.size := by omega
    have HM4 := Lib.hid hm4
    have HF := Lib.hid hf
    have HDd := Lib.hid hd
    have HO4 := Lib.hid hO4
    have HA4 := Lib.hid hA4
    have HU4 := Lib.hid hu4
    have HB4 := Lib.hid hB4
    clear hm4 hf hd hO4 hA4 hu4 hB4 hO3 hA3 hUw hUw3 hls hU4
    unfold miFrame
    go_wp2_with fail
    go_region_held3 (fun w' => w'.cell? ⟨w3.heap.size, 0, none⟩ = some (.int .i64 (f : Int)) ∧ w'.cell? ⟨w3.heap.size, 1, none⟩ = some (.int .i64 (d : Int)))
      (first
        | go_keep
        | (go_split_ands
           refine ⟨?_, ?_⟩
           · (rw [hgrow.cell_far _ (by simp; omega) (by simp [Value.ownBlock] <;> omega)]; assumption)
           · (rw [hgrow.cell_far _ (by simp; omega) (by simp [Value.ownBlock] <;> omega)]; assumption)))
      ((refine step_append_lies _ (by rfl) _ _ _ (by rfl) w0.heap.size 117 i0 _ 2 16 Tryz.underlying78 hi hz0 hz1 hz2 rfl (by omega) (.slice (some ⟨g, 0, none⟩) kk kk) kk ((measCells op).take (kk * 2)) (by rfl) ((HO4.out.alloc _).drew)
          ⟨w4.heap.size, 0, none⟩ 1 1 [.int .i64 (f : Int), .int .i64 (d : Int)] (by rfl) (by rfl) (World.news_of_block (cs := #[.int .i64 (f : Int), .int .i64 (d : Int)]) (t := 117) (fr := (0, 0)) (box_new w4 _ _)) (by simp [Value.oneCell'])
          (by omega) hmx hby (by simp; omega) (w4.heap.size + 1) (by simp) ?_; intro gg cc w5 hown5 hgrow hat hlt))
    have hne5 : va.ownBlock = none ∨ va.ownBlock ≠ (Value.slice (some ⟨g, 0, none⟩) kk kk).ownBlock := HM.out.ne
    have hA5 := row_grown ((HA4.out.alloc _).drew) hgrow hne5
    have hB5 := ((HB4.out.alloc _).drew).grown hgrow (by simp [Value.ownBlock] <;> omega)
    have hU5 := under_grown (under_drew (under_alloc HU4.out _)) hgrow (fun g' e => (row_lt HO4.out e).1)
    clear e0 e1
    have e0 := hB5.cell 0
    have e1 := hB5.cell 1
    have h95 := hB5.lt
    have hz5 := hU5.size
    have hgg : va.ownBlock = none ∨ va.ownBlock ≠ some gg := by
      rcases hat with e | rfl
      · rw [← e]; exact hne5
      · cases hv : va.ownBlock with
        | none => exact .inl rfl
        | some g' => right; intro e; cases e; have := (row_lt HA4.out hv).2; omega
    have hk4 : all.length + 1 ≤ maxLen := by have := HM.out.al; simp only [maxLen]; omega
    have hb4 : (all.length + 1) * 16 ≤ 140737488355328 := by have := HM.out.al; omega
    have HA5 := Lib.hid hA5
    have HU5 := Lib.hid hU5
    have HO5 := Lib.hid hown5
    have HG := Lib.hid hgg
    clear hA5 hB5 hU5 hown5 hgg hne5 hat hgrow
    go_wp2_with (at_builtin; refine wpList_append_own_at _ rfl _ _ 78 rfl w0.heap.size 117 i0 _ 2 16 Tryz.underlying78 hi hz0 hz1 hz2 rfl (by decide) _ _ _ rfl (HA5.out.alloc _) ⟨w5.heap.size, 0, none⟩ 1 1 [.int .i64 (f : Int), .int .i64 (d : Int)] rfl rfl ?c1 ?c2 hk4 hb4 ?c5 ?_)
    case c1 =>
      intro j u hj
      match j, hj with
      | 0, hj => cases hj; simp [Addr.add]
      | 1, hj => cases hj; simp [Addr.add]
    case c2 => intro u hu; simp at hu; rcases hu with rfl | rfl <;> rfl
    case c5 => simp; omega
    intro v' w6 hown6 hgrow6 hnil6 hat6
    have hO6 := row_grown (HO5.out.alloc (.cells #[.int .i64 (f : Int), .int .i64 (d : Int)] 117)) hgrow6 (by
      rcases HG.out with e | e
      · right; rw [e]; simp [Value.ownBlock]
      · right; exact fun e' => e e'.symm)
    have hne6 : v'.ownBlock = none ∨ v'.ownBlock ≠ (Value.slice (some ⟨gg, 0, none⟩) (kk + 1) cc).ownBlock := by
      rcases hat6 with e | e
      · rw [e]; exact HG.out
      · right; rw [e]; have := hlt; simp [Value.ownBlock]; omega
    have hU6 := under_grown (under_alloc HU5.out (.cells #[.int .i64 (f : Int), .int .i64 (d : Int)] 117)) hgrow6 (fun g' e => (row_lt HA5.out e).1)
    have HM6 : MI w0 t v' (.slice (some ⟨gg, 0, none⟩) (kk + 1) cc) (k + 1) (all ++ [(f, d)]) (op.take kk ++ [(f, d)]) w6 := by
      have htl : (op.take kk ++ [(f, d)]).length = kk + 1 := by rw [List.length_append, List.length_take, HK.out]; simp
      refine ⟨by rw [List.length_append, measCells_app]; exact hown6, by rw [htl, measCells_app, measCells_take]; exact hO6, hne6, hU6, ?_, by rw [List.length_append, HM.out.al]; rfl, by rw [htl]; have := HM.out.ol; rw [HK.out] at this; omega, fun y hy => by
        rcases List.mem_append.1 hy with h | h
        · have := HM.out.dp y (List.mem_of_mem_take h); omega
        · rw [List.mem_singleton.1 h]; show d ≤ k + 1; rw [← HDd.out]; exact meas_le fun y hy => HM.out.dp y (List.mem_of_mem_drop hy)⟩
      rw [← HM.out.res]
      obtain ⟨hkt, hx⟩ := List.getElem?_eq_some_iff.1 HX.out
      rw [List.drop_eq_getElem_cons hkt, hx]
      show _ = if rightB x = false ∨ op.length < (binds x).length then none else measGo (t.drop (k + 1)) (k + 1) (all ++ [meas k (op.drop (op.length - (binds x).length))]) (op.take (op.length - (binds x).length) ++ [meas k (op.drop (op.length - (binds x).length))])
      have e : op.length - (binds x).length = kk := by have h1 := HK.out; have h2 := HBL.out; omega
      have e' : meas k (op.drop kk) = (f, d) := Prod.ext HF.out HDd.out
      rw [if_neg (by rw [HR.out, HK.out, HBL.out]; simp), e, e']
    have HM7 := Lib.hid HM6
    clear hO6 hne6 hU6 HM6 hown6 hgrow6 hnil6 hat6
    go_wp2
    exact ⟨v', _, _, _, frame_ex (F := msFrame _ v' _ n (k + 1)) (by rfl) HM7.out⟩
  · unfold msRound msLoop msText
    simp only [Tryz.f70, Option.getD_some, fstOf, sndOf, inOf]
    unfold msFrame
    have i1 : (0 : Int) ≤ kk := Int.natCast_nonneg _
    have i2 : (0 : Int) ≤ bl := Int.natCast_nonneg _
    have i3 : (kk : Int) + bl ≤ 4000 := by omega
    have i4 : (kk : Int) ≤ co := by omega
    have i5 : (kk : Int) + bl ≤ co := by omega
    have i6 : ¬ co = kk := by omega
    go_wp2_with fail
    refine HC.out.mono ?_
    rintro e w1 ⟨rfl, hU1⟩
    have hB1 := HB.out.under hU1
    have e0 := hB1.cell 0
    have e1 := hB1.cell 1
    have e2 := hB1.cell 2
    have e3 := hB1.cell 3
    have hlt1 := hB1.lt
    have HU1 := Lib.hid hU1
    have HB1 := Lib.hid hB1
    have HM1 := Lib.hid (HN.out w1 (HU.out.trans hU1))
    clear hU1 hB1
    go_wp2_with fail
    refine HM1.out.mono ?_
    rintro e w2 ⟨rfl, hU2⟩
    have hB2 := HB1.out.under hU2
    have HU2 := Lib.hid hU2
    have HM2 := Lib.hid (HN.out w2 ((HU.out.trans HU1.out).trans hU2))
    clear e0 e1 e2 e3
    have e0 := hB2.cell 0
    have e1 := hB2.cell 1
    have e2 := hB2.cell 2
    have e3 := hB2.cell 3
    have hlt2 := hB2.lt
    clear hU2 hB2
    go_wp2_with fail
    refine HM2.out.mono ?_
    rintro e w3 ⟨rfl, hU3⟩
    have HU3 := Lib.hid hU3
    clear e0 e1 e2 e3 hU3
    go_wp2
    rename_i K hK
    have hUw3 := ((HU.out.trans HU1.out).trans HU2.out).trans HU3.out
    have hUw := ((under_alloc (Under.refl w) (.cells #[.int .i64 x.k, .int .i64 x.n, .int .i64 x.m, .string x.s] 38)).trans HU1.out).trans (HU2.out.trans HU3.out)
    have hls : (op.drop kk).length = bl := by rw [List.length_drop, HK.out]; omega
    have hO3 := row_under HM.out.op_ hUw
    rw [HK.out] at hO3
    have hA3 := row_under HM.out.all_ hUw
    have hgl : g < w3.heap.size := (row_lt hO3 rfl).2
    have HL := mi_rounds (W1 := w3) (l := .slice (some ⟨b, off, none⟩) n c) (va := va) (vo := .slice (some ⟨g, 0, none⟩) (kk + bl) co) (n := n) (k := k) (kk := kk) (b9 := w3.heap.size) (op.drop kk) (p := some ⟨g, kk * 2, none⟩) (c := co - kk) (i := k) (by omega) (Nat.le_refl _) (fun y hy => HD.out y (List.mem_of_mem_drop hy))
      (fun _ => ⟨g, kk * 2, rfl, hgl, fun j u hj => row_cell hO3 rfl (by rw [measCells_drop, List.getElem?_drop] at hj; exact hj)⟩)
    rw [hls] at HL
    refine wp_mono (HL bl _ _ ⟨0, by omega, frame_ex (F := miFrame _ _ _ _ _ _ _ _ bl 0) (by rfl) ⟨under_alloc (Under.refl _) _, box_new w3 _ _⟩⟩) ?_
    rintro e a' w4 ⟨rfl, J', rfl, hU4, hB4⟩
    simp only [Exit.inBlock, if_pos, Exit.then]
    refine hK _ _ ?_
    clear hK HL
    have hm4 : meas k (op.drop kk) = meas k (op.drop kk) := rfl
    generalize hf : (meas k (op.drop kk)).1 = f at hB4
    generalize hd : (meas k (op.drop kk)).2 = d at hB4
    have hO4 := row_cut (row_under hO3 hU4) (m := kk) (Nat.le_add_right kk bl)
    have hA4 := row_under hA3 hU4
    have e0 := hB4.cell 0
    have e1 := hB4.cell 1
    have h9 := hB4.lt
    have hgl4 := Nat.lt_of_lt_of_le hgl hU4.size
    have hb4 := Nat.le_trans hUw3.size hU4.size
    have hu4 := hUw3.trans hU4
    have hmx : kk + 1 ≤ maxLen := by simp only [maxLen]; omega
    have hby : (kk + 1) * 16 ≤ 140737488355328 := by omega
    have hgne : g ≠ w3.heap.size := by omega
    have HM4 := Lib.hid hm4
    have HF := Lib.hid hf
    have HDd := Lib.hid hd
    have HO4 := Lib.hid hO4
    have HA4 := Lib.hid hA4
    have HU4 := Lib.hid hu4
    have HB4 := Lib.hid hB4
    clear hm4 hf hd hO4 hA4 hu4 hB4 hO3 hA3 hUw hUw3 hls hU4
    unfold miFrame
    go_wp2_with fail
    go_region_held3 (fun w' => w'.cell? ⟨w3.heap.size, 0, none⟩ = some (.int .i64 (f : Int)) ∧ w'.cell? ⟨w3.heap.size, 1, none⟩ = some (.int .i64 (d : Int)))
      (first
        | go_keep
        | (go_split_ands
           refine ⟨?_, ?_⟩
           · (rw [hgrow.cell_far _ (by simp; omega) (by simp [Value.ownBlock] <;> omega)]; assumption)
           · (rw [hgrow.cell_far _ (by simp; omega) (by simp [Value.ownBlock] <;> omega)]; assumption)))
      ((refine step_append_lies _ (by rfl) _ _ _ (by rfl) w0.heap.size 117 i0 _ 2 16 Tryz.underlying78 hi hz0 hz1 hz2 rfl (by omega) (.slice (some ⟨g, 0, none⟩) kk co) kk ((measCells op).take (kk * 2)) (by rfl) ((HO4.out.alloc _).drew)
          ⟨w4.heap.size, 0, none⟩ 1 1 [.int .i64 (f : Int), .int .i64 (d : Int)] (by rfl) (by rfl) (World.news_of_block (cs := #[.int .i64 (f : Int), .int .i64 (d : Int)]) (t := 117) (fr := (0, 0)) (box_new w4 _ _)) (by simp [Value.oneCell'])
          (by omega) hmx hby (by simp; omega) (w4.heap.size + 1) (by simp) ?_; intro gg cc w5 hown5 hgrow hat hlt))
    have hne5 : va.ownBlock = none ∨ va.ownBlock ≠ (Value.slice (some ⟨g, 0, none⟩) kk co).ownBlock := HM.out.ne
    have hA5 := row_grown ((HA4.out.alloc _).drew) hgrow hne5
    have hB5 := ((HB4.out.alloc _).drew).grown hgrow (by simp [Value.ownBlock] <;> omega)
    have hU5 := under_grown (under_drew (under_alloc HU4.out _)) hgrow (fun g' e => (row_lt HO4.out e).1)
    clear e0 e1
    have e0 := hB5.cell 0
    have e1 := hB5.cell 1
    have h95 := hB5.lt
    have hz5 := hU5.size
    have hgg : va.ownBlock = none ∨ va.ownBlock ≠ some gg := by
      rcases hat with e | rfl
      · rw [← e]; exact hne5
      · cases hv : va.ownBlock with
        | none => exact .inl rfl
        | some g' => right; intro e; cases e; have := (row_lt HA4.out hv).2; omega
    have hk4 : all.length + 1 ≤ maxLen := by have := HM.out.al; simp only [maxLen]; omega
    have hb4 : (all.length + 1) * 16 ≤ 140737488355328 := by have := HM.out.al; omega
    have HA5 := Lib.hid hA5
    have HU5 := Lib.hid hU5
    have HO5 := Lib.hid hown5
    have HG := Lib.hid hgg
    clear hA5 hB5 hU5 hown5 hgg hne5 hat hgrow
    go_wp2_with (at_builtin; refine wpList_append_own_at _ rfl _ _ 78 rfl w0.heap.size 117 i0 _ 2 16 Tryz.underlying78 hi hz0 hz1 hz2 rfl (by decide) _ _ _ rfl (HA5.out.alloc _) ⟨w5.heap.size, 0, none⟩ 1 1 [.int .i64 (f : Int), .int .i64 (d : Int)] rfl rfl ?c1 ?c2 hk4 hb4 ?c5 ?_)
    case c1 =>
      intro j u hj
      match j, hj with
      | 0, hj => cases hj; simp [Addr.add]
      | 1, hj => cases hj; simp [Addr.add]
    case c2 => intro u hu; simp at hu; rcases hu with rfl | rfl <;> rfl
    case c5 => simp; omega
    intro v' w6 hown6 hgrow6 hnil6 hat6
    have hO6 := row_grown (HO5.out.alloc (.cells #[.int .i64 (f : Int), .int .i64 (d : Int)] 117)) hgrow6 (by
      rcases HG.out with e | e
      · right; rw [e]; simp [Value.ownBlock]
      · right; exact fun e' => e e'.symm)
    have hne6 : v'.ownBlock = none ∨ v'.ownBlock ≠ (Value.slice (some ⟨gg, 0, none⟩) (kk + 1) cc).ownBlock := by
      rcases hat6 with e | e
      · rw [e]; exact HG.out
      · right; rw [e]; have := hlt; simp [Value.ownBlock]; omega
    have hU6 := under_grown (under_alloc HU5.out (.cells #[.int .i64 (f : Int), .int .i64 (d : Int)] 117)) hgrow6 (fun g' e => (row_lt HA5.out e).1)
    have HM6 : MI w0 t v' (.slice (some ⟨gg, 0, none⟩) (kk + 1) cc) (k + 1) (all ++ [(f, d)]) (op.take kk ++ [(f, d)]) w6 := by
      have htl : (op.take kk ++ [(f, d)]).length = kk + 1 := by rw [List.length_append, List.length_take, HK.out]; simp
      refine ⟨by rw [List.length_append, measCells_app]; exact hown6, by rw [htl, measCells_app, measCells_take]; exact hO6, hne6, hU6, ?_, by rw [List.length_append, HM.out.al]; rfl, by rw [htl]; have := HM.out.ol; rw [HK.out] at this; omega, fun y hy => by
        rcases List.mem_append.1 hy with h | h
        · have := HM.out.dp y (List.mem_of_mem_take h); omega
        · rw [List.mem_singleton.1 h]; show d ≤ k + 1; rw [← HDd.out]; exact meas_le fun y hy => HM.out.dp y (List.mem_of_mem_drop hy)⟩
      rw [← HM.out.res]
      obtain ⟨hkt, hx⟩ := List.getElem?_eq_some_iff.1 HX.out
      rw [List.drop_eq_getElem_cons hkt, hx]
      show _ = if rightB x = false ∨ op.length < (binds x).length then none else measGo (t.drop (k + 1)) (k + 1) (all ++ [meas k (op.drop (op.length - (binds x).length))]) (op.take (op.length - (binds x).length) ++ [meas k (op.drop (op.length - (binds x).length))])
      have e : op.length - (binds x).length = kk := by have h1 := HK.out; have h2 := HBL.out; omega
      have e' : meas k (op.drop kk) = (f, d) := Prod.ext HF.out HDd.out
      rw [if_neg (by rw [HR.out, HK.out, HBL.out]; simp), e, e']
    have HM7 := Lib.hid HM6
    clear hO6 hne6 hU6 HM6 hown6 hgrow6 hnil6 hat6
    go_wp2
    exact ⟨v', _, _, _, frame_ex (F := msFrame _ v' _ n (k + 1)) (by rfl) HM7.out⟩
end
end Go.Proofs.YtiibknlpeodejaaGreatDoor

/- term.measured, look, Check: their contracts. -/
namespace Go.Proofs.YtiibknlpeodejaaGreatDoor
open Go.Lx Go.RowKit

section
variable {w0 : World} {t : List Nd} {c : Nat}
/-- What measured's loop comes to. -/
def MEnd (w0 : World) (t : List Nd) (l : Value) (e : Exit) (a : Act) (w : World) : Prop :=
  match measGo t 0 [] [] with
  | none => MBad w0 e a w
  | some _ => MDone w0 t l t.length e a w
theorem ms_rounds {p : Option Addr} (hn : t.length ≤ 4000) (hs : ∀ x ∈ t, x.s.size ≤ maxLen) (hp : RowArg w0 p (ndCells t)) (hS : ShapesAt 0 w0) (m : Nat) (a : Act) (w : World)
    (h0 : ∃ k, m + k = t.length ∧ MNext w0 t (.slice p t.length c) t.length k a w) :
    (Code.loop msRound).wp Tryz.prog (MEnd w0 t (.slice p t.length c)) a w := by
  refine wp_loop_ghost (fun m a w => ∃ k, m + k = t.length ∧ MNext w0 t (.slice p t.length c) t.length k a w) m h0 ?_
  clear h0
  rintro m a w ⟨k, hmk, va, vo, all, op, J, rfl, hM⟩
  by_cases hkn : k = t.length
  · subst hkn
    refine wp_mono (ms_done J w hM) ?_
    rintro e a' w' h
    have hr := hM.res
    rw [List.drop_length] at hr
    cases e with
    | normal => exact h.elim
    | _ => unfold MEnd; rw [← hr]; exact h
  have hlt : k < t.length := by omega
  obtain ⟨b, off, rfl, hb, c0, c1, c2, c3⟩ := hp.node (List.getElem?_eq_getElem hlt)
  have hx : t[k]? = some t[k] := List.getElem?_eq_getElem hlt
  have hR := fun w1 (hU : Under w0 w1) => right_any t[k] w1 (hs _ (List.getElem_mem hlt)) (hS.under hU)
  have hN := fun (hr : rightB t[k] = true) w1 (hU : Under w0 w1) => many_any t[k] w1 (hS.under hU) hr
  by_cases hbad : rightB t[k] = false ∨ op.length < (binds t[k]).length
  · have hnone : measGo t 0 [] [] = none := by
      rw [← hM.res, List.drop_eq_getElem_cons hlt]
      show (if rightB t[k] = false ∨ op.length < (binds t[k]).length then none else _) = none
      rw [if_pos hbad]
    refine wp_mono (ms_bad hlt hn hx hbad J w hM hR hN hb c0 c1 c2 c3) ?_
    rintro e a' w' h
    cases e with
    | normal => exact h.elim
    | _ => unfold MEnd; rw [hnone]; exact h
  · have hr : rightB t[k] = true := by cases h : rightB t[k] with
      | true => rfl
      | false => exact absurd (.inl h) hbad
    have hl : ¬ op.length < (binds t[k]).length := fun h => hbad (.inr h)
    rw [hr] at hR
    refine wp_mono (ms_one (kk := op.length - (binds t[k]).length) (bl := (binds t[k]).length) hlt hn hx hr rfl (by omega) (fun y hy => by have := hM.dp y hy; omega) J w hM hR (hN hr) hb c0 c1 c2 c3) ?_
    rintro e a' w' h
    cases e with
    | normal => exact ⟨m - 1, by omega, k + 1, by omega, h⟩
    | _ => exact h.elim
theorem measGo_len : ∀ (t : List Nd) (k : Nat) (all op : List (Nat × Nat)) {r : List (Nat × Nat) × List (Nat × Nat)}, all.length = k → op.length ≤ k → measGo t k all op = some r → r.1.length = k + t.length ∧ r.2.length ≤ k + t.length := by
  intro t
  induction t with
  | nil => intro k all op r h1 h2 h; cases h; exact ⟨h1, h2⟩
  | cons x t ih =>
    intro k all op r h1 h2 h
    simp only [measGo] at h
    split at h
    · cases h
    · have := ih (k + 1) _ _ (by rw [List.length_append, h1]; rfl) (by rw [List.length_append, List.length_take, List.length_singleton]; omega) h
      rw [List.length_cons]; omega
set_option maxRecDepth 100000 in
set_option maxHeartbeats 1000000 in
theorem measured_any (t : List Nd) {p : Option Addr} (hn : t.length ≤ 4000) (hs : ∀ x ∈ t, x.s.size ≤ maxLen) (hp : RowArg w0 p (ndCells t)) (hS : ShapesAt 0 w0) :
    Calls Tryz.prog 70 #[.slice p t.length c] w0 (MOut w0 t) := by
  have HL := Lib.hid (fun m a w h => ms_rounds (w0 := w0) (c := c) (t := t) hn hs hp hS m a w h)
  clear hp hs hS
  go_enter Tryz.func70, Tryz.ntmps70
  go_wp2
  rename_i K hK
  refine wp_mono (HL.out t.length _ _ ⟨0, by omega, .slice none 0 0, .slice none 0 0, [], [], frame_ex (F := msFrame _ _ _ _ 0) (by rfl) ⟨World.ownsRow_nil _ _ _ _, World.ownsRow_nil _ _ _ _, .inl rfl, Under.refl _, rfl, rfl, Nat.le_refl _, fun y hy => by simp at hy⟩⟩) ?_
  rintro e a' w' h
  unfold MEnd at h
  cases hR : measGo t 0 [] [] with
  | none =>
    rw [hR] at h
    obtain ⟨rfl, J, rfl, hU⟩ := h
    simp only [Exit.inBlock, Exit.then]
    go_ret2
    unfold MOut
    rw [hR]
    exact ⟨rfl, hU⟩
  | some r =>
    rw [hR] at h
    obtain ⟨rfl, va, vo, all, op, J, rfl, hM⟩ := h
    have hr := hM.res
    rw [List.drop_length, hR] at hr
    obtain rfl : (all, op) = r := Option.some.inj hr
    simp only [Exit.inBlock, if_pos, Exit.then]
    refine hK _ _ ?_
    clear hK
    obtain ⟨q, co, rfl, _, _⟩ := RowArg.of_own hM.op_
    have HM := Lib.hid hM
    have HR := Lib.hid hR
    have hol : op.length ≤ 4000 := by have := hM.ol; omega
    clear hM hR hr
    unfold msFrame
    go_wp2
    go_ret2
    unfold MOut
    rw [HR.out]
    exact ⟨va, rfl, HM.out.all_, HM.out.low⟩
/-- What look answers. -/
def LookOut (w0 : World) (t : List Nd) (e : Ending) (w : World) : Prop :=
  Under w0 w ∧ if checkE t = 0 then ∃ v all op, measGo t 0 [] [] = some (all, op) ∧ e = .returned (.tuple #[v, .int .i64 0]) ∧ w.ownsRow w0.heap.size 117 2 v all.length (measCells all)
    else e = .returned (.tuple #[.slice none 0 0, .int .i64 (checkE t)])
theorem look_err {w w1 : World} {e : Int} (h : checkE t = e) (he : e ≠ 0) (hU : Under w w1) : LookOut w t (.returned (.tuple #[.slice none 0 0, .int .i64 e])) w1 := ⟨hU, by rw [if_neg (by rw [h]; exact he), h]⟩
set_option maxRecDepth 100000 in
set_option maxHeartbeats 1000000 in
theorem look_any (t : List Nd) {p : Option Addr} (hn : t.length ≤ maxLen) (hs : ∀ x ∈ t, x.s.size ≤ maxLen) (hp : RowArg w0 p (ndCells t)) (hS : ShapesAt 0 w0) :
    Calls Tryz.prog 47 #[.slice p t.length c] w0 (LookOut w0 t) := by
  unfold maxLen at hn
  by_cases hbig : 4000 < t.length
  · have he : checkE t = 21 := by unfold checkE; rw [if_pos hbig]
    have HE := Lib.hid he
    clear he hp hs hS
    go_enter Tryz.func47, Tryz.ntmps47
    go_wp2
    go_ret2
    exact look_err HE.out (by decide) (Under.refl _)
  have HC := Lib.hid (measured_any (c := c) t (by omega) hs hp hS)
  clear hp hs hS
  cases hR : measGo t 0 [] [] with
  | none =>
    have he : checkE t = 20 := by unfold checkE; rw [if_neg hbig, hR]
    have HE := Lib.hid he
    have HR := Lib.hid hR
    clear he hR
    go_enter Tryz.func47, Tryz.ntmps47
    go_wp2_with fail
    refine HC.out.mono ?_
    intro e w1 h
    unfold MOut at h
    rw [HR.out] at h
    obtain ⟨rfl, hU⟩ := h
    have HU := Lib.hid hU
    clear hU
    go_wp2
    go_ret2
    exact look_err HE.out (by decide) HU.out
  | some r =>
    obtain ⟨all, op⟩ := r
    obtain ⟨hl1, hl2⟩ := measGo_len t 0 [] [] rfl (Nat.le_refl _) hR
    simp only [Nat.zero_add] at hl1 hl2
    by_cases ho : op.length = 1
    · have hd : ∃ m d f, all.length = m + 1 ∧ all.getLastD (0, 0) = (f, d) ∧ all[m]? = some (f, d) := by
        refine ⟨all.length - 1, _, _, by omega, rfl, ?_⟩
        cases all with
        | nil => simp at hl1; omega
        | cons y l => simp [List.getLast_eq_getElem]
      obtain ⟨m, d, f, hm, hg, ha⟩ := hd
      obtain ⟨ca, cb⟩ := measCells_at ha
      have he : checkE t = if 60 < d then 22 else 0 := by unfold checkE; rw [if_neg hbig, hR]; simp only [ho, hg]; simp
      have ho' : decide ((op.length : Int) = 1) = true := by rw [ho]; rfl
      have HE := Lib.hid he
      have HR := Lib.hid hR
      have HO := Lib.hid ho'
      have HB := Lib.hid cb
      have hm4 : m < 4000 := by omega
      have HMm := Lib.hid hm
      clear he hR ho ho' ca cb ha hg hl1 hl2 hm
      have hm0 : (0 : Int) ≤ m := Int.natCast_nonneg _
      by_cases h60 : 60 < d
      all_goals
        have h60' : decide ((60 : Int) < d) = decide (60 < d) := by simp; omega
        go_enter Tryz.func47, Tryz.ntmps47
        go_wp2_with fail
        refine HC.out.mono ?_
        intro e w1 h
        unfold MOut at h
        rw [HR.out] at h
        obtain ⟨v, rfl, hv, hU⟩ := h
        rw [HO.out]
        have hv' := hv
        rw [HMm.out] at hv
        obtain ⟨g, gc, rfl, hgo, _, hgl, _, _⟩ := row_block hv (by omega)
        have e1 := row_cell hv hgo HB.out
        have HU := Lib.hid hU
        have HV := Lib.hid hv'
        clear hU hv hv'
        go_wp2
        go_ret2
      · exact look_err (by rw [HE.out, if_pos h60]) (by decide) HU.out
      · exact ⟨HU.out, by rw [HE.out, if_neg h60, if_pos rfl]; exact ⟨_, all, op, HR.out, rfl, HV.out⟩⟩
    · have he : checkE t = 20 := by unfold checkE; rw [if_neg hbig, hR]; simp only; rw [if_pos ho]
      have ho' : decide ((op.length : Int) = 1) = false := by simp; omega
      have HE := Lib.hid he
      have HR := Lib.hid hR
      have HO := Lib.hid ho'
      clear he hR ho ho' hl1 hl2
      go_enter Tryz.func47, Tryz.ntmps47
      go_wp2_with fail
      refine HC.out.mono ?_
      intro e w1 h
      unfold MOut at h
      rw [HR.out] at h
      obtain ⟨v, rfl, _, hU⟩ := h
      rw [HO.out]
      have HU := Lib.hid hU
      clear hU
      go_wp2
      go_ret2
      exact look_err HE.out (by decide) HU.out
set_option maxRecDepth 100000 in
theorem check_any (t : List Nd) {p : Option Addr} (hn : t.length ≤ maxLen) (hs : ∀ x ∈ t, x.s.size ≤ maxLen) (hp : RowArg w0 p (ndCells t)) (hS : ShapesAt 0 w0) :
    Calls Tryz.prog 24 #[.slice p t.length c] w0 fun e w => e = .returned (.int .i64 (checkE t)) ∧ Under w0 w := by
  have HC := Lib.hid (look_any (c := c) t hn hs hp hS)
  clear hp hs hS
  by_cases h0 : checkE t = 0
  all_goals
    have H0 := Lib.hid h0
    clear h0
    go_enter Tryz.func24, Tryz.ntmps24
    go_wp2_with fail
    refine HC.out.mono ?_
    intro e w1 ⟨hU, h⟩
    have HU := Lib.hid hU
    clear hU
  · rw [if_pos H0.out] at h
    obtain ⟨v, all, op, _, rfl, _⟩ := h
    go_wp2
    go_ret
    exact ⟨ret_int H0.out.symm, HU.out⟩
  · rw [if_neg H0.out] at h
    subst h
    go_wp2
    go_ret
    exact ⟨rfl, HU.out⟩
end
end Go.Proofs.YtiibknlpeodejaaGreatDoor

/- append of so many zeros ('append(s, make([]int, n)...)') to a slice of one number. -/
namespace Go.Lx
open Go.RowKit

section
variable {P : Program}
theorem run_append_zeros (w : World) (base : Nat) (t u ty e : TypeId) (i : TypeInfo) (ht : P.underlying t = some (.slice e)) (hu : P.underlying u = some (.int .i64)) (hi : P.info? e = some i) (hz : i.zero = some (.int .i64 0)) (hs : i.size = 1) (hby : i.bytes = 8)
    (b : Addr) (y : Value) (hb : w.cell? b = some y) (n : Nat) (h1 : 1 ≤ n) (h8 : n ≤ 8) (hbase : base ≤ w.heap.size) :
    ∃ v w', (Builtin.append_ #[t, u] ty #[.slice (some b) 1 1, .int .i64 (n : Int)]).run P w = .ok v w' ∧ w'.ownsRow base e 1 v (1 + n) (y :: List.replicate n (.int .i64 0)) ∧ w.grownBy w' none := by
  have hw : IntKind.i64.wrap (n : Int) = n := by rw [IntKind.wrap_i64]; omega
  have hn : ¬ (1 + n ≤ 1) := by omega
  have h63' : ¬ (9223372036854775807 < ((1 : Int) + (n : Int))) := by omega
  have h48' : ¬ (281474976710656 < Builtin.nextslicecap (1 + n) 1 * 8) := by
    unfold Builtin.nextslicecap
    split
    · omega
    · simp
  have hneg : ¬ ((n : Int) < 0) := by omega
  have hbig : ¬ ((281474976710656 : Int) < (n : Int) * 8) := by omega
  have hn0 : ¬ n = 0 := by omega
  have hfo := run_firstCells_some (P := P) w.drew 1 1 b 1 1 [y] rfl (by
    intro j v hj
    match j, hj with
    | 0, hj => cases hj; simpa [Addr.add] using hb)
  refine ⟨.slice (some ⟨w.heap.size, 0, none⟩) (1 + n) (grownCap w (1 + n) 1 e), w.drew.alloc (.cells (#[y] ++ Builtin.zeroCells #[.int .i64 0] n ++ Builtin.zeroCells #[.int .i64 0] (grownCap w (1 + n) 1 e - (1 + n))) e), ?_, ?_, ?_⟩
  · simp [Builtin.append_, run_underlying ht, run_underlying hu, sizeOf, typeInfo, zeroValue, hi, hz, hs, hby, Builtin.lenOf, hn, hn0, h63', h48', Question.forced, hfo, newRow, grownCap, asInt, asIntOf, hw, hneg, hbig]
    rfl
  · have hge := grownCap_ge w (1 + n) 1 e
    have hcm : grownCap w (1 + n) 1 e ≤ maxLen := grownCap_le_maxLen w (1 + n) 1 e (by simp only [maxLen]; omega)
    refine ⟨by simp; omega, .inr ⟨w.heap.size, _, _, rfl, hbase, box_new w.drew _ _, hge, hcm, ?_, ?_⟩⟩
    · simp only [Array.size_append, List.size_toArray, size_zeroCells]
      simp
      omega
    · have hzc : (Builtin.zeroCells #[Value.int .i64 0] n).toList = List.replicate n (Value.int .i64 0) := by
        apply List.ext_getElem
        · simp [Builtin.zeroCells]
        · intro j h1 h2
          simp [Builtin.zeroCells, Nat.mod_one]
      simp only [Array.toList_append, hzc, Nat.mul_one]
      rw [List.take_left' (by simp; omega)]
      rfl
  · exact ⟨rfl, rfl, rfl, by simp, fun k hk _ => by
      show (w.heap.push _)[k]? = _
      rw [Array.getElem?_push_lt hk, ← Array.getElem?_eq_getElem]⟩
theorem wpList_append_zeros {w : World} {ops : Array Oper} {rest : List Oper} {o : Oper} {a : Act} {Q : Exit → Act → World → Prop} (hgd : o.guard = none) (s x : Operand) (base : Nat) (t u e : TypeId)
    (ho : o.op = .call { callee := .builtin .append, args := #[s, x], argTypes := #[t, u] }) (i : TypeInfo) (ht : P.underlying t = some (.slice e)) (hu : P.underlying u = some (.int .i64)) (hi : P.info? e = some i) (hz : i.zero = some (.int .i64 0)) (hs : i.size = 1) (hby : i.bytes = 8)
    (b : Addr) (y : Value) (n : Nat) (es : a.eval s = .slice (some b) 1 1) (ex : a.eval x = .int .i64 (n : Int)) (hb : w.cell? b = some y) (h1 : 1 ≤ n) (h8 : n ≤ 8) (hbase : base ≤ w.heap.size)
    (h : ∀ v w', w'.ownsRow base e 1 v (1 + n) (y :: List.replicate n (.int .i64 0)) → w.grownBy w' none → wpList P ops Q rest (a.put o.dst v) w') :
    wpList P ops Q (o :: rest) a w := by
  refine wpList_plain hgd fun K hK' => ?_
  obtain ⟨v, w', hrun, r1, r2⟩ := run_append_zeros (P := P) w base t u o.type e i ht hu hi hz hs hby b y hb n h1 h8 hbase
  unfold Oper.wp
  simp [execOp, ho, resolve, invoke, builtin, es, ex, hrun, Result.andThen]
  exact hK' _ _ (h v w' r1 r2)
end
end Go.Lx

/- slices.Clone of numbers; term.Binds at a Con. -/
namespace Go.Proofs.YtiibknlpeodejaaGreatDoor
open Go.Lx Go.RowKit

theorem Tryz.info3 : (Tryz.prog.info? 3).map (fun i => (i.zero, i.size, i.bytes)) = some (some (.int .i64 0), 1, 8) := by kernel_rfl
theorem intsN_len (l : List Nat) : (intsN l).length = l.length := List.length_map ..
theorem intsN_one {l : List Nat} {u : Value} (h : u ∈ intsN l) : u.oneCell' = true := by
  unfold intsN at h
  obtain ⟨n, _, rfl⟩ := List.mem_map.1 h
  rfl
theorem own_new0 (w0 : World) (base : Nat) (e : TypeId) (size : Nat) (hb : base ≤ w0.heap.size) : (w0.alloc (.cells #[] e)).ownsRow base e size (.slice (some ⟨w0.heap.size, 0, none⟩) 0 0) 0 [] :=
  ⟨by simp, .inr ⟨w0.heap.size, 0, #[], rfl, hb, box_new w0 _ _, Nat.le_refl _, by decide, by simp, by simp⟩⟩
section
variable {w0 : World}
set_option maxRecDepth 100000 in
set_option maxHeartbeats 1000000 in
theorem cloneInts_any (l : List Nat) {p : Option Addr} {c : Nat} (hn : l.length ≤ 1000000) (hp : RowArg w0 p (intsN l)) :
    Calls Tryz.prog 59 #[.slice p l.length c] w0 fun e w' => ∃ v, e = .returned v ∧ w'.ownsRow w0.heap.size 3 1 v l.length (intsN l) ∧ Under w0 w' := by
  obtain ⟨i0, hi, hz0, hz1, hz2⟩ := info_parts Tryz.info3
  have eqn := Lib.run_eql_slice_nil (P := Tryz.prog) w0 63 3 p l.length c 0 0 Tryz.underlying63
  cases p with
  | none =>
    have hl : l = [] := Classical.byContradiction fun h => by
      obtain ⟨b, off, e, _⟩ := hp (fun e => h (by simpa [intsN] using e))
      cases e
    subst hl
    clear hp
    rw [List.length_nil] at eqn ⊢
    go_enter Tryz.func59, Tryz.ntmps59
    go_wp2
    go_ret
    exact ⟨_, rfl, World.ownsRow_nil _ _ _ _, Under.refl _⟩
  | some a =>
    have hmx : 0 + l.length ≤ maxLen := by simp only [maxLen]; omega
    have hby : (0 + l.length) * 8 ≤ 140737488355328 := by omega
    have HP := Lib.hid hp
    clear hp
    go_enter Tryz.func59, Tryz.ntmps59
    go_wp2_with (at_builtin; refine wpList_append_own_at _ rfl _ _ 63 rfl w0.heap.size 3 i0 _ 1 8 Tryz.underlying63 hi hz0 hz1 hz2 rfl (by decide) _ _ _ rfl (own_new0 w0 _ _ _ (Nat.le_refl _)) a l.length c (intsN l) rfl (by rw [intsN_len]; omega) ?c1 (fun u hu => intsN_one hu) hmx hby ?c5 ?_)
    case c1 =>
      intro j u hj
      obtain ⟨b, off, e, hb, hc⟩ := HP.out (fun e => by rw [e] at hj; cases hj)
      cases e
      rw [add_off]
      exact (under_cell (W := w0) (under_alloc (Under.refl _) _) hb _).trans (hc j u hj)
    case c5 => simp
    intro v' w1 hown hgrow hnil hat
    have HW := Lib.hid hown
    have HU2 := Lib.hid (under_grown (W := w0) (under_alloc (Under.refl _) _) hgrow fun g e => by cases e; exact Nat.le_refl _)
    clear hown hgrow hnil hat
    go_wp2
    go_ret
    exact ⟨v', rfl, HW.out, HU2.out⟩
/-- What Binds answers. -/
def BindsOut (w0 : World) (x : Nd) (e : Ending) (w : World) : Prop := ∃ v, e = .returned (.tuple #[v, .bool (rightB x)]) ∧ w.ownsRow w0.heap.size 3 1 v (if rightB x then binds x else []).length (intsN (if rightB x then binds x else [])) ∧ Under w0 w
set_option maxRecDepth 100000 in
set_option maxHeartbeats 400000 in
theorem binds_con (n : Int) (m : Nat) (s : ByteArray) (hs : s.size ≤ maxLen) (hS : ShapesAt 0 w0) (hr : rightB ⟨26, n, m, s⟩ = true) (hm : m ≤ 6) : Calls Tryz.prog 35 #[ndV ⟨26, n, m, s⟩] w0 (BindsOut w0 ⟨26, n, m, s⟩) := by
  have HB := Lib.hid (box_new w0 #[.int .i64 26, .int .i64 n, .int .i64 m, .string s] 38)
  have HC := Lib.hid (right_any ⟨26, n, m, s⟩ _ hs (hS.under (under_alloc (Under.refl w0) (.cells #[.int .i64 26, .int .i64 n, .int .i64 m, .string s] 38))))
  have HR := Lib.hid hr
  rw [hr] at HC
  obtain ⟨i0, hi, hz0, hz1, hz2⟩ := info_parts Tryz.info3
  clear hr
  clear hS
  have HBI := Lib.hid (show (if true = true then binds ⟨26, n, m, s⟩ else []) = List.replicate m 0 by rw [if_pos rfl]; rfl)
  unfold ndV
  go_enter Tryz.func35, Tryz.ntmps35
  go_wp2_with fail
  refine HC.out.mono ?_
  rintro e w1 ⟨rfl, hU1⟩
  have hB1 := HB.out.under hU1
  have e0 := hB1.cell 0
  have e1 := hB1.cell 1
  have e2 := hB1.cell 2
  have e3 := hB1.cell 3
  have hlt := hB1.lt
  have m0 : (0 : Int) ≤ m := Int.natCast_nonneg _
  have m6 : (m : Int) ≤ 6 := by omega
  have HU1 := Lib.hid hU1
  have hz1' := ((under_alloc (Under.refl w0) (.cells #[.int .i64 26, .int .i64 n, .int .i64 m, .string s] 38)).trans hU1).size
  clear hU1 hB1
  go_wp2_with (at_make; refine wpList_make_full _ rfl _ _ _ rfl w0.heap.size 3 i0 _ 1 Tryz.underlying63 hi hz0 hz1 .i64 .i64 _ _ m rfl rfl rfl rfl ?c1 ?c2 ?c3 ?_)
  case c1 => rw [hz2]; omega
  case c2 => simp only [maxLen]; omega
  case c3 => omega
  intro w2 hown hgrow
  have HO := Lib.hid hown
  have HU2 := Lib.hid (under_grown (Under.refl w1) hgrow fun g e => by cases e)
  clear hown hgrow
  go_wp2
  go_ret2
  unfold BindsOut
  rw [HR.out]
  refine ⟨.slice (some ⟨w1.heap.size, 0, none⟩) m m, rfl, ?_, ((under_alloc (Under.refl w0) _).trans HU1.out).trans HU2.out⟩
  show w2.ownsRow w0.heap.size 3 1 _ (List.replicate m 0).length (intsN (List.replicate m 0))
  have hcs : (madeCells #[Value.int .i64 0] m).toList = intsN (List.replicate m 0) := by
    apply List.ext_getElem
    · simp [intsN, madeCells]
    · intro j h1 h2
      simp [intsN, madeCells, Nat.mod_one]
  rw [List.length_replicate, ← hcs]
  exact HO.out
set_option maxRecDepth 100000 in
set_option maxHeartbeats 400000 in
theorem binds_elim (n : Int) (m : Nat) (s : ByteArray) (hs : s.size ≤ maxLen) (hS : ShapesAt 0 w0) (hr : rightB ⟨27, n, m, s⟩ = true) (hm : m ≤ 6) : Calls Tryz.prog 35 #[ndV ⟨27, n, m, s⟩] w0 (BindsOut w0 ⟨27, n, m, s⟩) := by
  have HB := Lib.hid (box_new w0 #[.int .i64 27, .int .i64 n, .int .i64 m, .string s] 38)
  have HC := Lib.hid (right_any ⟨27, n, m, s⟩ _ hs (hS.under (under_alloc (Under.refl w0) (.cells #[.int .i64 27, .int .i64 n, .int .i64 m, .string s] 38))))
  have HR := Lib.hid hr
  rw [hr] at HC
  obtain ⟨i0, hi, hz0, hz1, hz2⟩ := info_parts Tryz.info3
  clear hr
  clear hS
  have HBI := Lib.hid (show (if true = true then binds ⟨27, n, m, s⟩ else []) = 1 :: List.replicate (m + 1) 0 by rw [if_pos rfl]; rfl)
  unfold ndV
  go_enter Tryz.func35, Tryz.ntmps35
  go_wp2_with fail
  refine HC.out.mono ?_
  rintro e w1 ⟨rfl, hU1⟩
  have hB1 := HB.out.under hU1
  have e0 := hB1.cell 0
  have e1 := hB1.cell 1
  have e2 := hB1.cell 2
  have e3 := hB1.cell 3
  have hlt := hB1.lt
  have m0 : (0 : Int) ≤ m := Int.natCast_nonneg _
  have m6 : (m : Int) ≤ 6 := by omega
  have HU1 := Lib.hid hU1
  have hz1' := ((under_alloc (Under.refl w0) (.cells #[.int .i64 27, .int .i64 n, .int .i64 m, .string s] 38)).trans hU1).size
  clear hU1 hB1
  go_wp2_with (at_builtin; refine wpList_append_zeros rfl _ _ w0.heap.size 63 3 3 rfl i0 Tryz.underlying63 Tryz.underlying3 hi hz0 hz1 hz2 ⟨w1.heap.size, 0, none⟩ (.int .i64 1) (m + 1) rfl ?c0 ?c1 (by omega) (by omega) ?c3 ?_)
  case c0 => exact congrArg (Value.int .i64) (by omega)
  case c1 => simp
  case c3 => simp; omega
  intro v w2 hown hgrow
  have HO := Lib.hid hown
  have HU2 := Lib.hid (under_grown (under_alloc (Under.refl w1) _) hgrow fun g e => by cases e)
  clear hown hgrow
  go_wp2
  go_ret2
  unfold BindsOut
  rw [HR.out]
  refine ⟨_, rfl, ?_, ((under_alloc (Under.refl w0) _).trans HU1.out).trans HU2.out⟩
  show w2.ownsRow w0.heap.size 3 1 _ (1 :: List.replicate (m + 1) 0).length (intsN (1 :: List.replicate (m + 1) 0))
  have hcs : intsN (1 :: List.replicate (m + 1) 0) = .int .i64 1 :: List.replicate (m + 1) (.int .i64 0) := by simp [intsN]
  rw [hcs, List.length_cons, List.length_replicate, Nat.add_comm (m + 1) 1]
  exact HO.out

end
end Go.Proofs.YtiibknlpeodejaaGreatDoor

/- term.Binds: its contract. -/
namespace Go.Proofs.YtiibknlpeodejaaGreatDoor
open Go.Lx Go.RowKit
section
variable {w0 : World}
set_option maxRecDepth 100000 in
set_option maxHeartbeats 1000000 in
theorem binds_rest (x : Nd) (hs : x.s.size ≤ maxLen) (hS : ShapesAt 0 w0) (hr : rightB x = true) (h26 : ¬ x.k = 26) (h27 : ¬ x.k = 27) : Calls Tryz.prog 35 #[ndV x] w0 (BindsOut w0 x) := by
  have HB := Lib.hid (box_new w0 #[.int .i64 x.k, .int .i64 x.n, .int .i64 x.m, .string x.s] 38)
  have HC := Lib.hid (right_any x _ hs (hS.under (under_alloc (Under.refl w0) (.cells #[.int .i64 x.k, .int .i64 x.n, .int .i64 x.m, .string x.s] 38))))
  obtain ⟨h0, h1⟩ := rightB_k hr
  have HR := Lib.hid hr
  rw [hr] at HC
  obtain ⟨i0, hi, hz0, hz1, hz2⟩ := info_parts Tryz.info3
  have hl6 := bindsOf_len x.k.toNat
  have HS := Lib.hid hS
  have hb := hS.lt
  clear hS hr
  unfold ndV
  go_enter Tryz.func35, Tryz.ntmps35
  go_wp2_with fail
  refine HC.out.mono ?_
  rintro e w1 ⟨rfl, hU1⟩
  have hB1 := HB.out.under hU1
  have e0 := hB1.cell 0
  have e1 := hB1.cell 1
  have e2 := hB1.cell 2
  have e3 := hB1.cell 3
  have hS1 := HS.out.under ((under_alloc (Under.refl w0) _).trans hU1)
  obtain ⟨p, c, c0, hcc, hrow, _⟩ := hS1.row x.k.toNat (by omega)
  have hlt := hS1.lt
  have HCl := Lib.hid (cloneInts_any (w0 := w1) (c := c) (bindsOf x.k.toNat) (by omega) hrow)
  have HU1 := Lib.hid hU1
  clear hU1 hB1 hS1 hrow
  go_wp2_with fail
  refine HCl.out.mono ?_
  rintro e w2 ⟨v, rfl, hown, hU2⟩
  have HO := Lib.hid hown
  have HU2 := Lib.hid hU2
  clear hown hU2
  go_wp2
  go_ret2
  unfold BindsOut
  rw [HR.out]
  refine ⟨v, rfl, ?_, ((under_alloc (Under.refl w0) _).trans HU1.out).trans HU2.out⟩
  have : (if true = true then binds x else []) = bindsOf x.k.toNat := by rw [if_pos rfl]; unfold binds; rw [if_neg h26, if_neg h27]
  rw [this]
  exact row_base HO.out ((under_alloc (Under.refl w0) _).trans HU1.out).size

set_option maxRecDepth 100000 in
theorem binds_any (x : Nd) (hs : x.s.size ≤ maxLen) (hS : ShapesAt 0 w0) : Calls Tryz.prog 35 #[ndV x] w0 (BindsOut w0 x) := by
  by_cases hr : rightB x = true
  · by_cases h26 : x.k = 26
    · obtain ⟨k, n, m, s⟩ := x
      obtain rfl : k = 26 := h26
      have hm := rightB_m hr (.inl rfl)
      obtain ⟨m', rfl⟩ : ∃ m' : Nat, m = m' := ⟨m.toNat, by simp only at hm; omega⟩
      exact binds_con n m' s hs hS hr (by simp only at hm; omega)
    · by_cases h27 : x.k = 27
      · obtain ⟨k, n, m, s⟩ := x
        obtain rfl : k = 27 := h27
        have hm := rightB_m hr (.inr rfl)
        obtain ⟨m', rfl⟩ : ∃ m' : Nat, m = m' := ⟨m.toNat, by simp only at hm; omega⟩
        exact binds_elim n m' s hs hS hr (by simp only at hm; omega)
      · exact binds_rest x hs hS hr h26 h27
  · have HC := Lib.hid (right_any x _ hs (hS.under (under_alloc (Under.refl w0) (.cells #[.int .i64 x.k, .int .i64 x.n, .int .i64 x.m, .string x.s] 38))))
    have hr' : rightB x = false := by simpa using hr
    rw [hr'] at HC
    have HR := Lib.hid hr'
    clear hr hr' hS
    unfold ndV
    go_enter Tryz.func35, Tryz.ntmps35
    go_wp2_with fail
    refine HC.out.mono ?_
    rintro e w1 ⟨rfl, hU1⟩
    have HU1 := Lib.hid hU1
    clear hU1
    go_wp2
    go_ret2
    unfold BindsOut
    rw [HR.out]
    exact ⟨.slice none 0 0, rfl, World.ownsRow_nil _ _ _ _, (under_alloc (Under.refl w0) _).trans HU1.out⟩
end
end Go.Proofs.YtiibknlpeodejaaGreatDoor

/- The nodes of a term from its root on, each under so many binders. -/
namespace Go.Lx

/-- The binders of a node, none where it is no node. -/
def bindsR (x : Nd) : List Nat := if rightB x then binds x else []
/-- The nodes below k, backwards, with what waits (the nearest first). -/
def nodesGo (t : List Nd) : Nat → List Nat → List (Nat × Nat)
  | k + 1, u :: st => match t[k]? with
    | some x => (k, u) :: nodesGo t k (((bindsR x).map (u + ·)).reverse ++ st)
    | none => []
  | _, _ => []
theorem nodesGo_succ {t : List Nd} {k u : Nat} {st : List Nat} {x : Nd} (hx : t[k]? = some x) : nodesGo t (k + 1) (u :: st) = (k, u) :: nodesGo t k (((bindsR x).map (u + ·)).reverse ++ st) := by
  simp [nodesGo, hx]
theorem bindsOf_le (k : Nat) : ∀ n ∈ bindsOf k, n ≤ 2 := by
  unfold bindsOf; split <;> simp
theorem bindsR_le {x : Nd} : ∀ n ∈ bindsR x, n ≤ 2 := by
  intro n hn
  unfold bindsR at hn
  split at hn
  · unfold binds at hn
    split at hn
    · rw [List.mem_replicate] at hn; omega
    · split at hn
      · rcases List.mem_cons.1 hn with h | h
        · omega
        · rw [List.mem_replicate] at h; omega
      · exact bindsOf_le _ n hn
  · simp at hn
theorem bindsR_len (x : Nd) : (bindsR x).length ≤ 8 := by
  unfold bindsR
  split
  · exact binds_len ‹_›
  · simp
/-- The nodes of a term. -/
def nodesOf (t : List Nd) : List (Nat × Nat) := nodesGo t t.length [0]

theorem measGo_app (a b : List Nd) : ∀ (k : Nat) (all op : List (Nat × Nat)), measGo (a ++ b) k all op = (measGo a k all op).bind fun r => measGo b (k + a.length) r.1 r.2 := by
  induction a with
  | nil => intro k all op; simp [measGo]
  | cons x a ih =>
    intro k all op
    simp only [List.cons_append, measGo]
    split
    · rfl
    · rw [ih, List.length_cons, show k + 1 + a.length = k + (a.length + 1) by omega]
theorem nodesGo_lt (t : List Nd) : ∀ (k : Nat) (st : List Nat), ∀ x ∈ nodesGo t k st, x.1 < k := by
  intro k
  induction k with
  | zero => intro st x hx; cases st <;> simp [nodesGo] at hx
  | succ k ih =>
    intro st x hx
    cases st with
    | nil => simp [nodesGo] at hx
    | cons u st =>
      simp only [nodesGo] at hx
      split at hx
      · rcases List.mem_cons.1 hx with h | h
        · rw [h]; exact Nat.lt_succ_self k
        · exact Nat.lt_succ_of_lt (ih _ x h)
      · simp at hx
theorem measGo_right : ∀ (t : List Nd) (k : Nat) (all op : List (Nat × Nat)) {r : List (Nat × Nat) × List (Nat × Nat)}, measGo t k all op = some r → ∀ x ∈ t, rightB x = true := by
  intro t
  induction t with
  | nil => intro k all op r h x hx; simp at hx
  | cons y t ih =>
    intro k all op r h x hx
    simp only [measGo] at h
    split at h
    · cases h
    · rename_i hn
      rcases List.mem_cons.1 hx with e | e
      · rw [e]
        cases hr : rightB y with
        | true => rfl
        | false => exact absurd (.inl hr) hn
      · exact ih _ _ _ h x e
theorem check_right {t : List Nd} (h : checkE t = 0) : ∀ x ∈ t, rightB x = true := by
  unfold checkE at h
  split at h
  · cases h
  · cases hm : measGo t 0 [] [] with
    | none => rw [hm] at h; cases h
    | some r => exact measGo_right t 0 [] [] hm
theorem rightB_var {x : Nd} (h : rightB x = true) (hk : x.k = 0) : 0 ≤ x.n ∧ x.n ≤ 99 := by
  unfold rightB at h
  simp [hk, fN, fM, fS, mostN] at h
  omega
/-- How many terms the first k nodes are. -/
def CntIs (t : List Nd) (k c : Nat) : Prop := ∃ all op, measGo (t.take k) 0 [] [] = some (all, op) ∧ op.length = c
theorem CntIs.zero (t : List Nd) : CntIs t 0 0 := ⟨[], [], by simp [measGo], rfl⟩
theorem CntIs.pred {t : List Nd} {k c : Nat} {x : Nd} (hx : t[k]? = some x) (h : CntIs t (k + 1) c) : ∃ c', CntIs t k c' ∧ rightB x = true ∧ (binds x).length ≤ c' ∧ c = c' - (binds x).length + 1 := by
  obtain ⟨all, op, hm, hc⟩ := h
  obtain ⟨hk, hxe⟩ := List.getElem?_eq_some_iff.1 hx
  rw [List.take_succ_eq_append_getElem hk, measGo_app, hxe] at hm
  cases hr : measGo (t.take k) 0 [] [] with
  | none => rw [hr] at hm; cases hm
  | some r =>
    rw [hr] at hm
    obtain ⟨a0, o0⟩ := r
    simp only [Option.bind_some, measGo] at hm
    split at hm
    · cases hm
    · rename_i hn
      have hr1 : rightB x = true := by cases h : rightB x with
        | true => rfl
        | false => exact absurd (.inl h) hn
      have hr2 : ¬ o0.length < (binds x).length := fun h => hn (.inr h)
      cases hm
      refine ⟨o0.length, ⟨a0, o0, hr, rfl⟩, hr1, by omega, ?_⟩
      rw [← hc, List.length_append, List.length_take, List.length_singleton]
      omega
theorem CntIs.pos {t : List Nd} {k c : Nat} (hk : k < t.length) (h : CntIs t (k + 1) c) : 1 ≤ c := by
  obtain ⟨c', _, _, _, rfl⟩ := h.pred (List.getElem?_eq_getElem hk)
  omega
theorem nodesGo_len (t : List Nd) : ∀ (k : Nat) (st : List Nat), k ≤ t.length → CntIs t k st.length → (nodesGo t k st).length = k := by
  intro k
  induction k with
  | zero => intro st _ _; cases st <;> rfl
  | succ k ih =>
    intro st hk h
    have hlt : k < t.length := by omega
    have hx := List.getElem?_eq_getElem hlt
    have h1 := h.pos hlt
    cases st with
    | nil => simp at h1
    | cons u st =>
      obtain ⟨c', hc', hr, hb, he⟩ := h.pred hx
      rw [nodesGo_succ hx, List.length_cons, ih _ (by omega)]
      rw [List.length_append, List.length_reverse, List.length_map]
      have : bindsR t[k] = binds t[k] := by unfold bindsR; rw [if_pos hr]
      rw [this]
      have hl : (u :: st).length = st.length + 1 := List.length_cons ..
      rw [show (binds t[k]).length + st.length = c' by omega]
      exact hc'
theorem nodes_len {t : List Nd} (h : checkE t = 0) : (nodesOf t).length = t.length ∧ t.length ≤ 4000 := by
  unfold checkE at h
  split at h
  · cases h
  · cases hm : measGo t 0 [] [] with
    | none => rw [hm] at h; cases h
    | some r =>
      rw [hm] at h
      obtain ⟨all, op⟩ := r
      simp only at h
      split at h
      · cases h
      · rename_i ho
        refine ⟨nodesGo_len t t.length [0] (Nat.le_refl _) ⟨all, op, by rw [List.take_length]; exact hm, ?_⟩, by omega⟩
        have : op.length = 1 := Decidable.not_not.1 ho
        simpa using this
end Go.Lx

/- shift.nodes, an iterator: its inner loop. -/
namespace Go.Proofs.YtiibknlpeodejaaGreatDoor
open Go.Lx Go.RowKit

noncomputable def ndText : Code := Tryz.f75.body.getD .skip
noncomputable def ndRound : Code := inOf (inOf (sndOf (sndOf ndText)))
noncomputable def ndIn : Code := sndOf (sndOf (sndOf (sndOf (inOf (fstOf (sndOf ndRound))))))
noncomputable def niRound : Code := inOf (inOf (sndOf ndIn))
def ndFrame (yf : Value) (tb : Nat) (vo : Value) (k : Int) (J : Nat → Value) : Array Value := #[yf, .pointer (some ⟨tb, 0, none⟩), J 2, vo, .int .i64 k, J 5, J 6, J 7, J 8, J 9, J 10, J 11, J 12, J 13, J 14, J 15, J 16, J 17, J 18, J 19, J 20, J 21, J 22, J 23, J 24, J 25, J 26, J 27, J 28, J 29, J 30, J 31, J 32, J 33, J 34, J 35, J 36, J 37, J 38, J 39, J 40, J 41, J 42, J 43, J 44, J 45, J 46, J 47, J 48, J 49, J 50, J 51, J 52, J 53, J 54]
def niFrame (yf : Value) (tb : Nat) (vo : Value) (k : Int) (u : Nat) (vb : Value) (m j : Nat) (J : Nat → Value) : Array Value :=
  #[yf, .pointer (some ⟨tb, 0, none⟩), J 2, vo, .int .i64 k, .int .i64 (u : Int), J 6, J 7, J 8, J 9, J 10, J 11, J 12, J 13, J 14, J 15, J 16, J 17, J 18, J 19, J 20, J 21, J 22, J 23, J 24, J 25, J 26, J 27, J 28, J 29, J 30, J 31, J 32, J 33, J 34, J 35, J 36, J 37, J 38, J 39, J 40, J 41, vb, .int .i64 (m : Int), .int .i64 (j : Int), J 45, J 46, J 47, J 48, J 49, J 50, J 51, J 52, J 53, J 54]

/-- What the iterator holds: its row of binders, what it reads. -/
structure NH (W0 : World) (tb : Nat) (vt : Value) (B : Nat) (Jc : Option Nat → World → Prop) (vo : Value) (l : List Nat) (A : World) : Prop where
  j : Jc vo.ownBlock A
  row : A.ownsRow B 3 1 vo l.length (intsN l)
  low : Under W0 A
  box : BoxAt A tb 22 #[vt]
  big : B ≤ A.heap.size
section
variable {W0 : World} {tb B : Nat} {vt yf vo : Value} {Jc : Option Nat → World → Prop} {k : Int} {u m j : Nat} {l : List Nat}
/-- What is asked of the caller's invariant. -/
def Abide (Jc : Option Nat → World → Prop) : Prop := ∀ b b' A A', Jc b A → IStep b b' A A' → Jc b' A'
theorem NH.under {A A' : World} (h : NH W0 tb vt B Jc vo l A) (hJ : Abide Jc) (hU : Under A A') : NH W0 tb vt B Jc vo l A' :=
  ⟨hJ _ _ _ _ h.j (IStep.under hU _), row_under h.row hU, h.low.trans hU, h.box.under hU, Nat.le_trans h.big hU.size⟩
theorem NH.grown {A A' : World} {vo' : Value} {l' : List Nat} (h : NH W0 tb vt B Jc vo l A) (hJ : Abide Jc) (hg : A.grownBy A' vo.ownBlock) (hat : vo'.ownBlock = vo.ownBlock ∨ vo'.ownBlock = some A.heap.size) (hr : A'.ownsRow B 3 1 vo' l'.length (intsN l')) (hW : W0.heap.size ≤ B) (ht : tb < B) : NH W0 tb vt B Jc vo' l' A' :=
  ⟨hJ _ _ _ _ h.j (IStep.grown hg hat), hr, under_grown h.low hg fun g e => Nat.le_trans hW (row_lt h.row e).1, h.box.grown hg fun e => by have := (row_lt h.row e.symm).1; omega, Nat.le_trans h.big hg.size⟩

/-- Between two binders. -/
def NIn (W0 : World) (tb : Nat) (vt : Value) (B : Nat) (Jc : Option Nat → World → Prop) (yf : Value) (k : Int) (u : Nat) (vb : Value) (m j : Nat) (A0 : World) (l : List Nat) (bs : List Nat) (a : Act) (A : World) : Prop :=
  ∃ vo J, a = ⟨niFrame yf tb vo k u vb m j J, []⟩ ∧ NH W0 tb vt B Jc vo l A ∧ A.ownsRow A0.heap.size 3 1 vb bs.length (intsN bs) ∧ (vb.ownBlock = none ∨ vb.ownBlock ≠ vo.ownBlock)
def NInD (W0 : World) (tb : Nat) (vt : Value) (B : Nat) (Jc : Option Nat → World → Prop) (yf : Value) (k : Int) (u : Nat) (vb : Value) (m : Nat) (A0 : World) (l : List Nat) (bs : List Nat) (e : Exit) (a : Act) (A : World) : Prop := e = .exit 2 ∧ NIn W0 tb vt B Jc yf k u vb m m A0 l bs a A
set_option maxRecDepth 100000 in
theorem ni_done {A0 : World} {bs : List Nat} {vb : Value} (J : Nat → Value) (A : World) (hH : NH W0 tb vt B Jc vo l A) (hb : A.ownsRow A0.heap.size 3 1 vb bs.length (intsN bs)) (hne : vb.ownBlock = none ∨ vb.ownBlock ≠ vo.ownBlock) :
    niRound.wp Tryz.prog (Exit.then (fun _ _ => False) (NInD W0 tb vt B Jc yf k u vb m A0 l bs)) ⟨niFrame yf tb vo k u vb m m J, []⟩ A := by
  have HH := Lib.hid hH
  have HB := Lib.hid hb
  have HN := Lib.hid hne
  clear hH hb hne
  unfold niRound ndIn ndRound ndText
  simp only [Tryz.f75, Option.getD_some, fstOf, sndOf, inOf]
  unfold niFrame
  go_wp2
  exact ⟨rfl, vo, frame_ex (F := niFrame yf tb vo k u vb m m) (by rfl) ⟨HH.out, HB.out, HN.out⟩⟩
set_option maxRecDepth 100000 in
set_option maxHeartbeats 1000000 in
theorem ni_one {A0 : World} {bs : List Nat} {vb : Value} {x : Nat} (hJ : Abide Jc) (hW : W0.heap.size ≤ B) (ht : tb < B) (hx : bs[j]? = some x) (hm : bs.length ≤ 8) (hu : u ≤ 10000) (hx2 : x ≤ 2) (hl : l.length ≤ 40000) (J : Nat → Value) (A : World) (hH : NH W0 tb vt B Jc vo l A)
    (hb : A.ownsRow A0.heap.size 3 1 vb bs.length (intsN bs)) (hne : vb.ownBlock = none ∨ vb.ownBlock ≠ vo.ownBlock) :
    niRound.wp Tryz.prog (Exit.then (NIn W0 tb vt B Jc yf k u vb bs.length (j + 1) A0 (l ++ [u + x]) bs) (fun _ _ _ => False)) ⟨niFrame yf tb vo k u vb bs.length j J, []⟩ A := by
  obtain ⟨i0, hi, hz0, hz1, hz2⟩ := info_parts Tryz.info3
  obtain ⟨hj, hxe⟩ := List.getElem?_eq_some_iff.1 hx
  obtain ⟨g, gc, hvb, hg, _, hgl, _, _⟩ := row_block hb (by omega)
  have c0 := row_cell hb hg (j := j) (u := .int .i64 (x : Int)) (by unfold intsN; rw [List.getElem?_map, hx]; rfl)
  have hj1 : (j : Int) < bs.length := by omega
  have hj0 : (0 : Int) ≤ j := Int.natCast_nonneg _
  have hj8 : (j : Int) ≤ 8 := by omega
  have hu0 : (0 : Int) ≤ u := Int.natCast_nonneg _
  have hu1 : (u : Int) ≤ 10000 := by omega
  have hx0 : (0 : Int) ≤ x := Int.natCast_nonneg _
  have hx1 : (x : Int) ≤ 2 := by omega
  have hmx : l.length + 1 ≤ maxLen := by simp only [maxLen]; omega
  have hby : (l.length + 1) * 8 ≤ 140737488355328 := by omega
  have HH := Lib.hid hH
  have HB := Lib.hid hb
  have HN := Lib.hid hne
  have HG := Lib.hid hg
  subst hvb
  clear hH hb hne hx hxe hg
  unfold niRound ndIn ndRound ndText
  simp only [Tryz.f75, Option.getD_some, fstOf, sndOf, inOf]
  unfold niFrame
  go_wp2_with (at_builtin; refine wpList_append_own_at _ rfl _ _ 63 rfl B 3 i0 _ 1 8 Tryz.underlying63 hi hz0 hz1 hz2 rfl (by decide) _ _ _ rfl (HH.out.row.alloc _) ⟨A.heap.size, 0, none⟩ 1 1 [.int .i64 ((u : Int) + (x : Int))] rfl rfl ?c1 ?c2 hmx hby ?c5 ?_)
  case c1 =>
    intro j u hj
    match j, hj with
    | 0, hj => cases hj; simp [Addr.add]
  case c2 => intro u hu; simp at hu; subst hu; rfl
  case c5 => have := HH.out.big; simp; omega
  intro v' A1 hown hgrow hnil hat
  have HH1 := Lib.hid ((HH.out.under hJ (under_alloc (Under.refl A) (.cells #[.int .i64 ((u : Int) + (x : Int))] 3))).grown (vo' := v') (l' := l ++ [u + x]) hJ hgrow (by simpa using hat) (by
    rw [List.length_append]
    have : intsN (l ++ [u + x]) = intsN l ++ [.int .i64 ((u : Int) + (x : Int))] := by simp [intsN]
    rw [this]
    exact hown) hW ht)
  have HB1 := Lib.hid (row_grown (HB.out.alloc (.cells #[.int .i64 ((u : Int) + (x : Int))] 3)) hgrow HN.out)
  have hne1 : (Value.slice (some ⟨g, 0, none⟩) bs.length gc).ownBlock = none ∨ (Value.slice (some ⟨g, 0, none⟩) bs.length gc).ownBlock ≠ v'.ownBlock := by
    right
    rcases hat with e | e
    · rw [e]
      rcases HN.out with h | h
      · simp [Value.ownBlock] at h
      · exact h
    · rw [e]; simp [Value.ownBlock]; omega
  have HN1 := Lib.hid hne1
  clear hown hgrow hnil hat hne1
  go_wp2
  exact ⟨v', frame_ex (F := niFrame yf tb v' k u _ bs.length (j + 1)) (by rfl) ⟨HH1.out, HB1.out, HN1.out⟩⟩
theorem ni_rounds {A0 : World} (bs : List Nat) {vb : Value} (hJ : Abide Jc) (hW : W0.heap.size ≤ B) (ht : tb < B) (hm : bs.length ≤ 8) (hu : u ≤ 10000) (hx2 : ∀ x ∈ bs, x ≤ 2) (hl : l.length ≤ 39000) (i : Nat) (a : Act) (A : World)
    (h0 : ∃ j, i + j = bs.length ∧ NIn W0 tb vt B Jc yf k u vb bs.length j A0 (l ++ (bs.take j).map (u + ·)) bs a A) :
    (Code.loop niRound).wp Tryz.prog (NInD W0 tb vt B Jc yf k u vb bs.length A0 (l ++ bs.map (u + ·)) bs) a A := by
  refine wp_loop_ghost (fun i a A => ∃ j, i + j = bs.length ∧ NIn W0 tb vt B Jc yf k u vb bs.length j A0 (l ++ (bs.take j).map (u + ·)) bs a A) i h0 ?_
  clear h0
  rintro i a A ⟨j, hij, vo, J, rfl, hH, hb, hne⟩
  by_cases hjn : j = bs.length
  · subst hjn
    rw [List.take_length] at hH
    refine wp_mono (ni_done J A hH hb hne) ?_
    rintro e a' w' h
    cases e with
    | normal => exact h.elim
    | _ => exact h
  have hlt : j < bs.length := by omega
  refine wp_mono (ni_one hJ hW ht (List.getElem?_eq_getElem hlt) hm hu (hx2 _ (List.getElem_mem hlt)) (by rw [List.length_append, List.length_map, List.length_take]; omega) J A hH hb hne) ?_
  rintro e a' w' h
  cases e with
  | normal =>
    refine ⟨i - 1, by omega, j + 1, by omega, ?_⟩
    rw [List.take_succ_eq_append_getElem hlt, List.map_append, ← List.append_assoc]
    exact h
  | _ => exact h.elim
end
end Go.Proofs.YtiibknlpeodejaaGreatDoor

/- shift.nodes, an iterator: its rounds. -/
namespace Go.Proofs.YtiibknlpeodejaaGreatDoor
open Go.Lx Go.RowKit
attribute [local go_sem] Oper.semAt_some

section
variable {W0 : World} {tb B n : Nat} {vt vo : Value} {Jc Jd : Option Nat → World → Prop} {Jx : World → Prop} {R : Nat → Prop} {k u l : Nat} {st : List Nat}
def NNext (W0 : World) (tb : Nat) (vt : Value) (B : Nat) (Jc : Option Nat → World → Prop) (yf : Value) (k : Nat) (st : List Nat) (a : Act) (A : World) : Prop :=
  ∃ vo J, a = ⟨ndFrame yf tb vo ((k : Int) - 1) J, []⟩ ∧ NH W0 tb vt B Jc vo st.reverse A
def NStop (Jx : World → Prop) (e : Exit) (a : Act) (A : World) : Prop := e = .ret ∧ a.defers = [] ∧ Jx A
set_option maxRecDepth 100000 in
set_option maxHeartbeats 1000000 in
theorem nd_one {x : Nd} {b off c N : Nat} (hJd : Abide Jd) (hW : W0.heap.size ≤ B) (ht : tb < B) (hR : ∀ k, k < W0.heap.size → R k) (hRt : R tb) (hk : k < N) (hN : N ≤ 4000) (hcap : N ≤ c) (hu : u ≤ 8000) (hl : st.length ≤ 38000) (hvt : vt = .slice (some ⟨b, off, none⟩) N c)
    (hs : x.s.size ≤ maxLen) (hS : ShapesAt 0 W0) (hb : b < W0.heap.size) (c0 : W0.cell? ⟨b, off + k * 4, none⟩ = some (.int .i64 x.k)) (c1 : W0.cell? ⟨b, off + k * 4 + 1, none⟩ = some (.int .i64 x.n)) (c2 : W0.cell? ⟨b, off + k * 4 + 2, none⟩ = some (.int .i64 x.m)) (c3 : W0.cell? ⟨b, off + k * 4 + 3, none⟩ = some (.string x.s))
    (J : Nat → Value) (A : World) (hH : NH W0 tb vt B Jc vo (u :: st).reverse A)
    (hY : YieldAt Fence.wide (n - 1) Tryz.prog l #[.int .i64 (k : Int), .int .i64 (u : Int)] A fun e A' => (e = .returned (.bool true) ∧ Jd vo.ownBlock A' ∧ Kept R vo.ownBlock A A') ∨ (e = .returned (.bool false) ∧ Jx A')) :
    ndRound.wpIn Fence.wide n Tryz.prog (Exit.then (NNext W0 tb vt B Jd (.func (.yield l) #[] #[]) k (((bindsR x).map (u + ·)).reverse ++ st)) (NStop Jx)) ⟨ndFrame (.func (.yield l) #[] #[]) tb vo (((k + 1 : Nat) : Int) - 1) J, []⟩ A := by
  rw [show (((k + 1 : Nat) : Int) - 1) = (k : Int) by omega]
  have hrl : (u :: st).reverse.length = st.length + 1 := by simp
  have hrow := hH.row
  rw [hrl] at hrow
  obtain ⟨g, gc, hvo, hg, hgB, hgl, hgc, _⟩ := row_block hrow (by omega)
  have ctop := row_cell hrow hg (j := st.length) (u := .int .i64 (u : Int)) (by simp [intsN])
  subst hvo
  obtain ⟨fn, tmps, assign, body, hy, hRd⟩ := hY
  have hk0 : (0 : Int) ≤ k := Int.natCast_nonneg _
  have hk1 : (k : Int) < N := by omega
  have hl0 : (0 : Int) ≤ st.length := Int.natCast_nonneg _
  have hl1 : (st.length : Int) ≤ 38000 := by omega
  have hgc' : (st.length : Int) + 1 ≤ gc := by omega
  have HH := Lib.hid hH
  have HR := Lib.hid hrow
  have HVT := Lib.hid hvt
  have HY := Lib.hid hRd
  clear hH hrow hvt hrl hRd
  unfold ndRound ndText
  simp only [Tryz.f75, Option.getD_some, sndOf, inOf]
  unfold ndFrame
  gi_wp2
  refine ⟨fun h => absurd h (by decide), ?_⟩
  refine HY.out.mono ?_
  rintro e A1 (⟨rfl, hj1, hk1'⟩ | ⟨rfl, hx1⟩)
  · have hH1 : NH W0 tb vt B Jd (.slice (some ⟨g, 0, none⟩) st.length gc) st.reverse A1 := by
      have hr := row_same HR.out (w' := A1) fun g' e => hk1'.same g' (by have := (row_lt HR.out e).2; omega) (.inr e)
      have hcut := row_cut hr (m := st.length) (by omega)
      refine ⟨hj1, ?_, HH.out.low.kept hk1' hR, (hk1'.same tb HH.out.box.lt (.inl hRt)).trans HH.out.box, Nat.le_trans HH.out.big hk1'.size⟩
      rw [List.length_reverse]
      have : intsN st.reverse = (intsN (u :: st).reverse).take (st.length * 1) := by
        rw [List.reverse_cons, Nat.mul_one]; unfold intsN; rw [List.map_append, List.take_left' (by simp)]
      rw [this]
      exact hcut
    have eb := hH1.box.cell 0
    have elt := hH1.box.lt
    rw [HVT.out] at eb
    rw [← under_cell hH1.low hb] at c0 c1 c2 c3
    have hb1 := Nat.lt_of_lt_of_le hb hH1.low.size
    have HB := Lib.hid (binds_any (w0 := A1) x hs (hS.under hH1.low))
    have HH1 := Lib.hid hH1
    clear hj1 hk1' hH1 HY
    gi_wp2
    refine ⟨trivial, fun h => absurd h (by decide), ?_⟩
    refine (callsIn_wide.2 HB.out).mono ?_
    rintro e A2 ⟨vb, rfl, hvb, hU2⟩
    have hvb' : A2.ownsRow A1.heap.size 3 1 vb (bindsR x).length (intsN (bindsR x)) := hvb
    obtain ⟨q, co, rfl, hq1, hq2⟩ := RowArg.of_own hvb'
    clear hq1 hq2
    have hH2 := HH1.out.under hJd hU2
    have hne2 : (Value.slice q (bindsR x).length co).ownBlock = none ∨ (Value.slice q (bindsR x).length co).ownBlock ≠ (Value.slice (some ⟨g, 0, none⟩) st.length gc).ownBlock := by
      cases hq : (Value.slice q (bindsR x).length co).ownBlock with
      | none => exact .inl rfl
      | some g' => right; intro e; cases e; have := (row_lt hvb' hq).1; have := (row_lt HH1.out.row rfl).2; omega
    have HL := Lib.hid (ni_rounds (k := (k : Int)) (u := u) (yf := .func (.yield l) #[] #[]) (vt := vt) (vb := .slice q (bindsR x).length co) (A0 := A1) (l := st.reverse) (bindsR x) hJd hW ht (bindsR_len x) (by omega) bindsR_le (by rw [List.length_reverse]; omega) (bindsR x).length)
    have HH2 := Lib.hid hH2
    have HV := Lib.hid hvb'
    have HN := Lib.hid hne2
    clear hH2 hvb hvb' hne2 hU2 c0 c1 c2 c3 eb
    gi_wp2
    rename_i K hK
    refine wpIn_wide.2 (wp_mono (HL.out _ _ ⟨0, by omega, .slice (some ⟨g, 0, none⟩) st.length gc, frame_ex (F := niFrame _ tb _ k u _ (bindsR x).length 0) (by rfl) ⟨by simpa using HH2.out, HV.out, HN.out⟩⟩) ?_)
    rintro e a' A3 ⟨rfl, vo3, J3, rfl, hH3, _, _⟩
    simp only [Exit.inBlock, if_pos, Exit.then]
    refine hK _ _ ?_
    clear hK
    have HH3 := Lib.hid hH3
    clear hH3
    unfold niFrame
    gi_wp2
    refine ⟨vo3, frame_ex (F := ndFrame _ tb vo3 ((k : Int) - 1)) (by rfl) ?_⟩
    have := HH3.out
    rw [List.reverse_append, List.reverse_reverse]
    exact this
  · gi_wp2
    exact ⟨rfl, rfl, hx1⟩
end
end Go.Proofs.YtiibknlpeodejaaGreatDoor

/- shift.nodes, an iterator: its word. -/
namespace Go.Proofs.YtiibknlpeodejaaGreatDoor
open Go.Lx Go.RowKit
attribute [local go_sem] Oper.semAt_some

section
variable {W0 w : World} {tb c n : Nat} {t : List Nd} {p : Option Addr}
/-- At the loop's head. -/
def NdI (W0 : World) (tb : Nat) (vt : Value) (B : Nat) (J : Option Nat → List (Nat × Nat) → World → Prop) (t : List Nd) (l m : Nat) (a : Act) (A : World) : Prop :=
  ∃ pre st, NNext W0 tb vt B (fun b A => J b pre A) (.func (.yield l) #[] #[]) m st a A ∧ pre ++ nodesGo t m st = nodesOf t ∧ (nodesGo t m st).length = m ∧ m ≤ t.length ∧ (∀ u ∈ st, u + 2 * m ≤ 8000) ∧ st.length + 8 * m ≤ 33000
/-- What the iterator's loop comes to. -/
def NdD (J : Option Nat → List (Nat × Nat) → World → Prop) (Jx : List (Nat × Nat) → World → Prop) (t : List Nd) (e : Exit) (a : Act) (A : World) : Prop :=
  a.defers = [] ∧ ((e = .exit 0 ∧ ∃ b, J b (nodesOf t) A) ∨ (e = .ret ∧ ∃ pre, Jx pre A))
theorem own_one (w0 : World) (base : Nat) (e : TypeId) (v : Value) (hb : base ≤ w0.heap.size) : (w0.alloc (.cells #[v] e)).ownsRow base e 1 (.slice (some ⟨w0.heap.size, 0, none⟩) 1 1) 1 [v] :=
  ⟨by simp, .inr ⟨w0.heap.size, 1, #[v], rfl, hb, box_new w0 _ _, Nat.le_refl _, by decide, by simp, by simp⟩⟩
theorem nd_rounds {B l : Nat} {W : World} {J : Option Nat → List (Nat × Nat) → World → Prop} {Jx : List (Nat × Nat) → World → Prop} (hn : t.length ≤ 4000) (hcap : t.length ≤ c) (hs : ∀ x ∈ t, x.s.size ≤ maxLen) (hp : RowArg W0 p (ndCells t)) (hS : ShapesAt 0 W0)
    (hW : W0.heap.size ≤ B) (ht : tb < B) (hJ : ∀ b b' pre A A', J b pre A → IStep b b' A A' → J b' pre A')
    (hY : ∀ b pre x A, J b pre A → pre ++ [x] <+: nodesOf t → YieldAt Fence.wide (n - 1) Tryz.prog l #[.int .i64 (x.1 : Int), .int .i64 (x.2 : Int)] A fun e A' =>
      (e = .returned (.bool true) ∧ J b (pre ++ [x]) A' ∧ Kept (fun k => k < W0.heap.size ∨ k = tb) b A A') ∨ (e = .returned (.bool false) ∧ Jx (pre ++ [x]) A'))
    (m : Nat) (a : Act) (A : World) (h0 : NdI W0 tb (.slice p t.length c) B J t l m a A) :
    (Code.loop ndRound).wpIn Fence.wide n Tryz.prog (NdD J Jx t) a A := by
  refine wpIn_wide.2 (wp_loop_ghost (NdI W0 tb (.slice p t.length c) B J t l) m h0 ?_)
  clear h0
  rintro m a A ⟨pre, st, ⟨vo, Jn, rfl, hH⟩, hx, hl, hm, hu, hst⟩
  refine (wpIn_wide (n := n)).1 ?_
  cases m with
  | zero =>
    have he : nodesGo t 0 st = [] := List.eq_nil_of_length_eq_zero hl
    rw [he, List.append_nil] at hx
    subst hx
    have hH' : NH W0 tb (.slice p t.length c) B (fun b A => J b (nodesOf t) A) vo st.reverse A := hH
    have HJ := Lib.hid hH.j
    clear hH hH' hu hst hY hJ
    unfold ndRound ndText
    simp only [Tryz.f75, Option.getD_some, sndOf, inOf]
    unfold ndFrame
    gi_wp2
    exact ⟨rfl, .inl ⟨rfl, _, HJ.out⟩⟩
  | succ k =>
    cases st with
    | nil => simp [nodesGo] at hl
    | cons u st =>
      have hk : k < t.length := by omega
      have hxk : t[k]? = some t[k] := List.getElem?_eq_getElem hk
      rw [nodesGo_succ hxk] at hx hl
      obtain ⟨b, off, rfl, hb, c0, c1, c2, c3⟩ := hp.node hxk
      have hu1 := hu u (List.mem_cons_self ..)
      rw [List.length_cons] at hst
      have hpre : pre ++ [(k, u)] <+: nodesOf t := ⟨nodesGo t k (((bindsR t[k]).map (u + ·)).reverse ++ st), by rw [← hx]; simp⟩
      refine wpIn_mono (nd_one (Jd := fun b A => J b (pre ++ [(k, u)]) A) (Jx := Jx (pre ++ [(k, u)])) (R := fun k => k < W0.heap.size ∨ k = tb) (l := l) (fun b b' A A' h1 h2 => hJ b b' _ A A' h1 h2) hW ht (fun k hk => Or.inl hk) (Or.inr rfl) hk hn hcap (by omega) (by omega) rfl (hs _ (List.getElem_mem hk)) hS hb c0 c1 c2 c3 Jn A hH (hY _ pre (k, u) A hH.j hpre)) ?_
      rintro e a' A' h
      cases e with
      | normal =>
        refine ⟨k, by omega, pre ++ [(k, u)], _, h, by rw [← hx]; simp, by simpa using hl, by omega, ?_, ?_⟩
        · intro v hv
          rcases List.mem_append.1 hv with hv | hv
          · rw [List.mem_reverse, List.mem_map] at hv
            obtain ⟨y, hy, rfl⟩ := hv
            have := bindsR_le y hy
            omega
          · have := hu v (List.mem_cons_of_mem _ hv); omega
        · rw [List.length_append, List.length_reverse, List.length_map]
          have := bindsR_len t[k]
          omega
      | _ => exact ⟨h.2.1, .inr ⟨h.1, _, h.2.2⟩⟩
set_option maxRecDepth 100000 in
set_option maxHeartbeats 1000000 in
theorem nodes_iter (hn : t.length ≤ 4000) (hcap : t.length ≤ c) (hs : ∀ x ∈ t, x.s.size ≤ maxLen) (hp : RowArg W0 p (ndCells t)) (hS : ShapesAt 0 W0) (hU : Under W0 w) (hB : BoxAt w tb 22 #[.slice p t.length c]) (hlen : (nodesOf t).length = t.length) :
    Iter Fence.wide n Tryz.prog 75 #[.pointer (some ⟨tb, 0, none⟩)] (fun x : Nat × Nat => #[.int .i64 (x.1 : Int), .int .i64 (x.2 : Int)]) (fun k => k < W0.heap.size ∨ k = tb) (nodesOf t) w := by
  intro l J Jx W hW hJ hY h0
  have HL := Lib.hid (nd_rounds (n := n) (l := l) (B := W.heap.size) (tb := tb) (W := W) (c := c) (p := p) (t := t) (W0 := W0) (J := J) (Jx := Jx) hn hcap hs hp hS (Nat.le_trans hU.size hW.size) (Nat.lt_of_lt_of_le hB.lt hW.size) hJ hY t.length)
  have HB := Lib.hid (hB.under hW)
  have eb := HB.out.cell 0
  have elt := HB.out.lt
  have HU := Lib.hid (hU.trans hW)
  have HJ := Lib.hid hJ
  have H0 := Lib.hid h0
  have HLen := Lib.hid hlen
  have hn1 : (t.length : Int) ≤ 4000 := by omega
  have hn0 : (0 : Int) ≤ t.length := Int.natCast_nonneg _
  clear hJ hY h0 hp hS hs hlen
  refine callsIn_of_wp Tryz.func75 rfl trivial ?_ rfl
  simp only [Tryz.ntmps75, List.size_toArray, List.length_cons, List.length_nil, Nat.reduceAdd, Nat.reduceSub, Array.replicate_succ, Array.replicate_zero, List.push_toArray, List.append_toArray, List.nil_append, List.cons_append]
  gi_wp2
  have hNH : NH W0 tb (.slice p t.length c) W.heap.size (fun b A => J b [] A) (.slice (some ⟨W.heap.size, 0, none⟩) 1 1) [0].reverse (W.alloc (.cells #[.int .i64 0] 3)) :=
    ⟨HJ.out none _ [] W _ H0.out ⟨rfl, rfl, by simp, fun k hk _ => (under_alloc (Under.refl W) _).low k hk, .inr ⟨W.heap.size, rfl, Nat.le_refl _⟩⟩,
     own_one W _ _ _ (Nat.le_refl _), under_alloc HU.out _, HB.out.alloc _, by simp⟩
  refine wpIn_mono (HL.out _ _ ⟨[], [0], ⟨_, frame_ex (F := ndFrame _ tb _ ((t.length : Int) - 1)) (by rfl) hNH⟩, rfl, HLen.out, Nat.le_refl _, fun u hu => by rw [List.mem_singleton.1 hu]; omega, by simp; omega⟩) ?_
  rintro e a' A' ⟨hd, (⟨rfl, b, hb⟩ | ⟨rfl, pre, hpre⟩)⟩
  · simp only [Exit.inBlock, if_pos]
    exact bodyPost_end (P := Tryz.prog) (fn := Tryz.f75) (R := fun e W' => (∃ v, e = Ending.returned v) ∧ ((∃ b, J b (nodesOf t) W') ∨ ∃ pre, Jx pre W')) (results_none rfl _ _ _) hd ⟨⟨_, rfl⟩, .inl ⟨b, hb⟩⟩
  · simp only [Exit.inBlock]
    exact bodyPost_ret (P := Tryz.prog) (fn := Tryz.f75) (R := fun e W' => (∃ v, e = Ending.returned v) ∧ ((∃ b, J b (nodesOf t) W') ∨ ∃ pre, Jx pre W')) (results_none rfl _ _ _) hd ⟨⟨_, rfl⟩, .inr ⟨pre, hpre⟩⟩
end
end Go.Proofs.YtiibknlpeodejaaGreatDoor

/- shift.each. -/
namespace Go.Proofs.YtiibknlpeodejaaGreatDoor
open Go.Lx Go.RowKit
attribute [local go_sem] Oper.semAt_some

set_option maxRecDepth 100000 in
theorem nodesCall (p : Option Addr) (n c : Nat) (w : World) : Calls Tryz.prog 57 #[.slice p n c] w fun e w' => e = .returned (.func (.func 75) #[] #[.pointer (some ⟨w.heap.size, 0, none⟩)]) ∧ w' = w.alloc (.cells #[.slice p n c] 22) := by
  go_enter Tryz.func57, Tryz.ntmps57
  go_wp2
  go_ret
  exact ⟨rfl, rfl⟩
/-- Somebody who is told of each free variable: what he holds is a number. -/
def Told (f : Nat) (g : Int → Int → Int) : Prop := (∀ args w, (callFunc f args).run Tryz.prog w = .ok (.enter f args) w) ∧ ∀ (nb : Nat) (s v : Int) (w : World), -1000000 ≤ s → s ≤ 1000000 → 0 ≤ v → v ≤ 99 → BoxAt w nb 3 #[.int .i64 s] →
  Calls Tryz.prog f #[.int .i64 v, .pointer (some ⟨nb, 0, none⟩)] w fun e w' => (∃ v, e = .returned v) ∧ w' = w.setCell ⟨nb, 0, none⟩ (.int .i64 (g s v))
/-- What is told of one node. -/
def tellOne (t : List Nd) (g : Int → Int → Int) (s : Int) (x : Nat × Nat) : Int :=
  match t[x.1]? with
  | some y => if y.k = 0 ∧ (x.2 : Int) ≤ y.n then g s (y.n - x.2) else s
  | none => s
def tell (t : List Nd) (g : Int → Int → Int) (s : Int) (l : List (Nat × Nat)) : Int := l.foldl (tellOne t g) s
section
variable {W0 w0 : World} {t : List Nd} {p : Option Addr} {c nb f : Nat} {g : Int → Int → Int} {s0 : Int}
set_option maxRecDepth 100000 in
set_option maxHeartbeats 1000000 in
theorem each_any (hT : Told f g) (hcap : t.length ≤ c) (hn : t.length ≤ maxLen) (hs : ∀ x ∈ t, x.s.size ≤ maxLen) (hp : RowArg W0 p (ndCells t)) (hS : ShapesAt 0 W0) (hU : Under W0 w0) (hB : BoxAt w0 nb 3 #[.int .i64 s0]) (hnb : W0.heap.size ≤ nb) (hc : checkE t = 0)
    (hbd : ∀ pre, pre <+: nodesOf t → -1000000 ≤ tell t g s0 pre ∧ tell t g s0 pre ≤ 1000000) :
    Calls Tryz.prog 32 #[.slice p t.length c, .func (.func f) #[] #[.pointer (some ⟨nb, 0, none⟩)]] w0 fun e w => e = .returned (.int .i64 0) ∧ Turned (some nb) w0 w ∧ BoxAt w nb 3 #[.int .i64 (tell t g s0 (nodesOf t))] := by
  obtain ⟨hlen, hn4⟩ := nodes_len hc
  have hC := fun (w : World) (h : Under W0 w) => check_any (c := c) t hn hs (hp.under h) (hS.under h)
  rw [hc] at hC
  have hBt := (box_new w0 #[.slice p t.length c] 22).alloc (.cells #[.func (.func f) #[] #[.pointer (some ⟨nb, 0, none⟩)]] 58)
  have hBf := box_new (w0.alloc (.cells #[.slice p t.length c] 22)) #[.func (.func f) #[] #[.pointer (some ⟨nb, 0, none⟩)]] 58
  have hs1 : (w0.alloc (.cells #[.slice p t.length c] 22)).heap.size = w0.heap.size + 1 := by simp
  rw [hs1] at hBf
  have hU2 := under_alloc (under_alloc (Under.refl w0) (.cells #[.slice p t.length c] 22)) (.cells #[.func (.func f) #[] #[.pointer (some ⟨nb, 0, none⟩)]] 58)
  have HC := Lib.hid (hC _ (hU.trans hU2))
  refine (callsIn_wide (n := 10)).1 ?_
  refine callsIn_of_wp_marks Tryz.func32 rfl trivial ?_ rfl
  simp only [Tryz.ntmps32, List.size_toArray, List.length_cons, List.length_nil, Nat.reduceAdd, Nat.reduceSub, Array.replicate_succ, Array.replicate_zero, List.push_toArray, List.append_toArray, List.nil_append, List.cons_append]
  have HBT := Lib.hid hBt
  have HBF := Lib.hid hBf
  have HU2 := Lib.hid hU2
  clear hBt hBf hU2 hs1 hC
  gi_wp2
  refine ⟨trivial, ?_⟩
  refine (callsIn_wide.2 HC.out).mono ?_
  rintro e w1 ⟨rfl, hU1⟩
  have hBt1 := HBT.out.under hU1
  have hBf1 := HBF.out.under hU1
  have et := hBt1.cell 0
  have elt := hBt1.lt
  have HBT1 := Lib.hid hBt1
  have HBF1 := Lib.hid hBf1
  have HU1 := Lib.hid hU1
  have HN := Lib.hid (nodesCall p t.length c w1)
  clear hBt1 hBf1 hU1
  gi_wp2
  refine ⟨trivial, ?_⟩
  refine (callsIn_wide.2 HN.out).mono ?_
  rintro e w2 ⟨rfl, rfl⟩
  have hB2 := box_new w1 #[.slice p t.length c] 22
  have HBT2 := Lib.hid (HBT1.out.alloc (.cells #[.slice p t.length c] 22))
  have HBF2 := Lib.hid (HBF1.out.alloc (.cells #[.slice p t.length c] 22))
  have hUw := (HU2.out.trans HU1.out).trans (under_alloc (Under.refl w1) (.cells #[.slice p t.length c] 22))
  have HUw := Lib.hid hUw
  have HB2 := Lib.hid hB2
  have HNb := Lib.hid (hB.under hUw)
  have hsz : w1.heap.size < (w1.alloc (.cells #[.slice p t.length c] 22)).heap.size := by simp
  have hsz1 := HU1.out.size
  rw [World.size_alloc, World.size_alloc] at hsz1
  have hnlt := hB.lt
  clear hUw hB2 et elt HBT1 HBF1
  gi_wp2
  refine wpIn_rangeFunc_iter rfl (by decide) (gf := 75) (lb := #[.pointer (some ⟨w1.heap.size, 0, none⟩)]) rfl trivial (enters_of Tryz.func75 (by kernel_rfl) rfl)
    (nodes_iter (n := 9) (W0 := W0) (w := w1.alloc (.cells #[.slice p t.length c] 22)) hn4 hcap hs hp hS (hU.trans HUw.out) HB2.out hlen) (Under.refl _) (fun _ => rfl) (fun k hk => by
      rcases hk with hk | rfl
      · exact Nat.lt_of_lt_of_le hk (hU.trans HUw.out).size
      · exact hsz)
    (fun b pre A => Turned (some nb) (w1.alloc (.cells #[.slice p t.length c] 22)) A ∧ BoxAt A nb 3 #[.int .i64 (tell t g s0 pre)])
    (fun _ _ _ => False)
    ?hI ?hIo (fun _ _ _ _ _ _ h _ _ _ => h) ⟨Turned.refl _ _, HNb.out⟩ ?a1 ?assign ?body ?done (fun _ _ _ _ _ h _ => h.elim)
  case hI =>
    rintro b b' pre A A' ⟨h1, h2⟩ hs hsz2 hb
    have hne : some nb ≠ b := fun e => by have := hb nb e.symm; have := HUw.out.size; simp at *; omega
    exact ⟨⟨hs.os.trans h1.os, hs.output.trans h1.output, Nat.le_trans h1.size hs.size, fun k hk hr => (hs.block k (Nat.lt_of_lt_of_le hk h1.size) fun e => by have := hb k e.symm; omega).trans (h1.block k hk hr)⟩, (hs.block nb h2.lt hne).trans h2⟩
  case hIo =>
    rintro b pre A l o o' ⟨h1, h2⟩ hl ho hc
    have hne : l ≠ nb := fun e => by subst e; have := h2; unfold BoxAt at this; rw [this] at ho; cases ho; cases hc
    exact ⟨⟨h1.os, h1.output, by simpa using h1.size, fun k hk hr => (World.putObj_heap_other (by omega)).trans (h1.block k hk hr)⟩, (World.putObj_heap_other (fun e => hne e.symm)).trans h2⟩
  case assign =>
    intro l x W K hK
    gi_wp2
    exact hK
  case body =>
    rintro l b pre ⟨at_, under⟩ A hsz3 hb ⟨hT1, hBn⟩ hpre
    have hUA := hT1.under (hU.trans HUw.out) hnb
    have hmem : (at_, under) ∈ nodesOf t := hpre.subset (by simp)
    have hat := nodesGo_lt t t.length [0] _ hmem
    simp only at hat
    have hxk : t[at_]? = some t[at_] := List.getElem?_eq_getElem hat
    have hright := check_right hc _ (List.getElem_mem hat)
    obtain ⟨bb, off, hpe, hbb, c0, c1, c2, c3⟩ := hp.node hxk
    rw [← under_cell hUA hbb] at c0 c1 c2 c3
    have hbbA := Nat.lt_of_lt_of_le hbb hUA.size
    have hbd1 := hbd pre ⟨_, by have := hpre.choose_spec; rw [List.append_assoc] at this; exact this⟩
    have htell : tell t g s0 (pre ++ [(at_, under)]) = tellOne t g (tell t g s0 pre) (at_, under) := by unfold tell; rw [List.foldl_append]; rfl
    have hone : tellOne t g (tell t g s0 pre) (at_, under) = if t[at_].k = 0 ∧ (under : Int) ≤ t[at_].n then g (tell t g s0 pre) (t[at_].n - under) else tell t g s0 pre := by
      unfold tellOne; simp only [hxk]
    rw [hone] at htell
    generalize hx : t[at_] = x at *
    have hBT3 := HBT2.out.turned hT1 (by simp; omega)
    have hBF3 := HBF2.out.turned hT1 (by simp; omega)
    have et := hBT3.cell 0
    have ef := hBF3.cell 0
    have elt := hBT3.lt
    have elf := hBF3.lt
    have enb := hBn.lt
    have HT1 := Lib.hid hT1
    have HBn := Lib.hid hBn
    have HTl := Lib.hid htell
    have HP := Lib.hid hpe
    have hat' : (at_ : Int) < t.length := by omega
    have hat0 : (0 : Int) ≤ at_ := Int.natCast_nonneg _
    have hn4' : (t.length : Int) ≤ 4000 := by omega
    subst hpe
    have HBN2 := Lib.hid (hBn.alloc (.cells #[.int .i64 x.k, .int .i64 x.n, .int .i64 x.m, .string x.s] 38))
    clear hBT3 hBF3 hT1 hBn htell hone hxk hx hpre hmem
    by_cases h0 : x.k = 0
    · obtain ⟨hv0, hv1⟩ := rightB_var hright h0
      have h0' : (x.k == 0) = true := by simpa using h0
      by_cases hle : (under : Int) ≤ x.n
      · have hu0 : (0 : Int) ≤ under := Int.natCast_nonneg _
        have hen := hT.1
        have HTo := Lib.hid (hT.2 nb (tell t g s0 pre) (x.n - under) (A.alloc (.cells #[.int .i64 x.k, .int .i64 x.n, .int .i64 x.m, .string x.s] 38)) hbd1.1 hbd1.2 (by omega) (by omega) HBN2.out)
        have hif : (if x.k = 0 ∧ (under : Int) ≤ x.n then g (tell t g s0 pre) (x.n - under) else tell t g s0 pre) = g (tell t g s0 pre) (x.n - under) := if_pos ⟨h0, hle⟩
        have HIf := Lib.hid hif
        clear hif h0 hbd1
        gi_wp2
        refine ⟨trivial, ?_⟩
        refine (CallsIn.inRound l (callsIn_wide.2 HTo.out)).mono ?_
        rintro e A2 ⟨⟨v, rfl⟩, hA2⟩
        have hk2 : KeepsOthers A A2 := by rw [hA2]; exact (KeepsOthers.alloc _ _).trans (KeepsOthers.setCell _ _ _)
        have ht2 : Turned (some nb) A A2 := by rw [hA2]; exact (Turned.of_under (under_alloc (Under.refl _) _)).trans (Turned.set _ _ _ _)
        have hb2 : BoxAt A2 nb 3 #[.int .i64 (g (tell t g s0 pre) (x.n - under))] := by rw [hA2]; exact HBN2.out.set _ _
        have HK2 := Lib.hid hk2
        have HT2 := Lib.hid ht2
        have HB2' := Lib.hid hb2
        clear hA2 hk2 ht2 hb2
        gi_wp2
        refine ⟨HK2.out.from _, ⟨HT2.out.os, HT2.out.output, HT2.out.size, fun k hk hr => HT2.out.block k hk fun e => ?_⟩, HT1.out.trans HT2.out, ?_⟩
        · cases e
          rcases hr with (hr | hr) | hr
          · omega
          · have := HU1.out.size; simp at *; omega
          · have := hb nb hr; simp at *; omega
        · rw [HTl.out, HIf.out]
          exact HB2'.out
      · have hif : (if x.k = 0 ∧ (under : Int) ≤ x.n then g (tell t g s0 pre) (x.n - under) else tell t g s0 pre) = tell t g s0 pre := if_neg fun h => hle h.2
        have HIf := Lib.hid hif
        have hlt : x.n < (under : Int) := by omega
        clear hif h0 hle hbd1
        gi_wp2
        refine ⟨(KeepsOthers.alloc _ _).from _, Kept.of_under (under_alloc (Under.refl _) _), HT1.out.trans (Turned.of_under (under_alloc (Under.refl _) _)), ?_⟩
        rw [HTl.out, HIf.out]
        exact HBN2.out
    · have h0' : (x.k == 0) = false := by simpa using h0
      have hif : (if x.k = 0 ∧ (under : Int) ≤ x.n then g (tell t g s0 pre) (x.n - under) else tell t g s0 pre) = tell t g s0 pre := if_neg fun h => h0 h.1
      have HIf := Lib.hid hif
      clear hif h0 hbd1
      gi_wp2
      refine ⟨(KeepsOthers.alloc _ _).from _, Kept.of_under (under_alloc (Under.refl _) _), HT1.out.trans (Turned.of_under (under_alloc (Under.refl _) _)), ?_⟩
      rw [HTl.out, HIf.out]
      exact HBN2.out
  case done =>
    rintro D b W hD ⟨hT1, hBn⟩ hK
    gi_wp2
    refine ⟨by simp, .inl ⟨_, _, rfl, run_takeDeferred hK, ?_⟩⟩
    refine ⟨_, results_tmp rfl _ _ _, rfl, ?_, ?_⟩
    · have h0 := (Turned.of_under (r := some nb) HUw.out).trans hT1
      exact ⟨h0.os, h0.output, by simpa using h0.size, fun k hk hr => (World.putObj_heap_other (by have := HUw.out.size; omega)).trans (h0.block k hk hr)⟩
    · exact (World.putObj_heap_other (by have := HUw.out.size; omega)).trans hBn
end
end Go.Proofs.YtiibknlpeodejaaGreatDoor

/- shift.Free: its contract. -/
namespace Go.Proofs.YtiibknlpeodejaaGreatDoor
open Go.Lx Go.RowKit

def most1 (s v : Int) : Int := max s (v + 1)
/-- One more than the greatest free variable. -/
def freeN (t : List Nd) : Int := tell t most1 0 (nodesOf t)
theorem tell_bd {t : List Nd} (hr : ∀ x ∈ t, rightB x = true) : ∀ (l : List (Nat × Nat)) (s : Int), 0 ≤ s → s ≤ 100 → 0 ≤ tell t most1 s l ∧ tell t most1 s l ≤ 100 := by
  intro l
  induction l with
  | nil => intro s h0 h1; exact ⟨h0, h1⟩
  | cons x l ih =>
    intro s h0 h1
    have : 0 ≤ tellOne t most1 s x ∧ tellOne t most1 s x ≤ 100 := by
      unfold tellOne
      split
      · rename_i y hy
        split
        · rename_i h
          have := rightB_var (hr y (List.mem_of_getElem? hy)) h.1
          unfold most1
          omega
        · exact ⟨h0, h1⟩
      · exact ⟨h0, h1⟩
    exact ih _ this.1 this.2
set_option maxRecDepth 100000 in
theorem free1_told : Told 33 most1 := by
  refine ⟨enters_of Tryz.func33 (by kernel_rfl) rfl, ?_⟩
  intro nb s v w h0 h1 h2 h3 hB
  have e0 := hB.cell 0
  have f0 := hB.free 0
  have hl := hB.lt
  unfold most1
  clear hB
  by_cases hm : v + 1 ≤ s
  · rw [show max s (v + 1) = s by omega]
    go_enter Tryz.func33, Tryz.ntmps33
    go_wp2
    all_goals
      go_end0
      first
        | exact ⟨⟨_, rfl⟩, rfl⟩
        | (refine ⟨⟨_, rfl⟩, ?_⟩; congr 2; omega)
  · rw [show max s (v + 1) = v + 1 by omega]
    go_enter Tryz.func33, Tryz.ntmps33
    go_wp2
    all_goals
      go_end0
      first
        | exact ⟨⟨_, rfl⟩, rfl⟩
        | (refine ⟨⟨_, rfl⟩, ?_⟩; congr 2; omega)
/-- What Free answers. -/
def FreeOut (w0 : World) (t : List Nd) (e : Ending) (w : World) : Prop := e = .returned (.tuple #[.int .i64 (if checkE t = 0 then freeN t else 0), .int .i64 (checkE t)]) ∧ Under w0 w
theorem ret_ints {a a' b b' : Int} (h : a = a') (h2 : b = b') : Ending.returned (.tuple #[.int .i64 a, .int .i64 b]) = .returned (.tuple #[.int .i64 a', .int .i64 b']) := by rw [h, h2]
section
variable {w0 : World} {t : List Nd} {p : Option Addr} {c : Nat}
set_option maxRecDepth 100000 in
theorem each_err {W0 : World} (f nb : Nat) (hn : t.length ≤ maxLen) (hs : ∀ x ∈ t, x.s.size ≤ maxLen) (hp : RowArg W0 p (ndCells t)) (hS : ShapesAt 0 W0) (hU : Under W0 w0) (hc : checkE t ≠ 0) :
    Calls Tryz.prog 32 #[.slice p t.length c, .func (.func f) #[] #[.pointer (some ⟨nb, 0, none⟩)]] w0 fun e w => e = .returned (.int .i64 (checkE t)) ∧ Under w0 w := by
  have hU2 := under_alloc (under_alloc (Under.refl w0) (.cells #[.slice p t.length c] 22)) (.cells #[.func (.func f) #[] #[.pointer (some ⟨nb, 0, none⟩)]] 58)
  have HC := Lib.hid (check_any (c := c) t hn hs (hp.under (hU.trans hU2)) (hS.under (hU.trans hU2)))
  have HU2 := Lib.hid hU2
  have hc' : (checkE t != 0) = true := by simpa using hc
  clear hp hS hs hU2 hU hc
  generalize checkE t = ce at *
  go_enter Tryz.func32, Tryz.ntmps32
  go_wp2_with fail
  refine HC.out.mono ?_
  rintro e w1 ⟨rfl, hU1⟩
  have HU1 := Lib.hid hU1
  clear hU1
  go_wp2
  go_ret
  exact ⟨rfl, HU2.out.trans HU1.out⟩
set_option maxRecDepth 100000 in
theorem free_any (hcap : t.length ≤ c) (hn : t.length ≤ maxLen) (hs : ∀ x ∈ t, x.s.size ≤ maxLen) (hp : RowArg w0 p (ndCells t)) (hS : ShapesAt 0 w0) :
    Calls Tryz.prog 18 #[.slice p t.length c] w0 (FreeOut w0 t) := by
  have hB := box_new w0 #[.int .i64 0] 3
  have hU := under_alloc (Under.refl w0) (.cells #[.int .i64 0] 3)
  by_cases hc : checkE t = 0
  · have HE := Lib.hid (each_any (W0 := w0) (c := c) (s0 := 0) free1_told hcap hn hs hp hS hU hB (Nat.le_refl _) hc (fun pre _ => by have := tell_bd (check_right hc) pre 0 (by omega) (by omega); omega))
    have HF := Lib.hid (show (if checkE t = 0 then freeN t else 0) = tell t most1 0 (nodesOf t) from if_pos hc)
    have HC := Lib.hid hc
    have HU := Lib.hid hU
    clear hp hS hs hU hc hB
    go_enter Tryz.func18, Tryz.ntmps18
    go_wp2_with fail
    refine HE.out.mono ?_
    rintro e w1 ⟨rfl, hT, hB1⟩
    have e0 := hB1.cell 0
    have hl := hB1.lt
    have HT := Lib.hid hT
    clear hT hB1
    go_wp2
    go_ret2
    exact ⟨ret_ints HF.out.symm HC.out.symm, HT.out.under HU.out (Nat.le_refl _)⟩
  · have HE := Lib.hid (each_err (W0 := w0) (c := c) 33 w0.heap.size hn hs hp hS hU hc)
    have HF := Lib.hid (show (if checkE t = 0 then freeN t else 0) = 0 from if_neg hc)
    have HU := Lib.hid hU
    have HB := Lib.hid hB
    clear hp hS hs hU hc hB
    go_enter Tryz.func18, Tryz.ntmps18
    go_wp2_with fail
    refine HE.out.mono ?_
    rintro e w1 ⟨rfl, hU1⟩
    have hB1 := HB.out.under hU1
    have e0 := hB1.cell 0
    have hl := hB1.lt
    have HU1 := Lib.hid hU1
    clear hU1 hB1
    go_wp2
    go_ret2
    exact ⟨ret_ints HF.out.symm rfl, HU.out.trans HU1.out⟩
end
end Go.Proofs.YtiibknlpeodejaaGreatDoor

/- corniceref08.Has, corniceref05.Texts, corniceref06.Word, corniceref02.Same, corniceref02.Root: their contracts. -/
namespace Go.Proofs.YtiibknlpeodejaaGreatDoor
open Go.Lx Go.RowKit

/-- Is a text among these? -/
def hasB (ss : List ByteArray) (s : ByteArray) : Bool := ss.any fun x => x.toList == s.toList
def HsRel (w0 : World) (ss : List ByteArray) (s : ByteArray) (i : Value) (wr : World) : Prop := ∃ k : Nat, k ≤ ss.length ∧ i = .int .i64 (k : Int) ∧ (hasB ss s = hasB (ss.drop k) s) ∧ w0 = wr
section
variable {w0 : World}
set_option maxRecDepth 100000 in
set_option maxHeartbeats 1000000 in
theorem has_any (ss : List ByteArray) (s : ByteArray) {v : Value} (hn : ss.length ≤ maxLen) (hv : TextsV w0 v ss) : Calls Tryz.prog 53 #[v, .string s] w0 fun e w => e = .returned (.bool (hasB ss s)) ∧ w = w0 := by
  obtain ⟨p, c, rfl, _, _, hr⟩ := hv
  have HR := Lib.hid hr
  have hn0 : (0 : Int) ≤ (ss.length : Int) := by omega
  have hn' : (ss.length : Int) ≤ 9223372036854775807 := by unfold maxLen at hn; omega
  clear hr hn
  go_enter Tryz.func53, Tryz.ntmps53
  go_wp2
  go_loopw [5] (fun i wr => HsRel w0 ss s i wr) (fun i _ => ss.length - (intOf i).toNat)
  case atStart => exact ⟨0, Nat.zero_le _, rfl, by simp, rfl⟩
  case round =>
    obtain ⟨k, hk, rfl, hN, rfl⟩ := hrel
    have HN := Lib.hid hN
    clear hN
    by_cases hlt : k < ss.length
    · obtain ⟨b, off, rfl, hb, cc⟩ := text_at HR.out hlt
      have hd : hasB (ss.drop k) s = (ss[k].toList == s.toList || hasB (ss.drop (k + 1)) s) := by rw [List.drop_eq_getElem_cons hlt]; rfl
      have HD := Lib.hid hd
      clear hd
      generalize ss[k] = x at *
      cases hx : (x.toList == s.toList)
      · have HX := Lib.hid hx
        go_wp2
        go_roundw
        case rel => exact ⟨k + 1, by omega, by go_num, by rw [HN.out, HD.out, HX.out]; rfl, rfl⟩
        case measure => simp [intOf]; omega
      · have HX := Lib.hid hx
        go_wp2
        go_ret
        exact ⟨by rw [HN.out, HD.out, HX.out]; rfl, rfl⟩
    · obtain rfl : k = ss.length := by omega
      have HE : RowKit.Hid (hasB ss s = false) := Lib.hid (by rw [HN.out, List.drop_length]; rfl)
      go_wp2
      go_ret
      exact ⟨by rw [HE.out]; rfl, rfl⟩
/-- Are these the same texts? -/
def textsB : List ByteArray → List ByteArray → Bool
  | [], [] => true
  | x :: a, y :: b => x.toList == y.toList && textsB a b
  | _, _ => false
theorem textsB_len : ∀ {a b : List ByteArray}, a.length ≠ b.length → textsB a b = false
  | [], [], h => absurd rfl h
  | x :: a, y :: b, h => by
    simp only [textsB]
    rw [textsB_len (a := a) (b := b) (by simpa using h)]
    simp
  | [], y :: b, h => rfl
  | x :: a, [], h => rfl
def TxRel (w0 : World) (a b : List ByteArray) (i : Value) (wr : World) : Prop := ∃ k : Nat, k ≤ a.length ∧ i = .int .i64 (k : Int) ∧ (textsB a b = textsB (a.drop k) (b.drop k)) ∧ Under w0 wr
set_option maxRecDepth 100000 in
set_option maxHeartbeats 1000000 in
theorem texts_any (a b : List ByteArray) {u v : Value} (hn : a.length ≤ maxLen) (hu : TextsV w0 u a) (hv : TextsV w0 v b) : Calls Tryz.prog 12 #[u, v] w0 fun e w => e = .returned (.bool (textsB a b)) ∧ Under w0 w := by
  obtain ⟨p, c, rfl, _, _, hr⟩ := hu
  obtain ⟨p2, c2, rfl, _, _, hr2⟩ := hv
  have HR := Lib.hid hr
  have HR2 := Lib.hid hr2
  have hn0 : (0 : Int) ≤ (a.length : Int) := by omega
  have hn' : (a.length : Int) ≤ 9223372036854775807 := by unfold maxLen at hn; omega
  clear hr hn hr2
  by_cases hl : a.length = b.length
  · have HLb := Lib.hid hl
    have hl1 : ((a.length : Int) == (b.length : Int)) = true := by rw [hl]; simp
    rw [← hl] at hl1 ⊢
    clear hl
    go_enter Tryz.func12, Tryz.ntmps12
    go_wp2
    go_loopw [5] (fun i wr => TxRel w0 a b i wr) (fun i _ => a.length - (intOf i).toNat)
    case atStart => exact ⟨0, Nat.zero_le _, rfl, by simp, Under.refl _⟩
    case round =>
      obtain ⟨k, hk, rfl, hN, hU⟩ := hrel
      have HN := Lib.hid hN
      clear hN
      by_cases hlt : k < a.length
      · have hlt2 : k < b.length := by rw [← HLb.out]; exact hlt
        obtain ⟨b1, off1, rfl, hb1, cc1⟩ := text_at HR.out hlt
        obtain ⟨b2, off2, rfl, hb2, cc2⟩ := text_at HR2.out hlt2
        rw [← under_cell hU hb1] at cc1
        rw [← under_cell hU hb2] at cc2
        have hb1' := Nat.lt_of_lt_of_le hb1 hU.size
        have hb2' := Nat.lt_of_lt_of_le hb2 hU.size
        have hd : textsB (a.drop k) (b.drop k) = (a[k].toList == b[k].toList && textsB (a.drop (k + 1)) (b.drop (k + 1))) := by rw [List.drop_eq_getElem_cons hlt, List.drop_eq_getElem_cons hlt2]; rfl
        have HD := Lib.hid hd
        have HU := Lib.hid hU
        clear hd hU
        generalize a[k] = x at *
        generalize b[k] = y at *
        cases hx : (x.toList == y.toList)
        · have HX := Lib.hid hx
          go_wp2_with fail
          go_quiet (fail)
          go_wp2
          go_ret
          exact ⟨by rw [HN.out, HD.out, HX.out]; rfl, under_drewN HU.out _⟩
        · have HX := Lib.hid hx
          go_wp2_with fail
          go_quiet (fail)
          go_wp2
          go_roundw
          case rel => exact ⟨k + 1, by omega, by go_num, by rw [HN.out, HD.out, HX.out]; rfl, under_drewN HU.out _⟩
          case measure => simp [intOf]; omega
      · obtain rfl : k = a.length := by omega
        have HE : RowKit.Hid (textsB a b = true) := Lib.hid (by rw [HN.out, List.drop_length, HLb.out, List.drop_length]; rfl)
        have HU := Lib.hid hU
        clear hU
        go_wp2
        go_ret
        exact ⟨by rw [HE.out]; rfl, HU.out⟩
  · have HE := Lib.hid (textsB_len hl)
    have hl1 : ((a.length : Int) == (b.length : Int)) = false := by simp; omega
    clear hl
    go_enter Tryz.func12, Tryz.ntmps12
    go_wp2
    go_ret
    exact ⟨by rw [HE.out]; rfl, Under.refl _⟩
end
end Go.Proofs.YtiibknlpeodejaaGreatDoor

/- corniceref09.fresh: its contract. -/
namespace Go.Proofs.YtiibknlpeodejaaGreatDoor
open Go.Lx Go.RowKit

theorem nameZ_nat (n : Nat) : nameZ (n : Int) = nameN n := by
  unfold nameZ nameN
  rw [show max (n : Int) 0 = (n : Int) by omega, itoa_nat, app_mk]
theorem hasB_eq (ss : List ByteArray) (s : ByteArray) : hasB ss s = amongB ss s := rfl
def FhRel (w0 : World) (d0 top : Nat) (v : Value) (wr : World) : Prop := ∃ k : Nat, d0 ≤ k ∧ k ≤ top ∧ v = .int .i64 (k : Int) ∧ Under w0 wr
section
variable {w0 : World}
set_option maxRecDepth 100000 in
set_option maxHeartbeats 1000000 in
theorem fresh_any (d : Nat) (hd : d ≤ 1000000) {st av : List ByteArray} {u v : Value} (hs : st.length ≤ 1000000) (ha : av.length ≤ 1000000) (hu : TextsV w0 u st) (hv : TextsV w0 v av) :
    Calls Tryz.prog 46 #[.int .i64 (d : Int), u, v] w0 fun e w => e = .returned (.string (nameN (freshN (av ++ st) d))) ∧ Under w0 w := by
  have HN := Lib.hid (fun (w : World) (k : Nat) (hk : k ≤ 10000000) => rfname_any (w0 := w) (k : Int) (by omega) (by omega))
  simp only [nameZ_nat] at HN
  have HA := Lib.hid (fun (w : World) (s : ByteArray) (h : Under w0 w) => has_any (w0 := w) av s (by unfold maxLen; omega) (hv.under h))
  have HS := Lib.hid (fun (w : World) (s : ByteArray) (h : Under w0 w) => has_any (w0 := w) st s (by unfold maxLen; omega) (hu.under h))
  obtain ⟨g1, g2, g3, g4⟩ := freshN_spec (av ++ st) d
  have hlen : (av ++ st).length = av.length + st.length := by simp
  have HE := Lib.hid (fun k (h1 : d ≤ k) h2 h3 => freshN_eq (ss := av ++ st) (d := d) (k := k) h1 h2 h3)
  have G3 := Lib.hid g3
  have G4 := Lib.hid g4
  obtain ⟨pu, cu, rfl, _⟩ := hu
  obtain ⟨pv, cv, rfl, _⟩ := hv
  have htop : freshN (av ++ st) d ≤ 4000000 := by omega
  clear g2 g3 g4 hlen hs ha
  generalize hF : freshN (av ++ st) d = F at *
  clear hF
  go_enter Tryz.func46, Tryz.ntmps46
  go_wp2
  go_loopw [0] (fun v wr => FhRel w0 d F v wr) (fun v _ => F - (intOf v).toNat)
  case atStart => exact ⟨d, Nat.le_refl _, g1, rfl, Under.refl _⟩
  case round =>
    obtain ⟨k, hk1, hk2, rfl, hU⟩ := hrel
    have hk0 : (0 : Int) ≤ k := Int.natCast_nonneg _
    have HU := Lib.hid hU
    have HNk := Lib.hid (fun w => HN.out w k (by omega))
    clear hU
    cases hav : amongB av (nameN k)
    · have HAV := Lib.hid hav
      cases hst : amongB st (nameN k)
      · have hkF : k = F := by
          rcases Nat.lt_or_ge k F with h | h
          · have := G4.out k hk1 h
            rw [amongB_app, hav, hst] at this
            cases this
          · omega
        subst hkF
        have HST := Lib.hid hst
        clear hav hst
        go_wp2_with fail
        refine (HNk.out _).mono ?_
        rintro e w1 ⟨rfl, m1, rfl⟩
        go_wp2_with fail
        refine (HA.out _ _ (under_drewN HU.out _)).mono ?_
        rintro e w2 ⟨rfl, rfl⟩
        rw [hasB_eq, HAV.out]
        go_wp2_with fail
        refine (HNk.out _).mono ?_
        rintro e w3 ⟨rfl, m3, rfl⟩
        go_wp2_with fail
        refine (HS.out _ _ (under_drewN HU.out _)).mono ?_
        rintro e w4 ⟨rfl, rfl⟩
        rw [hasB_eq, HST.out]
        go_wp2_with fail
        refine (HNk.out _).mono ?_
        rintro e w5 ⟨rfl, m5, rfl⟩
        go_wp2
        go_ret
        exact ⟨rfl, under_drewN HU.out _⟩
      · have hkF : k < F := by
          rcases Nat.lt_or_ge k F with h | h
          · exact h
          · have : k = F := by omega
            subst this
            have := G3.out
            rw [amongB_app, hst] at this
            simp at this
        have HST := Lib.hid hst
        clear hav hst
        go_wp2_with fail
        refine (HNk.out _).mono ?_
        rintro e w1 ⟨rfl, m1, rfl⟩
        go_wp2_with fail
        refine (HA.out _ _ (under_drewN HU.out _)).mono ?_
        rintro e w2 ⟨rfl, rfl⟩
        rw [hasB_eq, HAV.out]
        go_wp2_with fail
        refine (HNk.out _).mono ?_
        rintro e w3 ⟨rfl, m3, rfl⟩
        go_wp2_with fail
        refine (HS.out _ _ (under_drewN HU.out _)).mono ?_
        rintro e w4 ⟨rfl, rfl⟩
        rw [hasB_eq, HST.out]
        go_wp2
        go_roundw
        case rel => exact ⟨k + 1, by omega, by omega, by go_num, under_drewN HU.out _⟩
        case measure => simp [intOf]; omega
    · have hkF : k < F := by
        rcases Nat.lt_or_ge k F with h | h
        · exact h
        · have : k = F := by omega
          subst this
          have := G3.out
          rw [amongB_app, hav] at this
          simp at this
      have HAV := Lib.hid hav
      clear hav
      go_wp2_with fail
      refine (HNk.out _).mono ?_
      rintro e w1 ⟨rfl, m1, rfl⟩
      go_wp2_with fail
      refine (HA.out _ _ (under_drewN HU.out _)).mono ?_
      rintro e w2 ⟨rfl, rfl⟩
      rw [hasB_eq, HAV.out]
      go_wp2
      go_roundw
      case rel => exact ⟨k + 1, by omega, by omega, by go_num, under_drewN HU.out _⟩
      case measure => simp [intOf]; omega
end
end Go.Proofs.YtiibknlpeodejaaGreatDoor

/- corniceref06.Word, corniceref02.Same, corniceref02.Root: their contracts. -/
namespace Go.Proofs.YtiibknlpeodejaaGreatDoor
open Go.Lx Go.RowKit

/-- A word's byte. -/
def wordB (c : UInt8) : Bool := letR c || (decide (48 ≤ (c.toNat : Int)) && decide ((c.toNat : Int) ≤ 57))
section
variable {w0 : World}
set_option maxRecDepth 100000 in
set_option maxHeartbeats 2000000 in
theorem word_any (c : UInt8) : Calls Tryz.prog 15 #[.int .u8 c.toNat] w0 fun e w => e = .returned (.bool (wordB c)) ∧ w = w0 := by
  have HR : RowKit.Hid (wordB c = (((decide (97 ≤ (c.toNat : Int)) && decide ((c.toNat : Int) ≤ 122)) || (decide (65 ≤ (c.toNat : Int)) && decide ((c.toNat : Int) ≤ 90)) || ((c.toNat : Int) == 95)) || (decide (48 ≤ (c.toNat : Int)) && decide ((c.toNat : Int) ≤ 57)))) := Lib.hid rfl
  generalize wordB c = r at *
  generalize (c.toNat : Int) = n at *
  by_cases h1 : 97 ≤ n
  all_goals by_cases h2 : n ≤ 122
  all_goals by_cases h3 : 65 ≤ n
  all_goals by_cases h4 : n ≤ 90
  all_goals by_cases h5 : 48 ≤ n
  all_goals by_cases h6 : n ≤ 57
  all_goals first | omega | skip
  all_goals
    cases h95 : (n == 95)
  all_goals
    go_enter Tryz.func15, Tryz.ntmps15
    go_wp2
    go_ret
    exact ⟨by rw [HR.out]; simp [*] <;> omega, rfl⟩
set_option maxRecDepth 100000 in
set_option maxHeartbeats 1000000 in
theorem root_any {t : List Nd} {x : Nd} {v : Value} (hn : t.length ≤ 1000000) (hx : t[t.length - 1]? = some x) (hv : TermV w0 v t) : Calls Tryz.prog 42 #[v] w0 fun e w => e = .returned (ndV x) ∧ Under w0 w := by
  obtain ⟨p, c, rfl, _, _, hr⟩ := hv
  have hpos : 0 < t.length := by have := (List.getElem?_eq_some_iff.1 hx).1; omega
  obtain ⟨b, off, rfl, hb, c0, c1, c2, c3⟩ := RowArg.node hr hx
  have hb0 : (b < w0.heap.size) := hb
  obtain ⟨m, hm⟩ : ∃ m, t.length = m + 1 := ⟨t.length - 1, by omega⟩
  have hmi : ((m : Int) + 1 - 1) = (m : Int) := by omega
  rw [hm] at c0 c1 c2 c3 ⊢
  simp only [Nat.add_sub_cancel] at c0 c1 c2 c3
  have hm1 : (m : Int) ≤ 1000000 := by omega
  have hm0 : (0 : Int) ≤ (m : Int) := by omega
  clear hx hr hm hn hpos
  go_enter Tryz.func42, Tryz.ntmps42
  go_wp2
  refine bodyPost_ret (v := ndV x) ?_ rfl ⟨rfl, under_alloc (Under.refl _) _⟩
  simp [results, Tryz.f42, go_sem, ndV]
/-- Are these the same nodes? -/
def ndEqB (x y : Nd) : Bool := x.k == y.k && (x.n == y.n && (x.m == y.m && x.s.toList == y.s.toList))
def sameB : List Nd → List Nd → Bool
  | [], [] => true
  | x :: a, y :: b => ndEqB x y && sameB a b
  | _, _ => false
theorem sameB_len : ∀ {a b : List Nd}, a.length ≠ b.length → sameB a b = false
  | [], [], h => absurd rfl h
  | x :: a, y :: b, h => by
    simp only [sameB]
    rw [sameB_len (a := a) (b := b) (by simpa using h)]
    simp
  | [], y :: b, h => rfl
  | x :: a, [], h => rfl
def SmRel (w0 : World) (a b : List Nd) (i : Value) (wr : World) : Prop := ∃ k : Nat, k ≤ a.length ∧ i = .int .i64 (k : Int) ∧ (sameB a b = sameB (a.drop k) (b.drop k)) ∧ Under w0 wr
set_option maxRecDepth 100000 in
set_option maxHeartbeats 1000000 in
theorem same_any (a b : List Nd) {u v : Value} (hn : a.length ≤ maxLen) (hu : TermV w0 u a) (hv : TermV w0 v b) : Calls Tryz.prog 17 #[u, v] w0 fun e w => e = .returned (.bool (sameB a b)) ∧ Under w0 w := by
  obtain ⟨p, c, rfl, _, _, hr⟩ := hu
  obtain ⟨p2, c2, rfl, _, _, hr2⟩ := hv
  have HR := Lib.hid hr
  have HR2 := Lib.hid hr2
  have hn0 : (0 : Int) ≤ (a.length : Int) := by omega
  have hn' : (a.length : Int) ≤ 9223372036854775807 := by unfold maxLen at hn; omega
  clear hr hn hr2
  by_cases hl : a.length = b.length
  · have HLb := Lib.hid hl
    have hl1 : ((a.length : Int) == (b.length : Int)) = true := by rw [hl]; simp
    rw [← hl] at hl1 ⊢
    clear hl
    go_enter Tryz.func17, Tryz.ntmps17
    go_wp2
    go_loopw [5] (fun i wr => SmRel w0 a b i wr) (fun i _ => a.length - (intOf i).toNat)
    case atStart => exact ⟨0, Nat.zero_le _, rfl, by simp, Under.refl _⟩
    case round =>
      obtain ⟨k, hk, rfl, hN, hU⟩ := hrel
      have HN := Lib.hid hN
      clear hN
      by_cases hlt : k < a.length
      · have hlt2 : k < b.length := by rw [← HLb.out]; exact hlt
        obtain ⟨b1, off1, rfl, hb1, c0, c1, c2, c3⟩ := RowArg.node HR.out (List.getElem?_eq_getElem hlt)
        obtain ⟨b2, off2, rfl, hb2, d0, d1, d2, d3⟩ := RowArg.node HR2.out (List.getElem?_eq_getElem hlt2)
        rw [← under_cell hU hb1] at c0 c1 c2 c3
        rw [← under_cell hU hb2] at d0 d1 d2 d3
        have hb1' := Nat.lt_of_lt_of_le hb1 hU.size
        have hb2' := Nat.lt_of_lt_of_le hb2 hU.size
        have hd : sameB (a.drop k) (b.drop k) = (ndEqB a[k] b[k] && sameB (a.drop (k + 1)) (b.drop (k + 1))) := by rw [List.drop_eq_getElem_cons hlt, List.drop_eq_getElem_cons hlt2]; rfl
        have HD := Lib.hid hd
        have HU := Lib.hid hU
        clear hd hU
        generalize a[k] = x at *
        generalize b[k] = y at *
        cases h1 : (x.k == y.k)
        · skip
          have HX : RowKit.Hid (ndEqB x y = false) := Lib.hid (by unfold ndEqB; simp [*])
          go_wp2_with fail
          go_quiet (fail)
          go_wp2
          go_ret
          exact ⟨by rw [HN.out, HD.out, HX.out]; rfl, under_drewN HU.out _⟩
        cases h2 : (x.n == y.n)
        · skip
          have HX : RowKit.Hid (ndEqB x y = false) := Lib.hid (by unfold ndEqB; simp [*])
          go_wp2_with fail
          go_quiet (fail)
          go_wp2
          go_ret
          exact ⟨by rw [HN.out, HD.out, HX.out]; rfl, under_drewN HU.out _⟩
        cases h3 : (x.m == y.m)
        · skip
          have HX : RowKit.Hid (ndEqB x y = false) := Lib.hid (by unfold ndEqB; simp [*])
          go_wp2_with fail
          go_quiet (fail)
          go_wp2
          go_ret
          exact ⟨by rw [HN.out, HD.out, HX.out]; rfl, under_drewN HU.out _⟩
        cases h4 : (x.s.toList == y.s.toList)
        · skip
          have HX : RowKit.Hid (ndEqB x y = false) := Lib.hid (by unfold ndEqB; simp [*])
          go_wp2_with fail
          go_quiet (fail)
          go_wp2
          go_ret
          exact ⟨by rw [HN.out, HD.out, HX.out]; rfl, under_drewN HU.out _⟩
        have HX : RowKit.Hid (ndEqB x y = true) := Lib.hid (by unfold ndEqB; rw [h1, h2, h3, h4]; rfl)
        go_wp2_with fail
        go_quiet (fail)
        go_wp2
        go_roundw
        case rel => exact ⟨k + 1, by omega, by go_num, by rw [HN.out, HD.out, HX.out]; rfl, under_drewN HU.out _⟩
        case measure => simp [intOf]; omega
      · obtain rfl : k = a.length := by omega
        have HE : RowKit.Hid (sameB a b = true) := Lib.hid (by rw [HN.out, List.drop_length, HLb.out, List.drop_length]; rfl)
        have HU := Lib.hid hU
        clear hU
        go_wp2
        go_ret
        exact ⟨by rw [HE.out]; rfl, HU.out⟩
  · have HE := Lib.hid (sameB_len hl)
    have hl1 : ((a.length : Int) == (b.length : Int)) = false := by simp; omega
    clear hl
    go_enter Tryz.func17, Tryz.ntmps17
    go_wp2
    go_ret
    exact ⟨by rw [HE.out]; rfl, Under.refl _⟩
end
end Go.Proofs.YtiibknlpeodejaaGreatDoor

/- corniceref02.plain, corniceref01.level, Check: their contracts. -/
namespace Go.Proofs.YtiibknlpeodejaaGreatDoor
open Go.Lx Go.RowKit

/-- Has a node no fields? -/
def plainB (x : Nd) : Bool := (x.n == 0) && (x.m == 0) && x.s.toList.isEmpty
section
variable {w0 : World}
set_option maxRecDepth 100000 in
set_option maxHeartbeats 1000000 in
theorem plain_any (x : Nd) : Calls Tryz.prog 68 #[ndV x] w0 fun e w => e = .returned (.bool (plainB x)) ∧ w = w0.alloc (.cells #[.int .i64 x.k, .int .i64 x.n, .int .i64 x.m, .string x.s] 38) := by
  have HO : RowKit.Hid (plainB x = ((x.n == 0) && (x.m == 0) && x.s.toList.isEmpty)) := Lib.hid rfl
  generalize plainB x = r at *
  unfold ndV
  cases h1 : (x.n == 0)
  · rw [h1] at HO
    go_enter Tryz.func68, Tryz.ntmps68
    go_wp2
    go_ret
    exact ⟨by rw [HO.out]; rfl, rfl⟩
  · rw [h1] at HO
    cases h2 : (x.m == 0)
    · rw [h2] at HO
      go_enter Tryz.func68, Tryz.ntmps68
      go_wp2
      go_ret
      exact ⟨by rw [HO.out]; rfl, rfl⟩
    · rw [h2] at HO
      cases h3 : x.s.toList.isEmpty
      all_goals
        rw [h3] at HO
        go_enter Tryz.func68, Tryz.ntmps68
        go_wp2
        go_ret
        exact ⟨by rw [HO.out]; rfl, rfl⟩
/-- May a level be? -/
def levB (n : Int) : Bool := decide (0 ≤ n) && decide (n ≤ 9)
set_option maxRecDepth 100000 in
theorem level_any (n : Int) : Calls Tryz.prog 83 #[.int .i64 n] w0 fun e w => e = .returned (.bool (levB n)) ∧ w = w0 := by
  have HO : RowKit.Hid (levB n = (decide (0 ≤ n) && decide (n ≤ 9))) := Lib.hid rfl
  generalize levB n = r at *
  by_cases h1 : 0 ≤ n
  · by_cases h2 : n ≤ 9
    all_goals
      go_enter Tryz.func83, Tryz.ntmps83
      go_wp2
      go_ret
      exact ⟨by rw [HO.out]; simp [h1]; try omega, rfl⟩
  · go_enter Tryz.func83, Tryz.ntmps83
    go_wp2
    go_ret
    exact ⟨by rw [HO.out]; simp; omega, rfl⟩
set_option maxRecDepth 100000 in
theorem rlcheck_any (n : Int) : Calls Tryz.prog 67 #[.int .i64 n] w0 fun e w => e = .returned (.int .i64 (if levB n then 0 else 1)) ∧ w = w0 := by
  have HL := Lib.hid (level_any (w0 := w0) n)
  cases h : levB n
  all_goals
    rw [h] at HL
    go_enter Tryz.func67, Tryz.ntmps67
    go_wp2_with fail
    refine HL.out.mono ?_
    rintro e w1 ⟨rfl, rfl⟩
    go_wp2
    go_ret
    exact ⟨rfl, rfl⟩
end
end Go.Proofs.YtiibknlpeodejaaGreatDoor

/- corniceref02.Binds: its contract. -/
namespace Go.Proofs.YtiibknlpeodejaaGreatDoor
open Go.Lx Go.RowKit

theorem row_emptyZ (w : World) (base : Nat) (e : TypeId) (size : Nat) (hb : base ≤ w.heap.size) : (w.alloc (.cells #[] e)).ownsRow base e size (.slice (some ⟨w.heap.size, 0, none⟩) 0 0) 0 [] :=
  ⟨by simp, .inr ⟨w.heap.size, 0, #[], rfl, hb, box_new w _ _, Nat.le_refl _, by unfold maxLen; omega, by simp, by simp⟩⟩
theorem Tryz.infoInt : (Tryz.prog.info? 3).map (fun i => (i.zero, i.size, i.bytes)) = some (some (.int .i64 0), 1, 8) := by kernel_rfl
section
variable {w0 : World}
set_option maxRecDepth 100000 in
set_option maxHeartbeats 4000000 in
theorem rb_lam (n m : Int) (s : ByteArray) : Calls Tryz.prog 44 #[ndV ⟨4, n, m, s⟩] w0 fun e w => ∃ q c, e = .returned (.tuple #[.slice q 2 c, .bool (plainB ⟨4, n, m, s⟩)]) ∧ 2 ≤ c ∧ RowArg w q (intsN [0, 1]) ∧ Under w0 w := by
  obtain ⟨i0, hi, hz0, hz1, hz2⟩ := info_parts Tryz.infoInt
  have HPl := Lib.hid (fun w => plain_any (w0 := w) ⟨4, n, m, s⟩)
  generalize plainB ⟨4, n, m, s⟩ = pb at *
  unfold ndV at *
  simp only at HPl ⊢
  have HE := Lib.hid (row_emptyZ (w0.alloc (.cells #[.int .i64 4, .int .i64 n, .int .i64 m, .string s] 38)) (w0.heap.size + 1) 3 1 (by simp))
  rw [show (w0.alloc (.cells #[.int .i64 4, .int .i64 n, .int .i64 m, .string s] 38)).heap.size = w0.heap.size + 1 by simp] at HE
  go_enter Tryz.func44, Tryz.ntmps44
  go_wp2_with fail
  obtain ⟨W1, hW1⟩ : ∃ W, W = (w0.alloc (.cells #[.int .i64 4, .int .i64 n, .int .i64 m, .string s] 38)).alloc (.cells #[] 3) := ⟨_, rfl⟩
  have c0 : W1.cell? ⟨w0.heap.size, 0, none⟩ = some (.int .i64 4) := by rw [hW1]; exact ((box_new w0 _ _).alloc _).cell 0
  have c1 : W1.cell? ⟨w0.heap.size, 1, none⟩ = some (.int .i64 n) := by rw [hW1]; exact ((box_new w0 _ _).alloc _).cell 1
  have c2 : W1.cell? ⟨w0.heap.size, 2, none⟩ = some (.int .i64 m) := by rw [hW1]; exact ((box_new w0 _ _).alloc _).cell 2
  have c3 : W1.cell? ⟨w0.heap.size, 3, none⟩ = some (.string s) := by rw [hW1]; exact ((box_new w0 _ _).alloc _).cell 3
  have hsz : w0.heap.size < W1.heap.size := by rw [hW1]; simp; omega
  have HR : RowKit.Hid (W1.ownsRow (w0.heap.size + 1) 3 1 (.slice (some ⟨w0.heap.size + 1, 0, none⟩) 0 0) 0 []) := Lib.hid (by rw [hW1]; exact HE.out)
  rw [← hW1]
  have HBx : RowKit.Hid (BoxAt W1 w0.heap.size 38 #[.int .i64 4, .int .i64 n, .int .i64 m, .string s]) := Lib.hid (by rw [hW1]; exact (box_new w0 _ _).alloc _)
  have HU := Lib.hid (show Under w0 W1 by rw [hW1]; exact under_alloc (under_alloc (Under.refl _) _) _)
  clear hW1 HE
  refine wp_region_noPanic ?_
  refine wp_region_held_drew (S := fun w' => w'.cell? ⟨w0.heap.size, 0, none⟩ = some (.int .i64 4) ∧ w'.cell? ⟨w0.heap.size, 1, none⟩ = some (.int .i64 n) ∧ w'.cell? ⟨w0.heap.size, 2, none⟩ = some (.int .i64 m) ∧ w'.cell? ⟨w0.heap.size, 3, none⟩ = some (.string s)
     ∧ w0.heap.size < w'.heap.size) (by kernel_rfl) ⟨c0, c1, c2, c3, hsz⟩ (fun hHeld => ?_)
  refine wpAnyH_take (i := 0) (v := ?v0) rfl (by kernel_rfl) (by kernel_rfl) (by kernel_rfl) (fun _ _ _ h => h) (Or.inl ⟨by (first | kernel_rfl | rfl), ?hy0⟩) (by assumption) ?rest0
  case hy0 => (intro w hSw; (try dsimp only at hSw); go_simp; try with_reducible rfl)
  try simp only [Act.put, List.setIfInBounds_toArray, List.set_cons_zero, List.set_cons_succ]
  refine wpAnyH_take (i := 3) (v := ?v3) rfl (by kernel_rfl) (by kernel_rfl) (by kernel_rfl) (fun _ _ _ h => h) (Or.inl ⟨by (first | kernel_rfl | rfl), ?hy3⟩) (by assumption) ?rest3
  case hy3 => (intro w hSw; (try dsimp only at hSw); go_simp; try with_reducible rfl)
  try simp only [Act.put, List.setIfInBounds_toArray, List.set_cons_zero, List.set_cons_succ]
  refine wpAnyH_ready (rs := [1]) (by kernel_rfl) (by simp) ?_
  refine AllReadyH.cons rfl (fun K hK => ?_) AllReadyH.nil
  go_simp
  refine hK.out _ _ ?_ (fun hHeld' => ?_)
  · obtain ⟨d0, d1, d2, d3, d4⟩ := hHeld
    have hU := under_alloc (Under.refl W1.drew) (.cells #[.int .i64 0, .int .i64 1] 3)
    exact ⟨(under_cell hU d4 _).trans d0, (under_cell hU d4 _).trans d1, (under_cell hU d4 _).trans d2, (under_cell hU d4 _).trans d3, Nat.lt_of_lt_of_le d4 hU.size⟩
  clear hK K hHeld
  have hHeld := hHeld'
  clear hHeld'
  try simp only [Act.put, List.setIfInBounds_toArray, List.set_cons_zero, List.set_cons_succ]
  refine wpAnyH_ready (rs := [2]) (by kernel_rfl) (by simp) ?_
  refine AllReadyH.cons rfl (fun K hK => ?_) AllReadyH.nil
  refine step_append_lies _ (by rfl) _ _ _ (by rfl) (w0.heap.size + 1) 3 i0 _ 1 8 Tryz.underlying63 hi hz0 hz1 hz2 rfl (by omega) (.slice (some ⟨w0.heap.size + 1, 0, none⟩) 0 0) 0 [] (by rfl) (HR.out.drew.alloc _)
        ⟨W1.heap.size, 0, none⟩ 2 2 [.int .i64 0, .int .i64 1] (by rfl) (by rfl) (World.news_of_block (cs := #[.int .i64 0, .int .i64 1]) (t := 3) (fr := (0, 0)) (heap_alloc_new _ _)) (by simp [Value.oneCell'])
        (by omega) (by simp [maxLen]) (by simp) (by simp; omega) (W1.heap.size + 1) (by simp) ?_
  intro gg cc w2 hown2 hgrow hat hlt
  have HB2 := Lib.hid (BoxAt.grown ((HBx.out.alloc (.cells #[.int .i64 0, .int .i64 1] 3)).drew) hgrow (fun e => by simp [Value.ownBlock] at e))
  have HU2 := Lib.hid (under_grown (under_drew (under_alloc HU.out (.cells #[.int .i64 0, .int .i64 1] 3))) hgrow (fun g e => by simp [Value.ownBlock] at e; omega))
  have HO2 := Lib.hid hown2
  refine hK.out _ _ ?_ (fun hHeld' => ?_)
  · exact ⟨HB2.out.cell 0, HB2.out.cell 1, HB2.out.cell 2, HB2.out.cell 3, HB2.out.lt⟩
  clear hK K hHeld hown2 hgrow hat hlt
  have hHeld := hHeld'
  clear hHeld'
  try simp only [Act.put, List.setIfInBounds_toArray, List.set_cons_zero, List.set_cons_succ]
  refine wpAnyH_ready (rs := [4]) (by kernel_rfl) (by simp) ?_
  refine AllReadyH.cons rfl (fun K hK => ?_) AllReadyH.nil
  go_simp
  go_at_call 68
  refine (HPl.out _).mono ?_
  rintro e w3 ⟨rfl, rfl⟩
  refine hK.out _ _ ?_ (fun hHeld' => ?_)
  · have HB3 := HB2.out.alloc (.cells #[.int .i64 4, .int .i64 n, .int .i64 m, .string s] 38)
    exact ⟨HB3.cell 0, HB3.cell 1, HB3.cell 2, HB3.cell 3, HB3.lt⟩
  clear hK K hHeld
  have hHeld := hHeld'
  clear hHeld'
  try simp only [Act.put, List.setIfInBounds_toArray, List.set_cons_zero, List.set_cons_succ]
  refine wpAnyH_take (i := 5) (v := ?v5) rfl (by kernel_rfl) (by kernel_rfl) (by kernel_rfl) (fun _ _ _ h => h) (Or.inl ⟨by (first | kernel_rfl | rfl), ?hy5⟩) (by assumption) ?rest5
  case hy5 => (intro w hSw; (try dsimp only at hSw); go_simp; try with_reducible rfl)
  try simp only [Act.put, List.getElem_toArray, List.getElem_cons_succ, List.getElem_cons_zero, List.setIfInBounds_toArray, List.set_cons_zero, List.set_cons_succ]
  refine wpAnyH_take (i := 6) (v := ?v6) rfl (by kernel_rfl) (by kernel_rfl) (by kernel_rfl) (fun _ _ _ h => h) (Or.inl ⟨by (first | kernel_rfl | rfl), ?hy6⟩) (by assumption) ?rest6
  case hy6 => (intro w hSw; (try dsimp only at hSw); go_simp; try with_reducible rfl)
  try simp only [Act.put, List.getElem_toArray, List.getElem_cons_succ, List.getElem_cons_zero, List.setIfInBounds_toArray, List.set_cons_zero, List.set_cons_succ]
  refine wpAnyH_done (by kernel_rfl) ?_ _
  refine NoPanic.normal ?_
  obtain ⟨q, c, hv, hc, hr⟩ := RowArg.of_own HO2.out
  cases hv
  go_wp2
  go_ret2
  exact ⟨_, _, rfl, hc, hr.under (under_alloc (Under.refl _) _), under_alloc HU2.out _⟩
end
end Go.Proofs.YtiibknlpeodejaaGreatDoor

/- corniceref02.Binds: its contract, at further kinds. Printed by rbinds.py. -/
namespace Go.Proofs.YtiibknlpeodejaaGreatDoor
open Go.Lx Go.RowKit
section
variable {w0 : World}
set_option maxRecDepth 100000 in
set_option maxHeartbeats 4000000 in
theorem rb_5 (n m : Int) (s : ByteArray) : Calls Tryz.prog 44 #[ndV ⟨5, n, m, s⟩] w0 fun e w => ∃ q c, e = .returned (.tuple #[.slice q 2 c, .bool (plainB ⟨5, n, m, s⟩)]) ∧ 2 ≤ c ∧ RowArg w q (intsN [0, 0]) ∧ Under w0 w := by
  obtain ⟨i0, hi, hz0, hz1, hz2⟩ := info_parts Tryz.infoInt
  have HPl := Lib.hid (fun w => plain_any (w0 := w) ⟨5, n, m, s⟩)
  generalize plainB ⟨5, n, m, s⟩ = pb at *
  unfold ndV at *
  simp only at HPl ⊢
  have HE := Lib.hid (row_emptyZ (w0.alloc (.cells #[.int .i64 5, .int .i64 n, .int .i64 m, .string s] 38)) (w0.heap.size + 1) 3 1 (by simp))
  rw [show (w0.alloc (.cells #[.int .i64 5, .int .i64 n, .int .i64 m, .string s] 38)).heap.size = w0.heap.size + 1 by simp] at HE
  go_enter Tryz.func44, Tryz.ntmps44
  go_wp2_with fail
  obtain ⟨W1, hW1⟩ : ∃ W, W = (w0.alloc (.cells #[.int .i64 5, .int .i64 n, .int .i64 m, .string s] 38)).alloc (.cells #[] 3) := ⟨_, rfl⟩
  have c0 : W1.cell? ⟨w0.heap.size, 0, none⟩ = some (.int .i64 5) := by rw [hW1]; exact ((box_new w0 _ _).alloc _).cell 0
  have c1 : W1.cell? ⟨w0.heap.size, 1, none⟩ = some (.int .i64 n) := by rw [hW1]; exact ((box_new w0 _ _).alloc _).cell 1
  have c2 : W1.cell? ⟨w0.heap.size, 2, none⟩ = some (.int .i64 m) := by rw [hW1]; exact ((box_new w0 _ _).alloc _).cell 2
  have c3 : W1.cell? ⟨w0.heap.size, 3, none⟩ = some (.string s) := by rw [hW1]; exact ((box_new w0 _ _).alloc _).cell 3
  have hsz : w0.heap.size < W1.heap.size := by rw [hW1]; simp; omega
  have HR : RowKit.Hid (W1.ownsRow (w0.heap.size + 1) 3 1 (.slice (some ⟨w0.heap.size + 1, 0, none⟩) 0 0) 0 []) := Lib.hid (by rw [hW1]; exact HE.out)
  rw [← hW1]
  have HBx : RowKit.Hid (BoxAt W1 w0.heap.size 38 #[.int .i64 5, .int .i64 n, .int .i64 m, .string s]) := Lib.hid (by rw [hW1]; exact (box_new w0 _ _).alloc _)
  have HU := Lib.hid (show Under w0 W1 by rw [hW1]; exact under_alloc (under_alloc (Under.refl _) _) _)
  clear hW1 HE
  refine wp_region_noPanic ?_
  refine wp_region_held_drew (S := fun w' => w'.cell? ⟨w0.heap.size, 0, none⟩ = some (.int .i64 5) ∧ w'.cell? ⟨w0.heap.size, 1, none⟩ = some (.int .i64 n) ∧ w'.cell? ⟨w0.heap.size, 2, none⟩ = some (.int .i64 m) ∧ w'.cell? ⟨w0.heap.size, 3, none⟩ = some (.string s)
     ∧ w0.heap.size < w'.heap.size) (by kernel_rfl) ⟨c0, c1, c2, c3, hsz⟩ (fun hHeld => ?_)
  refine wpAnyH_take (i := 0) (v := ?v0) rfl (by kernel_rfl) (by kernel_rfl) (by kernel_rfl) (fun _ _ _ h => h) (Or.inl ⟨by (first | kernel_rfl | rfl), ?hy0⟩) (by assumption) ?rest0
  case hy0 => (intro w hSw; (try dsimp only at hSw); go_simp; try with_reducible rfl)
  try simp only [Act.put, List.setIfInBounds_toArray, List.set_cons_zero, List.set_cons_succ]
  refine wpAnyH_take (i := 3) (v := ?v3) rfl (by kernel_rfl) (by kernel_rfl) (by kernel_rfl) (fun _ _ _ h => h) (Or.inl ⟨by (first | kernel_rfl | rfl), ?hy3⟩) (by assumption) ?rest3
  case hy3 => (intro w hSw; (try dsimp only at hSw); go_simp; try with_reducible rfl)
  try simp only [Act.put, List.setIfInBounds_toArray, List.set_cons_zero, List.set_cons_succ]
  refine wpAnyH_ready (rs := [1]) (by kernel_rfl) (by simp) ?_
  refine AllReadyH.cons rfl (fun K hK => ?_) AllReadyH.nil
  go_simp
  refine hK.out _ _ ?_ (fun hHeld' => ?_)
  · obtain ⟨d0, d1, d2, d3, d4⟩ := hHeld
    have hU := under_alloc (Under.refl W1.drew) (.cells #[.int .i64 0, .int .i64 0] 3)
    exact ⟨(under_cell hU d4 _).trans d0, (under_cell hU d4 _).trans d1, (under_cell hU d4 _).trans d2, (under_cell hU d4 _).trans d3, Nat.lt_of_lt_of_le d4 hU.size⟩
  clear hK K hHeld
  have hHeld := hHeld'
  clear hHeld'
  try simp only [Act.put, List.setIfInBounds_toArray, List.set_cons_zero, List.set_cons_succ]
  refine wpAnyH_ready (rs := [2]) (by kernel_rfl) (by simp) ?_
  refine AllReadyH.cons rfl (fun K hK => ?_) AllReadyH.nil
  refine step_append_lies _ (by rfl) _ _ _ (by rfl) (w0.heap.size + 1) 3 i0 _ 1 8 Tryz.underlying63 hi hz0 hz1 hz2 rfl (by omega) (.slice (some ⟨w0.heap.size + 1, 0, none⟩) 0 0) 0 [] (by rfl) (HR.out.drew.alloc _)
        ⟨W1.heap.size, 0, none⟩ 2 2 [.int .i64 0, .int .i64 0] (by rfl) (by rfl) (World.news_of_block (cs := #[.int .i64 0, .int .i64 0]) (t := 3) (fr := (0, 0)) (heap_alloc_new _ _)) (by simp [Value.oneCell'])
        (by omega) (by simp [maxLen]) (by simp) (by simp; omega) (W1.heap.size + 1) (by simp) ?_
  intro gg cc w2 hown2 hgrow hat hlt
  have HB2 := Lib.hid (BoxAt.grown ((HBx.out.alloc (.cells #[.int .i64 0, .int .i64 0] 3)).drew) hgrow (fun e => by simp [Value.ownBlock] at e))
  have HU2 := Lib.hid (under_grown (under_drew (under_alloc HU.out (.cells #[.int .i64 0, .int .i64 0] 3))) hgrow (fun g e => by simp [Value.ownBlock] at e; omega))
  have HO2 := Lib.hid hown2
  refine hK.out _ _ ?_ (fun hHeld' => ?_)
  · exact ⟨HB2.out.cell 0, HB2.out.cell 1, HB2.out.cell 2, HB2.out.cell 3, HB2.out.lt⟩
  clear hK K hHeld hown2 hgrow hat hlt
  have hHeld := hHeld'
  clear hHeld'
  try simp only [Act.put, List.setIfInBounds_toArray, List.set_cons_zero, List.set_cons_succ]
  refine wpAnyH_ready (rs := [4]) (by kernel_rfl) (by simp) ?_
  refine AllReadyH.cons rfl (fun K hK => ?_) AllReadyH.nil
  go_simp
  go_at_call 68
  refine (HPl.out _).mono ?_
  rintro e w3 ⟨rfl, rfl⟩
  refine hK.out _ _ ?_ (fun hHeld' => ?_)
  · have HB3 := HB2.out.alloc (.cells #[.int .i64 5, .int .i64 n, .int .i64 m, .string s] 38)
    exact ⟨HB3.cell 0, HB3.cell 1, HB3.cell 2, HB3.cell 3, HB3.lt⟩
  clear hK K hHeld
  have hHeld := hHeld'
  clear hHeld'
  try simp only [Act.put, List.setIfInBounds_toArray, List.set_cons_zero, List.set_cons_succ]
  refine wpAnyH_take (i := 5) (v := ?v5) rfl (by kernel_rfl) (by kernel_rfl) (by kernel_rfl) (fun _ _ _ h => h) (Or.inl ⟨by (first | kernel_rfl | rfl), ?hy5⟩) (by assumption) ?rest5
  case hy5 => (intro w hSw; (try dsimp only at hSw); go_simp; try with_reducible rfl)
  try simp only [Act.put, List.getElem_toArray, List.getElem_cons_succ, List.getElem_cons_zero, List.setIfInBounds_toArray, List.set_cons_zero, List.set_cons_succ]
  refine wpAnyH_take (i := 6) (v := ?v6) rfl (by kernel_rfl) (by kernel_rfl) (by kernel_rfl) (fun _ _ _ h => h) (Or.inl ⟨by (first | kernel_rfl | rfl), ?hy6⟩) (by assumption) ?rest6
  case hy6 => (intro w hSw; (try dsimp only at hSw); go_simp; try with_reducible rfl)
  try simp only [Act.put, List.getElem_toArray, List.getElem_cons_succ, List.getElem_cons_zero, List.setIfInBounds_toArray, List.set_cons_zero, List.set_cons_succ]
  refine wpAnyH_done (by kernel_rfl) ?_ _
  refine NoPanic.normal ?_
  obtain ⟨q, c, hv, hc, hr⟩ := RowArg.of_own HO2.out
  cases hv
  go_wp2
  go_ret2
  exact ⟨_, _, rfl, hc, hr.under (under_alloc (Under.refl _) _), under_alloc HU2.out _⟩
set_option maxRecDepth 100000 in
set_option maxHeartbeats 4000000 in
theorem rb_15 (n m : Int) (s : ByteArray) : Calls Tryz.prog 44 #[ndV ⟨15, n, m, s⟩] w0 fun e w => ∃ q c, e = .returned (.tuple #[.slice q 2 c, .bool (plainB ⟨15, n, m, s⟩)]) ∧ 2 ≤ c ∧ RowArg w q (intsN [0, 0]) ∧ Under w0 w := by
  obtain ⟨i0, hi, hz0, hz1, hz2⟩ := info_parts Tryz.infoInt
  have HPl := Lib.hid (fun w => plain_any (w0 := w) ⟨15, n, m, s⟩)
  generalize plainB ⟨15, n, m, s⟩ = pb at *
  unfold ndV at *
  simp only at HPl ⊢
  have HE := Lib.hid (row_emptyZ (w0.alloc (.cells #[.int .i64 15, .int .i64 n, .int .i64 m, .string s] 38)) (w0.heap.size + 1) 3 1 (by simp))
  rw [show (w0.alloc (.cells #[.int .i64 15, .int .i64 n, .int .i64 m, .string s] 38)).heap.size = w0.heap.size + 1 by simp] at HE
  go_enter Tryz.func44, Tryz.ntmps44
  go_wp2_with fail
  obtain ⟨W1, hW1⟩ : ∃ W, W = (w0.alloc (.cells #[.int .i64 15, .int .i64 n, .int .i64 m, .string s] 38)).alloc (.cells #[] 3) := ⟨_, rfl⟩
  have c0 : W1.cell? ⟨w0.heap.size, 0, none⟩ = some (.int .i64 15) := by rw [hW1]; exact ((box_new w0 _ _).alloc _).cell 0
  have c1 : W1.cell? ⟨w0.heap.size, 1, none⟩ = some (.int .i64 n) := by rw [hW1]; exact ((box_new w0 _ _).alloc _).cell 1
  have c2 : W1.cell? ⟨w0.heap.size, 2, none⟩ = some (.int .i64 m) := by rw [hW1]; exact ((box_new w0 _ _).alloc _).cell 2
  have c3 : W1.cell? ⟨w0.heap.size, 3, none⟩ = some (.string s) := by rw [hW1]; exact ((box_new w0 _ _).alloc _).cell 3
  have hsz : w0.heap.size < W1.heap.size := by rw [hW1]; simp; omega
  have HR : RowKit.Hid (W1.ownsRow (w0.heap.size + 1) 3 1 (.slice (some ⟨w0.heap.size + 1, 0, none⟩) 0 0) 0 []) := Lib.hid (by rw [hW1]; exact HE.out)
  rw [← hW1]
  have HBx : RowKit.Hid (BoxAt W1 w0.heap.size 38 #[.int .i64 15, .int .i64 n, .int .i64 m, .string s]) := Lib.hid (by rw [hW1]; exact (box_new w0 _ _).alloc _)
  have HU := Lib.hid (show Under w0 W1 by rw [hW1]; exact under_alloc (under_alloc (Under.refl _) _) _)
  clear hW1 HE
  refine wp_region_noPanic ?_
  refine wp_region_held_drew (S := fun w' => w'.cell? ⟨w0.heap.size, 0, none⟩ = some (.int .i64 15) ∧ w'.cell? ⟨w0.heap.size, 1, none⟩ = some (.int .i64 n) ∧ w'.cell? ⟨w0.heap.size, 2, none⟩ = some (.int .i64 m) ∧ w'.cell? ⟨w0.heap.size, 3, none⟩ = some (.string s)
     ∧ w0.heap.size < w'.heap.size) (by kernel_rfl) ⟨c0, c1, c2, c3, hsz⟩ (fun hHeld => ?_)
  refine wpAnyH_take (i := 0) (v := ?v0) rfl (by kernel_rfl) (by kernel_rfl) (by kernel_rfl) (fun _ _ _ h => h) (Or.inl ⟨by (first | kernel_rfl | rfl), ?hy0⟩) (by assumption) ?rest0
  case hy0 => (intro w hSw; (try dsimp only at hSw); go_simp; try with_reducible rfl)
  try simp only [Act.put, List.setIfInBounds_toArray, List.set_cons_zero, List.set_cons_succ]
  refine wpAnyH_take (i := 3) (v := ?v3) rfl (by kernel_rfl) (by kernel_rfl) (by kernel_rfl) (fun _ _ _ h => h) (Or.inl ⟨by (first | kernel_rfl | rfl), ?hy3⟩) (by assumption) ?rest3
  case hy3 => (intro w hSw; (try dsimp only at hSw); go_simp; try with_reducible rfl)
  try simp only [Act.put, List.setIfInBounds_toArray, List.set_cons_zero, List.set_cons_succ]
  refine wpAnyH_ready (rs := [1]) (by kernel_rfl) (by simp) ?_
  refine AllReadyH.cons rfl (fun K hK => ?_) AllReadyH.nil
  go_simp
  refine hK.out _ _ ?_ (fun hHeld' => ?_)
  · obtain ⟨d0, d1, d2, d3, d4⟩ := hHeld
    have hU := under_alloc (Under.refl W1.drew) (.cells #[.int .i64 0, .int .i64 0] 3)
    exact ⟨(under_cell hU d4 _).trans d0, (under_cell hU d4 _).trans d1, (under_cell hU d4 _).trans d2, (under_cell hU d4 _).trans d3, Nat.lt_of_lt_of_le d4 hU.size⟩
  clear hK K hHeld
  have hHeld := hHeld'
  clear hHeld'
  try simp only [Act.put, List.setIfInBounds_toArray, List.set_cons_zero, List.set_cons_succ]
  refine wpAnyH_ready (rs := [2]) (by kernel_rfl) (by simp) ?_
  refine AllReadyH.cons rfl (fun K hK => ?_) AllReadyH.nil
  refine step_append_lies _ (by rfl) _ _ _ (by rfl) (w0.heap.size + 1) 3 i0 _ 1 8 Tryz.underlying63 hi hz0 hz1 hz2 rfl (by omega) (.slice (some ⟨w0.heap.size + 1, 0, none⟩) 0 0) 0 [] (by rfl) (HR.out.drew.alloc _)
        ⟨W1.heap.size, 0, none⟩ 2 2 [.int .i64 0, .int .i64 0] (by rfl) (by rfl) (World.news_of_block (cs := #[.int .i64 0, .int .i64 0]) (t := 3) (fr := (0, 0)) (heap_alloc_new _ _)) (by simp [Value.oneCell'])
        (by omega) (by simp [maxLen]) (by simp) (by simp; omega) (W1.heap.size + 1) (by simp) ?_
  intro gg cc w2 hown2 hgrow hat hlt
  have HB2 := Lib.hid (BoxAt.grown ((HBx.out.alloc (.cells #[.int .i64 0, .int .i64 0] 3)).drew) hgrow (fun e => by simp [Value.ownBlock] at e))
  have HU2 := Lib.hid (under_grown (under_drew (under_alloc HU.out (.cells #[.int .i64 0, .int .i64 0] 3))) hgrow (fun g e => by simp [Value.ownBlock] at e; omega))
  have HO2 := Lib.hid hown2
  refine hK.out _ _ ?_ (fun hHeld' => ?_)
  · exact ⟨HB2.out.cell 0, HB2.out.cell 1, HB2.out.cell 2, HB2.out.cell 3, HB2.out.lt⟩
  clear hK K hHeld hown2 hgrow hat hlt
  have hHeld := hHeld'
  clear hHeld'
  try simp only [Act.put, List.setIfInBounds_toArray, List.set_cons_zero, List.set_cons_succ]
  refine wpAnyH_ready (rs := [4]) (by kernel_rfl) (by simp) ?_
  refine AllReadyH.cons rfl (fun K hK => ?_) AllReadyH.nil
  go_simp
  go_at_call 68
  refine (HPl.out _).mono ?_
  rintro e w3 ⟨rfl, rfl⟩
  refine hK.out _ _ ?_ (fun hHeld' => ?_)
  · have HB3 := HB2.out.alloc (.cells #[.int .i64 15, .int .i64 n, .int .i64 m, .string s] 38)
    exact ⟨HB3.cell 0, HB3.cell 1, HB3.cell 2, HB3.cell 3, HB3.lt⟩
  clear hK K hHeld
  have hHeld := hHeld'
  clear hHeld'
  try simp only [Act.put, List.setIfInBounds_toArray, List.set_cons_zero, List.set_cons_succ]
  refine wpAnyH_take (i := 5) (v := ?v5) rfl (by kernel_rfl) (by kernel_rfl) (by kernel_rfl) (fun _ _ _ h => h) (Or.inl ⟨by (first | kernel_rfl | rfl), ?hy5⟩) (by assumption) ?rest5
  case hy5 => (intro w hSw; (try dsimp only at hSw); go_simp; try with_reducible rfl)
  try simp only [Act.put, List.getElem_toArray, List.getElem_cons_succ, List.getElem_cons_zero, List.setIfInBounds_toArray, List.set_cons_zero, List.set_cons_succ]
  refine wpAnyH_take (i := 6) (v := ?v6) rfl (by kernel_rfl) (by kernel_rfl) (by kernel_rfl) (fun _ _ _ h => h) (Or.inl ⟨by (first | kernel_rfl | rfl), ?hy6⟩) (by assumption) ?rest6
  case hy6 => (intro w hSw; (try dsimp only at hSw); go_simp; try with_reducible rfl)
  try simp only [Act.put, List.getElem_toArray, List.getElem_cons_succ, List.getElem_cons_zero, List.setIfInBounds_toArray, List.set_cons_zero, List.set_cons_succ]
  refine wpAnyH_done (by kernel_rfl) ?_ _
  refine NoPanic.normal ?_
  obtain ⟨q, c, hv, hc, hr⟩ := RowArg.of_own HO2.out
  cases hv
  go_wp2
  go_ret2
  exact ⟨_, _, rfl, hc, hr.under (under_alloc (Under.refl _) _), under_alloc HU2.out _⟩
set_option maxRecDepth 100000 in
set_option maxHeartbeats 4000000 in
theorem rb_19 (n m : Int) (s : ByteArray) : Calls Tryz.prog 44 #[ndV ⟨19, n, m, s⟩] w0 fun e w => ∃ q c, e = .returned (.tuple #[.slice q 2 c, .bool (plainB ⟨19, n, m, s⟩)]) ∧ 2 ≤ c ∧ RowArg w q (intsN [0, 0]) ∧ Under w0 w := by
  obtain ⟨i0, hi, hz0, hz1, hz2⟩ := info_parts Tryz.infoInt
  have HPl := Lib.hid (fun w => plain_any (w0 := w) ⟨19, n, m, s⟩)
  generalize plainB ⟨19, n, m, s⟩ = pb at *
  unfold ndV at *
  simp only at HPl ⊢
  have HE := Lib.hid (row_emptyZ (w0.alloc (.cells #[.int .i64 19, .int .i64 n, .int .i64 m, .string s] 38)) (w0.heap.size + 1) 3 1 (by simp))
  rw [show (w0.alloc (.cells #[.int .i64 19, .int .i64 n, .int .i64 m, .string s] 38)).heap.size = w0.heap.size + 1 by simp] at HE
  go_enter Tryz.func44, Tryz.ntmps44
  go_wp2_with fail
  obtain ⟨W1, hW1⟩ : ∃ W, W = (w0.alloc (.cells #[.int .i64 19, .int .i64 n, .int .i64 m, .string s] 38)).alloc (.cells #[] 3) := ⟨_, rfl⟩
  have c0 : W1.cell? ⟨w0.heap.size, 0, none⟩ = some (.int .i64 19) := by rw [hW1]; exact ((box_new w0 _ _).alloc _).cell 0
  have c1 : W1.cell? ⟨w0.heap.size, 1, none⟩ = some (.int .i64 n) := by rw [hW1]; exact ((box_new w0 _ _).alloc _).cell 1
  have c2 : W1.cell? ⟨w0.heap.size, 2, none⟩ = some (.int .i64 m) := by rw [hW1]; exact ((box_new w0 _ _).alloc _).cell 2
  have c3 : W1.cell? ⟨w0.heap.size, 3, none⟩ = some (.string s) := by rw [hW1]; exact ((box_new w0 _ _).alloc _).cell 3
  have hsz : w0.heap.size < W1.heap.size := by rw [hW1]; simp; omega
  have HR : RowKit.Hid (W1.ownsRow (w0.heap.size + 1) 3 1 (.slice (some ⟨w0.heap.size + 1, 0, none⟩) 0 0) 0 []) := Lib.hid (by rw [hW1]; exact HE.out)
  rw [← hW1]
  have HBx : RowKit.Hid (BoxAt W1 w0.heap.size 38 #[.int .i64 19, .int .i64 n, .int .i64 m, .string s]) := Lib.hid (by rw [hW1]; exact (box_new w0 _ _).alloc _)
  have HU := Lib.hid (show Under w0 W1 by rw [hW1]; exact under_alloc (under_alloc (Under.refl _) _) _)
  clear hW1 HE
  refine wp_region_noPanic ?_
  refine wp_region_held_drew (S := fun w' => w'.cell? ⟨w0.heap.size, 0, none⟩ = some (.int .i64 19) ∧ w'.cell? ⟨w0.heap.size, 1, none⟩ = some (.int .i64 n) ∧ w'.cell? ⟨w0.heap.size, 2, none⟩ = some (.int .i64 m) ∧ w'.cell? ⟨w0.heap.size, 3, none⟩ = some (.string s)
     ∧ w0.heap.size < w'.heap.size) (by kernel_rfl) ⟨c0, c1, c2, c3, hsz⟩ (fun hHeld => ?_)
  refine wpAnyH_take (i := 0) (v := ?v0) rfl (by kernel_rfl) (by kernel_rfl) (by kernel_rfl) (fun _ _ _ h => h) (Or.inl ⟨by (first | kernel_rfl | rfl), ?hy0⟩) (by assumption) ?rest0
  case hy0 => (intro w hSw; (try dsimp only at hSw); go_simp; try with_reducible rfl)
  try simp only [Act.put, List.setIfInBounds_toArray, List.set_cons_zero, List.set_cons_succ]
  refine wpAnyH_take (i := 3) (v := ?v3) rfl (by kernel_rfl) (by kernel_rfl) (by kernel_rfl) (fun _ _ _ h => h) (Or.inl ⟨by (first | kernel_rfl | rfl), ?hy3⟩) (by assumption) ?rest3
  case hy3 => (intro w hSw; (try dsimp only at hSw); go_simp; try with_reducible rfl)
  try simp only [Act.put, List.setIfInBounds_toArray, List.set_cons_zero, List.set_cons_succ]
  refine wpAnyH_ready (rs := [1]) (by kernel_rfl) (by simp) ?_
  refine AllReadyH.cons rfl (fun K hK => ?_) AllReadyH.nil
  go_simp
  refine hK.out _ _ ?_ (fun hHeld' => ?_)
  · obtain ⟨d0, d1, d2, d3, d4⟩ := hHeld
    have hU := under_alloc (Under.refl W1.drew) (.cells #[.int .i64 0, .int .i64 0] 3)
    exact ⟨(under_cell hU d4 _).trans d0, (under_cell hU d4 _).trans d1, (under_cell hU d4 _).trans d2, (under_cell hU d4 _).trans d3, Nat.lt_of_lt_of_le d4 hU.size⟩
  clear hK K hHeld
  have hHeld := hHeld'
  clear hHeld'
  try simp only [Act.put, List.setIfInBounds_toArray, List.set_cons_zero, List.set_cons_succ]
  refine wpAnyH_ready (rs := [2]) (by kernel_rfl) (by simp) ?_
  refine AllReadyH.cons rfl (fun K hK => ?_) AllReadyH.nil
  refine step_append_lies _ (by rfl) _ _ _ (by rfl) (w0.heap.size + 1) 3 i0 _ 1 8 Tryz.underlying63 hi hz0 hz1 hz2 rfl (by omega) (.slice (some ⟨w0.heap.size + 1, 0, none⟩) 0 0) 0 [] (by rfl) (HR.out.drew.alloc _)
        ⟨W1.heap.size, 0, none⟩ 2 2 [.int .i64 0, .int .i64 0] (by rfl) (by rfl) (World.news_of_block (cs := #[.int .i64 0, .int .i64 0]) (t := 3) (fr := (0, 0)) (heap_alloc_new _ _)) (by simp [Value.oneCell'])
        (by omega) (by simp [maxLen]) (by simp) (by simp; omega) (W1.heap.size + 1) (by simp) ?_
  intro gg cc w2 hown2 hgrow hat hlt
  have HB2 := Lib.hid (BoxAt.grown ((HBx.out.alloc (.cells #[.int .i64 0, .int .i64 0] 3)).drew) hgrow (fun e => by simp [Value.ownBlock] at e))
  have HU2 := Lib.hid (under_grown (under_drew (under_alloc HU.out (.cells #[.int .i64 0, .int .i64 0] 3))) hgrow (fun g e => by simp [Value.ownBlock] at e; omega))
  have HO2 := Lib.hid hown2
  refine hK.out _ _ ?_ (fun hHeld' => ?_)
  · exact ⟨HB2.out.cell 0, HB2.out.cell 1, HB2.out.cell 2, HB2.out.cell 3, HB2.out.lt⟩
  clear hK K hHeld hown2 hgrow hat hlt
  have hHeld := hHeld'
  clear hHeld'
  try simp only [Act.put, List.setIfInBounds_toArray, List.set_cons_zero, List.set_cons_succ]
  refine wpAnyH_ready (rs := [4]) (by kernel_rfl) (by simp) ?_
  refine AllReadyH.cons rfl (fun K hK => ?_) AllReadyH.nil
  go_simp
  go_at_call 68
  refine (HPl.out _).mono ?_
  rintro e w3 ⟨rfl, rfl⟩
  refine hK.out _ _ ?_ (fun hHeld' => ?_)
  · have HB3 := HB2.out.alloc (.cells #[.int .i64 19, .int .i64 n, .int .i64 m, .string s] 38)
    exact ⟨HB3.cell 0, HB3.cell 1, HB3.cell 2, HB3.cell 3, HB3.lt⟩
  clear hK K hHeld
  have hHeld := hHeld'
  clear hHeld'
  try simp only [Act.put, List.setIfInBounds_toArray, List.set_cons_zero, List.set_cons_succ]
  refine wpAnyH_take (i := 5) (v := ?v5) rfl (by kernel_rfl) (by kernel_rfl) (by kernel_rfl) (fun _ _ _ h => h) (Or.inl ⟨by (first | kernel_rfl | rfl), ?hy5⟩) (by assumption) ?rest5
  case hy5 => (intro w hSw; (try dsimp only at hSw); go_simp; try with_reducible rfl)
  try simp only [Act.put, List.getElem_toArray, List.getElem_cons_succ, List.getElem_cons_zero, List.setIfInBounds_toArray, List.set_cons_zero, List.set_cons_succ]
  refine wpAnyH_take (i := 6) (v := ?v6) rfl (by kernel_rfl) (by kernel_rfl) (by kernel_rfl) (fun _ _ _ h => h) (Or.inl ⟨by (first | kernel_rfl | rfl), ?hy6⟩) (by assumption) ?rest6
  case hy6 => (intro w hSw; (try dsimp only at hSw); go_simp; try with_reducible rfl)
  try simp only [Act.put, List.getElem_toArray, List.getElem_cons_succ, List.getElem_cons_zero, List.setIfInBounds_toArray, List.set_cons_zero, List.set_cons_succ]
  refine wpAnyH_done (by kernel_rfl) ?_ _
  refine NoPanic.normal ?_
  obtain ⟨q, c, hv, hc, hr⟩ := RowArg.of_own HO2.out
  cases hv
  go_wp2
  go_ret2
  exact ⟨_, _, rfl, hc, hr.under (under_alloc (Under.refl _) _), under_alloc HU2.out _⟩
set_option maxRecDepth 100000 in
set_option maxHeartbeats 4000000 in
theorem rb_23 (n m : Int) (s : ByteArray) : Calls Tryz.prog 44 #[ndV ⟨23, n, m, s⟩] w0 fun e w => ∃ q c, e = .returned (.tuple #[.slice q 2 c, .bool (plainB ⟨23, n, m, s⟩)]) ∧ 2 ≤ c ∧ RowArg w q (intsN [0, 0]) ∧ Under w0 w := by
  obtain ⟨i0, hi, hz0, hz1, hz2⟩ := info_parts Tryz.infoInt
  have HPl := Lib.hid (fun w => plain_any (w0 := w) ⟨23, n, m, s⟩)
  generalize plainB ⟨23, n, m, s⟩ = pb at *
  unfold ndV at *
  simp only at HPl ⊢
  have HE := Lib.hid (row_emptyZ (w0.alloc (.cells #[.int .i64 23, .int .i64 n, .int .i64 m, .string s] 38)) (w0.heap.size + 1) 3 1 (by simp))
  rw [show (w0.alloc (.cells #[.int .i64 23, .int .i64 n, .int .i64 m, .string s] 38)).heap.size = w0.heap.size + 1 by simp] at HE
  go_enter Tryz.func44, Tryz.ntmps44
  go_wp2_with fail
  obtain ⟨W1, hW1⟩ : ∃ W, W = (w0.alloc (.cells #[.int .i64 23, .int .i64 n, .int .i64 m, .string s] 38)).alloc (.cells #[] 3) := ⟨_, rfl⟩
  have c0 : W1.cell? ⟨w0.heap.size, 0, none⟩ = some (.int .i64 23) := by rw [hW1]; exact ((box_new w0 _ _).alloc _).cell 0
  have c1 : W1.cell? ⟨w0.heap.size, 1, none⟩ = some (.int .i64 n) := by rw [hW1]; exact ((box_new w0 _ _).alloc _).cell 1
  have c2 : W1.cell? ⟨w0.heap.size, 2, none⟩ = some (.int .i64 m) := by rw [hW1]; exact ((box_new w0 _ _).alloc _).cell 2
  have c3 : W1.cell? ⟨w0.heap.size, 3, none⟩ = some (.string s) := by rw [hW1]; exact ((box_new w0 _ _).alloc _).cell 3
  have hsz : w0.heap.size < W1.heap.size := by rw [hW1]; simp; omega
  have HR : RowKit.Hid (W1.ownsRow (w0.heap.size + 1) 3 1 (.slice (some ⟨w0.heap.size + 1, 0, none⟩) 0 0) 0 []) := Lib.hid (by rw [hW1]; exact HE.out)
  rw [← hW1]
  have HBx : RowKit.Hid (BoxAt W1 w0.heap.size 38 #[.int .i64 23, .int .i64 n, .int .i64 m, .string s]) := Lib.hid (by rw [hW1]; exact (box_new w0 _ _).alloc _)
  have HU := Lib.hid (show Under w0 W1 by rw [hW1]; exact under_alloc (under_alloc (Under.refl _) _) _)
  clear hW1 HE
  refine wp_region_noPanic ?_
  refine wp_region_held_drew (S := fun w' => w'.cell? ⟨w0.heap.size, 0, none⟩ = some (.int .i64 23) ∧ w'.cell? ⟨w0.heap.size, 1, none⟩ = some (.int .i64 n) ∧ w'.cell? ⟨w0.heap.size, 2, none⟩ = some (.int .i64 m) ∧ w'.cell? ⟨w0.heap.size, 3, none⟩ = some (.string s)
     ∧ w0.heap.size < w'.heap.size) (by kernel_rfl) ⟨c0, c1, c2, c3, hsz⟩ (fun hHeld => ?_)
  refine wpAnyH_take (i := 0) (v := ?v0) rfl (by kernel_rfl) (by kernel_rfl) (by kernel_rfl) (fun _ _ _ h => h) (Or.inl ⟨by (first | kernel_rfl | rfl), ?hy0⟩) (by assumption) ?rest0
  case hy0 => (intro w hSw; (try dsimp only at hSw); go_simp; try with_reducible rfl)
  try simp only [Act.put, List.setIfInBounds_toArray, List.set_cons_zero, List.set_cons_succ]
  refine wpAnyH_take (i := 3) (v := ?v3) rfl (by kernel_rfl) (by kernel_rfl) (by kernel_rfl) (fun _ _ _ h => h) (Or.inl ⟨by (first | kernel_rfl | rfl), ?hy3⟩) (by assumption) ?rest3
  case hy3 => (intro w hSw; (try dsimp only at hSw); go_simp; try with_reducible rfl)
  try simp only [Act.put, List.setIfInBounds_toArray, List.set_cons_zero, List.set_cons_succ]
  refine wpAnyH_ready (rs := [1]) (by kernel_rfl) (by simp) ?_
  refine AllReadyH.cons rfl (fun K hK => ?_) AllReadyH.nil
  go_simp
  refine hK.out _ _ ?_ (fun hHeld' => ?_)
  · obtain ⟨d0, d1, d2, d3, d4⟩ := hHeld
    have hU := under_alloc (Under.refl W1.drew) (.cells #[.int .i64 0, .int .i64 0] 3)
    exact ⟨(under_cell hU d4 _).trans d0, (under_cell hU d4 _).trans d1, (under_cell hU d4 _).trans d2, (under_cell hU d4 _).trans d3, Nat.lt_of_lt_of_le d4 hU.size⟩
  clear hK K hHeld
  have hHeld := hHeld'
  clear hHeld'
  try simp only [Act.put, List.setIfInBounds_toArray, List.set_cons_zero, List.set_cons_succ]
  refine wpAnyH_ready (rs := [2]) (by kernel_rfl) (by simp) ?_
  refine AllReadyH.cons rfl (fun K hK => ?_) AllReadyH.nil
  refine step_append_lies _ (by rfl) _ _ _ (by rfl) (w0.heap.size + 1) 3 i0 _ 1 8 Tryz.underlying63 hi hz0 hz1 hz2 rfl (by omega) (.slice (some ⟨w0.heap.size + 1, 0, none⟩) 0 0) 0 [] (by rfl) (HR.out.drew.alloc _)
        ⟨W1.heap.size, 0, none⟩ 2 2 [.int .i64 0, .int .i64 0] (by rfl) (by rfl) (World.news_of_block (cs := #[.int .i64 0, .int .i64 0]) (t := 3) (fr := (0, 0)) (heap_alloc_new _ _)) (by simp [Value.oneCell'])
        (by omega) (by simp [maxLen]) (by simp) (by simp; omega) (W1.heap.size + 1) (by simp) ?_
  intro gg cc w2 hown2 hgrow hat hlt
  have HB2 := Lib.hid (BoxAt.grown ((HBx.out.alloc (.cells #[.int .i64 0, .int .i64 0] 3)).drew) hgrow (fun e => by simp [Value.ownBlock] at e))
  have HU2 := Lib.hid (under_grown (under_drew (under_alloc HU.out (.cells #[.int .i64 0, .int .i64 0] 3))) hgrow (fun g e => by simp [Value.ownBlock] at e; omega))
  have HO2 := Lib.hid hown2
  refine hK.out _ _ ?_ (fun hHeld' => ?_)
  · exact ⟨HB2.out.cell 0, HB2.out.cell 1, HB2.out.cell 2, HB2.out.cell 3, HB2.out.lt⟩
  clear hK K hHeld hown2 hgrow hat hlt
  have hHeld := hHeld'
  clear hHeld'
  try simp only [Act.put, List.setIfInBounds_toArray, List.set_cons_zero, List.set_cons_succ]
  refine wpAnyH_ready (rs := [4]) (by kernel_rfl) (by simp) ?_
  refine AllReadyH.cons rfl (fun K hK => ?_) AllReadyH.nil
  go_simp
  go_at_call 68
  refine (HPl.out _).mono ?_
  rintro e w3 ⟨rfl, rfl⟩
  refine hK.out _ _ ?_ (fun hHeld' => ?_)
  · have HB3 := HB2.out.alloc (.cells #[.int .i64 23, .int .i64 n, .int .i64 m, .string s] 38)
    exact ⟨HB3.cell 0, HB3.cell 1, HB3.cell 2, HB3.cell 3, HB3.lt⟩
  clear hK K hHeld
  have hHeld := hHeld'
  clear hHeld'
  try simp only [Act.put, List.setIfInBounds_toArray, List.set_cons_zero, List.set_cons_succ]
  refine wpAnyH_take (i := 5) (v := ?v5) rfl (by kernel_rfl) (by kernel_rfl) (by kernel_rfl) (fun _ _ _ h => h) (Or.inl ⟨by (first | kernel_rfl | rfl), ?hy5⟩) (by assumption) ?rest5
  case hy5 => (intro w hSw; (try dsimp only at hSw); go_simp; try with_reducible rfl)
  try simp only [Act.put, List.getElem_toArray, List.getElem_cons_succ, List.getElem_cons_zero, List.setIfInBounds_toArray, List.set_cons_zero, List.set_cons_succ]
  refine wpAnyH_take (i := 6) (v := ?v6) rfl (by kernel_rfl) (by kernel_rfl) (by kernel_rfl) (fun _ _ _ h => h) (Or.inl ⟨by (first | kernel_rfl | rfl), ?hy6⟩) (by assumption) ?rest6
  case hy6 => (intro w hSw; (try dsimp only at hSw); go_simp; try with_reducible rfl)
  try simp only [Act.put, List.getElem_toArray, List.getElem_cons_succ, List.getElem_cons_zero, List.setIfInBounds_toArray, List.set_cons_zero, List.set_cons_succ]
  refine wpAnyH_done (by kernel_rfl) ?_ _
  refine NoPanic.normal ?_
  obtain ⟨q, c, hv, hc, hr⟩ := RowArg.of_own HO2.out
  cases hv
  go_wp2
  go_ret2
  exact ⟨_, _, rfl, hc, hr.under (under_alloc (Under.refl _) _), under_alloc HU2.out _⟩
set_option maxRecDepth 100000 in
set_option maxHeartbeats 4000000 in
theorem rb_7 (n m : Int) (s : ByteArray) : Calls Tryz.prog 44 #[ndV ⟨7, n, m, s⟩] w0 fun e w => ∃ q c, e = .returned (.tuple #[.slice q 3 c, .bool (plainB ⟨7, n, m, s⟩)]) ∧ 3 ≤ c ∧ RowArg w q (intsN [0, 0, 0]) ∧ Under w0 w := by
  obtain ⟨i0, hi, hz0, hz1, hz2⟩ := info_parts Tryz.infoInt
  have HPl := Lib.hid (fun w => plain_any (w0 := w) ⟨7, n, m, s⟩)
  generalize plainB ⟨7, n, m, s⟩ = pb at *
  unfold ndV at *
  simp only at HPl ⊢
  have HE := Lib.hid (row_emptyZ (w0.alloc (.cells #[.int .i64 7, .int .i64 n, .int .i64 m, .string s] 38)) (w0.heap.size + 1) 3 1 (by simp))
  rw [show (w0.alloc (.cells #[.int .i64 7, .int .i64 n, .int .i64 m, .string s] 38)).heap.size = w0.heap.size + 1 by simp] at HE
  go_enter Tryz.func44, Tryz.ntmps44
  go_wp2_with fail
  obtain ⟨W1, hW1⟩ : ∃ W, W = (w0.alloc (.cells #[.int .i64 7, .int .i64 n, .int .i64 m, .string s] 38)).alloc (.cells #[] 3) := ⟨_, rfl⟩
  have c0 : W1.cell? ⟨w0.heap.size, 0, none⟩ = some (.int .i64 7) := by rw [hW1]; exact ((box_new w0 _ _).alloc _).cell 0
  have c1 : W1.cell? ⟨w0.heap.size, 1, none⟩ = some (.int .i64 n) := by rw [hW1]; exact ((box_new w0 _ _).alloc _).cell 1
  have c2 : W1.cell? ⟨w0.heap.size, 2, none⟩ = some (.int .i64 m) := by rw [hW1]; exact ((box_new w0 _ _).alloc _).cell 2
  have c3 : W1.cell? ⟨w0.heap.size, 3, none⟩ = some (.string s) := by rw [hW1]; exact ((box_new w0 _ _).alloc _).cell 3
  have hsz : w0.heap.size < W1.heap.size := by rw [hW1]; simp; omega
  have HR : RowKit.Hid (W1.ownsRow (w0.heap.size + 1) 3 1 (.slice (some ⟨w0.heap.size + 1, 0, none⟩) 0 0) 0 []) := Lib.hid (by rw [hW1]; exact HE.out)
  rw [← hW1]
  have HBx : RowKit.Hid (BoxAt W1 w0.heap.size 38 #[.int .i64 7, .int .i64 n, .int .i64 m, .string s]) := Lib.hid (by rw [hW1]; exact (box_new w0 _ _).alloc _)
  have HU := Lib.hid (show Under w0 W1 by rw [hW1]; exact under_alloc (under_alloc (Under.refl _) _) _)
  clear hW1 HE
  refine wp_region_noPanic ?_
  refine wp_region_held_drew (S := fun w' => w'.cell? ⟨w0.heap.size, 0, none⟩ = some (.int .i64 7) ∧ w'.cell? ⟨w0.heap.size, 1, none⟩ = some (.int .i64 n) ∧ w'.cell? ⟨w0.heap.size, 2, none⟩ = some (.int .i64 m) ∧ w'.cell? ⟨w0.heap.size, 3, none⟩ = some (.string s)
     ∧ w0.heap.size < w'.heap.size) (by kernel_rfl) ⟨c0, c1, c2, c3, hsz⟩ (fun hHeld => ?_)
  refine wpAnyH_take (i := 0) (v := ?v0) rfl (by kernel_rfl) (by kernel_rfl) (by kernel_rfl) (fun _ _ _ h => h) (Or.inl ⟨by (first | kernel_rfl | rfl), ?hy0⟩) (by assumption) ?rest0
  case hy0 => (intro w hSw; (try dsimp only at hSw); go_simp; try with_reducible rfl)
  try simp only [Act.put, List.setIfInBounds_toArray, List.set_cons_zero, List.set_cons_succ]
  refine wpAnyH_take (i := 3) (v := ?v3) rfl (by kernel_rfl) (by kernel_rfl) (by kernel_rfl) (fun _ _ _ h => h) (Or.inl ⟨by (first | kernel_rfl | rfl), ?hy3⟩) (by assumption) ?rest3
  case hy3 => (intro w hSw; (try dsimp only at hSw); go_simp; try with_reducible rfl)
  try simp only [Act.put, List.setIfInBounds_toArray, List.set_cons_zero, List.set_cons_succ]
  refine wpAnyH_ready (rs := [1]) (by kernel_rfl) (by simp) ?_
  refine AllReadyH.cons rfl (fun K hK => ?_) AllReadyH.nil
  go_simp
  refine hK.out _ _ ?_ (fun hHeld' => ?_)
  · obtain ⟨d0, d1, d2, d3, d4⟩ := hHeld
    have hU := under_alloc (Under.refl W1.drew) (.cells #[.int .i64 0, .int .i64 0, .int .i64 0] 3)
    exact ⟨(under_cell hU d4 _).trans d0, (under_cell hU d4 _).trans d1, (under_cell hU d4 _).trans d2, (under_cell hU d4 _).trans d3, Nat.lt_of_lt_of_le d4 hU.size⟩
  clear hK K hHeld
  have hHeld := hHeld'
  clear hHeld'
  try simp only [Act.put, List.setIfInBounds_toArray, List.set_cons_zero, List.set_cons_succ]
  refine wpAnyH_ready (rs := [2]) (by kernel_rfl) (by simp) ?_
  refine AllReadyH.cons rfl (fun K hK => ?_) AllReadyH.nil
  refine step_append_lies _ (by rfl) _ _ _ (by rfl) (w0.heap.size + 1) 3 i0 _ 1 8 Tryz.underlying63 hi hz0 hz1 hz2 rfl (by omega) (.slice (some ⟨w0.heap.size + 1, 0, none⟩) 0 0) 0 [] (by rfl) (HR.out.drew.alloc _)
        ⟨W1.heap.size, 0, none⟩ 3 3 [.int .i64 0, .int .i64 0, .int .i64 0] (by rfl) (by rfl) (World.news_of_block (cs := #[.int .i64 0, .int .i64 0, .int .i64 0]) (t := 3) (fr := (0, 0)) (heap_alloc_new _ _)) (by simp [Value.oneCell'])
        (by omega) (by simp [maxLen]) (by simp) (by simp; omega) (W1.heap.size + 1) (by simp) ?_
  intro gg cc w2 hown2 hgrow hat hlt
  have HB2 := Lib.hid (BoxAt.grown ((HBx.out.alloc (.cells #[.int .i64 0, .int .i64 0, .int .i64 0] 3)).drew) hgrow (fun e => by simp [Value.ownBlock] at e))
  have HU2 := Lib.hid (under_grown (under_drew (under_alloc HU.out (.cells #[.int .i64 0, .int .i64 0, .int .i64 0] 3))) hgrow (fun g e => by simp [Value.ownBlock] at e; omega))
  have HO2 := Lib.hid hown2
  refine hK.out _ _ ?_ (fun hHeld' => ?_)
  · exact ⟨HB2.out.cell 0, HB2.out.cell 1, HB2.out.cell 2, HB2.out.cell 3, HB2.out.lt⟩
  clear hK K hHeld hown2 hgrow hat hlt
  have hHeld := hHeld'
  clear hHeld'
  try simp only [Act.put, List.setIfInBounds_toArray, List.set_cons_zero, List.set_cons_succ]
  refine wpAnyH_ready (rs := [4]) (by kernel_rfl) (by simp) ?_
  refine AllReadyH.cons rfl (fun K hK => ?_) AllReadyH.nil
  go_simp
  go_at_call 68
  refine (HPl.out _).mono ?_
  rintro e w3 ⟨rfl, rfl⟩
  refine hK.out _ _ ?_ (fun hHeld' => ?_)
  · have HB3 := HB2.out.alloc (.cells #[.int .i64 7, .int .i64 n, .int .i64 m, .string s] 38)
    exact ⟨HB3.cell 0, HB3.cell 1, HB3.cell 2, HB3.cell 3, HB3.lt⟩
  clear hK K hHeld
  have hHeld := hHeld'
  clear hHeld'
  try simp only [Act.put, List.setIfInBounds_toArray, List.set_cons_zero, List.set_cons_succ]
  refine wpAnyH_take (i := 5) (v := ?v5) rfl (by kernel_rfl) (by kernel_rfl) (by kernel_rfl) (fun _ _ _ h => h) (Or.inl ⟨by (first | kernel_rfl | rfl), ?hy5⟩) (by assumption) ?rest5
  case hy5 => (intro w hSw; (try dsimp only at hSw); go_simp; try with_reducible rfl)
  try simp only [Act.put, List.getElem_toArray, List.getElem_cons_succ, List.getElem_cons_zero, List.setIfInBounds_toArray, List.set_cons_zero, List.set_cons_succ]
  refine wpAnyH_take (i := 6) (v := ?v6) rfl (by kernel_rfl) (by kernel_rfl) (by kernel_rfl) (fun _ _ _ h => h) (Or.inl ⟨by (first | kernel_rfl | rfl), ?hy6⟩) (by assumption) ?rest6
  case hy6 => (intro w hSw; (try dsimp only at hSw); go_simp; try with_reducible rfl)
  try simp only [Act.put, List.getElem_toArray, List.getElem_cons_succ, List.getElem_cons_zero, List.setIfInBounds_toArray, List.set_cons_zero, List.set_cons_succ]
  refine wpAnyH_done (by kernel_rfl) ?_ _
  refine NoPanic.normal ?_
  obtain ⟨q, c, hv, hc, hr⟩ := RowArg.of_own HO2.out
  cases hv
  go_wp2
  go_ret2
  exact ⟨_, _, rfl, hc, hr.under (under_alloc (Under.refl _) _), under_alloc HU2.out _⟩
set_option maxRecDepth 100000 in
set_option maxHeartbeats 4000000 in
theorem rb_18 (n m : Int) (s : ByteArray) : Calls Tryz.prog 44 #[ndV ⟨18, n, m, s⟩] w0 fun e w => ∃ q c, e = .returned (.tuple #[.slice q 3 c, .bool (plainB ⟨18, n, m, s⟩)]) ∧ 3 ≤ c ∧ RowArg w q (intsN [0, 0, 0]) ∧ Under w0 w := by
  obtain ⟨i0, hi, hz0, hz1, hz2⟩ := info_parts Tryz.infoInt
  have HPl := Lib.hid (fun w => plain_any (w0 := w) ⟨18, n, m, s⟩)
  generalize plainB ⟨18, n, m, s⟩ = pb at *
  unfold ndV at *
  simp only at HPl ⊢
  have HE := Lib.hid (row_emptyZ (w0.alloc (.cells #[.int .i64 18, .int .i64 n, .int .i64 m, .string s] 38)) (w0.heap.size + 1) 3 1 (by simp))
  rw [show (w0.alloc (.cells #[.int .i64 18, .int .i64 n, .int .i64 m, .string s] 38)).heap.size = w0.heap.size + 1 by simp] at HE
  go_enter Tryz.func44, Tryz.ntmps44
  go_wp2_with fail
  obtain ⟨W1, hW1⟩ : ∃ W, W = (w0.alloc (.cells #[.int .i64 18, .int .i64 n, .int .i64 m, .string s] 38)).alloc (.cells #[] 3) := ⟨_, rfl⟩
  have c0 : W1.cell? ⟨w0.heap.size, 0, none⟩ = some (.int .i64 18) := by rw [hW1]; exact ((box_new w0 _ _).alloc _).cell 0
  have c1 : W1.cell? ⟨w0.heap.size, 1, none⟩ = some (.int .i64 n) := by rw [hW1]; exact ((box_new w0 _ _).alloc _).cell 1
  have c2 : W1.cell? ⟨w0.heap.size, 2, none⟩ = some (.int .i64 m) := by rw [hW1]; exact ((box_new w0 _ _).alloc _).cell 2
  have c3 : W1.cell? ⟨w0.heap.size, 3, none⟩ = some (.string s) := by rw [hW1]; exact ((box_new w0 _ _).alloc _).cell 3
  have hsz : w0.heap.size < W1.heap.size := by rw [hW1]; simp; omega
  have HR : RowKit.Hid (W1.ownsRow (w0.heap.size + 1) 3 1 (.slice (some ⟨w0.heap.size + 1, 0, none⟩) 0 0) 0 []) := Lib.hid (by rw [hW1]; exact HE.out)
  rw [← hW1]
  have HBx : RowKit.Hid (BoxAt W1 w0.heap.size 38 #[.int .i64 18, .int .i64 n, .int .i64 m, .string s]) := Lib.hid (by rw [hW1]; exact (box_new w0 _ _).alloc _)
  have HU := Lib.hid (show Under w0 W1 by rw [hW1]; exact under_alloc (under_alloc (Under.refl _) _) _)
  clear hW1 HE
  refine wp_region_noPanic ?_
  refine wp_region_held_drew (S := fun w' => w'.cell? ⟨w0.heap.size, 0, none⟩ = some (.int .i64 18) ∧ w'.cell? ⟨w0.heap.size, 1, none⟩ = some (.int .i64 n) ∧ w'.cell? ⟨w0.heap.size, 2, none⟩ = some (.int .i64 m) ∧ w'.cell? ⟨w0.heap.size, 3, none⟩ = some (.string s)
     ∧ w0.heap.size < w'.heap.size) (by kernel_rfl) ⟨c0, c1, c2, c3, hsz⟩ (fun hHeld => ?_)
  refine wpAnyH_take (i := 0) (v := ?v0) rfl (by kernel_rfl) (by kernel_rfl) (by kernel_rfl) (fun _ _ _ h => h) (Or.inl ⟨by (first | kernel_rfl | rfl), ?hy0⟩) (by assumption) ?rest0
  case hy0 => (intro w hSw; (try dsimp only at hSw); go_simp; try with_reducible rfl)
  try simp only [Act.put, List.setIfInBounds_toArray, List.set_cons_zero, List.set_cons_succ]
  refine wpAnyH_take (i := 3) (v := ?v3) rfl (by kernel_rfl) (by kernel_rfl) (by kernel_rfl) (fun _ _ _ h => h) (Or.inl ⟨by (first | kernel_rfl | rfl), ?hy3⟩) (by assumption) ?rest3
  case hy3 => (intro w hSw; (try dsimp only at hSw); go_simp; try with_reducible rfl)
  try simp only [Act.put, List.setIfInBounds_toArray, List.set_cons_zero, List.set_cons_succ]
  refine wpAnyH_ready (rs := [1]) (by kernel_rfl) (by simp) ?_
  refine AllReadyH.cons rfl (fun K hK => ?_) AllReadyH.nil
  go_simp
  refine hK.out _ _ ?_ (fun hHeld' => ?_)
  · obtain ⟨d0, d1, d2, d3, d4⟩ := hHeld
    have hU := under_alloc (Under.refl W1.drew) (.cells #[.int .i64 0, .int .i64 0, .int .i64 0] 3)
    exact ⟨(under_cell hU d4 _).trans d0, (under_cell hU d4 _).trans d1, (under_cell hU d4 _).trans d2, (under_cell hU d4 _).trans d3, Nat.lt_of_lt_of_le d4 hU.size⟩
  clear hK K hHeld
  have hHeld := hHeld'
  clear hHeld'
  try simp only [Act.put, List.setIfInBounds_toArray, List.set_cons_zero, List.set_cons_succ]
  refine wpAnyH_ready (rs := [2]) (by kernel_rfl) (by simp) ?_
  refine AllReadyH.cons rfl (fun K hK => ?_) AllReadyH.nil
  refine step_append_lies _ (by rfl) _ _ _ (by rfl) (w0.heap.size + 1) 3 i0 _ 1 8 Tryz.underlying63 hi hz0 hz1 hz2 rfl (by omega) (.slice (some ⟨w0.heap.size + 1, 0, none⟩) 0 0) 0 [] (by rfl) (HR.out.drew.alloc _)
        ⟨W1.heap.size, 0, none⟩ 3 3 [.int .i64 0, .int .i64 0, .int .i64 0] (by rfl) (by rfl) (World.news_of_block (cs := #[.int .i64 0, .int .i64 0, .int .i64 0]) (t := 3) (fr := (0, 0)) (heap_alloc_new _ _)) (by simp [Value.oneCell'])
        (by omega) (by simp [maxLen]) (by simp) (by simp; omega) (W1.heap.size + 1) (by simp) ?_
  intro gg cc w2 hown2 hgrow hat hlt
  have HB2 := Lib.hid (BoxAt.grown ((HBx.out.alloc (.cells #[.int .i64 0, .int .i64 0, .int .i64 0] 3)).drew) hgrow (fun e => by simp [Value.ownBlock] at e))
  have HU2 := Lib.hid (under_grown (under_drew (under_alloc HU.out (.cells #[.int .i64 0, .int .i64 0, .int .i64 0] 3))) hgrow (fun g e => by simp [Value.ownBlock] at e; omega))
  have HO2 := Lib.hid hown2
  refine hK.out _ _ ?_ (fun hHeld' => ?_)
  · exact ⟨HB2.out.cell 0, HB2.out.cell 1, HB2.out.cell 2, HB2.out.cell 3, HB2.out.lt⟩
  clear hK K hHeld hown2 hgrow hat hlt
  have hHeld := hHeld'
  clear hHeld'
  try simp only [Act.put, List.setIfInBounds_toArray, List.set_cons_zero, List.set_cons_succ]
  refine wpAnyH_ready (rs := [4]) (by kernel_rfl) (by simp) ?_
  refine AllReadyH.cons rfl (fun K hK => ?_) AllReadyH.nil
  go_simp
  go_at_call 68
  refine (HPl.out _).mono ?_
  rintro e w3 ⟨rfl, rfl⟩
  refine hK.out _ _ ?_ (fun hHeld' => ?_)
  · have HB3 := HB2.out.alloc (.cells #[.int .i64 18, .int .i64 n, .int .i64 m, .string s] 38)
    exact ⟨HB3.cell 0, HB3.cell 1, HB3.cell 2, HB3.cell 3, HB3.lt⟩
  clear hK K hHeld
  have hHeld := hHeld'
  clear hHeld'
  try simp only [Act.put, List.setIfInBounds_toArray, List.set_cons_zero, List.set_cons_succ]
  refine wpAnyH_take (i := 5) (v := ?v5) rfl (by kernel_rfl) (by kernel_rfl) (by kernel_rfl) (fun _ _ _ h => h) (Or.inl ⟨by (first | kernel_rfl | rfl), ?hy5⟩) (by assumption) ?rest5
  case hy5 => (intro w hSw; (try dsimp only at hSw); go_simp; try with_reducible rfl)
  try simp only [Act.put, List.getElem_toArray, List.getElem_cons_succ, List.getElem_cons_zero, List.setIfInBounds_toArray, List.set_cons_zero, List.set_cons_succ]
  refine wpAnyH_take (i := 6) (v := ?v6) rfl (by kernel_rfl) (by kernel_rfl) (by kernel_rfl) (fun _ _ _ h => h) (Or.inl ⟨by (first | kernel_rfl | rfl), ?hy6⟩) (by assumption) ?rest6
  case hy6 => (intro w hSw; (try dsimp only at hSw); go_simp; try with_reducible rfl)
  try simp only [Act.put, List.getElem_toArray, List.getElem_cons_succ, List.getElem_cons_zero, List.setIfInBounds_toArray, List.set_cons_zero, List.set_cons_succ]
  refine wpAnyH_done (by kernel_rfl) ?_ _
  refine NoPanic.normal ?_
  obtain ⟨q, c, hv, hc, hr⟩ := RowArg.of_own HO2.out
  cases hv
  go_wp2
  go_ret2
  exact ⟨_, _, rfl, hc, hr.under (under_alloc (Under.refl _) _), under_alloc HU2.out _⟩
set_option maxRecDepth 100000 in
set_option maxHeartbeats 4000000 in
theorem rb_8 (n m : Int) (s : ByteArray) : Calls Tryz.prog 44 #[ndV ⟨8, n, m, s⟩] w0 fun e w => ∃ q c, e = .returned (.tuple #[.slice q 1 c, .bool (plainB ⟨8, n, m, s⟩)]) ∧ 1 ≤ c ∧ RowArg w q (intsN [0]) ∧ Under w0 w := by
  obtain ⟨i0, hi, hz0, hz1, hz2⟩ := info_parts Tryz.infoInt
  have HPl := Lib.hid (fun w => plain_any (w0 := w) ⟨8, n, m, s⟩)
  generalize plainB ⟨8, n, m, s⟩ = pb at *
  unfold ndV at *
  simp only at HPl ⊢
  have HE := Lib.hid (row_emptyZ (w0.alloc (.cells #[.int .i64 8, .int .i64 n, .int .i64 m, .string s] 38)) (w0.heap.size + 1) 3 1 (by simp))
  rw [show (w0.alloc (.cells #[.int .i64 8, .int .i64 n, .int .i64 m, .string s] 38)).heap.size = w0.heap.size + 1 by simp] at HE
  go_enter Tryz.func44, Tryz.ntmps44
  go_wp2_with fail
  obtain ⟨W1, hW1⟩ : ∃ W, W = (w0.alloc (.cells #[.int .i64 8, .int .i64 n, .int .i64 m, .string s] 38)).alloc (.cells #[] 3) := ⟨_, rfl⟩
  have c0 : W1.cell? ⟨w0.heap.size, 0, none⟩ = some (.int .i64 8) := by rw [hW1]; exact ((box_new w0 _ _).alloc _).cell 0
  have c1 : W1.cell? ⟨w0.heap.size, 1, none⟩ = some (.int .i64 n) := by rw [hW1]; exact ((box_new w0 _ _).alloc _).cell 1
  have c2 : W1.cell? ⟨w0.heap.size, 2, none⟩ = some (.int .i64 m) := by rw [hW1]; exact ((box_new w0 _ _).alloc _).cell 2
  have c3 : W1.cell? ⟨w0.heap.size, 3, none⟩ = some (.string s) := by rw [hW1]; exact ((box_new w0 _ _).alloc _).cell 3
  have hsz : w0.heap.size < W1.heap.size := by rw [hW1]; simp; omega
  have HR : RowKit.Hid (W1.ownsRow (w0.heap.size + 1) 3 1 (.slice (some ⟨w0.heap.size + 1, 0, none⟩) 0 0) 0 []) := Lib.hid (by rw [hW1]; exact HE.out)
  rw [← hW1]
  have HBx : RowKit.Hid (BoxAt W1 w0.heap.size 38 #[.int .i64 8, .int .i64 n, .int .i64 m, .string s]) := Lib.hid (by rw [hW1]; exact (box_new w0 _ _).alloc _)
  have HU := Lib.hid (show Under w0 W1 by rw [hW1]; exact under_alloc (under_alloc (Under.refl _) _) _)
  clear hW1 HE
  refine wp_region_noPanic ?_
  refine wp_region_held_drew (S := fun w' => w'.cell? ⟨w0.heap.size, 0, none⟩ = some (.int .i64 8) ∧ w'.cell? ⟨w0.heap.size, 1, none⟩ = some (.int .i64 n) ∧ w'.cell? ⟨w0.heap.size, 2, none⟩ = some (.int .i64 m) ∧ w'.cell? ⟨w0.heap.size, 3, none⟩ = some (.string s)
     ∧ w0.heap.size < w'.heap.size) (by kernel_rfl) ⟨c0, c1, c2, c3, hsz⟩ (fun hHeld => ?_)
  refine wpAnyH_take (i := 0) (v := ?v0) rfl (by kernel_rfl) (by kernel_rfl) (by kernel_rfl) (fun _ _ _ h => h) (Or.inl ⟨by (first | kernel_rfl | rfl), ?hy0⟩) (by assumption) ?rest0
  case hy0 => (intro w hSw; (try dsimp only at hSw); go_simp; try with_reducible rfl)
  try simp only [Act.put, List.setIfInBounds_toArray, List.set_cons_zero, List.set_cons_succ]
  refine wpAnyH_take (i := 3) (v := ?v3) rfl (by kernel_rfl) (by kernel_rfl) (by kernel_rfl) (fun _ _ _ h => h) (Or.inl ⟨by (first | kernel_rfl | rfl), ?hy3⟩) (by assumption) ?rest3
  case hy3 => (intro w hSw; (try dsimp only at hSw); go_simp; try with_reducible rfl)
  try simp only [Act.put, List.setIfInBounds_toArray, List.set_cons_zero, List.set_cons_succ]
  refine wpAnyH_ready (rs := [1]) (by kernel_rfl) (by simp) ?_
  refine AllReadyH.cons rfl (fun K hK => ?_) AllReadyH.nil
  go_simp
  refine hK.out _ _ ?_ (fun hHeld' => ?_)
  · obtain ⟨d0, d1, d2, d3, d4⟩ := hHeld
    have hU := under_alloc (Under.refl W1.drew) (.cells #[.int .i64 0] 3)
    exact ⟨(under_cell hU d4 _).trans d0, (under_cell hU d4 _).trans d1, (under_cell hU d4 _).trans d2, (under_cell hU d4 _).trans d3, Nat.lt_of_lt_of_le d4 hU.size⟩
  clear hK K hHeld
  have hHeld := hHeld'
  clear hHeld'
  try simp only [Act.put, List.setIfInBounds_toArray, List.set_cons_zero, List.set_cons_succ]
  refine wpAnyH_ready (rs := [2]) (by kernel_rfl) (by simp) ?_
  refine AllReadyH.cons rfl (fun K hK => ?_) AllReadyH.nil
  refine step_append_lies _ (by rfl) _ _ _ (by rfl) (w0.heap.size + 1) 3 i0 _ 1 8 Tryz.underlying63 hi hz0 hz1 hz2 rfl (by omega) (.slice (some ⟨w0.heap.size + 1, 0, none⟩) 0 0) 0 [] (by rfl) (HR.out.drew.alloc _)
        ⟨W1.heap.size, 0, none⟩ 1 1 [.int .i64 0] (by rfl) (by rfl) (World.news_of_block (cs := #[.int .i64 0]) (t := 3) (fr := (0, 0)) (heap_alloc_new _ _)) (by simp [Value.oneCell'])
        (by omega) (by simp [maxLen]) (by simp) (by simp; omega) (W1.heap.size + 1) (by simp) ?_
  intro gg cc w2 hown2 hgrow hat hlt
  have HB2 := Lib.hid (BoxAt.grown ((HBx.out.alloc (.cells #[.int .i64 0] 3)).drew) hgrow (fun e => by simp [Value.ownBlock] at e))
  have HU2 := Lib.hid (under_grown (under_drew (under_alloc HU.out (.cells #[.int .i64 0] 3))) hgrow (fun g e => by simp [Value.ownBlock] at e; omega))
  have HO2 := Lib.hid hown2
  refine hK.out _ _ ?_ (fun hHeld' => ?_)
  · exact ⟨HB2.out.cell 0, HB2.out.cell 1, HB2.out.cell 2, HB2.out.cell 3, HB2.out.lt⟩
  clear hK K hHeld hown2 hgrow hat hlt
  have hHeld := hHeld'
  clear hHeld'
  try simp only [Act.put, List.setIfInBounds_toArray, List.set_cons_zero, List.set_cons_succ]
  refine wpAnyH_ready (rs := [4]) (by kernel_rfl) (by simp) ?_
  refine AllReadyH.cons rfl (fun K hK => ?_) AllReadyH.nil
  go_simp
  go_at_call 68
  refine (HPl.out _).mono ?_
  rintro e w3 ⟨rfl, rfl⟩
  refine hK.out _ _ ?_ (fun hHeld' => ?_)
  · have HB3 := HB2.out.alloc (.cells #[.int .i64 8, .int .i64 n, .int .i64 m, .string s] 38)
    exact ⟨HB3.cell 0, HB3.cell 1, HB3.cell 2, HB3.cell 3, HB3.lt⟩
  clear hK K hHeld
  have hHeld := hHeld'
  clear hHeld'
  try simp only [Act.put, List.setIfInBounds_toArray, List.set_cons_zero, List.set_cons_succ]
  refine wpAnyH_take (i := 5) (v := ?v5) rfl (by kernel_rfl) (by kernel_rfl) (by kernel_rfl) (fun _ _ _ h => h) (Or.inl ⟨by (first | kernel_rfl | rfl), ?hy5⟩) (by assumption) ?rest5
  case hy5 => (intro w hSw; (try dsimp only at hSw); go_simp; try with_reducible rfl)
  try simp only [Act.put, List.getElem_toArray, List.getElem_cons_succ, List.getElem_cons_zero, List.setIfInBounds_toArray, List.set_cons_zero, List.set_cons_succ]
  refine wpAnyH_take (i := 6) (v := ?v6) rfl (by kernel_rfl) (by kernel_rfl) (by kernel_rfl) (fun _ _ _ h => h) (Or.inl ⟨by (first | kernel_rfl | rfl), ?hy6⟩) (by assumption) ?rest6
  case hy6 => (intro w hSw; (try dsimp only at hSw); go_simp; try with_reducible rfl)
  try simp only [Act.put, List.getElem_toArray, List.getElem_cons_succ, List.getElem_cons_zero, List.setIfInBounds_toArray, List.set_cons_zero, List.set_cons_succ]
  refine wpAnyH_done (by kernel_rfl) ?_ _
  refine NoPanic.normal ?_
  obtain ⟨q, c, hv, hc, hr⟩ := RowArg.of_own HO2.out
  cases hv
  go_wp2
  go_ret2
  exact ⟨_, _, rfl, hc, hr.under (under_alloc (Under.refl _) _), under_alloc HU2.out _⟩
set_option maxRecDepth 100000 in
set_option maxHeartbeats 4000000 in
theorem rb_9 (n m : Int) (s : ByteArray) : Calls Tryz.prog 44 #[ndV ⟨9, n, m, s⟩] w0 fun e w => ∃ q c, e = .returned (.tuple #[.slice q 1 c, .bool (plainB ⟨9, n, m, s⟩)]) ∧ 1 ≤ c ∧ RowArg w q (intsN [0]) ∧ Under w0 w := by
  obtain ⟨i0, hi, hz0, hz1, hz2⟩ := info_parts Tryz.infoInt
  have HPl := Lib.hid (fun w => plain_any (w0 := w) ⟨9, n, m, s⟩)
  generalize plainB ⟨9, n, m, s⟩ = pb at *
  unfold ndV at *
  simp only at HPl ⊢
  have HE := Lib.hid (row_emptyZ (w0.alloc (.cells #[.int .i64 9, .int .i64 n, .int .i64 m, .string s] 38)) (w0.heap.size + 1) 3 1 (by simp))
  rw [show (w0.alloc (.cells #[.int .i64 9, .int .i64 n, .int .i64 m, .string s] 38)).heap.size = w0.heap.size + 1 by simp] at HE
  go_enter Tryz.func44, Tryz.ntmps44
  go_wp2_with fail
  obtain ⟨W1, hW1⟩ : ∃ W, W = (w0.alloc (.cells #[.int .i64 9, .int .i64 n, .int .i64 m, .string s] 38)).alloc (.cells #[] 3) := ⟨_, rfl⟩
  have c0 : W1.cell? ⟨w0.heap.size, 0, none⟩ = some (.int .i64 9) := by rw [hW1]; exact ((box_new w0 _ _).alloc _).cell 0
  have c1 : W1.cell? ⟨w0.heap.size, 1, none⟩ = some (.int .i64 n) := by rw [hW1]; exact ((box_new w0 _ _).alloc _).cell 1
  have c2 : W1.cell? ⟨w0.heap.size, 2, none⟩ = some (.int .i64 m) := by rw [hW1]; exact ((box_new w0 _ _).alloc _).cell 2
  have c3 : W1.cell? ⟨w0.heap.size, 3, none⟩ = some (.string s) := by rw [hW1]; exact ((box_new w0 _ _).alloc _).cell 3
  have hsz : w0.heap.size < W1.heap.size := by rw [hW1]; simp; omega
  have HR : RowKit.Hid (W1.ownsRow (w0.heap.size + 1) 3 1 (.slice (some ⟨w0.heap.size + 1, 0, none⟩) 0 0) 0 []) := Lib.hid (by rw [hW1]; exact HE.out)
  rw [← hW1]
  have HBx : RowKit.Hid (BoxAt W1 w0.heap.size 38 #[.int .i64 9, .int .i64 n, .int .i64 m, .string s]) := Lib.hid (by rw [hW1]; exact (box_new w0 _ _).alloc _)
  have HU := Lib.hid (show Under w0 W1 by rw [hW1]; exact under_alloc (under_alloc (Under.refl _) _) _)
  clear hW1 HE
  refine wp_region_noPanic ?_
  refine wp_region_held_drew (S := fun w' => w'.cell? ⟨w0.heap.size, 0, none⟩ = some (.int .i64 9) ∧ w'.cell? ⟨w0.heap.size, 1, none⟩ = some (.int .i64 n) ∧ w'.cell? ⟨w0.heap.size, 2, none⟩ = some (.int .i64 m) ∧ w'.cell? ⟨w0.heap.size, 3, none⟩ = some (.string s)
     ∧ w0.heap.size < w'.heap.size) (by kernel_rfl) ⟨c0, c1, c2, c3, hsz⟩ (fun hHeld => ?_)
  refine wpAnyH_take (i := 0) (v := ?v0) rfl (by kernel_rfl) (by kernel_rfl) (by kernel_rfl) (fun _ _ _ h => h) (Or.inl ⟨by (first | kernel_rfl | rfl), ?hy0⟩) (by assumption) ?rest0
  case hy0 => (intro w hSw; (try dsimp only at hSw); go_simp; try with_reducible rfl)
  try simp only [Act.put, List.setIfInBounds_toArray, List.set_cons_zero, List.set_cons_succ]
  refine wpAnyH_take (i := 3) (v := ?v3) rfl (by kernel_rfl) (by kernel_rfl) (by kernel_rfl) (fun _ _ _ h => h) (Or.inl ⟨by (first | kernel_rfl | rfl), ?hy3⟩) (by assumption) ?rest3
  case hy3 => (intro w hSw; (try dsimp only at hSw); go_simp; try with_reducible rfl)
  try simp only [Act.put, List.setIfInBounds_toArray, List.set_cons_zero, List.set_cons_succ]
  refine wpAnyH_ready (rs := [1]) (by kernel_rfl) (by simp) ?_
  refine AllReadyH.cons rfl (fun K hK => ?_) AllReadyH.nil
  go_simp
  refine hK.out _ _ ?_ (fun hHeld' => ?_)
  · obtain ⟨d0, d1, d2, d3, d4⟩ := hHeld
    have hU := under_alloc (Under.refl W1.drew) (.cells #[.int .i64 0] 3)
    exact ⟨(under_cell hU d4 _).trans d0, (under_cell hU d4 _).trans d1, (under_cell hU d4 _).trans d2, (under_cell hU d4 _).trans d3, Nat.lt_of_lt_of_le d4 hU.size⟩
  clear hK K hHeld
  have hHeld := hHeld'
  clear hHeld'
  try simp only [Act.put, List.setIfInBounds_toArray, List.set_cons_zero, List.set_cons_succ]
  refine wpAnyH_ready (rs := [2]) (by kernel_rfl) (by simp) ?_
  refine AllReadyH.cons rfl (fun K hK => ?_) AllReadyH.nil
  refine step_append_lies _ (by rfl) _ _ _ (by rfl) (w0.heap.size + 1) 3 i0 _ 1 8 Tryz.underlying63 hi hz0 hz1 hz2 rfl (by omega) (.slice (some ⟨w0.heap.size + 1, 0, none⟩) 0 0) 0 [] (by rfl) (HR.out.drew.alloc _)
        ⟨W1.heap.size, 0, none⟩ 1 1 [.int .i64 0] (by rfl) (by rfl) (World.news_of_block (cs := #[.int .i64 0]) (t := 3) (fr := (0, 0)) (heap_alloc_new _ _)) (by simp [Value.oneCell'])
        (by omega) (by simp [maxLen]) (by simp) (by simp; omega) (W1.heap.size + 1) (by simp) ?_
  intro gg cc w2 hown2 hgrow hat hlt
  have HB2 := Lib.hid (BoxAt.grown ((HBx.out.alloc (.cells #[.int .i64 0] 3)).drew) hgrow (fun e => by simp [Value.ownBlock] at e))
  have HU2 := Lib.hid (under_grown (under_drew (under_alloc HU.out (.cells #[.int .i64 0] 3))) hgrow (fun g e => by simp [Value.ownBlock] at e; omega))
  have HO2 := Lib.hid hown2
  refine hK.out _ _ ?_ (fun hHeld' => ?_)
  · exact ⟨HB2.out.cell 0, HB2.out.cell 1, HB2.out.cell 2, HB2.out.cell 3, HB2.out.lt⟩
  clear hK K hHeld hown2 hgrow hat hlt
  have hHeld := hHeld'
  clear hHeld'
  try simp only [Act.put, List.setIfInBounds_toArray, List.set_cons_zero, List.set_cons_succ]
  refine wpAnyH_ready (rs := [4]) (by kernel_rfl) (by simp) ?_
  refine AllReadyH.cons rfl (fun K hK => ?_) AllReadyH.nil
  go_simp
  go_at_call 68
  refine (HPl.out _).mono ?_
  rintro e w3 ⟨rfl, rfl⟩
  refine hK.out _ _ ?_ (fun hHeld' => ?_)
  · have HB3 := HB2.out.alloc (.cells #[.int .i64 9, .int .i64 n, .int .i64 m, .string s] 38)
    exact ⟨HB3.cell 0, HB3.cell 1, HB3.cell 2, HB3.cell 3, HB3.lt⟩
  clear hK K hHeld
  have hHeld := hHeld'
  clear hHeld'
  try simp only [Act.put, List.setIfInBounds_toArray, List.set_cons_zero, List.set_cons_succ]
  refine wpAnyH_take (i := 5) (v := ?v5) rfl (by kernel_rfl) (by kernel_rfl) (by kernel_rfl) (fun _ _ _ h => h) (Or.inl ⟨by (first | kernel_rfl | rfl), ?hy5⟩) (by assumption) ?rest5
  case hy5 => (intro w hSw; (try dsimp only at hSw); go_simp; try with_reducible rfl)
  try simp only [Act.put, List.getElem_toArray, List.getElem_cons_succ, List.getElem_cons_zero, List.setIfInBounds_toArray, List.set_cons_zero, List.set_cons_succ]
  refine wpAnyH_take (i := 6) (v := ?v6) rfl (by kernel_rfl) (by kernel_rfl) (by kernel_rfl) (fun _ _ _ h => h) (Or.inl ⟨by (first | kernel_rfl | rfl), ?hy6⟩) (by assumption) ?rest6
  case hy6 => (intro w hSw; (try dsimp only at hSw); go_simp; try with_reducible rfl)
  try simp only [Act.put, List.getElem_toArray, List.getElem_cons_succ, List.getElem_cons_zero, List.setIfInBounds_toArray, List.set_cons_zero, List.set_cons_succ]
  refine wpAnyH_done (by kernel_rfl) ?_ _
  refine NoPanic.normal ?_
  obtain ⟨q, c, hv, hc, hr⟩ := RowArg.of_own HO2.out
  cases hv
  go_wp2
  go_ret2
  exact ⟨_, _, rfl, hc, hr.under (under_alloc (Under.refl _) _), under_alloc HU2.out _⟩
end
end Go.Proofs.YtiibknlpeodejaaGreatDoor
