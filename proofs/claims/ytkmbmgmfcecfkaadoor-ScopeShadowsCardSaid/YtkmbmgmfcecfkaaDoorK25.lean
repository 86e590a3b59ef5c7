/- Part 25 of what the proof rests on. -/
import Derived.Deep.RegionLaw
import Derived.Deep.RegionHeld3
import Derived.Deep.AppendLies
import Derived.Test.YtkmbmgmfcecfkaaDoorK23
import Derived.Test.YtkmbmgmfcecfkaaDoorK24
set_option linter.unusedSimpArgs false
set_option linter.unusedVariables false
namespace Go.Proofs.YtkmbmgmfcecfkaaDoor
open Go.Lx Go.RowKit
theorem Tryd.infoNode8 : (Tryd.prog.info? 32).map (fun i => (i.zero, i.size, i.bytes)) = some (some (.agg #[.int .i64 0, .int .i64 0, .int .i64 0, .string ⟨#[]⟩]), 4, 40) := by kernel_rfl
theorem alone_look {w : World} {m2 : Nat} (h : MapAt w m2 aloneL) (s : ByteArray) : (Instr.lookup 45 (.map (some m2)) (.string s) true).run Tryd.prog w = .ok (.tuple #[((leafW s).map fun k => nodeV k 0).getD (nodeV 0 0), .bool (leafW s).isSome]) w := by
  have := (h.lookup (k := s) (kt := 9) (et := 32) Tryd.underlying45 Tryd.underlying9 (zeroNode w)).1
  rw [alone_get, Option.isSome_map] at this
  exact this
theorem keep3 {w w' : World} {a b i j : Nat} {u v : Value} {m : Nat} {ks : Assoc} (hU : Under w w') (h : a < w.heap.size ∧ b < w.heap.size ∧ w.cell? ⟨a, i, none⟩ = some u ∧ w.cell? ⟨b, j, none⟩ = some v ∧ MapAt w m ks) : w'.cell? ⟨a, i, none⟩ = some u ∧ w'.cell? ⟨b, j, none⟩ = some v ∧ MapAt w' m ks :=
  ⟨(under_cell hU h.1 _).trans h.2.2.1, (under_cell hU h.2.1 _).trans h.2.2.2.1, h.2.2.2.2.under hU⟩
def NdAt (w : World) (b : Nat) (x : Nd) : Prop := w.cell? ⟨b, 0, none⟩ = some (.int .i64 x.k) ∧ w.cell? ⟨b, 1, none⟩ = some (.int .i64 x.n) ∧ w.cell? ⟨b, 2, none⟩ = some (.int .i64 x.m) ∧ w.cell? ⟨b, 3, none⟩ = some (.string x.s)
def ndCs (x : Nd) : Array Value := #[.int .i64 x.k, .int .i64 x.n, .int .i64 x.m, .string x.s]
theorem ndAt_box {w : World} {b : Nat} {x : Nd} (h : BoxAt w b 32 (ndCs x)) : NdAt w b x := ⟨h.cell 0, h.cell 1, h.cell 2, h.cell 3⟩
section
variable {W0 w w1 w2 : World} {rb m1 m2 nb g c : Nat} {cv dv ov : Value} {acc : List Nd} {p e : Int} {x : Nd}
theorem ov_nb (h : ReS W0 rb m1 m2 cv dv ov acc p e w) (hn : BoxAt w nb 32 (ndCs x)) (hne : ov.ownBlock ≠ some nb) (hU : Under w w2) (hg : w2.grownBy w1 ov.ownBlock) : BoxAt w1 nb 32 (ndCs x) := (hn.under hU).grown hg fun e => hne e.symm
theorem ReOut.back {R : Say} {y : Ending} (hU : Under w w1) (h : ReOut W0 rb m1 m2 cv dv ov acc w1 R y w2) : ReOut W0 rb m1 m2 cv dv ov acc w R y w2 := by
  obtain ⟨ov', acc', p', e', h1, h2, h3, h4⟩ := h
  exact ⟨ov', acc', p', e', h1, (Ch.of_under hU).trans h2 (fun i _ h => h), fun b hb e => h3 b (by have := hU.size; omega) e, h4⟩
theorem push_done (h : ReS W0 rb m1 m2 cv dv ov acc p e w) (hU : Under w w2) (hg : w2.grownBy w1 ov.ownBlock) (hat : ov.ownBlock = some g ∨ g = w2.heap.size)
    (hown : w1.ownsRow W0.heap.size 32 4 (.slice (some ⟨g, 0, none⟩) (acc.length + 1) c) (acc.length + 1) (ndCells acc ++ [.int .i64 x.k, .int .i64 x.n, .int .i64 x.m, .string x.s])) :
    ReS W0 rb m1 m2 cv dv (.slice (some ⟨g, 0, none⟩) (acc.length + 1) c) (acc ++ [x]) p e (w1.setCell ⟨rb, 4, none⟩ (.slice (some ⟨g, 0, none⟩) (acc.length + 1) c)) ∧ Ch (ResC rb ov) w (w1.setCell ⟨rb, 4, none⟩ (.slice (some ⟨g, 0, none⟩) (acc.length + 1) c)) ∧ (∀ b, b < w.heap.size → (Value.slice (some ⟨g, 0, none⟩) (acc.length + 1) c).ownBlock = some b → ov.ownBlock = some b) := by
  have h2 := h.under hU
  have hb1 := h2.box.grown hg (fun e => h2.ov_rb e.symm)
  have hc : Ch (ResC rb ov) w w1 := (Ch.of_under hU).grown hg fun g e _ => .inr e
  have hc2 : Ch (ResC rb ov) w2 w1 := (Ch.refl _).grown hg fun g e _ => .inr e
  refine ⟨⟨?_, ?_, ?_, ?_, ?_, h.lo⟩, hc.set (fun _ => .inl rfl) 4 _, ?_⟩
  · exact hb1.set 4 _
  · exact map_ch (map_ch h2.f hc2 (fun e => by rcases e with e | e; exact h2.rb_m1 e.symm; exact h2.ov_m1 e)) ((Ch.refl (C := fun b => b = rb) w1).set (g := rb) (fun _ => rfl) 4 _) (fun e => h2.rb_m1 e.symm)
  · exact map_ch (map_ch h2.a hc2 (fun e => by rcases e with e | e; exact h2.rb_m2 e.symm; exact h2.ov_m2 e)) ((Ch.refl (C := fun b => b = rb) w1).set (g := rb) (fun _ => rfl) 4 _) (fun e => h2.rb_m2 e.symm)
  · have := row_other hown (b := rb) (box_own_ne hb1 hown (by decide)) 4 (.slice (some ⟨g, 0, none⟩) (acc.length + 1) c)
    rw [List.length_append, ndCells_app]
    exact this
  · exact under_ch h.und (hc.set (fun _ => .inl rfl) 4 _) h.low
  · intro b hb e
    have e : g = b := by simpa [Value.ownBlock] using e
    subst e
    rcases hat with h | h
    · exact h
    · have := hU.size; omega
end
section
variable {W0 w : World} {rb m1 m2 : Nat} {cv dv ov : Value} {acc : List Nd} {p e : Int}
set_option maxRecDepth 100000 in
set_option maxHeartbeats 2000000 in
theorem word_leaf (x : Sx) (cs : List ByteArray) (st : List ByteArray) {bv : Value} {k : Int} (hl : leafW x.word = some k) (hw : x.word.size ≤ 1000000) (h : ReS W0 rb m1 m2 cv dv ov acc p e w) (hb : TextsV w bv st) (hn : st.length ≤ 100000) (ha : acc.length ≤ 1000000) :
    Calls Tryd.prog 26 #[.pointer (some ⟨rb, 0, none⟩), sxV x, bv] w (ReOut W0 rb m1 m2 cv dv ov acc w (wordS cs x.pos x.word st)) := by
  obtain ⟨i0, hi, hz0, hz1, hz2⟩ := info_parts Tryd.infoNode8
  have hW : wordS cs x.pos x.word st = .ok [⟨k, 0, 0, ⟨#[]⟩⟩] := by unfold wordS; rw [hl]
  rw [hW]
  obtain ⟨mm, pp, s⟩ := x
  simp only at *
  have hU0 := under_alloc (Under.refl w) (.cells #[.int .i64 mm, .int .i64 pp, .string s] 63)
  have hR := h.under hU0
  have d1 := hR.box.cell 3
  have d2 : (w.alloc (.cells #[.int .i64 mm, .int .i64 pp, .string s] 63)).cell? ⟨w.heap.size, 2, none⟩ = some (.string s) := (box_new w _ _).cell 2
  have d3 := hR.a
  have HLk : ∀ (w' : World), MapAt w' m2 aloneL → (Instr.lookup 45 (.map (some m2)) (.string s) true).run Tryd.prog w' = .ok (.tuple #[.agg #[.int .i64 k, .int .i64 0, .int .i64 0, .string ⟨#[]⟩], .bool true]) w' := fun w' h => by
    rw [alone_look h s, hl]; rfl
  have HD := Lib.hid (show rb < (w.alloc (.cells #[.int .i64 mm, .int .i64 pp, .string s] 63)).heap.size ∧ w.heap.size < (w.alloc (.cells #[.int .i64 mm, .int .i64 pp, .string s] 63)).heap.size ∧ _ from ⟨hR.box.lt, by simp, And.intro d1 (And.intro d2 d3)⟩)
  have dd := And.intro d1 (And.intro d2 d3)
  have HB := Lib.hid hb
  have HR := Lib.hid h
  have HU0 := Lib.hid hU0
  clear d1 d2 d3 hR hb hU0 hW hl
  unfold sxV
  simp only
  clear h
  go_enter Tryd.func26, Tryd.ntmps26
  go_wp2_with fail
  go_region_held3 (fun w' => w'.cell? ⟨rb, 3, none⟩ = some (.map (some m2)) ∧ w'.cell? ⟨w.heap.size, 2, none⟩ = some (.string s) ∧ MapAt w' m2 aloneL)
    (first
      | exact dd
      | exact keep3 (under_drew (under_alloc (Under.refl _) _)) HD.out
      | go_loud (exact keep3 (under_drew (under_alloc (Under.refl _) _)) HD.out)
      | go_keep)
    (fail)
  · rename_i K hK hHeld
    clear hHeld dd HLk
    have HUx := Lib.hid (show Under w (((w.alloc (.cells #[.int .i64 mm, .int .i64 pp, .string s] 63)).alloc (.cells #[.int .i64 k, .int .i64 0, .int .i64 0, .string ⟨#[]⟩] 32)).drew) from under_drew (under_alloc HU0.out _))
    have HNb := Lib.hid (show BoxAt (((w.alloc (.cells #[.int .i64 mm, .int .i64 pp, .string s] 63)).alloc (.cells #[.int .i64 k, .int .i64 0, .int .i64 0, .string ⟨#[]⟩] 32)).drew) (w.heap.size + 1) 32 (ndCs ⟨k, 0, 0, ⟨#[]⟩⟩) by
      have := box_new (w.alloc (.cells #[.int .i64 mm, .int .i64 pp, .string s] 63)) #[.int .i64 k, .int .i64 0, .int .i64 0, .string ⟨#[]⟩] 32
      rw [World.size_alloc] at this
      exact this)
    have HSx := Lib.hid (show BoxAt (((w.alloc (.cells #[.int .i64 mm, .int .i64 pp, .string s] 63)).alloc (.cells #[.int .i64 k, .int .i64 0, .int .i64 0, .string ⟨#[]⟩] 32)).drew) w.heap.size 63 #[.int .i64 mm, .int .i64 pp, .string s] from (box_new w _ _).alloc _)
    generalize ((w.alloc (.cells #[.int .i64 mm, .int .i64 pp, .string s] 63)).alloc (.cells #[.int .i64 k, .int .i64 0, .int .i64 0, .string ⟨#[]⟩] 32)).drew = wx at *
    have HC := Lib.hid (cloneT_any (HB.out.under HUx.out) (by omega))
    go_wp2_with fail
    refine HC.out.mono ?_
    rintro e w2 ⟨u, rfl, hu, hU2⟩
    have HRv := Lib.hid (reverseT_any (W := wx) hu (by omega) (Nat.le_refl _) hU2)
    clear hu hU2 HC
    go_wp2_with fail
    refine HRv.out.mono ?_
    rintro e w3 ⟨rfl, hu3, hU3⟩
    have HT3 := TextsV.of_own (ss := st.reverse) (by rw [List.length_reverse]; exact hu3)
    have HI := Lib.hid (indexT_any s HT3 (by rw [List.length_reverse]; omega))
    obtain ⟨q3, c3, rfl, _, _, _⟩ := HT3
    rw [List.length_reverse] at HI ⊢
    generalize st.length = stn at *
    have HIx := Lib.hid (idx_fromEnd st s)
    generalize Lib.idxOfS st.reverse s = ix at *
    have HUz := Lib.hid (HUx.out.trans hU3)
    have HUy := Lib.hid hU3
    have hNy := HNb.out.under hU3
    have hSy := HSx.out.under hU3
    have s0 := hSy.cell 0
    have s1 := hSy.cell 1
    have s2 := hSy.cell 2
    have sl := hSy.lt
    have HSy := Lib.hid hSy
    have HNy := Lib.hid hNy
    clear hSy hNy
    clear hu3 hU3 HRv
    go_wp2_with fail
    refine HI.out.mono ?_
    rintro e w4 ⟨rfl, rfl⟩
    clear HI
    have hRy := HR.out.under HUz.out
    have y4 := hRy.box.cell 4
    have yl := hRy.box.lt
    have HRy := Lib.hid hRy
    have nd0 := ndAt_box (x := ⟨k, 0, 0, ⟨#[]⟩⟩) (HNy.out)
    have HNv : RowKit.Hid (ov.ownBlock ≠ some (w.heap.size + 1)) := Lib.hid fun e => by have := (row_lt HR.out.row e).2; omega
    have hmx : acc.length + 1 ≤ maxLen := by simp only [maxLen]; omega
    have hby : (acc.length + 1) * 40 ≤ 140737488355328 := by omega
    have HNr : RowKit.Hid (rb ≠ w.heap.size + 1) := Lib.hid fun e => by have := HR.out.box.lt; omega
    have hlo : W0.heap.size ≤ w4.heap.size := Nat.le_trans HR.out.und.size HUz.out.size
    clear hRy
    go_wp2_with fail
    refine wp_region_noPanic ?_
    refine wp_region_held_drew (S := fun w' => w'.cell? ⟨w.heap.size + 1, 0, none⟩ = some (.int .i64 (k)) ∧ w'.cell? ⟨w.heap.size + 1, 1, none⟩ = some (.int .i64 (0)) ∧ w'.cell? ⟨w.heap.size + 1, 2, none⟩ = some (.int .i64 (0)) ∧ w'.cell? ⟨w.heap.size + 1, 3, none⟩ = some (.string ⟨#[]⟩)) (by kernel_rfl) nd0 (fun hHeld => ?_)
    refine wpAnyH_take (i := 0) (v := ?v0a) rfl (by kernel_rfl) (by kernel_rfl) (by kernel_rfl) (fun _ _ _ h => h) (Or.inl ⟨by (first | kernel_rfl | rfl), ?hy0a⟩) (by assumption) ?rest0a
    case hy0a => (intro w hSw; (try dsimp only at hSw); go_simp; try with_reducible rfl)
    try simp only [Act.put, List.setIfInBounds_toArray, List.set_cons_zero, List.set_cons_succ]
    refine wpAnyH_take (i := 1) (v := ?v1a) rfl (by kernel_rfl) (by kernel_rfl) (by kernel_rfl) (fun _ _ _ h => h) (Or.inl ⟨by (first | kernel_rfl | rfl), ?hy1a⟩) (by assumption) ?rest1a
    case hy1a => (intro w hSw; (try dsimp only at hSw); go_simp; try with_reducible rfl)
    try simp only [Act.put, List.setIfInBounds_toArray, List.set_cons_zero, List.set_cons_succ]
    refine wpAnyH_take (i := 2) (v := ?v2a) rfl (by kernel_rfl) (by kernel_rfl) (by kernel_rfl) (fun _ _ _ h => h) (Or.inl ⟨by (first | kernel_rfl | rfl), ?hy2a⟩) (by assumption) ?rest2a
    case hy2a => (intro w hSw; (try dsimp only at hSw); go_simp; try with_reducible rfl)
    try simp only [Act.put, List.setIfInBounds_toArray, List.set_cons_zero, List.set_cons_succ]
    refine wpAnyH_take (i := 3) (v := ?v3a) rfl (by kernel_rfl) (by kernel_rfl) (by kernel_rfl) (fun _ _ _ h => h) (Or.inl ⟨by (first | kernel_rfl | rfl), ?hy3a⟩) (by assumption) ?rest3a
    case hy3a => (intro w hSw; (try dsimp only at hSw); go_simp; try with_reducible rfl)
    try simp only [Act.put, List.setIfInBounds_toArray, List.set_cons_zero, List.set_cons_succ]
    refine wpAnyH_take (i := 5) (v := ?v5a) rfl (by kernel_rfl) (by kernel_rfl) (by kernel_rfl) (fun _ _ _ h => h) (Or.inl ⟨by (first | kernel_rfl | rfl), ?hy5a⟩) (by assumption) ?rest5a
    case hy5a => (intro w hSw; (try dsimp only at hSw); go_simp; try with_reducible rfl)
    try simp only [Act.put, List.setIfInBounds_toArray, List.set_cons_zero, List.set_cons_succ]
    refine wpAnyH_ready (rs := [4, 6]) (by kernel_rfl) (by simp) ?_
    refine AllReadyH.cons rfl (fun K hK => ?_) (AllReadyH.cons rfl (fun K hK => ?_) AllReadyH.nil)
    · go_simp
      refine hK.out _ _ hHeld (fun hHeld' => ?_)
      clear hK K hHeld
      have hHeld := hHeld'
      clear hHeld'
      try simp only [Act.put, List.setIfInBounds_toArray, List.set_cons_zero, List.set_cons_succ]
      refine wpAnyH_ready (rs := [6]) (by kernel_rfl) (by simp) ?_
      refine AllReadyH.cons rfl (fun K hK => ?_) AllReadyH.nil
      go_simp
      refine hK.out _ _ ?_ (fun hHeld' => ?_)
      · exact ndAt_box (x := ⟨k, 0, 0, ⟨#[]⟩⟩) ((HNy.out).under (by first | exact under_drew (Under.refl _) | exact under_drew (under_alloc (Under.refl _) _) | exact under_alloc (under_drew (Under.refl _)) _))
      clear hK K hHeld
      have hHeld := hHeld'
      clear hHeld'
      try simp only [Act.put, List.setIfInBounds_toArray, List.set_cons_zero, List.set_cons_succ]
      refine wpAnyH_ready (rs := [7]) (by kernel_rfl) (by simp) ?_
      refine AllReadyH.cons rfl (fun K hK => ?_) AllReadyH.nil
      refine step_append_lies _ (by rfl) _ _ _ (by rfl) W0.heap.size 32 i0 _ 4 40 Tryd.underlying25 hi hz0 hz1 hz2 rfl (by omega) ov acc.length (ndCells acc) (by rfl) (row_under HRy.out.row (by first | exact under_drew (under_alloc (Under.refl _) _) | exact under_alloc (under_drew (Under.refl _)) _))
            ⟨w4.heap.size, 0, none⟩ 1 1 [.int .i64 k, .int .i64 0, .int .i64 0, .string ⟨#[]⟩] (by rfl) (by rfl) (World.news_of_block (cs := #[.int .i64 k, .int .i64 0, .int .i64 0, .string ⟨#[]⟩]) (t := 32) (fr := (0, 0)) (heap_alloc_new _ _)) (by simp [Value.oneCell'])
            (by omega) hmx hby (by simp; omega) (w4.heap.size + 1) (by simp) ?_
      intro gg cc w5 hown5 hgrow5 hat5 hlt5
      have HPd := Lib.hid (push_done (x := ⟨k, 0, 0, ⟨#[]⟩⟩) HRy.out (by first | exact under_drew (under_alloc (Under.refl _) _) | exact under_alloc (under_drew (Under.refl _)) _) hgrow5 (by rcases hat5 with h | h; exact .inl h; exact .inr (by rw [h]; simp)) hown5)
      have HN5 := Lib.hid (ov_nb (x := ⟨k, 0, 0, ⟨#[]⟩⟩) HRy.out (HNy.out) HNv.out (by first | exact under_drew (under_alloc (Under.refl _) _) | exact under_alloc (under_drew (Under.refl _)) _) hgrow5)
      have HB5 := Lib.hid ((HRy.out.box.under (by first | exact under_drew (under_alloc (Under.refl _) _) | exact under_alloc (under_drew (Under.refl _)) _)).grown hgrow5 (fun e => HRy.out.ov_rb e.symm))
      have y5 := HB5.out.lt
      have y6 := HB5.out.free 4
      have y7 := HB5.out.cell 4
      have HN6 := Lib.hid (HN5.out.other (g := rb) (fun e => HNr.out e.symm) 4 (.slice (some ⟨gg, 0, none⟩) (acc.length + 1) cc))
      clear hown5 hgrow5 hat5 hlt5
      refine hK.out _ _ (ndAt_box (x := ⟨k, 0, 0, ⟨#[]⟩⟩) HN5.out) (fun hHeld' => ?_)
      clear hK K hHeld
      have hHeld := hHeld'
      clear hHeld'
      try simp only [Act.put, List.setIfInBounds_toArray, List.set_cons_zero, List.set_cons_succ]
      refine wpAnyH_take (i := 8) (v := ?v8ap) rfl (by kernel_rfl) (by kernel_rfl) (by kernel_rfl) (fun _ _ _ h => h) (Or.inl ⟨by (first | kernel_rfl | rfl), ?hy8ap⟩) (by assumption) ?rest8ap
      case hy8ap => (intro w hSw; (try dsimp only at hSw); go_simp; try with_reducible rfl)
      try simp only [Act.put, List.setIfInBounds_toArray, List.set_cons_zero, List.set_cons_succ]
      refine wpAnyH_take (i := 9) (v := ?v9ap) rfl (by kernel_rfl) (by kernel_rfl) (by kernel_rfl) (fun _ _ _ h => h) (Or.inl ⟨by (first | kernel_rfl | rfl), ?hy9ap⟩) (by assumption) ?rest9ap
      case hy9ap => (intro w hSw; (try dsimp only at hSw); go_simp; try with_reducible rfl)
      try simp only [Act.put, List.setIfInBounds_toArray, List.set_cons_zero, List.set_cons_succ]
      refine wpAnyH_ready (rs := [10]) (by kernel_rfl) (by simp) ?_
      refine AllReadyH.cons rfl (fun K hK => ?_) AllReadyH.nil
      go_simp
      refine hK.out _ _ (ndAt_box (x := ⟨k, 0, 0, ⟨#[]⟩⟩) HN6.out) (fun hHeld' => ?_)
      clear hK K hHeld
      have hHeld := hHeld'
      clear hHeld'
      try simp only [Act.put, List.setIfInBounds_toArray, List.set_cons_zero, List.set_cons_succ]
      refine wpAnyH_done (by kernel_rfl) ?_ _
      refine NoPanic.normal ?_
      clear hHeld y5 y6 y7
      go_wp2
      go_ret
      exact ⟨_, _, _, _, HPd.out.1, (Ch.of_under HUz.out).trans (C := ResC rb ov) (D := ResC rb ov) HPd.out.2.1 (fun i _ h => h), fun b hb e => HPd.out.2.2 b (by have := HUz.out.size; omega) e, rfl, rfl⟩
    · go_simp
      refine hK.out _ _ ?_ (fun hHeld' => ?_)
      · exact ndAt_box (x := ⟨k, 0, 0, ⟨#[]⟩⟩) ((HNy.out).under (by first | exact under_drew (Under.refl _) | exact under_drew (under_alloc (Under.refl _) _) | exact under_alloc (under_drew (Under.refl _)) _))
      clear hK K hHeld
      have hHeld := hHeld'
      clear hHeld'
      try simp only [Act.put, List.setIfInBounds_toArray, List.set_cons_zero, List.set_cons_succ]
      refine wpAnyH_ready (rs := [4]) (by kernel_rfl) (by simp) ?_
      refine AllReadyH.cons rfl (fun K hK => ?_) AllReadyH.nil
      go_simp
      refine hK.out _ _ hHeld (fun hHeld' => ?_)
      clear hK K hHeld
      have hHeld := hHeld'
      clear hHeld'
      try simp only [Act.put, List.setIfInBounds_toArray, List.set_cons_zero, List.set_cons_succ]
      refine wpAnyH_ready (rs := [7]) (by kernel_rfl) (by simp) ?_
      refine AllReadyH.cons rfl (fun K hK => ?_) AllReadyH.nil
      refine step_append_lies _ (by rfl) _ _ _ (by rfl) W0.heap.size 32 i0 _ 4 40 Tryd.underlying25 hi hz0 hz1 hz2 rfl (by omega) ov acc.length (ndCells acc) (by rfl) (row_under HRy.out.row (by first | exact under_drew (under_alloc (Under.refl _) _) | exact under_alloc (under_drew (Under.refl _)) _))
            ⟨w4.heap.size, 0, none⟩ 1 1 [.int .i64 k, .int .i64 0, .int .i64 0, .string ⟨#[]⟩] (by rfl) (by rfl) (World.news_of_block (cs := #[.int .i64 k, .int .i64 0, .int .i64 0, .string ⟨#[]⟩]) (t := 32) (fr := (0, 0)) (heap_alloc_new _ _)) (by simp [Value.oneCell'])
            (by omega) hmx hby (by simp; omega) (w4.heap.size + 1) (by simp) ?_
      intro gg cc w5 hown5 hgrow5 hat5 hlt5
      have HPd := Lib.hid (push_done (x := ⟨k, 0, 0, ⟨#[]⟩⟩) HRy.out (by first | exact under_drew (under_alloc (Under.refl _) _) | exact under_alloc (under_drew (Under.refl _)) _) hgrow5 (by rcases hat5 with h | h; exact .inl h; exact .inr (by rw [h]; simp)) hown5)
      have HN5 := Lib.hid (ov_nb (x := ⟨k, 0, 0, ⟨#[]⟩⟩) HRy.out (HNy.out) HNv.out (by first | exact under_drew (under_alloc (Under.refl _) _) | exact under_alloc (under_drew (Under.refl _)) _) hgrow5)
      have HB5 := Lib.hid ((HRy.out.box.under (by first | exact under_drew (under_alloc (Under.refl _) _) | exact under_alloc (under_drew (Under.refl _)) _)).grown hgrow5 (fun e => HRy.out.ov_rb e.symm))
      have y5 := HB5.out.lt
      have y6 := HB5.out.free 4
      have y7 := HB5.out.cell 4
      have HN6 := Lib.hid (HN5.out.other (g := rb) (fun e => HNr.out e.symm) 4 (.slice (some ⟨gg, 0, none⟩) (acc.length + 1) cc))
      clear hown5 hgrow5 hat5 hlt5
      refine hK.out _ _ (ndAt_box (x := ⟨k, 0, 0, ⟨#[]⟩⟩) HN5.out) (fun hHeld' => ?_)
      clear hK K hHeld
      have hHeld := hHeld'
      clear hHeld'
      try simp only [Act.put, List.setIfInBounds_toArray, List.set_cons_zero, List.set_cons_succ]
      refine wpAnyH_take (i := 8) (v := ?v8aq) rfl (by kernel_rfl) (by kernel_rfl) (by kernel_rfl) (fun _ _ _ h => h) (Or.inl ⟨by (first | kernel_rfl | rfl), ?hy8aq⟩) (by assumption) ?rest8aq
      case hy8aq => (intro w hSw; (try dsimp only at hSw); go_simp; try with_reducible rfl)
      try simp only [Act.put, List.setIfInBounds_toArray, List.set_cons_zero, List.set_cons_succ]
      refine wpAnyH_take (i := 9) (v := ?v9aq) rfl (by kernel_rfl) (by kernel_rfl) (by kernel_rfl) (fun _ _ _ h => h) (Or.inl ⟨by (first | kernel_rfl | rfl), ?hy9aq⟩) (by assumption) ?rest9aq
      case hy9aq => (intro w hSw; (try dsimp only at hSw); go_simp; try with_reducible rfl)
      try simp only [Act.put, List.setIfInBounds_toArray, List.set_cons_zero, List.set_cons_succ]
      refine wpAnyH_ready (rs := [10]) (by kernel_rfl) (by simp) ?_
      refine AllReadyH.cons rfl (fun K hK => ?_) AllReadyH.nil
      go_simp
      refine hK.out _ _ (ndAt_box (x := ⟨k, 0, 0, ⟨#[]⟩⟩) HN6.out) (fun hHeld' => ?_)
      clear hK K hHeld
      have hHeld := hHeld'
      clear hHeld'
      try simp only [Act.put, List.setIfInBounds_toArray, List.set_cons_zero, List.set_cons_succ]
      refine wpAnyH_done (by kernel_rfl) ?_ _
      refine NoPanic.normal ?_
      clear hHeld y5 y6 y7
      go_wp2
      go_ret
      exact ⟨_, _, _, _, HPd.out.1, (Ch.of_under HUz.out).trans (C := ResC rb ov) (D := ResC rb ov) HPd.out.2.1 (fun i _ h => h), fun b hb e => HPd.out.2.2 b (by have := HUz.out.size; omega) e, rfl, rfl⟩
  · rename_i K hK hHeld
    clear hHeld dd HLk
    have HUx := Lib.hid (show Under w (((w.alloc (.cells #[.int .i64 mm, .int .i64 pp, .string s] 63)).alloc (.cells #[.int .i64 k, .int .i64 0, .int .i64 0, .string ⟨#[]⟩] 32)).drew) from under_drew (under_alloc HU0.out _))
    have HNb := Lib.hid (show BoxAt (((w.alloc (.cells #[.int .i64 mm, .int .i64 pp, .string s] 63)).alloc (.cells #[.int .i64 k, .int .i64 0, .int .i64 0, .string ⟨#[]⟩] 32)).drew) (w.heap.size + 1) 32 (ndCs ⟨k, 0, 0, ⟨#[]⟩⟩) by
      have := box_new (w.alloc (.cells #[.int .i64 mm, .int .i64 pp, .string s] 63)) #[.int .i64 k, .int .i64 0, .int .i64 0, .string ⟨#[]⟩] 32
      rw [World.size_alloc] at this
      exact this)
    have HSx := Lib.hid (show BoxAt (((w.alloc (.cells #[.int .i64 mm, .int .i64 pp, .string s] 63)).alloc (.cells #[.int .i64 k, .int .i64 0, .int .i64 0, .string ⟨#[]⟩] 32)).drew) w.heap.size 63 #[.int .i64 mm, .int .i64 pp, .string s] from (box_new w _ _).alloc _)
    generalize ((w.alloc (.cells #[.int .i64 mm, .int .i64 pp, .string s] 63)).alloc (.cells #[.int .i64 k, .int .i64 0, .int .i64 0, .string ⟨#[]⟩] 32)).drew = wx at *
    have HC := Lib.hid (cloneT_any (HB.out.under HUx.out) (by omega))
    go_wp2_with fail
    refine HC.out.mono ?_
    rintro e w2 ⟨u, rfl, hu, hU2⟩
    have HRv := Lib.hid (reverseT_any (W := wx) hu (by omega) (Nat.le_refl _) hU2)
    clear hu hU2 HC
    go_wp2_with fail
    refine HRv.out.mono ?_
    rintro e w3 ⟨rfl, hu3, hU3⟩
    have HT3 := TextsV.of_own (ss := st.reverse) (by rw [List.length_reverse]; exact hu3)
    have HI := Lib.hid (indexT_any s HT3 (by rw [List.length_reverse]; omega))
    obtain ⟨q3, c3, rfl, _, _, _⟩ := HT3
    rw [List.length_reverse] at HI ⊢
    generalize st.length = stn at *
    have HIx := Lib.hid (idx_fromEnd st s)
    generalize Lib.idxOfS st.reverse s = ix at *
    have HUz := Lib.hid (HUx.out.trans hU3)
    have HUy := Lib.hid hU3
    have hNy := HNb.out.under hU3
    have hSy := HSx.out.under hU3
    have s0 := hSy.cell 0
    have s1 := hSy.cell 1
    have s2 := hSy.cell 2
    have sl := hSy.lt
    have HSy := Lib.hid hSy
    have HNy := Lib.hid hNy
    clear hSy hNy
    clear hu3 hU3 HRv
    go_wp2_with fail
    refine HI.out.mono ?_
    rintro e w4 ⟨rfl, rfl⟩
    clear HI
    have hRy := HR.out.under HUz.out
    have y4 := hRy.box.cell 4
    have yl := hRy.box.lt
    have HRy := Lib.hid hRy
    have nd0 := ndAt_box (x := ⟨k, 0, 0, ⟨#[]⟩⟩) (HNy.out)
    have HNv : RowKit.Hid (ov.ownBlock ≠ some (w.heap.size + 1)) := Lib.hid fun e => by have := (row_lt HR.out.row e).2; omega
    have hmx : acc.length + 1 ≤ maxLen := by simp only [maxLen]; omega
    have hby : (acc.length + 1) * 40 ≤ 140737488355328 := by omega
    have HNr : RowKit.Hid (rb ≠ w.heap.size + 1) := Lib.hid fun e => by have := HR.out.box.lt; omega
    have hlo : W0.heap.size ≤ w4.heap.size := Nat.le_trans HR.out.und.size HUz.out.size
    clear hRy
    go_wp2_with fail
    refine wp_region_noPanic ?_
    refine wp_region_held_drew (S := fun w' => w'.cell? ⟨w.heap.size + 1, 0, none⟩ = some (.int .i64 (k)) ∧ w'.cell? ⟨w.heap.size + 1, 1, none⟩ = some (.int .i64 (0)) ∧ w'.cell? ⟨w.heap.size + 1, 2, none⟩ = some (.int .i64 (0)) ∧ w'.cell? ⟨w.heap.size + 1, 3, none⟩ = some (.string ⟨#[]⟩)) (by kernel_rfl) nd0 (fun hHeld => ?_)
    refine wpAnyH_take (i := 0) (v := ?v0b) rfl (by kernel_rfl) (by kernel_rfl) (by kernel_rfl) (fun _ _ _ h => h) (Or.inl ⟨by (first | kernel_rfl | rfl), ?hy0b⟩) (by assumption) ?rest0b
    case hy0b => (intro w hSw; (try dsimp only at hSw); go_simp; try with_reducible rfl)
    try simp only [Act.put, List.setIfInBounds_toArray, List.set_cons_zero, List.set_cons_succ]
    refine wpAnyH_take (i := 1) (v := ?v1b) rfl (by kernel_rfl) (by kernel_rfl) (by kernel_rfl) (fun _ _ _ h => h) (Or.inl ⟨by (first | kernel_rfl | rfl), ?hy1b⟩) (by assumption) ?rest1b
    case hy1b => (intro w hSw; (try dsimp only at hSw); go_simp; try with_reducible rfl)
    try simp only [Act.put, List.setIfInBounds_toArray, List.set_cons_zero, List.set_cons_succ]
    refine wpAnyH_take (i := 2) (v := ?v2b) rfl (by kernel_rfl) (by kernel_rfl) (by kernel_rfl) (fun _ _ _ h => h) (Or.inl ⟨by (first | kernel_rfl | rfl), ?hy2b⟩) (by assumption) ?rest2b
    case hy2b => (intro w hSw; (try dsimp only at hSw); go_simp; try with_reducible rfl)
    try simp only [Act.put, List.setIfInBounds_toArray, List.set_cons_zero, List.set_cons_succ]
    refine wpAnyH_take (i := 3) (v := ?v3b) rfl (by kernel_rfl) (by kernel_rfl) (by kernel_rfl) (fun _ _ _ h => h) (Or.inl ⟨by (first | kernel_rfl | rfl), ?hy3b⟩) (by assumption) ?rest3b
    case hy3b => (intro w hSw; (try dsimp only at hSw); go_simp; try with_reducible rfl)
    try simp only [Act.put, List.setIfInBounds_toArray, List.set_cons_zero, List.set_cons_succ]
    refine wpAnyH_take (i := 5) (v := ?v5b) rfl (by kernel_rfl) (by kernel_rfl) (by kernel_rfl) (fun _ _ _ h => h) (Or.inl ⟨by (first | kernel_rfl | rfl), ?hy5b⟩) (by assumption) ?rest5b
    case hy5b => (intro w hSw; (try dsimp only at hSw); go_simp; try with_reducible rfl)
    try simp only [Act.put, List.setIfInBounds_toArray, List.set_cons_zero, List.set_cons_succ]
    refine wpAnyH_ready (rs := [4, 6]) (by kernel_rfl) (by simp) ?_
    refine AllReadyH.cons rfl (fun K hK => ?_) (AllReadyH.cons rfl (fun K hK => ?_) AllReadyH.nil)
    · go_simp
      refine hK.out _ _ hHeld (fun hHeld' => ?_)
      clear hK K hHeld
      have hHeld := hHeld'
      clear hHeld'
      try simp only [Act.put, List.setIfInBounds_toArray, List.set_cons_zero, List.set_cons_succ]
      refine wpAnyH_ready (rs := [6]) (by kernel_rfl) (by simp) ?_
      refine AllReadyH.cons rfl (fun K hK => ?_) AllReadyH.nil
      go_simp
      refine hK.out _ _ ?_ (fun hHeld' => ?_)
      · exact ndAt_box (x := ⟨k, 0, 0, ⟨#[]⟩⟩) ((HNy.out).under (by first | exact under_drew (Under.refl _) | exact under_drew (under_alloc (Under.refl _) _) | exact under_alloc (under_drew (Under.refl _)) _))
      clear hK K hHeld
      have hHeld := hHeld'
      clear hHeld'
      try simp only [Act.put, List.setIfInBounds_toArray, List.set_cons_zero, List.set_cons_succ]
      refine wpAnyH_ready (rs := [7]) (by kernel_rfl) (by simp) ?_
      refine AllReadyH.cons rfl (fun K hK => ?_) AllReadyH.nil
      refine step_append_lies _ (by rfl) _ _ _ (by rfl) W0.heap.size 32 i0 _ 4 40 Tryd.underlying25 hi hz0 hz1 hz2 rfl (by omega) ov acc.length (ndCells acc) (by rfl) (row_under HRy.out.row (by first | exact under_drew (under_alloc (Under.refl _) _) | exact under_alloc (under_drew (Under.refl _)) _))
            ⟨w4.heap.size, 0, none⟩ 1 1 [.int .i64 k, .int .i64 0, .int .i64 0, .string ⟨#[]⟩] (by rfl) (by rfl) (World.news_of_block (cs := #[.int .i64 k, .int .i64 0, .int .i64 0, .string ⟨#[]⟩]) (t := 32) (fr := (0, 0)) (heap_alloc_new _ _)) (by simp [Value.oneCell'])
            (by omega) hmx hby (by simp; omega) (w4.heap.size + 1) (by simp) ?_
      intro gg cc w5 hown5 hgrow5 hat5 hlt5
      have HPd := Lib.hid (push_done (x := ⟨k, 0, 0, ⟨#[]⟩⟩) HRy.out (by first | exact under_drew (under_alloc (Under.refl _) _) | exact under_alloc (under_drew (Under.refl _)) _) hgrow5 (by rcases hat5 with h | h; exact .inl h; exact .inr (by rw [h]; simp)) hown5)
      have HN5 := Lib.hid (ov_nb (x := ⟨k, 0, 0, ⟨#[]⟩⟩) HRy.out (HNy.out) HNv.out (by first | exact under_drew (under_alloc (Under.refl _) _) | exact under_alloc (under_drew (Under.refl _)) _) hgrow5)
      have HB5 := Lib.hid ((HRy.out.box.under (by first | exact under_drew (under_alloc (Under.refl _) _) | exact under_alloc (under_drew (Under.refl _)) _)).grown hgrow5 (fun e => HRy.out.ov_rb e.symm))
      have y5 := HB5.out.lt
      have y6 := HB5.out.free 4
      have y7 := HB5.out.cell 4
      have HN6 := Lib.hid (HN5.out.other (g := rb) (fun e => HNr.out e.symm) 4 (.slice (some ⟨gg, 0, none⟩) (acc.length + 1) cc))
      clear hown5 hgrow5 hat5 hlt5
      refine hK.out _ _ (ndAt_box (x := ⟨k, 0, 0, ⟨#[]⟩⟩) HN5.out) (fun hHeld' => ?_)
      clear hK K hHeld
      have hHeld := hHeld'
      clear hHeld'
      try simp only [Act.put, List.setIfInBounds_toArray, List.set_cons_zero, List.set_cons_succ]
      refine wpAnyH_take (i := 8) (v := ?v8bp) rfl (by kernel_rfl) (by kernel_rfl) (by kernel_rfl) (fun _ _ _ h => h) (Or.inl ⟨by (first | kernel_rfl | rfl), ?hy8bp⟩) (by assumption) ?rest8bp
      case hy8bp => (intro w hSw; (try dsimp only at hSw); go_simp; try with_reducible rfl)
      try simp only [Act.put, List.setIfInBounds_toArray, List.set_cons_zero, List.set_cons_succ]
      refine wpAnyH_take (i := 9) (v := ?v9bp) rfl (by kernel_rfl) (by kernel_rfl) (by kernel_rfl) (fun _ _ _ h => h) (Or.inl ⟨by (first | kernel_rfl | rfl), ?hy9bp⟩) (by assumption) ?rest9bp
      case hy9bp => (intro w hSw; (try dsimp only at hSw); go_simp; try with_reducible rfl)
      try simp only [Act.put, List.setIfInBounds_toArray, List.set_cons_zero, List.set_cons_succ]
      refine wpAnyH_ready (rs := [10]) (by kernel_rfl) (by simp) ?_
      refine AllReadyH.cons rfl (fun K hK => ?_) AllReadyH.nil
      go_simp
      refine hK.out _ _ (ndAt_box (x := ⟨k, 0, 0, ⟨#[]⟩⟩) HN6.out) (fun hHeld' => ?_)
      clear hK K hHeld
      have hHeld := hHeld'
      clear hHeld'
      try simp only [Act.put, List.setIfInBounds_toArray, List.set_cons_zero, List.set_cons_succ]
      refine wpAnyH_done (by kernel_rfl) ?_ _
      refine NoPanic.normal ?_
      clear hHeld y5 y6 y7
      go_wp2
      go_ret
      exact ⟨_, _, _, _, HPd.out.1, (Ch.of_under HUz.out).trans (C := ResC rb ov) (D := ResC rb ov) HPd.out.2.1 (fun i _ h => h), fun b hb e => HPd.out.2.2 b (by have := HUz.out.size; omega) e, rfl, rfl⟩
    · go_simp
      refine hK.out _ _ ?_ (fun hHeld' => ?_)
      · exact ndAt_box (x := ⟨k, 0, 0, ⟨#[]⟩⟩) ((HNy.out).under (by first | exact under_drew (Under.refl _) | exact under_drew (under_alloc (Under.refl _) _) | exact under_alloc (under_drew (Under.refl _)) _))
      clear hK K hHeld
      have hHeld := hHeld'
      clear hHeld'
      try simp only [Act.put, List.setIfInBounds_toArray, List.set_cons_zero, List.set_cons_succ]
      refine wpAnyH_ready (rs := [4]) (by kernel_rfl) (by simp) ?_
      refine AllReadyH.cons rfl (fun K hK => ?_) AllReadyH.nil
      go_simp
      refine hK.out _ _ hHeld (fun hHeld' => ?_)
      clear hK K hHeld
      have hHeld := hHeld'
      clear hHeld'
      try simp only [Act.put, List.setIfInBounds_toArray, List.set_cons_zero, List.set_cons_succ]
      refine wpAnyH_ready (rs := [7]) (by kernel_rfl) (by simp) ?_
      refine AllReadyH.cons rfl (fun K hK => ?_) AllReadyH.nil
      refine step_append_lies _ (by rfl) _ _ _ (by rfl) W0.heap.size 32 i0 _ 4 40 Tryd.underlying25 hi hz0 hz1 hz2 rfl (by omega) ov acc.length (ndCells acc) (by rfl) (row_under HRy.out.row (by first | exact under_drew (under_alloc (Under.refl _) _) | exact under_alloc (under_drew (Under.refl _)) _))
            ⟨w4.heap.size, 0, none⟩ 1 1 [.int .i64 k, .int .i64 0, .int .i64 0, .string ⟨#[]⟩] (by rfl) (by rfl) (World.news_of_block (cs := #[.int .i64 k, .int .i64 0, .int .i64 0, .string ⟨#[]⟩]) (t := 32) (fr := (0, 0)) (heap_alloc_new _ _)) (by simp [Value.oneCell'])
            (by omega) hmx hby (by simp; omega) (w4.heap.size + 1) (by simp) ?_
      intro gg cc w5 hown5 hgrow5 hat5 hlt5
      have HPd := Lib.hid (push_done (x := ⟨k, 0, 0, ⟨#[]⟩⟩) HRy.out (by first | exact under_drew (under_alloc (Under.refl _) _) | exact under_alloc (under_drew (Under.refl _)) _) hgrow5 (by rcases hat5 with h | h; exact .inl h; exact .inr (by rw [h]; simp)) hown5)
      have HN5 := Lib.hid (ov_nb (x := ⟨k, 0, 0, ⟨#[]⟩⟩) HRy.out (HNy.out) HNv.out (by first | exact under_drew (under_alloc (Under.refl _) _) | exact under_alloc (under_drew (Under.refl _)) _) hgrow5)
      have HB5 := Lib.hid ((HRy.out.box.under (by first | exact under_drew (under_alloc (Under.refl _) _) | exact under_alloc (under_drew (Under.refl _)) _)).grown hgrow5 (fun e => HRy.out.ov_rb e.symm))
      have y5 := HB5.out.lt
      have y6 := HB5.out.free 4
      have y7 := HB5.out.cell 4
      have HN6 := Lib.hid (HN5.out.other (g := rb) (fun e => HNr.out e.symm) 4 (.slice (some ⟨gg, 0, none⟩) (acc.length + 1) cc))
      clear hown5 hgrow5 hat5 hlt5
      refine hK.out _ _ (ndAt_box (x := ⟨k, 0, 0, ⟨#[]⟩⟩) HN5.out) (fun hHeld' => ?_)
      clear hK K hHeld
      have hHeld := hHeld'
      clear hHeld'
      try simp only [Act.put, List.setIfInBounds_toArray, List.set_cons_zero, List.set_cons_succ]
      refine wpAnyH_take (i := 8) (v := ?v8bq) rfl (by kernel_rfl) (by kernel_rfl) (by kernel_rfl) (fun _ _ _ h => h) (Or.inl ⟨by (first | kernel_rfl | rfl), ?hy8bq⟩) (by assumption) ?rest8bq
      case hy8bq => (intro w hSw; (try dsimp only at hSw); go_simp; try with_reducible rfl)
      try simp only [Act.put, List.setIfInBounds_toArray, List.set_cons_zero, List.set_cons_succ]
      refine wpAnyH_take (i := 9) (v := ?v9bq) rfl (by kernel_rfl) (by kernel_rfl) (by kernel_rfl) (fun _ _ _ h => h) (Or.inl ⟨by (first | kernel_rfl | rfl), ?hy9bq⟩) (by assumption) ?rest9bq
      case hy9bq => (intro w hSw; (try dsimp only at hSw); go_simp; try with_reducible rfl)
      try simp only [Act.put, List.setIfInBounds_toArray, List.set_cons_zero, List.set_cons_succ]
      refine wpAnyH_ready (rs := [10]) (by kernel_rfl) (by simp) ?_
      refine AllReadyH.cons rfl (fun K hK => ?_) AllReadyH.nil
      go_simp
      refine hK.out _ _ (ndAt_box (x := ⟨k, 0, 0, ⟨#[]⟩⟩) HN6.out) (fun hHeld' => ?_)
      clear hK K hHeld
      have hHeld := hHeld'
      clear hHeld'
      try simp only [Act.put, List.setIfInBounds_toArray, List.set_cons_zero, List.set_cons_succ]
      refine wpAnyH_done (by kernel_rfl) ?_ _
      refine NoPanic.normal ?_
      clear hHeld y5 y6 y7
      go_wp2
      go_ret
      exact ⟨_, _, _, _, HPd.out.1, (Ch.of_under HUz.out).trans (C := ResC rb ov) (D := ResC rb ov) HPd.out.2.1 (fun i _ h => h), fun b hb e => HPd.out.2.2 b (by have := HUz.out.size; omega) e, rfl, rfl⟩
end
end Go.Proofs.YtkmbmgmfcecfkaaDoor
