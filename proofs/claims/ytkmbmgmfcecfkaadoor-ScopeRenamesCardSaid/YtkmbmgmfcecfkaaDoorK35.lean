/- Part 35 of what the proof rests on. -/
import Derived.Test.YtkmbmgmfcecfkaaDoorK30
import Derived.Test.YtkmbmgmfcecfkaaDoorK34
set_option linter.unusedSimpArgs false
set_option linter.unusedVariables false
namespace Go.Proofs.YtkmbmgmfcecfkaaDoor
open Go.Lx Go.RowKit
noncomputable def tgLate : Code := sndOf (sndOf tgScope)
def LateOut (W0 : World) (rb m1 m2 : Nat) (cv dv ov : Value) (acc : List Nd) (p e : Int) (x : Nd) (w4 : World) (ex : Exit) (a' : Act) (w' : World) : Prop :=
  ex = .ret ∧ (∃ J, a' = ⟨tgOut true J, []⟩) ∧ ∃ ov', ReS W0 rb m1 m2 cv dv ov' (acc ++ [x]) p e w' ∧ Ch (ResC rb ov) w4 w' ∧ (∀ b, b < w4.heap.size → ov'.ownBlock = some b → ov.ownBlock = some b)
set_option maxRecDepth 100000 in
set_option maxHeartbeats 2000000 in
theorem tg_push {W0 w4 : World} {rb m1 m2 nb : Nat} {cv dv ov : Value} {acc : List Nd} {p e : Int} {x : Nd} (hR : ReS W0 rb m1 m2 cv dv ov acc p e w4) (hn : BoxAt w4 nb 32 (ndCs x)) (hne : ov.ownBlock ≠ some nb) (hrn : rb ≠ nb) (ha : acc.length ≤ 1000000) (bv nv : Value) (wt : Bool) (ps : ByteArray) (q2 : Option Addr) (n c2 k : Nat) (J : Nat → Value) :
    tgLate.wp Tryd.prog (LateOut W0 rb m1 m2 cv dv ov acc p e x w4) ⟨tgFrame rb nb bv nv wt ps q2 n c2 k J, []⟩ w4 := by
  obtain ⟨i0, hi, hz0, hz1, hz2⟩ := info_parts Tryd.infoNode8
  obtain ⟨xk, xn, xm, xs⟩ := x
  have HNy := Lib.hid hn
  have y4 := hR.box.cell 4
  have yl := hR.box.lt
  have HRy := Lib.hid hR
  have nd0 := ndAt_box (x := ⟨xk, xn, xm, xs⟩) hn
  have HNv : RowKit.Hid (ov.ownBlock ≠ some nb) := Lib.hid hne
  have HNr : RowKit.Hid (rb ≠ nb) := Lib.hid hrn
  have hmx : acc.length + 1 ≤ maxLen := by simp only [maxLen]; omega
  have hby : (acc.length + 1) * 40 ≤ 140737488355328 := by omega
  have hlo : W0.heap.size ≤ w4.heap.size := hR.und.size
  clear hR hn hne hrn
  unfold tgLate tgScope tgText
  simp only [Tryd.f20, Option.getD_some, fstOf, sndOf, inOf]
  unfold tgFrame
  go_wp2_with fail
  refine wp_region_noPanic ?_
  refine wp_region_held_drew (S := fun w' => w'.cell? ⟨nb, 0, none⟩ = some (.int .i64 (xk)) ∧ w'.cell? ⟨nb, 1, none⟩ = some (.int .i64 (xn)) ∧ w'.cell? ⟨nb, 2, none⟩ = some (.int .i64 (xm)) ∧ w'.cell? ⟨nb, 3, none⟩ = some (.string xs)) (by kernel_rfl) nd0 (fun hHeld => ?_)
  refine wpAnyH_take (i := 0) (v := ?v0z) rfl (by kernel_rfl) (by kernel_rfl) (by kernel_rfl) (fun _ _ _ h => h) (Or.inl ⟨by (first | kernel_rfl | rfl), ?hy0z⟩) (by assumption) ?rest0z
  case hy0z => (intro w hSw; (try dsimp only at hSw); go_simp; try with_reducible rfl)
  try simp only [Act.put, List.setIfInBounds_toArray, List.set_cons_zero, List.set_cons_succ]
  refine wpAnyH_take (i := 1) (v := ?v1z) rfl (by kernel_rfl) (by kernel_rfl) (by kernel_rfl) (fun _ _ _ h => h) (Or.inl ⟨by (first | kernel_rfl | rfl), ?hy1z⟩) (by assumption) ?rest1z
  case hy1z => (intro w hSw; (try dsimp only at hSw); go_simp; try with_reducible rfl)
  try simp only [Act.put, List.setIfInBounds_toArray, List.set_cons_zero, List.set_cons_succ]
  refine wpAnyH_take (i := 2) (v := ?v2z) rfl (by kernel_rfl) (by kernel_rfl) (by kernel_rfl) (fun _ _ _ h => h) (Or.inl ⟨by (first | kernel_rfl | rfl), ?hy2z⟩) (by assumption) ?rest2z
  case hy2z => (intro w hSw; (try dsimp only at hSw); go_simp; try with_reducible rfl)
  try simp only [Act.put, List.setIfInBounds_toArray, List.set_cons_zero, List.set_cons_succ]
  refine wpAnyH_take (i := 3) (v := ?v3z) rfl (by kernel_rfl) (by kernel_rfl) (by kernel_rfl) (fun _ _ _ h => h) (Or.inl ⟨by (first | kernel_rfl | rfl), ?hy3z⟩) (by assumption) ?rest3z
  case hy3z => (intro w hSw; (try dsimp only at hSw); go_simp; try with_reducible rfl)
  try simp only [Act.put, List.setIfInBounds_toArray, List.set_cons_zero, List.set_cons_succ]
  refine wpAnyH_take (i := 5) (v := ?v5z) rfl (by kernel_rfl) (by kernel_rfl) (by kernel_rfl) (fun _ _ _ h => h) (Or.inl ⟨by (first | kernel_rfl | rfl), ?hy5z⟩) (by assumption) ?rest5z
  case hy5z => (intro w hSw; (try dsimp only at hSw); go_simp; try with_reducible rfl)
  try simp only [Act.put, List.setIfInBounds_toArray, List.set_cons_zero, List.set_cons_succ]
  refine wpAnyH_ready (rs := [4, 6]) (by kernel_rfl) (by simp) ?_
  refine AllReadyH.cons rfl (fun K hK => ?_) (AllReadyH.cons rfl (fun K hK => ?_) AllReadyH.nil)
  · go_simp
    refine hK.out _ _ hHeld (fun hHeld' => ?_)
    clear hK K hHeld
    have hHeld := hHeld'
    clear hHeld'
    try simp only [Act.put, List.setIfInBounds_toArray, List.set_cons_zero, List.set_cons_succ]
    refine wpAnyH_ready (rs := [6]) (by kernel_rfl) (by simp) ?_
    refine AllReadyH.cons rfl (fun K hK => ?_) AllReadyH.nil
    go_simp
    refine hK.out _ _ ?_ (fun hHeld' => ?_)
    · exact ndAt_box (x := ⟨xk, xn, xm, xs⟩) ((HNy.out).under (by first | exact under_drew (Under.refl _) | exact under_drew (under_alloc (Under.refl _) _) | exact under_alloc (under_drew (Under.refl _)) _))
    clear hK K hHeld
    have hHeld := hHeld'
    clear hHeld'
    try simp only [Act.put, List.setIfInBounds_toArray, List.set_cons_zero, List.set_cons_succ]
    refine wpAnyH_ready (rs := [7]) (by kernel_rfl) (by simp) ?_
    refine AllReadyH.cons rfl (fun K hK => ?_) AllReadyH.nil
    refine step_append_lies _ (by rfl) _ _ _ (by rfl) W0.heap.size 32 i0 _ 4 40 Tryd.underlying25 hi hz0 hz1 hz2 rfl (by omega) ov acc.length (ndCells acc) (by rfl) (row_under HRy.out.row (by first | exact under_drew (under_alloc (Under.refl _) _) | exact under_alloc (under_drew (Under.refl _)) _))
          ⟨w4.heap.size, 0, none⟩ 1 1 [.int .i64 xk, .int .i64 xn, .int .i64 xm, .string xs] (by rfl) (by rfl) (World.news_of_block (cs := #[.int .i64 xk, .int .i64 xn, .int .i64 xm, .string xs]) (t := 32) (fr := (0, 0)) (heap_alloc_new _ _)) (by simp [Value.oneCell'])
          (by omega) hmx hby (by simp; omega) (w4.heap.size + 1) (by simp) ?_
    intro gg cc w5 hown5 hgrow5 hat5 hlt5
    have HPd := Lib.hid (push_done (x := ⟨xk, xn, xm, xs⟩) HRy.out (by first | exact under_drew (under_alloc (Under.refl _) _) | exact under_alloc (under_drew (Under.refl _)) _) hgrow5 (by rcases hat5 with h | h; exact .inl h; exact .inr (by rw [h]; simp)) hown5)
    have HN5 := Lib.hid (ov_nb (x := ⟨xk, xn, xm, xs⟩) HRy.out (HNy.out) HNv.out (by first | exact under_drew (under_alloc (Under.refl _) _) | exact under_alloc (under_drew (Under.refl _)) _) hgrow5)
    have HB5 := Lib.hid ((HRy.out.box.under (by first | exact under_drew (under_alloc (Under.refl _) _) | exact under_alloc (under_drew (Under.refl _)) _)).grown hgrow5 (fun e => HRy.out.ov_rb e.symm))
    have y5 := HB5.out.lt
    have y6 := HB5.out.free 4
    have y7 := HB5.out.cell 4
    have HN6 := Lib.hid (HN5.out.other (g := rb) (fun e => HNr.out e.symm) 4 (.slice (some ⟨gg, 0, none⟩) (acc.length + 1) cc))
    clear hown5 hgrow5 hat5 hlt5
    refine hK.out _ _ (ndAt_box (x := ⟨xk, xn, xm, xs⟩) HN5.out) (fun hHeld' => ?_)
    clear hK K hHeld
    have hHeld := hHeld'
    clear hHeld'
    try simp only [Act.put, List.setIfInBounds_toArray, List.set_cons_zero, List.set_cons_succ]
    refine wpAnyH_take (i := 8) (v := ?v8zp) rfl (by kernel_rfl) (by kernel_rfl) (by kernel_rfl) (fun _ _ _ h => h) (Or.inl ⟨by (first | kernel_rfl | rfl), ?hy8zp⟩) (by assumption) ?rest8zp
    case hy8zp => (intro w hSw; (try dsimp only at hSw); go_simp; try with_reducible rfl)
    try simp only [Act.put, List.setIfInBounds_toArray, List.set_cons_zero, List.set_cons_succ]
    refine wpAnyH_take (i := 9) (v := ?v9zp) rfl (by kernel_rfl) (by kernel_rfl) (by kernel_rfl) (fun _ _ _ h => h) (Or.inl ⟨by (first | kernel_rfl | rfl), ?hy9zp⟩) (by assumption) ?rest9zp
    case hy9zp => (intro w hSw; (try dsimp only at hSw); go_simp; try with_reducible rfl)
    try simp only [Act.put, List.setIfInBounds_toArray, List.set_cons_zero, List.set_cons_succ]
    refine wpAnyH_ready (rs := [10]) (by kernel_rfl) (by simp) ?_
    refine AllReadyH.cons rfl (fun K hK => ?_) AllReadyH.nil
    go_simp
    refine hK.out _ _ (ndAt_box (x := ⟨xk, xn, xm, xs⟩) HN6.out) (fun hHeld' => ?_)
    clear hK K hHeld
    have hHeld := hHeld'
    clear hHeld'
    try simp only [Act.put, List.setIfInBounds_toArray, List.set_cons_zero, List.set_cons_succ]
    refine wpAnyH_done (by kernel_rfl) ?_ _
    refine NoPanic.normal ?_
    clear hHeld y5 y6 y7
    go_wp2
    exact ⟨rfl, ⟨_, pframe_ex (F := tgOut true) (by rfl)⟩, _, HPd.out.1, HPd.out.2.1, HPd.out.2.2⟩
  · go_simp
    refine hK.out _ _ ?_ (fun hHeld' => ?_)
    · exact ndAt_box (x := ⟨xk, xn, xm, xs⟩) ((HNy.out).under (by first | exact under_drew (Under.refl _) | exact under_drew (under_alloc (Under.refl _) _) | exact under_alloc (under_drew (Under.refl _)) _))
    clear hK K hHeld
    have hHeld := hHeld'
    clear hHeld'
    try simp only [Act.put, List.setIfInBounds_toArray, List.set_cons_zero, List.set_cons_succ]
    refine wpAnyH_ready (rs := [4]) (by kernel_rfl) (by simp) ?_
    refine AllReadyH.cons rfl (fun K hK => ?_) AllReadyH.nil
    go_simp
    refine hK.out _ _ hHeld (fun hHeld' => ?_)
    clear hK K hHeld
    have hHeld := hHeld'
    clear hHeld'
    try simp only [Act.put, List.setIfInBounds_toArray, List.set_cons_zero, List.set_cons_succ]
    refine wpAnyH_ready (rs := [7]) (by kernel_rfl) (by simp) ?_
    refine AllReadyH.cons rfl (fun K hK => ?_) AllReadyH.nil
    refine step_append_lies _ (by rfl) _ _ _ (by rfl) W0.heap.size 32 i0 _ 4 40 Tryd.underlying25 hi hz0 hz1 hz2 rfl (by omega) ov acc.length (ndCells acc) (by rfl) (row_under HRy.out.row (by first | exact under_drew (under_alloc (Under.refl _) _) | exact under_alloc (under_drew (Under.refl _)) _))
          ⟨w4.heap.size, 0, none⟩ 1 1 [.int .i64 xk, .int .i64 xn, .int .i64 xm, .string xs] (by rfl) (by rfl) (World.news_of_block (cs := #[.int .i64 xk, .int .i64 xn, .int .i64 xm, .string xs]) (t := 32) (fr := (0, 0)) (heap_alloc_new _ _)) (by simp [Value.oneCell'])
          (by omega) hmx hby (by simp; omega) (w4.heap.size + 1) (by simp) ?_
    intro gg cc w5 hown5 hgrow5 hat5 hlt5
    have HPd := Lib.hid (push_done (x := ⟨xk, xn, xm, xs⟩) HRy.out (by first | exact under_drew (under_alloc (Under.refl _) _) | exact under_alloc (under_drew (Under.refl _)) _) hgrow5 (by rcases hat5 with h | h; exact .inl h; exact .inr (by rw [h]; simp)) hown5)
    have HN5 := Lib.hid (ov_nb (x := ⟨xk, xn, xm, xs⟩) HRy.out (HNy.out) HNv.out (by first | exact under_drew (under_alloc (Under.refl _) _) | exact under_alloc (under_drew (Under.refl _)) _) hgrow5)
    have HB5 := Lib.hid ((HRy.out.box.under (by first | exact under_drew (under_alloc (Under.refl _) _) | exact under_alloc (under_drew (Under.refl _)) _)).grown hgrow5 (fun e => HRy.out.ov_rb e.symm))
    have y5 := HB5.out.lt
    have y6 := HB5.out.free 4
    have y7 := HB5.out.cell 4
    have HN6 := Lib.hid (HN5.out.other (g := rb) (fun e => HNr.out e.symm) 4 (.slice (some ⟨gg, 0, none⟩) (acc.length + 1) cc))
    clear hown5 hgrow5 hat5 hlt5
    refine hK.out _ _ (ndAt_box (x := ⟨xk, xn, xm, xs⟩) HN5.out) (fun hHeld' => ?_)
    clear hK K hHeld
    have hHeld := hHeld'
    clear hHeld'
    try simp only [Act.put, List.setIfInBounds_toArray, List.set_cons_zero, List.set_cons_succ]
    refine wpAnyH_take (i := 8) (v := ?v8zq) rfl (by kernel_rfl) (by kernel_rfl) (by kernel_rfl) (fun _ _ _ h => h) (Or.inl ⟨by (first | kernel_rfl | rfl), ?hy8zq⟩) (by assumption) ?rest8zq
    case hy8zq => (intro w hSw; (try dsimp only at hSw); go_simp; try with_reducible rfl)
    try simp only [Act.put, List.setIfInBounds_toArray, List.set_cons_zero, List.set_cons_succ]
    refine wpAnyH_take (i := 9) (v := ?v9zq) rfl (by kernel_rfl) (by kernel_rfl) (by kernel_rfl) (fun _ _ _ h => h) (Or.inl ⟨by (first | kernel_rfl | rfl), ?hy9zq⟩) (by assumption) ?rest9zq
    case hy9zq => (intro w hSw; (try dsimp only at hSw); go_simp; try with_reducible rfl)
    try simp only [Act.put, List.setIfInBounds_toArray, List.set_cons_zero, List.set_cons_succ]
    refine wpAnyH_ready (rs := [10]) (by kernel_rfl) (by simp) ?_
    refine AllReadyH.cons rfl (fun K hK => ?_) AllReadyH.nil
    go_simp
    refine hK.out _ _ (ndAt_box (x := ⟨xk, xn, xm, xs⟩) HN6.out) (fun hHeld' => ?_)
    clear hK K hHeld
    have hHeld := hHeld'
    clear hHeld'
    try simp only [Act.put, List.setIfInBounds_toArray, List.set_cons_zero, List.set_cons_succ]
    refine wpAnyH_done (by kernel_rfl) ?_ _
    refine NoPanic.normal ?_
    clear hHeld y5 y6 y7
    go_wp2
    exact ⟨rfl, ⟨_, pframe_ex (F := tgOut true) (by rfl)⟩, _, HPd.out.1, HPd.out.2.1, HPd.out.2.2⟩
end Go.Proofs.YtkmbmgmfcecfkaaDoor
namespace Go.Proofs.YtkmbmgmfcecfkaaDoor
open Go.Lx Go.RowKit
theorem awayV_more {C : Nat → Prop} {w : World} {v : Value} {ss : List ByteArray} {nb : Nat} (h : AwayV C v) (ht : TextsV w v ss) (hn : w.heap.size ≤ nb) : AwayV (fun b => C b ∨ b = nb) v := by
  obtain ⟨p, c, rfl, h1, h2, h3⟩ := ht
  intro q n c' e hne
  cases e
  intro b off x e
  obtain ⟨b', off', e', hb', _⟩ := h3 (fun e => hne (by rw [List.map_eq_nil_iff.1 e]; rfl))
  rw [e] at e'
  cases e'
  exact fun e2 => e2.elim (h _ _ _ rfl hne _ _ _ e) (fun e2 => by omega)
theorem tg_ok_of {W0 w wM wN : World} {rb m1 m2 c3 : Nat} {q2 : Option Addr} {cv dv ov bv : Value} {acc : List Nd} {p e : Int} {st cs ds : List ByteArray} {l : List ST} {parts : List UInt8} {R : Say} (hR : ReS W0 rb m1 m2 cv dv ov acc p e w) (hU : Under w wM) (hN : Under wM wN) (hlt : wM.heap.size < wN.heap.size)
    (ht : TsArg (ResC rb ov) wM q2 l) (hb : TextsV w bv st) (ha : AwayV (ResC rb ov) bv) (hok : okSs l) (h1 : (flatSs l).length ≤ 20000) (h2 : st.length + (flatSs l).length ≤ 50000) (h3 : acc.length + (flatSs l).length + 1 ≤ 900000) (hw : ∀ x ∈ flatSs l, x.word.size ≤ 1000000)
    (hcs : TextsV W0 cv cs) (hds : TextsV W0 dv ds) (hcn : cs.length ≤ 1000000) (hdn : ds.length ≤ 1000000) (hE : StrcAt W0) (hp : parts.length = l.length) :
    TgOk ⟨W0, wN, rb, m1, m2, wM.heap.size, cv, dv, ov, bv, acc, st, cs, ds, l, parts, q2, c3, R⟩ := by
  have hs := hU.size
  have hrb := hR.box.lt
  have hm1 := hR.f.lt
  have hm2 := hR.a.lt
  have hW := hR.und.size
  exact {
    nlt := hlt
    nrc := fun h => by
      rcases h with h | h
      · have h : wM.heap.size = rb := h
        omega
      · have h3 := (row_lt hR.row h).2
        have h3 : wM.heap.size < w.heap.size := h3
        omega
    rlt := by show rb < wN.heap.size; omega
    m1lt := by show m1 < wN.heap.size; omega
    m2lt := by show m2 < wN.heap.size; omega
    wlt := by show W0.heap.size ≤ wN.heap.size; omega
    lw := by show W0.heap.size ≤ wM.heap.size; omega
    arg := TsArg.ch (D := ResC rb ov) (ht.more (Nat.le_refl _)) (Ch.of_under hN)
    bound := hb.under (hU.trans hN)
    away := awayV_more ha hb hs
    ok := hok
    len := h1
    stl := h2
    accl := by show acc.length + (flatSs l).length ≤ 900000; omega
    words := hw
    csT := hcs
    dsT := hds
    csl := hcn
    dsl := hdn
    strc := hE
    plen := hp }
theorem tgs_init {F : TgFix} {w : World} {p e : Int} {x : Nd} (hR : ReS F.W0 F.rb F.m1 F.m2 F.cv F.dv F.ov F.acc p e w) (hU : Under w F.wl) (hn : BoxAt F.wl F.nb 32 (ndCs x)) (hs : F.R = goS F.cs F.ds (kindsP false F.parts) F.ts x [] F.st []) : TgS F 0 [] false x [] F.ov p e (.slice none 0 0) F.wl :=
  ⟨by rw [List.append_nil]; exact hR.under hU, Ch.refl _, fun b _ e => e, hn, World.ownsRow_nil _ _ _ _, hs, Nat.le_refl _, Nat.zero_le _⟩
theorem tg_out {F : TgFix} (hF : TgOk F) {w : World} {nms : List ByteArray} {wt : Bool} {x : Nd} {t : List Nd} {ov1 nv : Value} {p1 e1 : Int} {wr : World} (hU : Under w F.wl) (hnb : w.heap.size ≤ F.nb) (h : TgS F F.ts.length nms wt x t ov1 p1 e1 nv wr) {ex : Exit} {a' : Act} {w' : World} (hL : LateOut F.W0 F.rb F.m1 F.m2 F.cv F.dv ov1 (F.acc ++ t) p1 e1 x wr ex a' w') :
    ex = .ret ∧ (∃ J, a' = ⟨tgOut true J, []⟩) ∧ ReOut F.W0 F.rb F.m1 F.m2 F.cv F.dv F.ov F.acc w F.R (.returned (.bool true)) w' := by
  obtain ⟨h1, h2, ov', h3, h4, h5⟩ := hL
  have hR : F.R = .ok (t ++ [x]) := by
    rw [h.say, List.drop_eq_nil_of_le (by rw [hF.plen]; exact Nat.le_refl _), List.drop_eq_nil_of_le (Nat.le_refl _)]
    simp [kindsP, goS]
  have hC := h.ch.trans (D := ResC F.rb ov1) h4 (fun i hi hr => .inl (tg_own h hi hr))
  refine ⟨h1, h2, ov', _, p1, e1, h3, (Ch.of_under hU).trans hC (fun i hi h => h.elim id (fun e => by omega)), fun b hb e => h.own b (Nat.lt_of_lt_of_le hb hU.size) (h5 b (Nat.lt_of_lt_of_le hb (Nat.le_trans hU.size h.ch.size)) e), ?_⟩
  rw [hR]
  exact ⟨rfl, by rw [List.append_assoc]⟩
theorem tg_bad {F : TgFix} {w w' : World} {ov2 : Value} {acc2 : List Nd} {e2 p2 : Int} (hU : Under w F.wl) (hnb : w.heap.size ≤ F.nb) (hR : F.R = .error (e2, p2)) (h1 : ReS F.W0 F.rb F.m1 F.m2 F.cv F.dv ov2 acc2 p2 e2 w') (hC : Ch (TgC F.rb F.ov F.nb) F.wl w') (hO : ∀ b, b < F.wl.heap.size → ov2.ownBlock = some b → F.ov.ownBlock = some b) :
    ReOut F.W0 F.rb F.m1 F.m2 F.cv F.dv F.ov F.acc w F.R (.returned (.bool false)) w' := by
  refine ⟨ov2, acc2, p2, e2, h1, (Ch.of_under hU).trans hC (fun i hi h => h.elim id (fun e => by omega)), fun b hb e => hO b (Nat.lt_of_lt_of_le hb hU.size) e, ?_⟩
  rw [hR]
  exact ⟨rfl, rfl, rfl⟩
end Go.Proofs.YtkmbmgmfcecfkaaDoor
