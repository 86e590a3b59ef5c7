/- replay.texts, an iterator: its word. -/
import Derived.Test.YtiibknlpeodejaaDoorDEncode
import Derived.Test.YtiibknlpeodejaaDoorEach
import Derived.Test.YtiibknlpeodejaaDoorLxM
set_option linter.unusedSimpArgs false
set_option linter.unusedVariables false
namespace Go.Proofs.YtiibknlpeodejaaDoor
open Go.Lx Go.RowKit
attribute [local go_sem] Oper.semAt_some

set_option maxRecDepth 100000 in
theorem textsCall (p : Option Addr) (n c : Nat) (w : World) : Calls Tryd.prog 11 #[.slice p n c] w fun e w' => e = .returned (.func (.func 14) #[] #[.pointer (some ⟨w.heap.size, 0, none⟩)]) ∧ w' = w.alloc (.cells #[.slice p n c] 25) := by
  go_enter Tryd.func11, Tryd.ntmps11
  go_wp2
  go_ret
  exact ⟨rfl, rfl⟩
/-- Declarations that are not great. -/
def FairD (d : Dc) : Prop := Small d ∧ d.cons.length ≤ 90000
noncomputable def teText : Code := Tryd.f14.body.getD .skip
noncomputable def teRound : Code := inOf (inOf (sndOf teText))
def teFrame (yf : Value) (tb : Nat) (vt : Value) (N k : Nat) (J : Nat → Value) : Array Value := #[yf, .pointer (some ⟨tb, 0, none⟩), J 2, J 3, J 4, vt, .int .i64 (N : Int), .int .i64 (k : Int), J 8, J 9, J 10, J 11, J 12, J 13, J 14, J 15, J 16, J 17, J 18, J 19]
/-- What is handed out of a declaration. -/
def encV (d : Dc) : Array Value := #[.string (encDB d), .int .i64 (encDE d)]
section
variable {W0 : World} {tb n N k l : Nat} {vt : Value} {Jd : World → Prop} {Jx : World → Prop} {R : Nat → Prop}
def TNext (W0 : World) (tb : Nat) (vt : Value) (N : Nat) (Jd : World → Prop) (yf : Value) (k : Nat) (a : Act) (A : World) : Prop := ∃ J, a = ⟨teFrame yf tb vt N k J, []⟩ ∧ Jd A ∧ Under W0 A
def TStop (Jx : World → Prop) (e : Exit) (a : Act) (A : World) : Prop := e = .ret ∧ a.defers = [] ∧ Jx A
set_option maxRecDepth 100000 in
set_option maxHeartbeats 1000000 in
theorem te_one {d : Dc} {b off c : Nat} {r : List Value} (hR : ∀ k, k < W0.heap.size → R k) (hk : k < N) (hN : N ≤ 100000) (hvt : vt = .slice (some ⟨b, off, none⟩) N c) (hd : FairD d)
    (hS : ShapesAt 1 W0) (hF : FieldsAt 0 W0) (hb : b < W0.heap.size) (hr : EntRow W0 r d) (hc : ∀ (j : Nat) u, r[j]? = some u → W0.cell? ⟨b, off + (k * 8 + j), none⟩ = some u)
    (J : Nat → Value) (A : World) (hA : Under W0 A)
    (hY : ∀ A2, Under A A2 → YieldAt Fence.wide (n - 1) Tryd.prog l (encV d) A2 fun e A' => (e = .returned (.bool true) ∧ Jd A' ∧ KeptR R A2 A') ∨ (e = .returned (.bool false) ∧ Jx A')) :
    teRound.wpIn Fence.wide n Tryd.prog (Exit.then (TNext W0 tb vt N Jd (.func (.yield l) #[] #[]) (k + 1)) (TStop Jx)) ⟨teFrame (.func (.yield l) #[] #[]) tb vt N k J, []⟩ A := by
  obtain ⟨v1, v2, v3, st, lq, ln, lc, rfl, h1, h2, h3⟩ := hr
  have cc0 := hc 0 _ rfl
  have cc1 := hc 1 _ rfl
  have cc2 := hc 2 _ rfl
  have cc3 := hc 3 _ rfl
  have cc4 := hc 4 _ rfl
  have cc5 := hc 5 _ rfl
  have cc6 := hc 6 _ rfl
  have cc7 := hc 7 _ rfl
  simp only [Nat.add_zero, ← Nat.add_assoc] at cc0 cc1 cc2 cc3 cc4 cc5 cc6 cc7
  rw [← under_cell hA hb] at cc0 cc1 cc2 cc3 cc4 cc5 cc6 cc7
  have hbA := Nat.lt_of_lt_of_le hb hA.size
  have HUb := Lib.hid (under_alloc hA (.cells #[.int .i64 d.kind, .int .i64 d.level, .string d.name, v1, v2, v3, .bool st, .slice lq ln lc] 32))
  have HV : RowKit.Hid (DcV (A.alloc (.cells #[.int .i64 d.kind, .int .i64 d.level, .string d.name, v1, v2, v3, .bool st, .slice lq ln lc] 32)) (.agg #[.int .i64 d.kind, .int .i64 d.level, .string d.name, v1, v2, v3]) d) :=
    Lib.hid ⟨v1, v2, v3, rfl, TermV.mono _ _ _ _ HUb.out h1, TermV.mono _ _ _ _ HUb.out h2, ConsV.mono _ _ _ _ HUb.out h3⟩
  have HE := Lib.hid (dencode_any hd.1 hd.2 HV.out (hS.under HUb.out) (hF.under HUb.out))
  unfold encDOut at HE
  obtain ⟨p1, c1, rfl, _⟩ := h1
  obtain ⟨p2, c2, rfl, _⟩ := h2
  obtain ⟨p3, c3, us3, rfl, _⟩ := h3
  have HY := Lib.hid hY
  have HA := Lib.hid hA
  have HRr := Lib.hid hR
  have hk0 : (0 : Int) ≤ k := Int.natCast_nonneg _
  have hk1 : (k : Int) < N := by omega
  have hN' : (N : Int) ≤ 100000 := by omega
  subst hvt
  clear hc hY hA hS hF hR hd
  unfold encV at HY
  generalize encDB d = eb at *
  generalize encDE d = ee at *
  unfold teRound teText
  simp only [Tryd.f14, Option.getD_some, sndOf, inOf]
  unfold teFrame
  gi_wp2
  refine ⟨trivial, fun h => absurd h (by decide), ?_⟩
  refine (callsIn_wide.2 HE.out).mono ?_
  rintro e A2 ⟨rfl, hU2⟩
  have hU02 := HUb.out.trans hU2
  have hUA2 := (under_alloc (Under.refl A) _).trans hU2
  obtain ⟨fn, tmps, assign, body, hy, hRd⟩ := HY.out A2 hUA2
  have HU02 := Lib.hid hU02
  have HRd := Lib.hid hRd
  clear hU02 hUA2 hRd hU2 HY
  gi_wp2
  refine ⟨fun h => absurd h (by decide), ?_⟩
  refine HRd.out.mono ?_
  rintro e A3 (⟨rfl, hj1, hk1'⟩ | ⟨rfl, hx1⟩)
  · have HJ1 := Lib.hid hj1
    have HU3 := Lib.hid (HU02.out.kept hk1' HRr.out)
    clear hj1 hk1'
    gi_wp2
    exact frame_ex (F := teFrame (.func (.yield l) #[] #[]) tb _ N (k + 1)) (by rfl) ⟨HJ1.out, HU3.out⟩
  · have HX1 := Lib.hid hx1
    clear hx1
    gi_wp2
    exact ⟨rfl, rfl, HX1.out⟩
end
section
variable {W0 w : World} {tb c n : Nat} {ds : List Dc} {p : Option Addr}
/-- At the loop's head. -/
def TeI (W0 : World) (tb : Nat) (vt : Value) (J : List Dc → World → Prop) (ds : List Dc) (l m : Nat) (a : Act) (A : World) : Prop :=
  ∃ k, k + m = ds.length ∧ TNext W0 tb vt ds.length (J (ds.take k)) (.func (.yield l) #[] #[]) k a A
/-- What the iterator's loop comes to. -/
def TeD (J : List Dc → World → Prop) (Jx : List Dc → World → Prop) (ds : List Dc) (e : Exit) (a : Act) (A : World) : Prop :=
  a.defers = [] ∧ ((e = .exit 0 ∧ J ds A) ∨ (e = .ret ∧ ∃ pre, Jx pre A))
set_option maxRecDepth 100000 in
theorem te_rounds {l : Nat} {J : List Dc → World → Prop} {Jx : List Dc → World → Prop} (hn : ds.length ≤ 100000) (hds : ∀ d ∈ ds, FairD d) (hp : RowsV 8 EntRow W0 p ds) (hS : ShapesAt 1 W0) (hF : FieldsAt 0 W0)
    (hJ : ∀ pre A A', J pre A → Under A A' → J pre A')
    (hY : ∀ pre x A, J pre A → pre ++ [x] <+: ds → YieldAt Fence.wide (n - 1) Tryd.prog l (encV x) A fun e A' =>
      (e = .returned (.bool true) ∧ J (pre ++ [x]) A' ∧ KeptR (fun k => k < W0.heap.size ∨ k = tb) A A') ∨ (e = .returned (.bool false) ∧ Jx (pre ++ [x]) A'))
    (m : Nat) (a : Act) (A : World) (h0 : TeI W0 tb (.slice p ds.length c) J ds l m a A) :
    (Code.loop teRound).wpIn Fence.wide n Tryd.prog (TeD J Jx ds) a A := by
  refine wpIn_wide.2 (wp_loop_ghost (TeI W0 tb (.slice p ds.length c) J ds l) m h0 ?_)
  clear h0
  rintro m a A ⟨k, hkm, Jn, rfl, hj, hU⟩
  refine (wpIn_wide (n := n)).1 ?_
  cases m with
  | zero =>
    obtain rfl : k = ds.length := by omega
    rw [List.take_length] at hj
    have HJ := Lib.hid hj
    clear hj hY hJ hU
    unfold teRound teText
    simp only [Tryd.f14, Option.getD_some, sndOf, inOf]
    unfold teFrame
    gi_wp2
    exact ⟨rfl, .inl ⟨rfl, HJ.out⟩⟩
  | succ m =>
    have hk : k < ds.length := by omega
    have hxk : ds[k]? = some ds[k] := List.getElem?_eq_getElem hk
    obtain ⟨b, off, r, rfl, hb, hrl, hr, hc⟩ := hp.at hxk (by decide)
    have htk : ds.take (k + 1) = ds.take k ++ [ds[k]] := List.take_succ_eq_append_getElem hk
    have hpre : ds.take k ++ [ds[k]] <+: ds := by rw [← htk]; exact List.take_prefix _ _
    refine wpIn_mono (te_one (Jd := J (ds.take (k + 1))) (Jx := Jx (ds.take k ++ [ds[k]])) (R := fun k => k < W0.heap.size ∨ k = tb) (l := l) (n := n) (tb := tb) (c := c) (fun k hk => Or.inl hk) hk hn rfl (hds _ (List.getElem_mem hk)) hS hF hb hr hc Jn A hU
      (fun A2 h2 => by rw [htk]; exact hY _ _ A2 (hJ _ _ _ hj h2) hpre)) ?_
    rintro e a' A' h
    cases e with
    | normal => exact ⟨m, by omega, k + 1, by omega, h⟩
    | _ => exact ⟨h.2.1, .inr ⟨h.1, _, h.2.2⟩⟩
set_option maxRecDepth 100000 in
set_option maxHeartbeats 1000000 in
theorem texts_iter (hn : ds.length ≤ 100000) (hds : ∀ d ∈ ds, FairD d) (hp : RowsV 8 EntRow W0 p ds) (hS : ShapesAt 1 W0) (hF : FieldsAt 0 W0) (hU : Under W0 w) (hB : BoxAt w tb 25 #[.slice p ds.length c]) :
    IterU Fence.wide n Tryd.prog 14 #[.pointer (some ⟨tb, 0, none⟩)] encV (fun k => k < W0.heap.size ∨ k = tb) ds w := by
  intro l J Jx W hW hJ hY h0
  have HL := Lib.hid (te_rounds (n := n) (l := l) (tb := tb) (c := c) (p := p) (ds := ds) (W0 := W0) (J := J) (Jx := Jx) hn hds hp hS hF hJ hY ds.length)
  have HB := Lib.hid (hB.under hW)
  have eb := HB.out.cell 0
  have elt := HB.out.lt
  have HU := Lib.hid (hU.trans hW)
  have H0 := Lib.hid h0
  have hn1 : (ds.length : Int) ≤ 100000 := by omega
  have hn0 : (0 : Int) ≤ ds.length := Int.natCast_nonneg _
  clear hJ hY h0 hp hS hF
  refine callsIn_of_wp Tryd.func14 rfl trivial ?_ rfl
  simp only [Tryd.ntmps14, List.size_toArray, List.length_cons, List.length_nil, Nat.reduceAdd, Nat.reduceSub, Array.replicate_succ, Array.replicate_zero, List.push_toArray, List.append_toArray, List.nil_append, List.cons_append]
  gi_wp2
  refine wpIn_mono (HL.out _ _ ⟨0, by omega, frame_ex (F := teFrame _ tb _ ds.length 0) (by rfl) ⟨H0.out, HU.out⟩⟩) ?_
  rintro e a' A' ⟨hd, (⟨rfl, hb⟩ | ⟨rfl, pre, hpre⟩)⟩
  · simp only [Exit.inBlock, if_pos]
    exact bodyPost_end (P := Tryd.prog) (fn := Tryd.f14) (R := fun e W' => (∃ v, e = Ending.returned v) ∧ (J ds W' ∨ ∃ pre, Jx pre W')) (results_none rfl _ _ _) hd ⟨⟨_, rfl⟩, .inl hb⟩
  · simp only [Exit.inBlock]
    exact bodyPost_ret (P := Tryd.prog) (fn := Tryd.f14) (R := fun e W' => (∃ v, e = Ending.returned v) ∧ (J ds W' ∨ ∃ pre, Jx pre W')) (results_none rfl _ _ _) hd ⟨⟨_, rfl⟩, .inr ⟨pre, hpre⟩⟩
end
end Go.Proofs.YtiibknlpeodejaaDoor
