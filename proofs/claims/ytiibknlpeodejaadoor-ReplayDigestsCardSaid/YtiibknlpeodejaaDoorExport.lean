/- replay.Export: its contract. -/
import Derived.Test.YtiibknlpeodejaaDoorTexts
import Derived.Maps.OwnIn
set_option linter.unusedSimpArgs false
set_option linter.unusedVariables false
namespace Go.Proofs.YtiibknlpeodejaaDoor
open Go.Lx Go.RowKit
attribute [local go_sem] Oper.semAt_some

/-- The first error of declarations. -/
def expErr (ds : List Dc) : Int := firstE (ds.map encDE)
theorem firstE_app (a b : List Int) : firstE (a ++ b) = if firstE a ≠ 0 then firstE a else firstE b := by
  induction a with
  | nil => simp [firstE]
  | cons x l ih =>
    simp only [List.cons_append, firstE, ih]
    split
    · rfl
    · rfl
theorem expErr_one {pre : List Dc} (d : Dc) (h : expErr pre = 0) : expErr (pre ++ [d]) = encDE d := by
  unfold expErr at *
  rw [List.map_append, firstE_app, h, if_neg (by simp)]
  simp only [List.map_cons, List.map_nil, firstE]
  split <;> simp_all
theorem expErr_pre {pre ds : List Dc} (h : pre <+: ds) (he : expErr pre ≠ 0) : expErr ds = expErr pre := by
  obtain ⟨r, rfl⟩ := h
  unfold expErr at *
  rw [List.map_append, firstE_app, if_pos he]
def strD (d : Dc) : Value := .string (encDB d)
def expB (ds : List Dc) : ByteArray := if expErr ds = 0 then packB (packO (ds.map encDB)) else ⟨#[]⟩
def expE (ds : List Dc) : Int := if expErr ds = 0 then packE (packO (ds.map encDB)) else expErr ds
/-- What is held between two declarations. -/
structure ExpI (w0 : World) (pre : List Dc) (A : World) : Prop where
  low : Under w0 A
  b2 : BoxAt A w0.heap.size 9 #[.string ⟨#[]⟩]
  b3 : BoxAt A (w0.heap.size + 1) 33 #[.int .i64 0]
  out : ∃ q n c, BoxAt A (w0.heap.size + 2) 44 #[.slice q n c] ∧ A.ownsRow (w0.heap.size + 4) 9 1 (.slice q n c) pre.length (pre.map strD)
  ok : expErr pre = 0
/-- Where a declaration has an error. -/
structure ExpX (w0 : World) (c : Code) (ds pre : List Dc) (A : World) : Prop where
  ret : c = .ret
  low : Under w0 A
  pre_ : pre <+: ds
  bad : expErr pre ≠ 0
  b2 : BoxAt A w0.heap.size 9 #[.string ⟨#[]⟩]
  b3 : BoxAt A (w0.heap.size + 1) 33 #[.int .i64 (expErr pre)]
theorem under_putObj {W w : World} (h : Under W w) {l : Nat} (o : Obj) (hl : W.heap.size ≤ l) : Under W (w.putObj l o) :=
  ⟨h.os, h.output, by simpa using h.size, fun b hb => (World.putObj_heap_other (by omega)).trans (h.low b hb)⟩
theorem box_putObj {w : World} {b l : Nat} {t : TypeId} {cs : Array Value} (h : BoxAt w b t cs) {o : Obj} (ho : w.heap[l]? = some o) (hc : o.isCells = false) (o' : Obj) : BoxAt (w.putObj l o') b t cs :=
  (World.putObj_heap_other (fun e => by subst e; have h' := h; unfold BoxAt at h'; rw [h'] at ho; cases ho; cases hc)).trans h
theorem row_putObj {w : World} {l base n s : Nat} {e : TypeId} {v : Value} {xs : List Value} (h : w.ownsRow base e s v n xs) {o : Obj} (ho : w.heap[l]? = some o) (hc : o.isCells = false) (o' : Obj) : (w.putObj l o').ownsRow base e s v n xs :=
  row_same h fun g hg => World.putObj_heap_other (fun e => by
    subst e
    rcases h.2 with ⟨rfl, _⟩ | ⟨g', cap, cur, rfl, _, hgg, _⟩
    · cases hg
    · cases hg; rw [hgg] at ho; cases ho; cases hc)
theorem ExpI.under {w0 A A' : World} {pre : List Dc} (h : ExpI w0 pre A) (hU : Under A A') : ExpI w0 pre A' := by
  obtain ⟨q, n, c, h1, h2⟩ := h.out
  exact ⟨h.low.trans hU, h.b2.under hU, h.b3.under hU, ⟨q, n, c, h1.under hU, row_under h2 hU⟩, h.ok⟩
theorem ExpI.putObj {w0 A : World} {pre : List Dc} {l : Nat} {o : Obj} (h : ExpI w0 pre A) (hl : w0.heap.size ≤ l) (ho : A.heap[l]? = some o) (hc : o.isCells = false) (o' : Obj) : ExpI w0 pre (A.putObj l o') := by
  obtain ⟨q, n, c, h1, h2⟩ := h.out
  exact ⟨under_putObj h.low _ hl, box_putObj h.b2 ho hc _, box_putObj h.b3 ho hc _, ⟨q, n, c, box_putObj h1 ho hc _, row_putObj h2 ho hc _⟩, h.ok⟩
theorem ExpX.putObj {w0 A : World} {c : Code} {ds pre : List Dc} {l : Nat} {o : Obj} (h : ExpX w0 c ds pre A) (hl : w0.heap.size ≤ l) (ho : A.heap[l]? = some o) (hc : o.isCells = false) (o' : Obj) : ExpX w0 c ds pre (A.putObj l o') :=
  ⟨h.ret, under_putObj h.low _ hl, h.pre_, h.bad, box_putObj h.b2 ho hc _, box_putObj h.b3 ho hc _⟩
section
variable {w0 : World} {ds : List Dc} {p : Option Addr} {c : Nat}
set_option maxRecDepth 100000 in
set_option maxHeartbeats 2000000 in
theorem export_any (hn : ds.length ≤ 100000) (hds : ∀ d ∈ ds, FairD d) (hp : RowsV 8 EntRow w0 p ds) (hS : ShapesAt 1 w0) (hF : FieldsAt 0 w0) :
    Calls Tryd.prog 6 #[.slice p ds.length c] w0 fun e w => e = .returned (.tuple #[.string (expB ds), .int .i64 (expE ds)]) ∧ Under w0 w := by
  refine (callsIn_wide (n := 10)).1 ?_
  refine callsIn_of_wp_marks Tryd.func6 rfl trivial ?_ rfl
  simp only [Tryd.ntmps6, List.size_toArray, List.length_cons, List.length_nil, Nat.reduceAdd, Nat.reduceSub, Array.replicate_succ, Array.replicate_zero, List.push_toArray, List.append_toArray, List.nil_append, List.cons_append]
  obtain ⟨W1, hW1⟩ : ∃ W, W = ((w0.alloc (.cells #[.string ⟨#[]⟩] 9)).alloc (.cells #[.int .i64 0] 33)).alloc (.cells #[.slice none 0 0] 44) := ⟨_, rfl⟩
  have HN := Lib.hid (textsCall p ds.length c W1)
  have hU1 : Under w0 W1 := by rw [hW1]; exact under_alloc (under_alloc (under_alloc (Under.refl _) _) _) _
  have hz1 : W1.heap.size = w0.heap.size + 3 := by rw [hW1]; simp
  have hB2 : BoxAt W1 w0.heap.size 9 #[.string ⟨#[]⟩] := by rw [hW1]; exact ((box_new _ _ _).alloc _).alloc _
  have hB3 : BoxAt W1 (w0.heap.size + 1) 33 #[.int .i64 0] := by
    rw [hW1]
    have := (box_new (w0.alloc (.cells #[.string ⟨#[]⟩] 9)) #[.int .i64 0] 33).alloc (.cells #[.slice none 0 0] 44)
    simpa using this
  have hB4 : BoxAt W1 (w0.heap.size + 2) 44 #[.slice none 0 0] := by
    rw [hW1]
    have := box_new ((w0.alloc (.cells #[.string ⟨#[]⟩] 9)).alloc (.cells #[.int .i64 0] 33)) #[.slice none 0 0] 44
    simpa using this
  have hI1 : ExpI w0 [] (W1.alloc (.cells #[.slice p ds.length c] 25)) :=
    ⟨under_alloc hU1 _, hB2.alloc _, hB3.alloc _, ⟨none, 0, 0, hB4.alloc _, rfl, .inl ⟨rfl, rfl⟩⟩, rfl⟩
  have HI1 := Lib.hid hI1
  have HIt := Lib.hid (texts_iter (n := 9) (W0 := w0) (w := W1.alloc (.cells #[.slice p ds.length c] 25)) hn hds hp hS hF (under_alloc hU1 _) (box_new W1 #[.slice p ds.length c] 25))
  have HZ1 := Lib.hid hz1
  have HW1 := Lib.hid hW1
  have HPk := Lib.hid (fun w q c (hq : RowArg w q ((ds.map encDB).map .string)) => pack_any (w0 := w) (ds.map encDB) (p := q) (c := c) (by simpa using hn) hq)
  obtain ⟨i0, hi, hz0, hzs1, hzs2⟩ := info_parts Tryd.infoStr
  clear hp hS hF hds hI1 hB2 hB3 hB4 hU1 hz1
  gi_wp2
  refine ⟨trivial, ?_⟩
  rw [← hW1]
  clear hW1
  refine (callsIn_wide.2 HN.out).mono ?_
  rintro e w2 ⟨rfl, rfl⟩
  gi_wp2
  refine wpIn_rangeFunc_iterU rfl (by decide) (gf := 14) (lb := #[.pointer (some ⟨W1.heap.size, 0, none⟩)]) rfl trivial (enters_of Tryd.func14 (by kernel_rfl) rfl)
    HIt.out (Under.refl _) (fun _ => rfl) (fun k hk => by
      rcases hk with hk | rfl
      · have := HZ1.out; simp; omega
      · simp)
    (fun pre A => ExpI w0 pre A) (fun c pre A => ExpX w0 c ds pre A)
    ?hI ?hIo ?hIx HI1.out ?a1 ?assign ?body ?done ?stop
  case hI => exact fun pre A A' h hU _ => h.under hU
  case hIo => exact fun pre A l o o' h hl ho hc => h.putObj (by have := HZ1.out; simp at hl; omega) ho hc o'
  case hIx => exact fun c pre A l o o' h hl ho hc => h.putObj (by have := HZ1.out; simp at hl; omega) ho hc o'
  case assign =>
    intro l x W K hK
    unfold encV
    gi_wp2
    exact hK
  case body =>
    rintro l pre x A hsz hI hpre
    have HI := Lib.hid hI
    have HPre := Lib.hid hpre
    have hlen : pre.length + 1 ≤ 100000 := by have := hpre.length_le; simp at this; omega
    obtain ⟨q, m, c4, hb4, hrow⟩ := hI.out
    have c2 : A.cell? ⟨w0.heap.size, 0, none⟩ = some (.string ⟨#[]⟩) := hI.b2.cell 0
    have f2 := hI.b2.free 0
    have c3 : A.cell? ⟨w0.heap.size + 1, 0, none⟩ = some (.int .i64 0) := hI.b3.cell 0
    have f3 := hI.b3.free 0
    have c4' : A.cell? ⟨w0.heap.size + 1 + 1, 0, none⟩ = some (.slice q m c4) := hb4.cell 0
    have f4 : A.frozen? ⟨w0.heap.size + 1 + 1, 0, none⟩ = false := hb4.free 0
    have l2 := hI.b2.lt
    have l3 := hI.b3.lt
    have l4 : w0.heap.size + 1 + 1 < A.heap.size := hb4.lt
    have HB4 := Lib.hid hb4
    have HR := Lib.hid hrow
    have HZA := Lib.hid hsz
    clear hI hpre hb4 hrow hsz
    by_cases hx : encDE x = 0
    · have HX := Lib.hid hx
      have HS : RowKit.Hid (Value.string (encDB x) = strD x) := Lib.hid rfl
      rw [hx]
      clear hx
      generalize encDB x = eb at *
      gi_wp2_with (gi_at_builtin; refine wpListIn_append_own_at _ rfl _ _ 44 rfl (w0.heap.size + 4) 9 i0 _ 1 16 Tryd.underlying44 hi hz0 hzs1 hzs2 rfl (by decide) _ _ _ rfl (HR.out.alloc _) ⟨A.heap.size, 0, none⟩ 1 1 [.string eb] rfl rfl ?c1 ?c2 (by simp only [maxLen]; omega) (by omega) ?c5 ?_)
      case c1 =>
        intro j u hj
        match j, hj with
        | 0, hj => cases hj; simp [Addr.add]
      case c2 => intro u hu; simp at hu; rcases hu with rfl; rfl
      case c5 => have := HZA.out; have := HZ1.out; simp at *; omega
      intro v' w' hown hgrow hnil hat
      have hb4' : BoxAt w' (w0.heap.size + 2) 44 #[.slice q m c4] := (HB4.out.alloc _).grown hgrow fun e => by have := (row_lt HR.out e.symm).1; omega
      have hKO : KeepsOthers A w' := (KeepsOthers.alloc A (.cells #[.string eb] 9)).trans (KeepsOthers.of_grownBy hgrow fun j o hj ho => by
        rcases (HR.out.alloc (.cells #[.string eb] 9)).2 with ⟨e, _⟩ | ⟨g, cap, cur, e, _, hg, _⟩
        · rw [e] at hj; cases hj
        · rw [e] at hj; cases hj; rw [hg] at ho; cases ho; rfl)
      have hne : ∀ k, k < A.heap.size → (k < w0.heap.size + 2 ∨ k = w0.heap.size + 3) → w'.heap[k]? = A.heap[k]? := fun k hk hr =>
        (hgrow.block k (by simp; omega) fun e => by have := (row_lt HR.out e.symm).1; omega).trans ((under_alloc (Under.refl A) _).low k hk)
      have HN1 := Lib.hid hne
      have HKO := Lib.hid hKO
      have HOS := Lib.hid (show w'.os = A.os ∧ w'.output = A.output ∧ A.heap.size ≤ w'.heap.size from ⟨hgrow.os, hgrow.output, by have := hgrow.size; simp at this; omega⟩)
      obtain ⟨q', c', rfl, hc', hr'⟩ := RowArg.of_own hown
      have HO' := Lib.hid hown
      have HB4' := Lib.hid hb4'
      have e4 : w'.cell? ⟨w0.heap.size + 1 + 1, 0, none⟩ = some (.slice q m c4) := hb4'.cell 0
      have g4 : w'.frozen? ⟨w0.heap.size + 1 + 1, 0, none⟩ = false := hb4'.free 0
      have m4 : w0.heap.size + 1 + 1 < w'.heap.size := hb4'.lt
      clear hown hgrow hnil hat hb4' hKO hne hr' hc'
      gi_wp2
      have hz3 := HZ1.out
      refine ⟨(HKO.out.trans (KeepsOthers.setCell _ _ _)).from _, ⟨HOS.out.1, HOS.out.2.1, by rw [set_size]; exact HOS.out.2.2, fun k hk hr => ?_⟩, ?_⟩
      · rcases hr with hr | hr
        · rw [heap_set w' _ _ k (by show k ≠ w0.heap.size + 1 + 1; omega)]
          exact HN1.out k hk (by omega)
        · cases hr
      · have hl := HI.out.low
        refine ⟨⟨HOS.out.1.trans hl.os, HOS.out.2.1.trans hl.output, by rw [set_size]; exact Nat.le_trans hl.size HOS.out.2.2, fun k hk => ?_⟩, ?_, ?_, ⟨q', pre.length + 1, c', ?_, ?_⟩, ?_⟩
        · rw [heap_set w' _ _ k (by show k ≠ w0.heap.size + 1 + 1; omega)]
          exact (HN1.out k (Nat.lt_of_lt_of_le hk hl.size) (.inl (by omega))).trans (hl.low k hk)
        · exact BoxAt.other ((HN1.out _ HI.out.b2.lt (.inl (by omega))).trans HI.out.b2) (by omega) _ _
        · exact BoxAt.other ((HN1.out _ HI.out.b3.lt (.inl (by omega))).trans HI.out.b3) (by omega) _ _
        · exact HB4'.out.set 0 _
        · have h' := row_other HO'.out (b := w0.heap.size + 1 + 1) (fun e => by have := (row_lt HO'.out e).1; omega) 0 (.slice q' (pre.length + 1) c')
          rw [List.map_append, List.length_append]
          show World.ownsRow _ _ _ _ _ _ (pre.map strD ++ [strD x])
          rw [← HS.out]
          exact h'
        · rw [expErr_one x HI.out.ok]; exact HX.out
    · have HX := Lib.hid hx
      have hx' : (encDE x == 0) = false := by simpa using hx
      have hp : RowKit.Hid (expErr (pre ++ [x]) = encDE x) := Lib.hid (expErr_one x HI.out.ok)
      clear hx
      generalize encDE x = ee at *
      gi_wp2
      have hl := HI.out.low
      have hz3 := HZ1.out
      have hza := HZA.out
      refine ⟨((KeepsOthers.setCell _ _ _).trans (KeepsOthers.setCell _ _ _)).from _, rfl, under_set (under_set hl (Nat.le_refl _) _ _) (by omega) _ _, HPre.out, ?_, ?_, ?_⟩
      · rw [hp.out]; exact HX.out
      · exact BoxAt.other (HI.out.b2.set 0 _) (by omega) _ _
      · rw [hp.out]; exact (BoxAt.other HI.out.b3 (by omega) _ _).set 0 _
  case done =>
    rintro D W hD hI hK
    obtain ⟨q, m, c4, hb4, hrow⟩ := hI.out
    have c2 : W.cell? ⟨w0.heap.size, 0, none⟩ = some (.string ⟨#[]⟩) := hI.b2.cell 0
    have f2 := hI.b2.free 0
    have c3 : W.cell? ⟨w0.heap.size + 1, 0, none⟩ = some (.int .i64 0) := hI.b3.cell 0
    have f3 := hI.b3.free 0
    have c4' : W.cell? ⟨w0.heap.size + 1 + 1, 0, none⟩ = some (.slice q m c4) := hb4.cell 0
    have hm : m = ds.length ∧ RowArg W q ((ds.map encDB).map .string) := by
      obtain ⟨q', c', e, _, h⟩ := RowArg.of_own hrow
      cases e
      exact ⟨rfl, by rw [List.map_map]; exact h⟩
    obtain ⟨rfl, hra⟩ := hm
    have HP := Lib.hid (HPk.out W q c4 hra)
    have HL := Lib.hid (show (ds.map encDB).length = ds.length by simp)
    rw [HL.out, packOut_eq] at HP
    have HO : RowKit.Hid (expB ds = packB (packO (ds.map encDB)) ∧ expE ds = packE (packO (ds.map encDB))) := Lib.hid ⟨if_pos hI.ok, if_pos hI.ok⟩
    have HI := Lib.hid hI
    have HK := Lib.hid hK
    have HD := Lib.hid hD
    clear hI hrow hb4 hra hK hD
    generalize packB (packO (ds.map encDB)) = pB at *
    generalize packE (packO (ds.map encDB)) = pE at *
    gi_wp2
    refine ⟨trivial, ?_⟩
    refine (callsIn_wide.2 HP.out).mono ?_
    rintro e W3 ⟨rfl, hU3⟩
    have d2 : W3.cell? ⟨w0.heap.size, 0, none⟩ = some (.string ⟨#[]⟩) := (HI.out.b2.under hU3).cell 0
    have g2 := (HI.out.b2.under hU3).free 0
    have d3 : W3.cell? ⟨w0.heap.size + 1, 0, none⟩ = some (.int .i64 0) := (HI.out.b3.under hU3).cell 0
    have g3 := (HI.out.b3.under hU3).free 0
    have l2 := (HI.out.b2.under hU3).lt
    have l3 := (HI.out.b3.under hU3).lt
    have HU3 := Lib.hid hU3
    clear hU3
    gi_wp2
    have hK3 := (KeepsOthers.setCell (W3.setCell ⟨w0.heap.size, 0, none⟩ (.string pB)) ⟨w0.heap.size + 1, 0, none⟩ (.int .i64 pE)).same D _ ((KeepsOthers.setCell W3 ⟨w0.heap.size, 0, none⟩ (.string pB)).same D _ ((HU3.out.low D (Array.getElem?_eq_some_iff.1 HK.out).1).trans HK.out) rfl) rfl
    refine ⟨by simp, .inl ⟨_, _, rfl, run_takeDeferred hK3, ?_⟩⟩
    have k2 := (box_putObj (BoxAt.other ((HI.out.b2.under HU3.out).set 0 (.string pB)) (show w0.heap.size ≠ w0.heap.size + 1 by omega) 0 (.int .i64 pE)) hK3 rfl (.deferred none)).cell 0
    have k3 := (box_putObj ((BoxAt.other (HI.out.b3.under HU3.out) (show w0.heap.size + 1 ≠ w0.heap.size by omega) 0 (.string pB)).set 0 (.int .i64 pE)) hK3 rfl (.deferred none)).cell 0
    have k2' : _ = some (Value.string pB) := k2
    have k3' : _ = some (Value.int .i64 pE) := k3
    refine ⟨.tuple #[.string pB, .int .i64 pE], ?_, by rw [HO.out.1, HO.out.2], ?_⟩
    · simp [results, Tryd.f6, go_sem, k2', k3']
    · have hz := HZ1.out
      have hd := HD.out
      refine under_putObj (under_set (under_set (HI.out.low.trans HU3.out) (Nat.le_refl _) _ _) (by omega) _ _) _ ?_
      simp at hd; omega
  case stop =>
    rintro D c pre W hD hX hK
    obtain ⟨rfl, hlow, hpre, hbad, hb2, hb3⟩ := hX
    have HO : RowKit.Hid (expB ds = ⟨#[]⟩ ∧ expE ds = expErr pre) := Lib.hid (by
      have := expErr_pre hpre hbad
      unfold expB expE
      rw [this, if_neg hbad, if_neg hbad]
      exact ⟨rfl, rfl⟩)
    have HLow := Lib.hid hlow
    have HB2 := Lib.hid hb2
    have HB3 := Lib.hid hb3
    have HK := Lib.hid hK
    clear hlow hpre hbad hb2 hb3 hK
    gi_wp2
    refine ⟨by simp, .inl ⟨_, _, rfl, run_takeDeferred HK.out, ?_⟩⟩
    have k2 := (box_putObj HB2.out HK.out rfl (.deferred none)).cell 0
    have k3 := (box_putObj HB3.out HK.out rfl (.deferred none)).cell 0
    have k2' : _ = some (Value.string ⟨#[]⟩) := k2
    have k3' : _ = some (Value.int .i64 (expErr pre)) := k3
    refine ⟨.tuple #[.string ⟨#[]⟩, .int .i64 (expErr pre)], ?_, by rw [HO.out.1, HO.out.2], ?_⟩
    · simp [results, Tryd.f6, go_sem, k2', k3']
    · have hz := HZ1.out
      refine under_putObj HLow.out _ ?_
      simp at hD; omega
end
end Go.Proofs.YtiibknlpeodejaaDoor
