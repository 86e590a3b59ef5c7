/- shift.each. -/
import Derived.Test.YtiibknlpeodejaaDoorNodes3
set_option linter.unusedSimpArgs false
set_option linter.unusedVariables false
namespace Go.Proofs.YtiibknlpeodejaaDoor
open Go.Lx Go.RowKit
attribute [local go_sem] Oper.semAt_some

set_option maxRecDepth 100000 in
theorem nodesCall (p : Option Addr) (n c : Nat) (w : World) : Calls Tryd.prog 48 #[.slice p n c] w fun e w' => e = .returned (.func (.func 50) #[] #[.pointer (some ⟨w.heap.size, 0, none⟩)]) ∧ w' = w.alloc (.cells #[.slice p n c] 26) := by
  go_enter Tryd.func48, Tryd.ntmps48
  go_wp2
  go_ret
  exact ⟨rfl, rfl⟩
/-- Somebody who is told of each free variable: what he holds is a number. -/
def Told (f : Nat) (g : Int → Int → Int) : Prop := (∀ args w, (callFunc f args).run Tryd.prog w = .ok (.enter f args) w) ∧ ∀ (nb : Nat) (s v : Int) (w : World), -1000000 ≤ s → s ≤ 1000000 → 0 ≤ v → v ≤ 99 → BoxAt w nb 3 #[.int .i64 s] →
  Calls Tryd.prog f #[.int .i64 v, .pointer (some ⟨nb, 0, none⟩)] w fun e w' => (∃ v, e = .returned v) ∧ w' = w.setCell ⟨nb, 0, none⟩ (.int .i64 (g s v))
/-- What is told of one node. -/
def tellOne (t : List Nd) (g : Int → Int → Int) (s : Int) (x : Nat × Nat) : Int :=
  match t[x.1]? with
  | some y => if y.k = 0 ∧ (x.2 : Int) ≤ y.n then g s (y.n - x.2) else s
  | none => s
def tell (t : List Nd) (g : Int → Int → Int) (s : Int) (l : List (Nat × Nat)) : Int := l.foldl (tellOne t g) s
section
variable {W0 w0 : World} {t : List Nd} {p : Option Addr} {c nb f : Nat} {g : Int → Int → Int} {s0 : Int}
set_option maxRecDepth 100000 in
set_option maxHeartbeats 1000000 in
theorem each_any (hT : Told f g) (hcap : t.length ≤ c) (hn : t.length ≤ maxLen) (hs : ∀ x ∈ t, x.s.size ≤ maxLen) (hp : RowArg W0 p (ndCells t)) (hS : ShapesAt 1 W0) (hU : Under W0 w0) (hB : BoxAt w0 nb 3 #[.int .i64 s0]) (hnb : W0.heap.size ≤ nb) (hc : checkE t = 0)
    (hbd : ∀ pre, pre <+: nodesOf t → -1000000 ≤ tell t g s0 pre ∧ tell t g s0 pre ≤ 1000000) :
    Calls Tryd.prog 43 #[.slice p t.length c, .func (.func f) #[] #[.pointer (some ⟨nb, 0, none⟩)]] w0 fun e w => e = .returned (.int .i64 0) ∧ Turned (some nb) w0 w ∧ BoxAt w nb 3 #[.int .i64 (tell t g s0 (nodesOf t))] := by
  obtain ⟨hlen, hn4⟩ := nodes_len hc
  have hC := fun (w : World) (h : Under W0 w) => check_any (c := c) t hn hs (hp.under h) (hS.under h)
  rw [hc] at hC
  have hBt := (box_new w0 #[.slice p t.length c] 26).alloc (.cells #[.func (.func f) #[] #[.pointer (some ⟨nb, 0, none⟩)]] 94)
  have hBf := box_new (w0.alloc (.cells #[.slice p t.length c] 26)) #[.func (.func f) #[] #[.pointer (some ⟨nb, 0, none⟩)]] 94
  have hs1 : (w0.alloc (.cells #[.slice p t.length c] 26)).heap.size = w0.heap.size + 1 := by simp
  rw [hs1] at hBf
  have hU2 := under_alloc (under_alloc (Under.refl w0) (.cells #[.slice p t.length c] 26)) (.cells #[.func (.func f) #[] #[.pointer (some ⟨nb, 0, none⟩)]] 94)
  have HC := Lib.hid (hC _ (hU.trans hU2))
  refine (callsIn_wide (n := 10)).1 ?_
  refine callsIn_of_wp_marks Tryd.func43 rfl trivial ?_ rfl
  simp only [Tryd.ntmps43, List.size_toArray, List.length_cons, List.length_nil, Nat.reduceAdd, Nat.reduceSub, Array.replicate_succ, Array.replicate_zero, List.push_toArray, List.append_toArray, List.nil_append, List.cons_append]
  have HBT := Lib.hid hBt
  have HBF := Lib.hid hBf
  have HU2 := Lib.hid hU2
  clear hBt hBf hU2 hs1 hC
  gi_wp2
  refine ⟨trivial, ?_⟩
  refine (callsIn_wide.2 HC.out).mono ?_
  rintro e w1 ⟨rfl, hU1⟩
  have hBt1 := HBT.out.under hU1
  have hBf1 := HBF.out.under hU1
  have et := hBt1.cell 0
  have elt := hBt1.lt
  have HBT1 := Lib.hid hBt1
  have HBF1 := Lib.hid hBf1
  have HU1 := Lib.hid hU1
  have HN := Lib.hid (nodesCall p t.length c w1)
  clear hBt1 hBf1 hU1
  gi_wp2
  refine ⟨trivial, ?_⟩
  refine (callsIn_wide.2 HN.out).mono ?_
  rintro e w2 ⟨rfl, rfl⟩
  have hB2 := box_new w1 #[.slice p t.length c] 26
  have HBT2 := Lib.hid (HBT1.out.alloc (.cells #[.slice p t.length c] 26))
  have HBF2 := Lib.hid (HBF1.out.alloc (.cells #[.slice p t.length c] 26))
  have hUw := (HU2.out.trans HU1.out).trans (under_alloc (Under.refl w1) (.cells #[.slice p t.length c] 26))
  have HUw := Lib.hid hUw
  have HB2 := Lib.hid hB2
  have HNb := Lib.hid (hB.under hUw)
  have hsz : w1.heap.size < (w1.alloc (.cells #[.slice p t.length c] 26)).heap.size := by simp
  have hsz1 := HU1.out.size
  rw [World.size_alloc, World.size_alloc] at hsz1
  have hnlt := hB.lt
  clear hUw hB2 et elt HBT1 HBF1
  gi_wp2
  refine wpIn_rangeFunc_iter rfl (by decide) (gf := 50) (lb := #[.pointer (some ⟨w1.heap.size, 0, none⟩)]) rfl trivial (enters_of Tryd.func50 (by kernel_rfl) rfl)
    (nodes_iter (n := 9) (W0 := W0) (w := w1.alloc (.cells #[.slice p t.length c] 26)) hn4 hcap hs hp hS (hU.trans HUw.out) HB2.out hlen) (Under.refl _) (fun _ => rfl) (fun k hk => by
      rcases hk with hk | rfl
      · exact Nat.lt_of_lt_of_le hk (hU.trans HUw.out).size
      · exact hsz)
    (fun b pre A => Turned (some nb) (w1.alloc (.cells #[.slice p t.length c] 26)) A ∧ BoxAt A nb 3 #[.int .i64 (tell t g s0 pre)])
    (fun _ _ _ => False)
    ?hI ?hIo (fun _ _ _ _ _ _ h _ _ _ => h) ⟨Turned.refl _ _, HNb.out⟩ ?a1 ?assign ?body ?done (fun _ _ _ _ _ h _ => h.elim)
  case hI =>
    rintro b b' pre A A' ⟨h1, h2⟩ hs hsz2 hb
    have hne : some nb ≠ b := fun e => by have := hb nb e.symm; have := HUw.out.size; simp at *; omega
    exact ⟨⟨hs.os.trans h1.os, hs.output.trans h1.output, Nat.le_trans h1.size hs.size, fun k hk hr => (hs.block k (Nat.lt_of_lt_of_le hk h1.size) fun e => by have := hb k e.symm; omega).trans (h1.block k hk hr)⟩, (hs.block nb h2.lt hne).trans h2⟩
  case hIo =>
    rintro b pre A l o o' ⟨h1, h2⟩ hl ho hc
    have hne : l ≠ nb := fun e => by subst e; have := h2; unfold BoxAt at this; rw [this] at ho; cases ho; cases hc
    exact ⟨⟨h1.os, h1.output, by simpa using h1.size, fun k hk hr => (World.putObj_heap_other (by omega)).trans (h1.block k hk hr)⟩, (World.putObj_heap_other (fun e => hne e.symm)).trans h2⟩
  case assign =>
    intro l x W K hK
    gi_wp2
    exact hK
  case body =>
    rintro l b pre ⟨at_, under⟩ A hsz3 hb ⟨hT1, hBn⟩ hpre
    have hUA := hT1.under (hU.trans HUw.out) hnb
    have hmem : (at_, under) ∈ nodesOf t := hpre.subset (by simp)
    have hat := nodesGo_lt t t.length [0] _ hmem
    simp only at hat
    have hxk : t[at_]? = some t[at_] := List.getElem?_eq_getElem hat
    have hright := check_right hc _ (List.getElem_mem hat)
    obtain ⟨bb, off, hpe, hbb, c0, c1, c2, c3⟩ := hp.node hxk
    rw [← under_cell hUA hbb] at c0 c1 c2 c3
    have hbbA := Nat.lt_of_lt_of_le hbb hUA.size
    have hbd1 := hbd pre ⟨_, by have := hpre.choose_spec; rw [List.append_assoc] at this; exact this⟩
    have htell : tell t g s0 (pre ++ [(at_, under)]) = tellOne t g (tell t g s0 pre) (at_, under) := by unfold tell; rw [List.foldl_append]; rfl
    have hone : tellOne t g (tell t g s0 pre) (at_, under) = if t[at_].k = 0 ∧ (under : Int) ≤ t[at_].n then g (tell t g s0 pre) (t[at_].n - under) else tell t g s0 pre := by
      unfold tellOne; simp only [hxk]
    rw [hone] at htell
    generalize hx : t[at_] = x at *
    have hBT3 := HBT2.out.turned hT1 (by simp; omega)
    have hBF3 := HBF2.out.turned hT1 (by simp; omega)
    have et := hBT3.cell 0
    have ef := hBF3.cell 0
    have elt := hBT3.lt
    have elf := hBF3.lt
    have enb := hBn.lt
    have HT1 := Lib.hid hT1
    have HBn := Lib.hid hBn
    have HTl := Lib.hid htell
    have HP := Lib.hid hpe
    have hat' : (at_ : Int) < t.length := by omega
    have hat0 : (0 : Int) ≤ at_ := Int.natCast_nonneg _
    have hn4' : (t.length : Int) ≤ 4000 := by omega
    subst hpe
    have HBN2 := Lib.hid (hBn.alloc (.cells #[.int .i64 x.k, .int .i64 x.n, .int .i64 x.m, .string x.s] 51))
    clear hBT3 hBF3 hT1 hBn htell hone hxk hx hpre hmem
    by_cases h0 : x.k = 0
    · obtain ⟨hv0, hv1⟩ := rightB_var hright h0
      have h0' : (x.k == 0) = true := by simpa using h0
      by_cases hle : (under : Int) ≤ x.n
      · have hu0 : (0 : Int) ≤ under := Int.natCast_nonneg _
        have hen := hT.1
        have HTo := Lib.hid (hT.2 nb (tell t g s0 pre) (x.n - under) (A.alloc (.cells #[.int .i64 x.k, .int .i64 x.n, .int .i64 x.m, .string x.s] 51)) hbd1.1 hbd1.2 (by omega) (by omega) HBN2.out)
        have hif : (if x.k = 0 ∧ (under : Int) ≤ x.n then g (tell t g s0 pre) (x.n - under) else tell t g s0 pre) = g (tell t g s0 pre) (x.n - under) := if_pos ⟨h0, hle⟩
        have HIf := Lib.hid hif
        clear hif h0 hbd1
        gi_wp2
        refine ⟨trivial, ?_⟩
        refine (CallsIn.inRound l (callsIn_wide.2 HTo.out)).mono ?_
        rintro e A2 ⟨⟨v, rfl⟩, hA2⟩
        have hk2 : KeepsOthers A A2 := by rw [hA2]; exact (KeepsOthers.alloc _ _).trans (KeepsOthers.setCell _ _ _)
        have ht2 : Turned (some nb) A A2 := by rw [hA2]; exact (Turned.of_under (under_alloc (Under.refl _) _)).trans (Turned.set _ _ _ _)
        have hb2 : BoxAt A2 nb 3 #[.int .i64 (g (tell t g s0 pre) (x.n - under))] := by rw [hA2]; exact HBN2.out.set _ _
        have HK2 := Lib.hid hk2
        have HT2 := Lib.hid ht2
        have HB2' := Lib.hid hb2
        clear hA2 hk2 ht2 hb2
        gi_wp2
        refine ⟨HK2.out.from _, ⟨HT2.out.os, HT2.out.output, HT2.out.size, fun k hk hr => HT2.out.block k hk fun e => ?_⟩, HT1.out.trans HT2.out, ?_⟩
        · cases e
          rcases hr with (hr | hr) | hr
          · omega
          · have := HU1.out.size; simp at *; omega
          · have := hb nb hr; simp at *; omega
        · rw [HTl.out, HIf.out]
          exact HB2'.out
      · have hif : (if x.k = 0 ∧ (under : Int) ≤ x.n then g (tell t g s0 pre) (x.n - under) else tell t g s0 pre) = tell t g s0 pre := if_neg fun h => hle h.2
        have HIf := Lib.hid hif
        have hlt : x.n < (under : Int) := by omega
        clear hif h0 hle hbd1
        gi_wp2
        refine ⟨(KeepsOthers.alloc _ _).from _, Kept.of_under (under_alloc (Under.refl _) _), HT1.out.trans (Turned.of_under (under_alloc (Under.refl _) _)), ?_⟩
        rw [HTl.out, HIf.out]
        exact HBN2.out
    · have h0' : (x.k == 0) = false := by simpa using h0
      have hif : (if x.k = 0 ∧ (under : Int) ≤ x.n then g (tell t g s0 pre) (x.n - under) else tell t g s0 pre) = tell t g s0 pre := if_neg fun h => h0 h.1
      have HIf := Lib.hid hif
      clear hif h0 hbd1
      gi_wp2
      refine ⟨(KeepsOthers.alloc _ _).from _, Kept.of_under (under_alloc (Under.refl _) _), HT1.out.trans (Turned.of_under (under_alloc (Under.refl _) _)), ?_⟩
      rw [HTl.out, HIf.out]
      exact HBN2.out
  case done =>
    rintro D b W hD ⟨hT1, hBn⟩ hK
    gi_wp2
    refine ⟨by simp, .inl ⟨_, _, rfl, run_takeDeferred hK, ?_⟩⟩
    refine ⟨_, results_tmp rfl _ _ _, rfl, ?_, ?_⟩
    · have h0 := (Turned.of_under (r := some nb) HUw.out).trans hT1
      exact ⟨h0.os, h0.output, by simpa using h0.size, fun k hk hr => (World.putObj_heap_other (by have := HUw.out.size; omega)).trans (h0.block k hk hr)⟩
    · exact (World.putObj_heap_other (by have := HUw.out.size; omega)).trans hBn
end
end Go.Proofs.YtiibknlpeodejaaDoor
