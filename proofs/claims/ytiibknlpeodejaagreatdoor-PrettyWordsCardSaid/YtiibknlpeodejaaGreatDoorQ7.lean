/- Part 7 of what the proof rests on. -/
import Derived.Maps.OwnOps
import Derived.Lib.SliceRun
import Derived.Laws.AppendOwnNone
import Derived.Deep.Slices
import Derived.Deep.Fields
import Derived.WideKeyArgs
import Derived.OpenShut
import Derived.Test.YtiibknlpeodejaaGreatDoorRows
import Derived.ProofKit
import Derived.LaidMore
import Derived.ChangeAlike
import Derived.Stop.Joined
import Derived.Lib.LaidTab
import Derived.Test.YtiibknlpeodejaaGreatDoorQ6
set_option linter.unusedSimpArgs false
set_option linter.unusedVariables false
/- pretty.Names: its contract. -/
namespace Go.Proofs.YtiibknlpeodejaaGreatDoor
open Go.Lx Go.RowKit

theorem lawS : Maps.Keyed Tryz.prog 9 := Maps.string_keyed Tryz.underlying9
theorem zeroInt (w : World) : (zeroValue 3).run Tryz.prog w = .ok (.int .i64 0) w := by kernel_rfl
theorem NzMap.kept {p : Nd → Bool} {w w' : World} {b n : Nat} {t : List Nd} (h : NzMap p w b n t) (hb : w'.heap[b]? = w.heap[b]?) : NzMap p w' b n t := by
  obtain ⟨D, ⟨es, cl, h1, h2⟩, hm⟩ := h
  exact ⟨D, ⟨es, cl, hb.trans h1, h2⟩, hm⟩
theorem NzMap.lt {p : Nd → Bool} {w : World} {b n : Nat} {t : List Nd} (h : NzMap p w b n t) : b < w.heap.size := by
  obtain ⟨D, h, _⟩ := h
  exact h.lt
section
variable {w0 : World}
set_option maxRecDepth 100000 in
set_option maxHeartbeats 1000000 in
theorem pnames_bad (t : List Nd) {p : Option Addr} {c : Nat} (hn : t.length ≤ maxLen) (hs : ∀ x ∈ t, x.s.size ≤ maxLen) (hp : RowArg w0 p (ndCells t)) (hS : ShapesAt 0 w0) (h : checkE t ≠ 0) :
    Calls Tryz.prog 10 #[.slice p t.length c] w0 fun e w => e = .returned (.tuple #[.slice none 0 0, .slice none 0 0, .int .i64 (checkE t)]) ∧ Under w0 w := by
  have HC := Lib.hid (check_any (c := c) t hn hs hp hS)
  have h' : (checkE t == 0) = false := by simpa using h
  clear hn hs hp hS h
  generalize checkE t = ce at *
  go_enter Tryz.func10, Tryz.ntmps10
  go_wp2_with fail
  refine HC.out.mono ?_
  rintro e w1 ⟨rfl, hU1⟩
  have HU1 := Lib.hid hU1
  clear hU1
  go_wp2
  go_ret3
  exact ⟨rfl, HU1.out⟩
set_option maxRecDepth 100000 in
set_option maxHeartbeats 1000000 in
theorem pnames_ok (t : List Nd) {p : Option Addr} {c : Nat} (hs : ∀ x ∈ t, x.s.size ≤ 100000) (hn4 : t.length ≤ 90000) (hp : RowArg w0 p (ndCells t)) (hS : ShapesAt 0 w0) (h : checkE t = 0) :
    Calls Tryz.prog 10 #[.slice p t.length c] w0 fun e w => ∃ a b, e = .returned (.tuple #[a, b, .int .i64 0]) ∧ w.ownsRow w0.heap.size 9 1 a (namesB conB [] t).length ((namesB conB [] t).map .string) ∧ w.ownsRow w0.heap.size 9 1 b (namesB datB [] t).length ((namesB datB [] t).map .string) ∧ Under w0 w := by
  have HC := Lib.hid (check_any (c := c) t (by simp only [maxLen]; omega) (fun x hx => by have := hs x hx; simp only [maxLen]; omega) hp hS)
  rw [h] at HC
  have hmm := @run_makeMap Tryz.prog
  have HR := Lib.hid hp
  have HSz := Lib.hid hs
  have hn' : (t.length : Int) ≤ 90000 := by omega
  clear hp h hS hs
  go_enter Tryz.func10, Tryz.ntmps10
  go_wp2_with fail
  refine HC.out.mono ?_
  rintro e w1 ⟨rfl, hU1⟩
  have HU1 := Lib.hid hU1
  have hb1 := hU1.size
  clear hU1
  go_wp2
  go_loopw [19] (fun i wr => NzRel w0 w1.heap.size (w1.heap.size + 1) t i wr) (fun i _ => t.length - (intOf i).toNat)
  case atStart =>
    have e0 : ∀ x : List UInt8, Maps.has (H := Unit) (.map []) (.string x) = true ↔ ∃ y ∈ t.take 0, conB y = true ∧ byt y.s = x := fun x => by simp [Maps.has]
    have e1 : ∀ x : List UInt8, Maps.has (H := Unit) (.map []) (.string x) = true ↔ ∃ y ∈ t.take 0, datB y = true ∧ byt y.s = x := fun x => by simp [Maps.has]
    exact ⟨0, Nat.zero_le _, rfl, ⟨_, (World.ownsMap_made w1 _ _ _).alloc _, e0⟩, ⟨_, by have := World.ownsMap_made (w1.alloc (.map #[] 0)) Tryz.prog 9 (plainElem (H := Unit) Tryz.prog 3); rwa [World.size_alloc] at this, e1⟩, under_alloc (under_alloc HU1.out _) _⟩
  case round =>
    obtain ⟨k, hk, rfl, hA, hB, hU⟩ := hrel
    have hk0 : (0 : Int) ≤ (k : Int) := by omega
    have HA := Lib.hid hA
    have HB := Lib.hid hB
    have HU := Lib.hid hU
    clear hA hB hU
    by_cases hlt : k < t.length
    · obtain ⟨b1, off1, rfl, hb1', c0, c1, c2, c3⟩ := RowArg.node (HR.out.under HU.out) (List.getElem?_eq_getElem hlt)
      have HTk := Lib.hid (List.take_succ_eq_append_getElem hlt)
      have hsz := HSz.out _ (List.getElem_mem hlt)
      generalize t[k] = x at *
      have hlt' : (k : Int) < (t.length : Int) := by omega
      have hkey := Go.WideMaps.keyOf_string_mk Tryz.underlying9 (s := x.s) (by simp only [maxLen]; omega)
      have HKey := Lib.hid hkey
      have hbx := box_new wr #[.int .i64 x.k, .int .i64 x.n, .int .i64 x.m, .string x.s] 38
      have HBx := Lib.hid hbx
      clear hkey hbx
      obtain ⟨Da, hDa, hma⟩ := HA.out
      obtain ⟨Db, hDb, hmb⟩ := HB.out
      have HDa := Lib.hid (hDa.alloc (.cells #[.int .i64 x.k, .int .i64 x.n, .int .i64 x.m, .string x.s] 38))
      have HDb := Lib.hid (hDb.alloc (.cells #[.int .i64 x.k, .int .i64 x.n, .int .i64 x.m, .string x.s] 38))
      have HTa := Lib.hid (hDa.tidy lawS).isMap
      have HTb := Lib.hid (hDb.tidy lawS).isMap
      have HMa := Lib.hid hma
      have HMb := Lib.hid hmb
      clear hDa hDb hma hmb
      cases hk1 : (x.k == 1)
      · cases hs : (x.s.toList == [])
        · have hpa : conB x = false := by simp [conB, hk1]
          have hpb : datB x = true := by simp [datB, hk1, hs]
          have HA2 := Lib.hid (nz_skip hpa HMa.out)
          go_wp2_with (first
            | (refine wpList_lookup_own_int _ rfl _ _ 44 rfl 9 3 .i64 lawS Tryz.underlying44 Tryz.underlying3 (zeroInt _) (w1.heap.size + 1) k Db rfl HDb.out _ _ rfl HKey.out ?_; intro cc hat hwf)
            | (at_mapUpdate; refine wpList_mapUpdate_own _ rfl _ _ _ 44 rfl 9 3 lawS Tryz.underlying44 _ (w1.heap.size + 1) k _ rfl HDb.out (by unfold maxLen; omega) _ _ _ rfl rfl HKey.out _ [] (plainElem_int Tryz.underlying3 (wrap64_wf _)) ?_))
          intro w2 hown2 hgr2
          have HO2 := Lib.hid hown2
          have HG2 := Lib.hid hgr2
          clear hown2 hgr2 hat hwf
          go_wp2
          go_roundw
          case rel => exact ⟨k + 1, by omega, by go_num, by rw [HTk.out]; exact ⟨Da, (HDa.out.kept HG2.out (by simp)).mono (Nat.le_succ _), HA2.out⟩, by rw [HTk.out]; exact ⟨_, HO2.out, nz_put HTb.out hpb HMb.out⟩, under_grown (under_alloc HU.out _) HG2.out (fun g e => by cases e; omega)⟩
          case measure => simp [intOf]; omega
        · have hpa : conB x = false := by simp [conB, hk1]
          have hpb : datB x = false := by simp [datB, hk1, hs]
          have HA2 := Lib.hid (nz_skip hpa HMa.out)
          have HB2 := Lib.hid (nz_skip hpb HMb.out)
          go_wp2
          go_roundw
          case rel => exact ⟨k + 1, by omega, by go_num, by rw [HTk.out]; exact ⟨Da, HDa.out.mono (Nat.le_succ _), HA2.out⟩, by rw [HTk.out]; exact ⟨Db, HDb.out.mono (Nat.le_succ _), HB2.out⟩, under_alloc HU.out _⟩
          case measure => simp [intOf]; omega
      · have hpa : conB x = true := by simp [conB, hk1]
        have hpb : datB x = false := by simp [datB, hk1]
        have HB2 := Lib.hid (nz_skip hpb HMb.out)
        go_wp2_with (first
          | (refine wpList_lookup_own_int _ rfl _ _ 44 rfl 9 3 .i64 lawS Tryz.underlying44 Tryz.underlying3 (zeroInt _) w1.heap.size k Da rfl HDa.out _ _ rfl HKey.out ?_; intro cc hat hwf)
          | (at_mapUpdate; refine wpList_mapUpdate_own _ rfl _ _ _ 44 rfl 9 3 lawS Tryz.underlying44 _ w1.heap.size k _ rfl HDa.out (by unfold maxLen; omega) _ _ _ rfl rfl HKey.out _ [] (plainElem_int Tryz.underlying3 (wrap64_wf _)) ?_))
        intro w2 hown2 hgr2
        have HO2 := Lib.hid hown2
        have HG2 := Lib.hid hgr2
        clear hown2 hgr2 hat hwf
        go_wp2
        go_roundw
        case rel => exact ⟨k + 1, by omega, by go_num, by rw [HTk.out]; exact ⟨_, HO2.out, nz_put HTa.out hpa HMa.out⟩, by rw [HTk.out]; exact ⟨Db, (HDb.out.kept HG2.out (by simp)).mono (Nat.le_succ _), HB2.out⟩, under_grown (under_alloc HU.out _) HG2.out (fun g e => by cases e; omega)⟩
        case measure => simp [intOf]; omega
    · obtain rfl : k = t.length := by omega
      obtain ⟨Da, hDa, hma⟩ := HA.out
      obtain ⟨Db, hDb, hmb⟩ := HB.out
      rw [List.take_length] at hma hmb
      have HDa := Lib.hid hDa
      have HDb := Lib.hid hDb
      have HMa := Lib.hid hma
      have HMb := Lib.hid hmb
      have hsa : ∀ {b : Nat} {D : DataW Unit}, wr.ownsMap Tryz.prog 9 (plainElem Tryz.prog 3) b t.length D → Maps.size D ≤ 90000 := by
        intro b D h
        obtain ⟨es, cl, _, _, h1, rfl⟩ := h
        simp only [Maps.size, length_sorted, List.length_map, Array.length_toList]
        omega
      have hza := hsa hDa
      have hzb := hsa hDb
      have hbase := HU.out.size
      clear hDa hDb hma hmb hsa
      go_wp2_with fail
      refine (callsIn_wide.1 (Tryz.maps_Keys_26 _ _)).mono ?_
      rintro e w3 ⟨rfl, rfl⟩
      go_wp2_with fail
      refine (callsIn_wide.1 (Tryz.slices_Sorted_keys_25_26 w1.heap.size t.length Da (plainElem Tryz.prog 3) wr HDa.out (by simp only [maxLen]; omega) (by omega))).mono ?_
      rintro e w4 ⟨v4, ss4, rfl, hp4, hr4, _, hb4⟩
      have HU4 := Lib.hid ((under_alloc (Under.refl wr) (.cells #[.map (some w1.heap.size)] 44)).trans (under_below hb4))
      have HN4 := Lib.hid (names_ss conB t HDa.out HMa.out hp4)
      have HR4 := Lib.hid hr4
      have hz4 := HU4.out.size
      have hdb4 : w4.ownsMap Tryz.prog 9 (plainElem Tryz.prog 3) (w1.heap.size + 1) t.length Db := by
        obtain ⟨es, cl, h1, h2⟩ := HDb.out
        exact ⟨es, cl, (HU4.out.low _ (Array.getElem?_eq_some_iff.1 h1).1).trans h1, h2⟩
      have HDb4 := Lib.hid hdb4
      have hw1 : (wr.alloc (.cells #[.map (some w1.heap.size)] 44)).heap.size = wr.heap.size + 1 := by simp
      obtain ⟨q4, d4, rfl, _, _⟩ := RowArg.of_own hr4
      clear hp4 hr4 hb4 hdb4
      go_wp2_with fail
      refine (callsIn_wide.1 (Tryz.maps_Keys_26 _ _)).mono ?_
      rintro e w5 ⟨rfl, rfl⟩
      go_wp2_with fail
      refine (callsIn_wide.1 (Tryz.slices_Sorted_keys_25_26 (w1.heap.size + 1) t.length Db (plainElem Tryz.prog 3) w4 HDb4.out (by simp only [maxLen]; omega) (by omega))).mono ?_
      rintro e w6 ⟨v6, ss6, rfl, hp6, hr6, _, hb6⟩
      have HU6 := Lib.hid ((under_alloc (Under.refl w4) (.cells #[.map (some (w1.heap.size + 1))] 44)).trans (under_below hb6))
      have HN6 := Lib.hid (names_ss datB t HDb4.out HMb.out hp6)
      have HR6 := Lib.hid hr6
      have hw4 : (w4.alloc (.cells #[.map (some (w1.heap.size + 1))] 44)).heap.size = w4.heap.size + 1 := by simp
      obtain ⟨q6, d6, rfl, _, _⟩ := RowArg.of_own hr6
      clear hp6 hr6 hb6
      go_wp2
      go_ret3
      refine ⟨_, _, rfl, ?_, ?_, HU.out.trans (HU4.out.trans HU6.out)⟩
      · have h := row_under (row_base HR4.out (base' := w0.heap.size) (by omega)) HU6.out
        rw [HN4.out.1, HN4.out.2] at h
        rw [HN4.out.2]
        exact h
      · have h := row_base HR6.out (base' := w0.heap.size) (by omega)
        rw [HN6.out.1, HN6.out.2] at h
        rw [HN6.out.2]
        exact h
end
end Go.Proofs.YtiibknlpeodejaaGreatDoor

/- shift.Free and corniceref03.Free count alike, plainly. -/
namespace Go.Proofs.YtiibknlpeodejaaGreatDoor
open Go.Lx Go.RowKit

theorem tell_cons (t : List Nd) (g : Int → Int → Int) (s : Int) (x : Nat × Nat) (l : List (Nat × Nat)) : tell t g s (x :: l) = tell t g (tellOne t g s x) l := rfl
theorem topT_lo (T : Tm) (h : okT T) (u : Nat) : -1 ≤ topT T u := (topT_range T h u).1
theorem topTs_lo : ∀ (l : List Tm) (bs : List Nat) (u : Nat), okTs l → -1 ≤ topTs l bs u
  | [], _, _, _ => Int.le_refl _
  | a :: l, bs, u, h => by have := topTs_lo l bs.tail u h.2; show -1 ≤ max _ _; omega
theorem free_tree (t : List Nd) (T : Tm) : okT T → ∀ (pre post : List Nd) (u : Nat) (st : List Nat) (s : Int), t = pre ++ flat T ++ post → 0 ≤ s →
    tell t most1 s (nodesGo t (pre.length + (flat T).length) (u :: st)) = tell t most1 (max s (topT T u + 1)) (nodesGo t pre.length st) := by
  induction T using Tm.rec (motive_2 := fun l => okTs l → ∀ (bs : List Nat), bs.length = l.length → ∀ (pre post : List Nd) (u : Nat) (st : List Nat) (s : Int), t = pre ++ flats l ++ post → 0 ≤ s →
    tell t most1 s (nodesGo t (pre.length + (flats l).length) ((bs.map (u + ·)).reverse ++ st)) = tell t most1 (max s (topTs l bs u + 1)) (nodesGo t pre.length st)) with
  | mk x l ih =>
    rintro ⟨hx, hl, hls⟩ pre post u st s ht hs
    rw [flat] at ht
    have hg : t[pre.length + (flats l).length]? = some x := by
      rw [ht, List.append_assoc, List.append_assoc, List.getElem?_append_right (by omega), Nat.add_sub_cancel_left, List.getElem?_append_right (by omega), Nat.sub_self]
      rfl
    have hb : bindsR x = binds x := by unfold bindsR; rw [if_pos hx]
    rw [flat, List.length_append, List.length_singleton, ← Nat.add_assoc, nodesGo_succ hg, tell_cons, hb]
    have ho : tellOne t most1 s (pre.length + (flats l).length, u) = if x.k = 0 ∧ (u : Int) ≤ x.n then max s (x.n - u + 1) else s := by
      unfold tellOne
      rw [hg]
      rfl
    rw [ho]
    have ht2 : t = pre ++ flats l ++ ([x] ++ post) := by rw [ht]; simp
    have hT : topT (.mk x l) u = if x.k = 0 then (if (u : Int) ≤ x.n then x.n - u else -1) else topTs l (binds x) u := by rw [topT]
    rw [hT]
    by_cases hk : x.k = 0
    · have hb0 : binds x = [] := by simp [binds, hk, bindsOf]
      have hl0 : l = [] := List.eq_nil_of_length_eq_zero (by rw [hl, hb0]; rfl)
      subst hl0
      rw [hb0, if_pos hk]
      by_cases hu : (u : Int) ≤ x.n
      · rw [if_pos ⟨hk, hu⟩, if_pos hu]
        simp [flats]
      · rw [if_neg (fun h => hu h.2), if_neg hu]
        have : max s (-1 + 1) = s := by omega
        rw [this]
        simp [flats]
    · rw [if_neg (fun h => hk h.1), if_neg hk]
      exact ih hls (binds x) hl.symm pre _ u st s ht2 hs
  | nil =>
    rename_i hh bs hb pre post u st s ht hs
    have : bs = [] := List.eq_nil_of_length_eq_zero hb
    subst this
    have e : max s (topTs [] [] u + 1) = s := by simp [topTs]; omega
    rw [e]
    simp [flats]
  | cons a l iha ihl =>
    rename_i hh bs hb pre post u st s ht hs
    cases bs with
    | nil => simp at hb
    | cons b bs =>
      rw [flats] at ht
      have h1 := ihl hh.2 bs (by simpa using hb) (pre ++ flat a) post u ((u + b) :: st) s (by rw [ht]; simp) hs
      have h2 := iha hh.1 pre (flats l ++ post) (u + b) st (max s (topTs l bs u + 1)) (by rw [ht]; simp) (by omega)
      rw [List.map_cons, List.reverse_cons, List.append_assoc, flats, List.length_append, ← Nat.add_assoc]
      rw [List.length_append] at h1
      rw [List.singleton_append, h1, h2]
      congr 1
      show max (max s (topTs l bs u + 1)) (topT a (u + b) + 1) = max s (max (topT a (u + b)) (topTs l bs u) + 1)
      omega
theorem freeN_tree (T : Tm) (h : okT T) : freeN (flat T) = topT T 0 + 1 := by
  have := free_tree (flat T) T h [] [] 0 [] 0 (by simp) (Int.le_refl _)
  have h0 := topT_lo T h 0
  have e : nodesGo (flat T) 0 [] = [] := rfl
  rw [List.length_nil, Nat.zero_add, e] at this
  show tell (flat T) most1 0 (nodesGo (flat T) (flat T).length [0]) = _
  rw [this]
  show max 0 (topT T 0 + 1) = _
  omega
end Go.Proofs.YtiibknlpeodejaaGreatDoor

/- slices.Grow and slices.Concat at texts: their contracts. -/
namespace Go.Proofs.YtiibknlpeodejaaGreatDoor
open Go.Lx Go.RowKit

section
variable {w0 : World}
set_option maxRecDepth 100000 in
set_option maxHeartbeats 1000000 in
theorem growStrs_nil (n : Nat) (hn : n ≤ 1000000) : Calls Tryz.prog 34 #[.slice none 0 0, .int .i64 (n : Int)] w0 fun e w => ∃ v, e = .returned v ∧ w.ownsRow w0.heap.size 9 1 v 0 [] ∧ Under w0 w := by
  obtain ⟨i0, hi, hz0, hz1, hz2⟩ := info_parts Tryz.infoStrZ
  by_cases h0 : n = 0
  · subst h0
    go_enter Tryz.func34, Tryz.ntmps34
    go_wp2
    go_ret
    exact ⟨_, rfl, World.ownsRow_nil _ _ _ _, Under.refl _⟩
  · have h1 : (0 : Int) < n := by omega
    have h2 : (n : Int) ≤ 1000000 := by omega
    have h3 : n * i0.bytes ≤ 140737488355328 := by rw [hz2]; omega
    have h4 : 1 ≤ n := by omega
    clear h0
    go_enter Tryz.func34, Tryz.ntmps34
    go_wp2_with (at_builtin; refine wpList_append_zeros_nil rfl _ _ w0.heap.size 23 3 9 rfl i0 (.string ⟨#[]⟩) Tryz.underlying23 Tryz.underlying3 hi hz0 hz1 rfl n rfl rfl h4 h3 hn (Nat.le_refl _) ?_; intro g c w1 hown hgrow)
    have hc := row_cut hown (Nat.zero_le n)
    have HC := Lib.hid hc
    have HU := Lib.hid (under_grown (Under.refl w0) hgrow fun g e => by cases e)
    clear hown hgrow hc
    go_wp2
    go_ret
    refine ⟨_, rfl, ?_, HU.out⟩
    have := HC.out
    rw [Nat.zero_mul, List.take_zero] at this
    exact this

theorem flat_take {α : Type} (css : List (List α)) (k : Nat) (h : k < css.length) : (css.take (k + 1)).flatten = (css.take k).flatten ++ css[k] := by
  rw [List.take_succ_eq_append_getElem h, List.flatten_append]; simp
theorem flat_le {α : Type} (css : List (List α)) (k : Nat) : (css.take k).flatten.length ≤ css.flatten.length := by
  have : css.flatten = (css.take k).flatten ++ (css.drop k).flatten := by rw [← List.flatten_append, List.take_append_drop]
  rw [this, List.length_append]; omega
/-- What is held between two lists. -/
def CIS (w0 : World) (css : List (List ByteArray)) (v i : Value) (w : World) : Prop :=
  ∃ k N, k ≤ css.length ∧ i = .int .i64 (k : Nat) ∧ N = (css.take k).flatten.length ∧ w.ownsRow w0.heap.size 9 1 v N ((css.take k).flatten.map .string) ∧ Under w0 w
set_option maxRecDepth 100000 in
set_option maxHeartbeats 2000000 in
theorem concatStrs_any (css : List (List ByteArray)) {v : Value} (hn : css.length ≤ 100000) (ht : css.flatten.length ≤ 100000) (hv : ListV TextsV w0 v css) :
    Calls Tryz.prog 20 #[v] w0 fun e w => ∃ v, e = .returned v ∧ w.ownsRow w0.heap.size 9 1 v css.flatten.length (css.flatten.map .string) ∧ Under w0 w := by
  obtain ⟨i0, hi, hz0, hz1, hz2⟩ := info_parts Tryz.infoStrZ
  obtain ⟨p, c, us, rfl, hc, _, hr, hz⟩ := hv
  have HR := Lib.hid hr
  have HZ := Lib.hid hz
  have HT := Lib.hid ht
  clear hr hz ht
  go_enter Tryz.func20, Tryz.ntmps20
  go_wp2
  go_loop [3, 11] (fun sz i => ∃ (k : Nat) (N : Nat), k ≤ css.length ∧ i = .int .i64 k ∧ sz = .int .i64 N ∧ N = (css.take k).flatten.length) (fun _ i => css.length - (intOf i).toNat)
  case atStart => exact ⟨0, 0, Nat.zero_le _, rfl, rfl, rfl⟩
  case round =>
    obtain ⟨k, f, hk, rfl, rfl, hf0⟩ := hrel
    have hb1 : f ≤ 100000 := by rw [hf0]; exact Nat.le_trans (flat_le css k) HT.out
    have hfp : (0 : Int) ≤ f := Int.natCast_nonneg _
    have HF0 := Lib.hid hf0
    clear hf0
    by_cases hlt : k < css.length
    · obtain ⟨u, hu, q, c', rfl, hc', h0', hr'⟩ := HZ.out.at (List.getElem?_eq_getElem hlt)
      obtain ⟨b, off, rfl, hb, hcs⟩ := HR.out (fun e => by rw [e] at hu; simp at hu)
      have cc := hcs k _ hu
      have hb2 := Nat.le_trans (flat_le css (k + 1)) HT.out
      have hf := congrArg List.length (flat_take css k hlt)
      rw [List.length_append, ← HF0.out] at hf
      have hb3 : f + css[k].length ≤ 100000 := by omega
      have HF := Lib.hid hf
      clear hcs hr' hf hb2 hu
      generalize css[k].length = m at *
      have hm0 : (0 : Int) ≤ m := Int.natCast_nonneg _
      have hb4 : (f : Int) + m ≤ 100000 := by omega
      have hb5 : ¬ (f : Int) + m < 0 := by omega
      go_wp2
      go_round
      case rel => exact ⟨k + 1, f + m, by omega, by go_num, by go_num, by rw [HF.out]⟩
      case measure => simp [intOf]; omega
    · obtain rfl : k = css.length := by omega
      have HG := Lib.hid (growStrs_nil (w0 := w0) f (by omega))
      clear hlt
      go_wp2_with fail
      refine HG.out.mono ?_
      rintro e w1 ⟨v, rfl, hown, hU⟩
      have HO := Lib.hid hown
      have HU := Lib.hid hU
      clear hown hU
      go_wp2
      go_loopw [6, 27] (fun v i wr => CIS w0 css v i wr) (fun _ i _ => css.length - (intOf i).toNat)
      case atStart => exact ⟨0, 0, Nat.zero_le _, rfl, rfl, HO.out, HU.out⟩
      case round =>
        obtain ⟨k, N, hk, rfl, hN, hown, hU⟩ := hrel
        by_cases hlt : k < css.length
        · obtain ⟨u, hu, q, c', rfl, hc', h0', hr'⟩ := HZ.out.at (List.getElem?_eq_getElem hlt)
          obtain ⟨b, off, rfl, hb, hcs⟩ := HR.out (fun e => by rw [e] at hu; simp at hu)
          have cc := hcs k _ hu
          rw [← under_cell hU hb] at cc
          have hb' := Nat.lt_of_lt_of_le hb hU.size
          have hf := flat_take css k hlt
          have hb2 := Nat.le_trans (flat_le css (k + 1)) HT.out
          rw [hf, List.length_append, ← hN] at hb2
          have HN := Lib.hid hN
          have HF := Lib.hid hf
          have HO2 := Lib.hid hown
          have HU2 := Lib.hid hU
          have HR' := Lib.hid (hr'.under hU)
          have hmx : N + css[k].length ≤ maxLen := by simp only [maxLen]; omega
          have hby : (N + css[k].length) * 16 ≤ 140737488355328 := by omega
          clear hcs hr' hf hN hown hU hu
          generalize hm : css[k].length = m at *
          have HM := Lib.hid hm
          clear hm
          cases q with
          | none =>
            obtain rfl : c' = 0 := h0' rfl
            obtain rfl : m = 0 := by omega
            go_wp2_with (at_builtin; refine wpList_append_own_none rfl _ _ 23 rfl w0.heap.size 9 i0 1 Tryz.underlying23 hi _ N _ rfl HO2.out rfl ?_)
            go_roundw
            case rel => exact ⟨k + 1, N, by omega, by go_num, by rw [HF.out, List.length_append, ← HN.out, HM.out]; rfl, by rw [HF.out, List.eq_nil_of_length_eq_zero HM.out, List.append_nil]; exact HO2.out, HU2.out⟩
            case measure => simp [intOf]; omega
          | some a =>
            obtain ⟨XS, hXS⟩ : ∃ XS, XS = (List.take k css).flatten.map Value.string := ⟨_, rfl⟩
            rw [← hXS] at HO2
            have HXS := Lib.hid hXS
            clear hXS
            go_wp2_with (at_builtin; refine wpList_append_own_at _ rfl _ _ 23 rfl w0.heap.size 9 i0 _ 1 16 Tryz.underlying23 hi hz0 hz1 hz2 rfl (by decide) _ N _ rfl HO2.out a m c' (css[k].map .string) rfl ?c1 ?c2 ?c3 hmx hby ?c5 ?_)
            case c1 => rw [List.length_map, HM.out]; omega
            case c2 =>
              intro j u hj
              obtain ⟨b2, off2, e, hb2, hc2⟩ := HR'.out (fun e => by rw [e] at hj; cases hj)
              cases e
              rw [add_off]
              exact hc2 j u hj
            case c3 =>
              intro u hu
              obtain ⟨x, _, rfl⟩ := List.mem_map.1 hu
              rfl
            case c5 => exact HU2.out.size
            intro v' w2 hown2 hgrow2 hnil2 hat2
            have hU3 := under_grown HU2.out hgrow2 fun g e => (row_lt HO2.out e).1
            have HO3 := Lib.hid hown2
            have HU3 := Lib.hid hU3
            clear hown2 hnil2 hat2 hU3
            go_wp2
            go_roundw
            case rel => exact ⟨k + 1, N + m, by omega, by go_num, by rw [HF.out, List.length_append, ← HN.out, HM.out], by rw [HF.out, List.map_append, ← HXS.out]; exact HO3.out, HU3.out⟩
            case measure => simp [intOf]; omega
        · obtain rfl : k = css.length := by omega
          have HO2 := Lib.hid hown
          have HU2 := Lib.hid hU
          have HN := Lib.hid hN
          clear hown hU hN
          go_wp2
          go_ret
          have e1 := HN.out
          have e3 := HO2.out
          rw [List.take_length] at e1 e3
          rw [e1] at e3
          exact ⟨_, rfl, e3, HU2.out⟩
end
end Go.Proofs.YtiibknlpeodejaaGreatDoor

/- pretty.Print: its contract. -/
namespace Go.Proofs.YtiibknlpeodejaaGreatDoor
open Go.Lx Go.RowKit

theorem takenIs_nil : TakenIs [] [] := fun s => rfl
theorem mget_mput (ks : Assoc) (k : ByteArray) (v : Value) (s : ByteArray) : mget (mput ks k v) s = if s = k then some v else mget ks s := by
  induction ks with
  | nil => simp [mput, mget]
  | cons p r ih =>
    obtain ⟨a, u⟩ := p
    by_cases h : k = a
    · subst h
      simp only [mput, if_true, mget]
      split <;> rfl
    · simp only [mput, if_neg h, mget, ih]
      by_cases h1 : s = a
      · subst h1
        rw [if_pos rfl, if_neg (fun e => h e.symm), if_pos rfl]
      · rw [if_neg h1, if_neg h1]
theorem TakenIs.put {ks : Assoc} {L : List ByteArray} {k : ByteArray} (h : TakenIs ks L) : TakenIs (mput ks k (.int .i64 1)) (L ++ [k]) := by
  intro s
  rw [mget_mput, h s, amongB_app]
  by_cases e : s = k
  · subst e
    simp [amongB]
  · have : amongB [k] s = false := by
      unfold amongB
      simp only [List.any_cons, List.any_nil, Bool.or_false]
      simp
      intro e'
      rw [ByteArray.toList_eq, ByteArray.toList_eq] at e'
      exact e (bytes_ext e'.symm)
    rw [if_neg e, this]
    simp
def PtRel (w5 : World) (tb : Nat) (L : List ByteArray) (i : Value) (wr : World) : Prop :=
  ∃ (k : Nat) (ks : Assoc), k ≤ L.length ∧ i = .int .i64 (k : Int) ∧ TakenIs ks (L.take k) ∧ MapAt wr tb ks ∧ Ch (fun b => b = tb) w5 wr
section
variable {w0 : World}
set_option maxRecDepth 100000 in
set_option maxHeartbeats 1000000 in
theorem pprint_bad (t : List Nd) {p : Option Addr} {c : Nat} {va : Value} (hcap : t.length ≤ c) (hn : t.length ≤ maxLen) (hs : ∀ x ∈ t, x.s.size ≤ maxLen) (hp : RowArg w0 p (ndCells t)) (hS : ShapesAt 0 w0) (h : checkE t ≠ 0) :
    Calls Tryz.prog 8 #[.slice p t.length c, va] w0 fun e w => e = .returned (.tuple #[.string ⟨#[]⟩, .int .i64 (checkE t)]) ∧ Under w0 w := by
  have HC := Lib.hid (show Calls Tryz.prog 18 #[.slice p t.length c] w0 fun e w => e = .returned (.tuple #[.int .i64 0, .int .i64 (checkE t)]) ∧ Under w0 w from (free_any (c := c) hcap hn hs hp hS).mono fun e w hF => by unfold FreeOut at hF; rw [if_neg h] at hF; exact hF)
  have h' : (checkE t != 0) = true := by simpa using h
  clear hn hs hp hS h
  generalize checkE t = ce at *
  go_enter Tryz.func8, Tryz.ntmps8
  go_wp2_with fail
  refine HC.out.mono ?_
  rintro e w1 ⟨rfl, hU1⟩
  have HU1 := Lib.hid hU1
  clear hU1
  go_wp2
  go_ret2
  exact ⟨rfl, HU1.out⟩
set_option maxRecDepth 100000 in
set_option maxHeartbeats 1000000 in
theorem pprint_open (T : Tm) {p : Option Addr} {c : Nat} {va : Value} (hok : okT T) (hd : deepT T ≤ 60) (hl : (flat T).length ≤ 4000) (hcap : (flat T).length ≤ c) (hs : ∀ x ∈ flat T, x.s.size ≤ maxLen) (hp : RowArg w0 p (ndCells (flat T))) (hS : ShapesAt 0 w0) (h : ¬ inT T 0) :
    Calls Tryz.prog 8 #[.slice p (flat T).length c, va] w0 fun e w => e = .returned (.tuple #[.string ⟨#[]⟩, .int .i64 30]) ∧ Under w0 w := by
  have HC := Lib.hid (show Calls Tryz.prog 18 #[.slice p (flat T).length c] w0 fun e w => e = .returned (.tuple #[.int .i64 (topT T 0 + 1), .int .i64 0]) ∧ Under w0 w from (free_any (c := c) hcap (by simp only [maxLen]; omega) hs hp hS).mono fun e w hF => by unfold FreeOut at hF; rw [check_of_tree hok hd hl, if_pos rfl, freeN_tree T hok] at hF; exact hF)
  have h' := (topT_in T hok 0).2 h
  have h'' := (topT_range T hok 0).2
  clear hok hd hl hs hp hS h
  generalize topT T 0 = ce at *
  have h3 : (0 : Int) < ce + 1 := by omega
  go_enter Tryz.func8, Tryz.ntmps8
  go_wp2_with fail
  refine HC.out.mono ?_
  rintro e w1 ⟨rfl, hU1⟩
  have HU1 := Lib.hid hU1
  clear hU1
  go_wp2
  go_ret2
  exact ⟨rfl, HU1.out⟩
set_option maxRecDepth 100000 in
set_option maxHeartbeats 2000000 in
theorem pprint_ok (T : Tm) (av : List ByteArray) {p : Option Addr} {c : Nat} {va : Value} (hok : okT T) (hd : deepT T ≤ 60) (hl : (flat T).length ≤ 4000) (ha : av.length ≤ 50000) (hs : ∀ x ∈ flat T, x.s.size ≤ 100000) (hcap : (flat T).length ≤ c) (hp0 : p = none → c = 0) (hp : RowArg w0 p (ndCells (flat T))) (hva : TextsV w0 va av) (hS : ShapesAt 0 w0) (hW : Pow10 w0) (h : inT T 0) :
    Calls Tryz.prog 8 #[.slice p (flat T).length c, va] w0 fun e w => e = .returned (.tuple #[.string ⟨(sayT (namesB conB [] (flat T) ++ av) T []).toArray⟩, .int .i64 0]) ∧ Under w0 w := by
  have hck := check_of_tree hok hd hl
  have HC := Lib.hid (show Calls Tryz.prog 18 #[.slice p (flat T).length c] w0 fun e w => e = .returned (.tuple #[.int .i64 0, .int .i64 0]) ∧ Under w0 w from (free_any (c := c) hcap (by simp only [maxLen]; omega) (fun x hx => by have := hs x hx; simp only [maxLen]; omega) hp hS).mono fun e w hF => by unfold FreeOut at hF; rw [hck, if_pos rfl, freeN_tree T hok, (topT_in T hok 0).1 h] at hF; exact hF)
  have HN := Lib.hid (fun w (hU : Under w0 w) => pnames_ok (w0 := w) (c := c) (flat T) hs (by omega) (hp.under hU) (hS.under hU) hck)
  have hnl := namesB_len conB (flat T) []
  rw [List.length_nil, Nat.zero_add] at hnl
  have hTV : TermV w0 (.slice p (flat T).length c) (flat T) := ⟨p, c, rfl, hcap, hp0, hp⟩
  have hlast : (flat T)[(flat T).length - 1]? = some T.root := by
    rw [← List.getLast?_eq_getElem?, List.getLast?_eq_some_getLast (flat_ne T), flat_last]
  have hab : ∀ b off x n' c', (Value.slice p (flat T).length c) = .slice (some ⟨b, off, x⟩) n' c' → b < w0.heap.size := fun b off x n' c' e => by
    obtain ⟨b', off', e', hb', _⟩ := RowArg.node hp hlast
    cases e
    cases e'
    exact hb'
  have HWd := Lib.hid (fun (w : World) (pb hb tb : Nat) (ks : Assoc) (hP : PrS w0 pb hb tb ks [] (.slice none 0 0) w) (hT : TakenIs ks ((namesB conB [] (flat T) ++ av) ++ [])) => words_all T hok hd hl w0 w pb hb tb ks [] (namesB conB [] (flat T) ++ av) (.slice none 0 0) (.slice p (flat T).length c) hW hS hP hT (TermV.mono _ _ _ _ hP.und hTV)
    (fun b off x n' c' e hc => by
      have h1 := hab b off x n' c' e
      have h2 := hP.low b hc
      omega) (by rw [List.length_append]; omega) (by simp; omega) (fun s hs => by simp at hs) h)
  generalize hNN : namesB conB [] (flat T) = N at *
  generalize sayT (N ++ av) T [] = R at *
  have HVa := Lib.hid hva
  obtain ⟨qa, ca, rfl, _, _, _⟩ := hva
  clear hok hd hs hp hTV hlast hab hS hW hck h hNN
  generalize (flat T).length = tl at *
  go_enter Tryz.func8, Tryz.ntmps8
  go_wp2_with fail
  refine HC.out.mono ?_
  rintro e w1 ⟨rfl, hU1⟩
  have HU1 := Lib.hid hU1
  clear hU1
  go_wp2_with fail
  refine (HN.out _ HU1.out).mono ?_
  rintro e w2 ⟨a, b, rfl, hA, hB, hU2⟩
  have HU2 := Lib.hid (HU1.out.trans hU2)
  have HA := Lib.hid (TextsV.of_own hA)
  have hbase2 := HU2.out.size
  obtain ⟨q2, d2, rfl, _, _⟩ := RowArg.of_own hA
  obtain ⟨q3, d3, rfl, _, _⟩ := RowArg.of_own hB
  clear hA hB hU2
  have hmm := @run_makeMap Tryz.prog
  go_wp2_with fail
  refine (heads_any (w0 := w2)).mono ?_
  rintro e w3 ⟨rfl, hM3, hU3⟩
  have HM3 := Lib.hid hM3
  have HU3 := Lib.hid hU3
  have hsz3 := hM3.lt
  clear hM3 hU3
  obtain ⟨wB, hwB⟩ : ∃ wB, wB = (w3.alloc (.map #[] 0)).alloc (.cells #[.map (some w2.heap.size), .map (some w3.heap.size), .slice none 0 0] 46) := ⟨_, rfl⟩
  have hUB : Under w3 wB := by rw [hwB]; exact under_alloc (under_alloc (Under.refl w3) _) _
  have hzB : wB.heap.size = w3.heap.size + 2 := by rw [hwB]; simp
  have hBB : BoxAt wB (w3.heap.size + 1) 46 #[.map (some w2.heap.size), .map (some w3.heap.size), .slice none 0 0] := by
    have := box_new (w3.alloc (.map #[] 0)) #[.map (some w2.heap.size), .map (some w3.heap.size), .slice none 0 0] 46
    rw [World.size_alloc] at this
    rw [hwB]
    exact this
  have hTB : MapAt wB w3.heap.size [] := by rw [hwB]; exact (map_new w3).under (under_alloc (Under.refl _) _)
  have hHB : MapIAt wB w2.heap.size headsL := HM3.out.same (hUB.low _ hsz3)
  have hUC := under_alloc (Under.refl wB) (.cells #[.slice q2 N.length d2, .slice qa av.length ca] 23)
  have HCc := Lib.hid (concatStrs_any (w0 := wB.alloc (.cells #[.slice q2 N.length d2, .slice qa av.length ca] 23)) [N, av] (v := .slice (some ⟨w3.heap.size + 1 + 1, 0, none⟩) 2 2) (by simp) (by simp; omega)
    ⟨some ⟨w3.heap.size + 1 + 1, 0, none⟩, 2, [.slice q2 N.length d2, .slice qa av.length ca], rfl, by simp, (fun h => by cases h), (by have := arg_new wB [.slice q2 N.length d2, .slice qa av.length ca] 23 (0, 0); rw [hzB] at this; exact this),
      (Zip.one (HA.out.under (HU3.out.trans (hUB.trans hUC)))).app (Zip.one (HVa.out.under (HU2.out.trans (HU3.out.trans (hUB.trans hUC)))))⟩)
  have hflat : [N, av].flatten = N ++ av := by simp
  rw [hflat] at HCc
  have HUB := Lib.hid hUB
  have HBB := Lib.hid hBB
  have HTB := Lib.hid hTB
  have HHB := Lib.hid hHB
  have HWB := Lib.hid hwB
  have HZB := Lib.hid hzB
  have HUC := Lib.hid hUC
  have hLlen : (N ++ av).length ≤ 100000 := by rw [List.length_append]; omega
  have HWd' := Lib.hid (fun w pb hb tb ks hP (hT : TakenIs ks (N ++ av)) => HWd.out w pb hb tb ks hP (by rw [List.append_nil]; exact hT))
  clear hUB hBB hTB hHB hzB hUC hflat HWd
  generalize N ++ av = L at *
  go_wp2_with fail
  rw [← HWB.out]
  refine HCc.out.mono ?_
  rintro e w5 ⟨v5, rfl, hr5, hU5⟩
  have HR5 := Lib.hid hr5
  have hU5' := HUC.out.trans hU5
  have HB5 := Lib.hid (HBB.out.under hU5')
  have HT5 := Lib.hid (HTB.out.under hU5')
  have HH5 := Lib.hid (HHB.out.same (hU5'.low _ HHB.out.lt))
  have HU5 := Lib.hid (HUB.out.trans hU5')
  have HU05 := Lib.hid (HU2.out.trans (HU3.out.trans HU5.out))
  have hb0 : w0.heap.size ≤ w2.heap.size := hbase2
  have hb3 := HU3.out.size
  obtain ⟨q5, d5, rfl, _, _⟩ := RowArg.of_own hr5
  have hL0 : (0 : Int) ≤ (L.length : Int) := by omega
  have hL9 : (L.length : Int) ≤ 100000 := by omega
  have hlen5 : (wB.alloc (.cells #[.slice q2 N.length d2, .slice qa av.length ca] 23)).heap.size = w3.heap.size + 3 := by rw [World.size_alloc, HZB.out]
  have HZ5 := Lib.hid hlen5
  clear hr5 hU5 hU5' hwB hlen5
  go_wp2
  go_loopw [41] (fun i wr => PtRel w5 w3.heap.size L i wr) (fun i _ => L.length - (intOf i).toNat)
  case atStart => exact ⟨0, [], Nat.zero_le _, rfl, takenIs_nil, HT5.out, Ch.refl _⟩
  case round =>
    obtain ⟨k, ks, hk, rfl, hT, hM, hC⟩ := hrel
    have HM := Lib.hid hM
    have HT := Lib.hid hT
    have HC' := Lib.hid hC
    have hBw := box_ch HB5.out hC (by omega)
    have hRw := row_ch HR5.out hC (fun g hg e => by have := (row_lt HR5.out hg).1; rw [HZ5.out] at this; omega)
    have HBw := Lib.hid hBw
    have HRw := Lib.hid hRw
    have e1 : wr.cell? ⟨w3.heap.size + 1, 1, none⟩ = some (.map (some w3.heap.size)) := hBw.cell 1
    have el := hBw.lt
    clear hM hT hC hBw hRw
    by_cases hlt : k < L.length
    · obtain ⟨q', c', eq', _, hra⟩ := RowArg.of_own HRw.out
      cases eq'
      obtain ⟨b1, off1, rfl, hb1, cc⟩ := text_at hra hlt
      have HTk := Lib.hid (show L.take (k + 1) = L.take k ++ [L[k]] from List.take_succ_eq_append_getElem hlt)
      clear hra
      generalize L[k] = x at *
      have hlt' : (k : Int) < (L.length : Int) := by omega
      go_wp2_with (refine wpList_insert_map rfl _ _ _ (Or.inr rfl) Tryz.underlying44 Tryz.underlying9 rfl HM.out rfl rfl ?_)
      intro w6 hM6 hT6
      have HM6 := Lib.hid hM6
      have HC6 := Lib.hid (HC'.out.turned hT6 (fun g e _ => by cases e; rfl))
      clear hM6 hT6
      go_wp2
      go_roundw
      case rel => exact ⟨k + 1, _, by omega, by go_num, by rw [HTk.out]; exact HT.out.put, HM6.out, HC6.out⟩
      case measure => simp [intOf]; omega
    · obtain rfl : k = L.length := by omega
      have HT2 := HT.out
      rw [List.take_length] at HT2
      have HP := Lib.hid (show PrS w0 (w3.heap.size + 1) w2.heap.size w3.heap.size ks [] (.slice none 0 0) wr from
        ⟨HBw.out, HH5.out.same (HC'.out.block _ HH5.out.lt (by omega)), HM.out, World.ownsRow_nil _ _ _ _, under_ch HU05.out HC'.out (fun b hb => by omega), ⟨by omega, by omega, by omega⟩⟩)
      have HQ := Lib.hid (HWd'.out wr _ _ _ _ HP.out HT2)
      clear HT2 e1 el
      go_wp2_with fail
      refine HQ.out.mono ?_
      rintro e w7 ⟨rfl, sv7, hP7, _, _⟩
      have HU7 := Lib.hid hP7.und
      clear hP7
      go_wp2
      go_ret2
      exact ⟨rfl, HU7.out⟩
end
end Go.Proofs.YtiibknlpeodejaaGreatDoor

/- cornicelaw09.heavy, keyed: what they say. -/
namespace Go.Proofs.YtiibknlpeodejaaGreatDoor
open Go.Lx Go.RowKit

/-- What heavy says. -/
def HzOut (w0 : World) (t : List Nd) (av : List ByteArray) (e : Ending) (w : World) : Prop := ∃ b, e = .returned (.bool b) ∧ w = w0 ∧ (b = false → t.length ≤ 120 ∧ av.length ≤ 30 ∧ (∀ x ∈ t, x.s.size ≤ 100) ∧ ∀ s ∈ av, s.size ≤ 100)
theorem HzOut.yes {w0 : World} {t : List Nd} {av : List ByteArray} : HzOut w0 t av (.returned (.bool true)) w0 := ⟨true, rfl, rfl, fun h => by cases h⟩
def HzRel {α : Type} (w0 : World) (t : List α) (f : α → Prop) (i : Value) (wr : World) : Prop := ∃ k : Nat, k ≤ t.length ∧ i = .int .i64 (k : Int) ∧ (∀ x ∈ t.take k, f x) ∧ wr = w0
theorem take_allZ {α : Type} {l : List α} {k : Nat} {Pr : α → Prop} (hk : k < l.length) (h : ∀ x ∈ l.take k, Pr x) (h1 : Pr l[k]) : ∀ x ∈ l.take (k + 1), Pr x := by
  rw [List.take_succ_eq_append_getElem hk]
  intro x hx
  rcases List.mem_append.1 hx with hx | hx
  · exact h x hx
  · rw [List.mem_singleton.1 hx]; exact h1
/-- Is one of these names a keyword? -/
def keyedB (l : List ByteArray) : Bool := l.any fun s => formB s || leafB s
def KyRel (w0 : World) (l : List ByteArray) (i : Value) (wr : World) : Prop := ∃ k : Nat, k ≤ l.length ∧ i = .int .i64 (k : Int) ∧ keyedB l = keyedB (l.drop k) ∧ Under w0 wr
section
variable {w0 : World}
set_option maxRecDepth 100000 in
set_option maxHeartbeats 1000000 in
theorem heavy_any (t : List Nd) (av : List ByteArray) {v va : Value} (hv : TermV w0 v t) (hva : TextsV w0 va av) : Calls Tryz.prog 6 #[v, va] w0 (HzOut w0 t av) := by
  obtain ⟨p, c, rfl, _, _, hp⟩ := hv
  obtain ⟨q, d, rfl, _, _, hq⟩ := hva
  have HP := Lib.hid hp
  have HQ := Lib.hid hq
  have hl0 : (0 : Int) ≤ t.length := by omega
  have ha0 : (0 : Int) ≤ av.length := by omega
  clear hp hq
  by_cases hl : t.length ≤ 120
  · have hl' : ¬ (120 : Int) < t.length := by omega
    by_cases ha : av.length ≤ 30
    · have ha' : ¬ (30 : Int) < av.length := by omega
      go_enter Tryz.func6, Tryz.ntmps6
      go_wp2
      go_loopw [5] (fun i wr => HzRel w0 t (fun x => x.s.size ≤ 100) i wr) (fun i _ => t.length - (intOf i).toNat)
      case atStart => exact ⟨0, Nat.zero_le _, rfl, fun x h => by simp at h, rfl⟩
      case round =>
        obtain ⟨k, hk, rfl, hN, rfl⟩ := hrel
        have HN := Lib.hid hN
        clear hN
        by_cases hlt : k < t.length
        · obtain ⟨b, off, rfl, hb, c0, c1, c2, c3⟩ := RowArg.node HP.out (List.getElem?_eq_getElem hlt)
          have HD := Lib.hid (fun h => take_allZ (Pr := fun x : Nd => x.s.size ≤ 100) hlt HN.out h)
          clear c0 c1 c2
          generalize t[k] = x at *
          by_cases hs : x.s.size ≤ 100
          · have hs' : ¬ (100 : Int) < x.s.size := by omega
            have HS := Lib.hid (HD.out hs)
            clear hs
            go_wp2
            go_roundw
            case rel => exact ⟨k + 1, by omega, by go_num, HS.out, rfl⟩
            case measure => simp [intOf]; omega
          · have hs' : (100 : Int) < x.s.size := by omega
            clear hs
            go_wp2
            go_ret
            exact HzOut.yes
        · obtain rfl : k = t.length := by omega
          have HT := HN.out
          rw [List.take_length] at HT
          replace HT := Lib.hid HT
          clear HN
          go_wp2
          go_loopw [6] (fun i w2 => HzRel wr av (fun s => s.size ≤ 100) i w2) (fun i _ => av.length - (intOf i).toNat)
          case atStart => exact ⟨0, Nat.zero_le _, rfl, fun x h => by simp at h, rfl⟩
          case round =>
            obtain ⟨k, hk, rfl, hN, rfl⟩ := hrel
            have HN := Lib.hid hN
            clear hN
            by_cases hlt : k < av.length
            · obtain ⟨b, off, rfl, hb, cc⟩ := text_at HQ.out hlt
              have HD := Lib.hid (fun h => take_allZ (Pr := fun s : ByteArray => s.size ≤ 100) hlt HN.out h)
              generalize av[k] = x at *
              by_cases hs : x.size ≤ 100
              · have hs' : ¬ (100 : Int) < x.size := by omega
                have HS := Lib.hid (HD.out hs)
                clear hs
                go_wp2
                go_roundw
                case rel => exact ⟨k + 1, by omega, by go_num, HS.out, rfl⟩
                case measure => simp [intOf]; omega
              · have hs' : (100 : Int) < x.size := by omega
                clear hs
                go_wp2
                go_ret
                exact HzOut.yes
            · obtain rfl : k = av.length := by omega
              have HA := HN.out
              rw [List.take_length] at HA
              replace HA := Lib.hid HA
              clear HN
              go_wp2
              go_ret
              exact ⟨false, rfl, rfl, fun _ => ⟨hl, ha, HT.out, HA.out⟩⟩
    · have ha' : (30 : Int) < av.length := by omega
      clear ha
      go_enter Tryz.func6, Tryz.ntmps6
      go_wp2
      go_ret
      exact HzOut.yes
  · have hl' : (120 : Int) < t.length := by omega
    clear hl
    go_enter Tryz.func6, Tryz.ntmps6
    go_wp2
    go_ret
    exact HzOut.yes
set_option maxRecDepth 100000 in
set_option maxHeartbeats 1000000 in
theorem keyed_any (l : List ByteArray) {v : Value} (hn : l.length ≤ 100000) (hv : TextsV w0 v l) : Calls Tryz.prog 16 #[v] w0 fun e w => e = .returned (.bool (keyedB l)) ∧ Under w0 w := by
  obtain ⟨q, d, rfl, _, _, hq⟩ := hv
  have HQ := Lib.hid hq
  have hl0 : (0 : Int) ≤ l.length := by omega
  have hl9 : (l.length : Int) ≤ 100000 := by omega
  clear hq
  go_enter Tryz.func16, Tryz.ntmps16
  go_wp2
  go_loopw [3] (fun i wr => KyRel w0 l i wr) (fun i _ => l.length - (intOf i).toNat)
  case atStart => exact ⟨0, Nat.zero_le _, rfl, by simp, Under.refl _⟩
  case round =>
    obtain ⟨k, hk, rfl, hN, hU⟩ := hrel
    have HN := Lib.hid hN
    have HU := Lib.hid hU
    clear hN hU
    by_cases hlt : k < l.length
    · obtain ⟨b, off, rfl, hb, cc⟩ := text_at (HQ.out.under HU.out) hlt
      have HD := Lib.hid (show keyedB (l.drop k) = ((formB l[k] || leafB l[k]) || keyedB (l.drop (k + 1))) by rw [List.drop_eq_getElem_cons hlt]; rfl)
      have HK := Lib.hid (fun w => rkeyword_any (w0 := w) l[k])
      generalize l[k] = x at *
      generalize (formB x || leafB x) = r at *
      cases r
      · go_wp2_with fail
        refine (HK.out _).mono ?_
        rintro e w2 ⟨rfl, hU2⟩
        have HU2 := Lib.hid (HU.out.trans hU2)
        clear hU2
        go_wp2
        go_roundw
        case rel => exact ⟨k + 1, by omega, by go_num, by rw [HN.out, HD.out]; rfl, HU2.out⟩
        case measure => simp [intOf]; omega
      · go_wp2_with fail
        refine (HK.out _).mono ?_
        rintro e w2 ⟨rfl, hU2⟩
        have HU2 := Lib.hid (HU.out.trans hU2)
        clear hU2
        go_wp2
        go_ret
        exact ⟨by rw [HN.out, HD.out]; rfl, HU2.out⟩
    · obtain rfl : k = l.length := by omega
      go_wp2
      go_ret
      exact ⟨by rw [HN.out, List.drop_length]; rfl, HU.out⟩
end
end Go.Proofs.YtiibknlpeodejaaGreatDoor

/- What Print and Names answer, the program's and the document's: the same. -/
namespace Go.Proofs.YtiibknlpeodejaaGreatDoor
open Go.Lx Go.RowKit

/-- What a term is printed as. -/
def PrOut (t : List Nd) (av : List ByteArray) (s : List UInt8) (e : Int) : Prop :=
  (e = 0 ∧ ∃ T, flat T = t ∧ okT T ∧ deepT T ≤ 60 ∧ inT T 0 ∧ s = sayT (namesB conB [] t ++ av) T []) ∨ (e ≠ 0 ∧ s = [])
/-- What a walk of the laws holds. -/
structure Base (W : World) : Prop where
  shapes : ShapesAt 0 W
  pow : Pow10 W
theorem Base.under {W w : World} (h : Base W) (hU : Under W w) : Base w := ⟨h.shapes.under hU, h.pow.under hU⟩
abbrev outV (s : List UInt8) (e : Int) : Ending := .returned (.tuple #[.string ⟨s.toArray⟩, .int .i64 e])
theorem prints_any (t : List Nd) (av : List ByteArray) (hl : t.length ≤ 120) (ha : av.length ≤ 30) (hs : ∀ x ∈ t, x.s.size ≤ 100) : ∃ s e, PrOut t av s e ∧
    (∀ (w : World) (v va : Value), TermV w v t → TextsV w va av → Base w → Calls Tryz.prog 8 #[v, va] w fun x w' => x = outV s e ∧ Under w w') ∧
    (∀ (w : World) (v va : Value), TermV w v t → TextsV w va av → Calls Tryz.prog 9 #[v, va] w fun x w' => x = outV s e ∧ Under w w') := by
  have hsm : ∀ x ∈ t, x.s.size ≤ maxLen := fun x hx => by have := hs x hx; simp only [maxLen]; omega
  have hlm : t.length ≤ maxLen := by simp only [maxLen]; omega
  by_cases h : checkE t = 0
  · obtain ⟨T, rfl, hok, hd, hl4⟩ := tree_of_check h
    by_cases hin : inT T 0
    · refine ⟨_, 0, .inl ⟨rfl, T, rfl, hok, hd, hin, rfl⟩, ?_, ?_⟩
      · rintro w v va ⟨p, c, rfl, hcap, hp0, hp⟩ hva hB
        exact pprint_ok T av hok hd hl4 (by omega) (fun x hx => by have := hs x hx; omega) hcap hp0 hp hva hB.shapes hB.pow hin
      · rintro w v va hv hva
        exact rprint_ok T av hok hd hl4 (by omega) hv hva hin
    · refine ⟨[], 30, .inr ⟨by decide, rfl⟩, ?_, ?_⟩
      · rintro w v va ⟨p, c, rfl, hcap, hp0, hp⟩ hva hB
        exact pprint_open T hok hd hl4 hcap hsm hp hB.shapes hin
      · rintro w v va hv hva
        exact rprint_open T hok hd hl4 hv hin
  · refine ⟨[], checkE t, .inr ⟨h, rfl⟩, ?_, ?_⟩
    · rintro w v va ⟨p, c, rfl, hcap, hp0, hp⟩ hva hB
      exact pprint_bad t hcap hlm hsm hp hB.shapes h
    · rintro w v va hv hva
      exact rprint_bad t hlm hv h
/-- The names of a term. -/
def nmZ (p : Nd → Bool) (t : List Nd) : List ByteArray := if checkE t = 0 then namesB p [] t else []
def NmOut (w : World) (t : List Nd) (x : Ending) (w' : World) : Prop := ∃ q c q' c', x = .returned (.tuple #[.slice q (nmZ conB t).length c, .slice q' (nmZ datB t).length c', .int .i64 (checkE t)]) ∧ TextsV w' (.slice q (nmZ conB t).length c) (nmZ conB t) ∧ TextsV w' (.slice q' (nmZ datB t).length c') (nmZ datB t) ∧ Under w w'
theorem nmOut_of {w w' : World} {t : List Nd} {a b : Value} (ha : TextsV w' a (nmZ conB t)) (hb : TextsV w' b (nmZ datB t)) (hU : Under w w') : NmOut w t (.returned (.tuple #[a, b, .int .i64 (checkE t)])) w' := by
  have ha' := ha
  have hb' := hb
  obtain ⟨q, c, rfl, _⟩ := ha'
  obtain ⟨q', c', rfl, _⟩ := hb'
  exact ⟨q, c, q', c', rfl, ha, hb, hU⟩
theorem pnames_any (t : List Nd) (hl : t.length ≤ 120) (hs : ∀ x ∈ t, x.s.size ≤ 100) (w : World) (v : Value) (hv : TermV w v t) (hB : Base w) : Calls Tryz.prog 10 #[v] w (NmOut w t) := by
  obtain ⟨p, c, rfl, hcap, hp0, hp⟩ := hv
  by_cases h : checkE t = 0
  · refine (pnames_ok (c := c) t (fun x hx => by have := hs x hx; omega) (by omega) hp hB.shapes h).mono ?_
    rintro e w' ⟨a, b, rfl, ha, hb, hU⟩
    have e1 : ∀ p, nmZ p t = namesB p [] t := fun p => if_pos h
    have := nmOut_of (t := t) (a := a) (b := b) (by rw [e1]; exact TextsV.of_own ha) (by rw [e1]; exact TextsV.of_own hb) hU
    rwa [h] at this
  · refine (pnames_bad (c := c) t (by simp only [maxLen]; omega) (fun x hx => by have := hs x hx; simp only [maxLen]; omega) hp hB.shapes h).mono ?_
    rintro e w' ⟨rfl, hU⟩
    have e1 : ∀ p, nmZ p t = [] := fun p => if_neg h
    exact nmOut_of (t := t) (by rw [e1]; exact TextsV.nil _) (by rw [e1]; exact TextsV.nil _) hU
theorem rnames_any (t : List Nd) (hl : t.length ≤ 120) (w : World) (v : Value) (hv : TermV w v t) : Calls Tryz.prog 11 #[v] w (NmOut w t) := by
  by_cases h : checkE t = 0
  · refine (rnames_ok t (by omega) hv h).mono ?_
    rintro e w' ⟨a, b, rfl, ha, hb, hU⟩
    have e1 : ∀ p, nmZ p t = namesB p [] t := fun p => if_pos h
    have := nmOut_of (t := t) (a := a) (b := b) (by rw [e1]; exact TextsV.of_own ha) (by rw [e1]; exact TextsV.of_own hb) hU
    rwa [h] at this
  · refine (rnames_bad t (by simp only [maxLen]; omega) hv h).mono ?_
    rintro e w' ⟨rfl, hU⟩
    have e1 : ∀ p, nmZ p t = [] := fun p => if_neg h
    exact nmOut_of (t := t) (by rw [e1]; exact TextsV.nil _) (by rw [e1]; exact TextsV.nil _) hU
theorem nmZ_len (p : Nd → Bool) (t : List Nd) : (nmZ p t).length ≤ t.length := by
  unfold nmZ
  split
  · have := namesB_len p t []
    simpa using this
  · simp
theorem textsB_refl : ∀ l : List ByteArray, textsB l l = true
  | [] => rfl
  | x :: l => by simp [textsB, textsB_refl l]
section
variable {w0 : World}
/-- The term Nat. -/
def natT : Tm := .mk ⟨10, 0, 0, ⟨#[]⟩⟩ []
theorem natT_ok : okT natT := ⟨by kernel_rfl, by kernel_rfl, trivial⟩
theorem natT_in : inT natT 0 := by unfold natT inT; rw [if_neg (by decide)]; unfold inTs; trivial
theorem nat_print {w : World} {b : Nat} (hp : RowArg w (some ⟨b, 0, none⟩) (ndCells [⟨10, 0, 0, ⟨#[]⟩⟩])) (hB : Base w) : Calls Tryz.prog 8 #[.slice (some ⟨b, 0, none⟩) 1 1, .slice none 0 0] w fun e w' => e = .returned (.tuple #[.string ⟨#[78, 97, 116]⟩, .int .i64 0]) ∧ Under w w' := by
  have h := pprint_ok (w0 := w) natT [] (p := some ⟨b, 0, none⟩) (c := 1) (va := .slice none 0 0) natT_ok (by decide) (by decide) (by decide) (fun x hx => by rw [List.mem_singleton.1 hx]; decide) (by decide) (fun h => by cases h) hp (TextsV.nil _) hB.shapes hB.pow natT_in
  have e : (sayT (namesB conB [] (flat natT) ++ []) natT []).toArray = #[78, 97, 116] := by kernel_rfl
  rw [e] at h
  exact h
set_option maxRecDepth 100000 in
set_option maxHeartbeats 1000000 in
theorem shown_any (hB : Base w0) : Calls Tryz.prog 7 #[] w0 fun e w => e = .returned (.bool true) ∧ Under w0 w := by
  have HU := Lib.hid (under_alloc (Under.refl w0) (.cells #[.int .i64 10, .int .i64 0, .int .i64 0, .string ⟨#[]⟩] 38))
  have HP := Lib.hid (nat_print (b := w0.heap.size) (arg_new w0 [.int .i64 10, .int .i64 0, .int .i64 0, .string ⟨#[]⟩] 38 (0, 0)) (hB.under HU.out))
  have HN := Lib.hid (fun w (h : Under w0 w) => pname_any (w0 := w) 3 (by decide) (by decide) (hB.under h).pow)
  have e3 : nameZ 3 = ⟨#[120, 51]⟩ := by kernel_rfl
  rw [e3] at HN
  clear hB e3
  go_enter Tryz.func7, Tryz.ntmps7
  go_wp2_with fail
  refine HP.out.mono ?_
  rintro e w1 ⟨rfl, hU1⟩
  have HU1 := Lib.hid (HU.out.trans hU1)
  clear hU1
  go_wp2_with fail
  refine (HN.out _ HU1.out).mono ?_
  rintro e w2 ⟨rfl, hU2⟩
  have HU2 := Lib.hid (HU1.out.trans hU2)
  clear hU2
  go_wp2
  go_ret
  exact ⟨rfl, HU2.out⟩
end
end Go.Proofs.YtiibknlpeodejaaGreatDoor

/- cornicelaw09.PrettyPrints: it answers yes. -/
namespace Go.Proofs.YtiibknlpeodejaaGreatDoor
open Go.Lx Go.RowKit

section
variable {w0 : World}
set_option maxRecDepth 100000 in
set_option maxHeartbeats 4000000 in
theorem prints_law (t : List Nd) (av : List ByteArray) (k : Int) (k0 : -9223372036854775808 ≤ k) (k1 : k ≤ 9223372036854775807) {v va : Value} (hB : Base w0) (hv : TermV w0 v t) (hva : TextsV w0 va av) :
    Calls Tryz.prog 3 #[v, va, .int .i64 k] w0 fun e w => e = .returned (.bool true) ∧ Under w0 w := by
  have HH := Lib.hid (heavy_any t av hv hva)
  have HSh := Lib.hid (fun w (h : Under w0 w) => shown_any (hB.under h))
  have HNa := Lib.hid (fun w (h : Under w0 w) => pname_any (w0 := w) k k0 k1 (hB.under h).pow)
  have HNb := Lib.hid (fun w => rfname_any (w0 := w) k k0 k1)
  have HB := Lib.hid hB
  have HV := Lib.hid hv
  have HA := Lib.hid hva
  obtain ⟨p, c, rfl, _, _, _⟩ := hv
  obtain ⟨q, d, rfl, _, _, _⟩ := hva
  clear hB k0 k1
  generalize nameZ k = nk at *
  go_enter Tryz.func3, Tryz.ntmps3
  go_wp2_with fail
  refine HH.out.mono ?_
  rintro e w1 ⟨hb, rfl, rfl, hlight⟩
  cases hb
  case true =>
    clear hlight
    go_wp2_with fail
    refine (HSh.out _ (Under.refl _)).mono ?_
    rintro e w2 ⟨rfl, hU2⟩
    have HU2 := Lib.hid hU2
    clear hU2
    go_wp2
    go_ret
    exact ⟨rfl, HU2.out⟩
  case false =>
    obtain ⟨h1, h2, h3, _⟩ := hlight rfl
    obtain ⟨s, e, ho, hp, hr⟩ := prints_any t av h1 h2 h3
    have HP := Lib.hid (fun w (h : Under w1 w) => hp w _ _ (TermV.mono _ _ _ _ h HV.out) (HA.out.under h) (HB.out.under h))
    have HR := Lib.hid (fun w (h : Under w1 w) => hr w _ _ (TermV.mono _ _ _ _ h HV.out) (HA.out.under h))
    have HN := Lib.hid (fun w (h : Under w1 w) => pnames_any t h1 h3 w _ (TermV.mono _ _ _ _ h HV.out) (HB.out.under h))
    have HM := Lib.hid (fun w (h : Under w1 w) => rnames_any t h1 w _ (TermV.mono _ _ _ _ h HV.out))
    have HLa := Lib.hid (show (nmZ conB t).length ≤ maxLen by have := nmZ_len conB t; simp only [maxLen]; omega)
    have HLb := Lib.hid (show (nmZ datB t).length ≤ maxLen by have := nmZ_len datB t; simp only [maxLen]; omega)
    clear hlight ho hp hr h1 h2 h3
    generalize checkE t = ce at *
    go_wp2_with fail
    refine (HSh.out _ (Under.refl _)).mono ?_
    rintro e w2 ⟨rfl, hU2⟩
    have HU2 := Lib.hid hU2
    clear hU2
    go_wp2_with fail
    refine (HP.out _ HU2.out).mono ?_
    rintro e w3 ⟨rfl, hU3⟩
    have HU3 := Lib.hid (HU2.out.trans hU3)
    clear hU3
    go_wp2_with fail
    refine (HR.out _ HU3.out).mono ?_
    rintro e w4 ⟨rfl, hU4⟩
    have HU4 := Lib.hid (HU3.out.trans hU4)
    clear hU4
    go_wp2_with fail
    refine (HN.out _ HU4.out).mono ?_
    rintro e w5 ⟨q1, c1, q2, c2, rfl, ha5, hb5, hU5⟩
    have HU5 := Lib.hid (HU4.out.trans hU5)
    have HA5 := Lib.hid ha5
    have HB5 := Lib.hid hb5
    clear hU5 ha5 hb5
    go_wp2_with fail
    refine (HM.out _ HU5.out).mono ?_
    rintro e w6 ⟨q3, c3, q4, c4, rfl, ha6, hb6, hU6⟩
    have HU6 := Lib.hid (HU5.out.trans hU6)
    have HA6 := Lib.hid (fun w (h : Under w6 w) => texts_any _ _ HLa.out (HA5.out.under (hU6.trans h)) (ha6.under h))
    have HB6 := Lib.hid (fun w (h : Under w6 w) => texts_any _ _ HLb.out (HB5.out.under (hU6.trans h)) (hb6.under h))
    clear hU6 ha6 hb6
    simp only [textsB_refl] at HA6 HB6
    go_wp2_with fail
    refine (HA6.out _ (Under.refl _)).mono ?_
    rintro e w7 ⟨rfl, hU7⟩
    have HU7 := Lib.hid hU7
    clear hU7
    go_wp2_with fail
    refine (HB6.out _ HU7.out).mono ?_
    rintro e w8 ⟨rfl, hU8⟩
    have HU8 := Lib.hid (HU6.out.trans (HU7.out.trans hU8))
    clear hU8
    go_wp2_with fail
    refine (HNa.out _ HU8.out).mono ?_
    rintro e w9 ⟨rfl, hU9⟩
    have HU9 := Lib.hid (HU8.out.trans hU9)
    clear hU9
    go_wp2_with fail
    refine (HNb.out _).mono ?_
    rintro e w10 ⟨rfl, m, rfl⟩
    go_wp2
    go_ret
    exact ⟨rfl, under_drewN HU9.out _⟩
end
end Go.Proofs.YtiibknlpeodejaaGreatDoor

/- cornicelaw09.PrettyWords: it answers yes. -/
namespace Go.Proofs.YtiibknlpeodejaaGreatDoor
open Go.Lx Go.RowKit

theorem wordB_nat : ∀ n : Nat, n < 256 → wrdB (UInt8.ofNat n) = true → wordB (UInt8.ofNat n) = true := by decide +kernel
theorem wordB_of (c : UInt8) (h : wrdB c = true) : wordB c = true := by
  have h2 := wordB_nat c.toNat c.toNat_lt
  rw [show UInt8.ofNat c.toNat = c by simp] at h2
  exact h2 h
/-- What the loop finds at a byte. -/
theorem good_step {l : List UInt8} (h : GoodL l) {i : Nat} (hi : i < l.length) {d : Int} (hd : runP 0 (l.take i) = some d) :
    runP 0 (l.take (i + 1)) = some (d + dl l[i]) ∧ 0 ≤ d + dl l[i] ∧ (l[i] = 40 ∨ l[i] = 41 ∨ (l[i] = 32 ∧ 0 < i ∧ i + 1 < l.length ∧ (∀ h : i - 1 < l.length, l[i - 1] ≠ 32 ∧ l[i - 1] ≠ 40) ∧ ∀ h : i + 1 < l.length, l[i + 1] ≠ 41) ∨ (l[i] ≠ 40 ∧ l[i] ≠ 41 ∧ l[i] ≠ 32 ∧ wordB l[i] = true)) := by
  have h0 := h.run 0 (Int.le_refl _)
  rw [← List.take_append_drop (i + 1) l, runP_app, List.take_succ_eq_append_getElem hi, runP_app, hd] at h0
  simp only [Option.bind_some] at h0
  rw [List.take_succ_eq_append_getElem hi, runP_app, hd]
  simp only [Option.bind_some]
  have h1 : ¬ d + dl l[i] < 0 := by
    intro hlt
    rw [runP, if_pos hlt] at h0
    cases h0
  rw [runP, if_neg h1]
  refine ⟨rfl, by omega, ?_⟩
  have hb := h.byt l[i] (List.getElem_mem hi)
  unfold byteOk at hb
  by_cases h40 : l[i] = 40
  · exact .inl h40
  by_cases h41 : l[i] = 41
  · exact .inr (.inl h41)
  by_cases h32 : l[i] = 32
  · refine .inr (.inr (.inl ⟨h32, ?_, ?_, ?_, ?_⟩))
    · rcases Nat.eq_zero_or_pos i with rfl | hp
      · have := (h.fst l[0] (by rw [List.head?_eq_getElem?, List.getElem?_eq_getElem hi])).1
        exact absurd h32 this
      · exact hp
    · rcases Nat.lt_or_ge (i + 1) l.length with hp | hp
      · exact hp
      · have := (h.lst l[i] (by rw [List.getLast?_eq_getElem?, show l.length - 1 = i by omega, List.getElem?_eq_getElem hi])).1
        exact absurd h32 this
    · intro hj
      rcases Nat.eq_zero_or_pos i with rfl | hp
      · have := (h.fst l[0] (by rw [List.head?_eq_getElem?, List.getElem?_eq_getElem hi])).1
        exact absurd h32 this
      · have := adjB_at (l := l) (i := i - 1) (by omega) h.adj
        unfold nextOk at this
        have e : l[i - 1 + 1]'(by omega) = l[i] := by congr 1; omega
        rw [e, h32] at this
        constructor
        · intro e2; rw [e2] at this; simp at this
        · intro e2; rw [e2] at this; simp at this
    · intro hj
      have := adjB_at (l := l) (i := i) hj h.adj
      unfold nextOk at this
      rw [h32] at this
      intro e2; rw [e2] at this; simp at this
  · refine .inr (.inr (.inr ⟨h40, h41, h32, wordB_of _ ?_⟩))
    simpa [h40, h41, h32] using hb
def WsRel (w0 : World) (l : List UInt8) (d i : Value) (wr : World) : Prop := ∃ (k : Nat) (z : Int), k ≤ l.length ∧ i = .int .i64 (k : Int) ∧ d = .int .i64 z ∧ 0 ≤ z ∧ z ≤ k ∧ runP 0 (l.take k) = some z ∧ Under w0 wr
theorem dl_le (c : UInt8) : dl c ≤ 1 := by unfold dl; split <;> (try split) <;> omega
/-- What the law's loop goes over. -/
theorem out_good {t : List Nd} {av : List ByteArray} {s : List UInt8} {e : Int} (hl : t.length ≤ 120) (ha : av.length ≤ 30) (h : PrOut t av s e) : ∃ (S : ByteArray) (b : Bool), S = ⟨s.toArray⟩ ∧ (S.data.toList = [] ∨ GoodL S.data.toList) ∧ (e != 0) = b ∧ (S.toList == []) = b ∧ S.size ≤ 100000 := by
  rcases h with ⟨rfl, T, rfl, hok, _, hin, rfl⟩ | ⟨he, rfl⟩
  · have hg := sayT_good (namesB conB [] (flat T) ++ av) T hok [] (fun s h => by simp at h) hin
    refine ⟨_, false, rfl, .inr hg, rfl, ?_, ?_⟩
    · have := hg.ne
      rw [ByteArray.toList_eq]
      simpa using this
    · have h1 := namesB_len conB (flat T) []
      have h2 := sayT_len (namesB conB [] (flat T) ++ av) (by rw [List.length_append, List.length_nil] at *; omega) T hok [] (fun s h => by simp at h) (by simp; omega)
      show (sayT (namesB conB [] (flat T) ++ av) T []).toArray.size ≤ 100000
      rw [List.size_toArray]
      omega
  · exact ⟨_, true, rfl, .inl rfl, by simpa using he, by kernel_rfl, by decide⟩
theorem byte_at (S : ByteArray) (k : Nat) (h : k < S.size) (h' : k < S.data.toList.length) : S[k] = S.data.toList[k] := rfl
theorem byte_is {S : ByteArray} {k : Nat} {h : k < S.size} (h' : k < S.data.toList.length) {c : UInt8} (e : S.data.toList[k] = c) (n : Nat) : ((S[k].toNat : Int) == (n : Int)) = decide (c.toNat = n) := by
  rw [byte_at S k h h', e]
  rw [Bool.eq_iff_iff]
  simp
  omega
theorem byte_not {S : ByteArray} {k : Nat} {h : k < S.size} (h' : k < S.data.toList.length) {c : UInt8} (e : S.data.toList[k] ≠ c) : ((S[k].toNat : Int) == (c.toNat : Int)) = false := by
  rw [byte_at S k h h']
  have : ¬ (S.data.toList[k].toNat = c.toNat) := fun hh => e (UInt8.toNat_inj.1 hh)
  rw [beq_eq_false_iff_ne]
  exact fun hh => this (Int.ofNat.inj hh)
section
variable {w0 : World}
set_option maxRecDepth 100000 in
set_option maxHeartbeats 4000000 in
theorem words_law (t : List Nd) (av : List ByteArray) {v va : Value} (hB : Base w0) (hv : TermV w0 v t) (hva : TextsV w0 va av) : Calls Tryz.prog 4 #[v, va] w0 fun e w => e = .returned (.bool true) ∧ Under w0 w := by
  have HH := Lib.hid (heavy_any t av hv hva)
  have HSh := Lib.hid (fun w (h : Under w0 w) => shown_any (hB.under h))
  have HB := Lib.hid hB
  have HV := Lib.hid hv
  have HA := Lib.hid hva
  obtain ⟨p, c, rfl, _, _, _⟩ := hv
  obtain ⟨q, d, rfl, _, _, _⟩ := hva
  clear hB
  go_enter Tryz.func4, Tryz.ntmps4
  go_wp2_with fail
  refine HH.out.mono ?_
  rintro e w1 ⟨hb, rfl, rfl, hlight⟩
  cases hb
  case true =>
    clear hlight
    go_wp2_with fail
    refine (HSh.out _ (Under.refl _)).mono ?_
    rintro e w2 ⟨rfl, hU2⟩
    have HU2 := Lib.hid hU2
    clear hU2
    go_wp2
    go_ret
    exact ⟨rfl, HU2.out⟩
  case false =>
    obtain ⟨h1, h2, h3, _⟩ := hlight rfl
    obtain ⟨s, e, ho, hp, hr⟩ := prints_any t av h1 h2 h3
    have HP := Lib.hid (fun w (h : Under w1 w) => hp w _ _ (TermV.mono _ _ _ _ h HV.out) (HA.out.under h) (HB.out.under h))
    have HR := Lib.hid (fun w (h : Under w1 w) => hr w _ _ (TermV.mono _ _ _ _ h HV.out) (HA.out.under h))
    have HSm := Lib.hid (out_good h1 h2 ho)
    clear hlight ho hp hr h1 h2 h3
    go_wp2_with fail
    refine (HSh.out _ (Under.refl _)).mono ?_
    rintro e w2 ⟨rfl, hU2⟩
    have HU2 := Lib.hid hU2
    clear hU2
    go_wp2_with fail
    refine (HP.out _ HU2.out).mono ?_
    rintro e w3 ⟨rfl, hU3⟩
    have HU3 := Lib.hid (HU2.out.trans hU3)
    clear hU3
    go_wp2_with fail
    refine (HR.out _ HU3.out).mono ?_
    rintro e w4 ⟨rfl, hU4⟩
    have HU4 := Lib.hid (HU3.out.trans hU4)
    clear hU4
    obtain ⟨S, b, hS, hg, he, hb, hS9⟩ := HSm.out
    rw [← hS]
    have HLen := Lib.hid (show S.data.toList.length = S.size by rw [Array.length_toList]; rfl)
    have hS0 : (0 : Int) ≤ (S.size : Int) := by omega
    have HG := Lib.hid hg
    clear hS hg HSm HP HR HSh HH
    go_wp2
    go_loopw [9, 10] (fun d i wr => WsRel w4 S.data.toList d i wr) (fun _ i _ => S.size - (intOf i).toNat)
    case atStart => exact ⟨0, 0, Nat.zero_le _, rfl, rfl, Int.le_refl _, Int.le_refl _, rfl, Under.refl _⟩
    case round =>
      obtain ⟨k, z, hk, rfl, rfl, hz0, hzk, hR, hU⟩ := hrel
      rw [HLen.out] at hk
      have HR := Lib.hid hR
      have HU := Lib.hid hU
      clear hR hU
      by_cases hlt : k < S.size
      · have hkl : k < S.data.toList.length := by rw [HLen.out]; exact hlt
        have hgd : GoodL S.data.toList := by
          rcases HG.out with h | h
          · rw [h] at hkl; simp at hkl
          · exact h
        obtain ⟨hR2, hz2, hcs⟩ := good_step hgd hkl HR.out
        have hd1 := dl_le S.data.toList[k]
        have HR2 := Lib.hid hR2
        have hlt' : (k : Int) < (S.size : Int) := by omega
        rcases hcs with h | h | ⟨h, h1, h2, h3, h4⟩ | ⟨h1, h2, h3, h4⟩
        · have e1 : dl S.data.toList[k] = 1 := by rw [h]; rfl
          rw [e1] at HR2
          have x0 : ((S[k].toNat : Int) == 40) = true := byte_is (h := hlt) hkl h 40
          clear h hz2 hd1 e1 hR2
          go_wp2
          go_roundw
          case rel => exact ⟨k + 1, z + 1, by rw [HLen.out]; omega, by go_num, by go_num, by omega, by omega, HR2.out, HU.out⟩
          case measure => simp [intOf]; omega
        · have e1 : dl S.data.toList[k] = -1 := by rw [h]; rfl
          rw [e1] at HR2 hz2
          have x0 : ((S[k].toNat : Int) == 40) = false := byte_is (h := hlt) hkl h 40
          have x1 : ((S[k].toNat : Int) == 41) = true := byte_is (h := hlt) hkl h 41
          clear h hd1 e1 hR2
          go_wp2
          go_roundw
          case rel => exact ⟨k + 1, z - 1, by rw [HLen.out]; omega, by go_num, by go_num, by omega, by omega, HR2.out, HU.out⟩
          case measure => simp [intOf]; omega
        · have e1 : dl S.data.toList[k] = 0 := by rw [h]; rfl
          rw [e1, Int.add_zero] at HR2
          rw [HLen.out] at h2
          obtain ⟨j, rfl⟩ : ∃ j, k = j + 1 := ⟨k - 1, by omega⟩
          have hj : j < S.size := by omega
          have hj2 : j + 1 + 1 < S.size := by omega
          have x0 : ((S[j + 1].toNat : Int) == 40) = false := byte_is (h := hlt) hkl h 40
          have x1 : ((S[j + 1].toNat : Int) == 41) = false := byte_is (h := hlt) hkl h 41
          have x2 : ((S[j + 1].toNat : Int) == 32) = true := byte_is (h := hlt) hkl h 32
          have x3 : ((S[j + 1].toNat : Int) != 32) = false := by rw [bne, x2]; rfl
          have h5 := h3 (by rw [HLen.out]; omega)
          have y0 : ((S[j].toNat : Int) == 32) = false := byte_not (h := hj) (c := 32) (by rw [HLen.out]; omega) h5.1
          have y1 : ((S[j].toNat : Int) == 40) = false := byte_not (h := hj) (c := 40) (by rw [HLen.out]; omega) h5.2
          have y2 : ((S[j + 1 + 1].toNat : Int) == 41) = false := byte_not (h := hj2) (c := 41) (by rw [HLen.out]; omega) (h4 (by rw [HLen.out]; omega))
          clear h h3 h4 h5 hz2 hd1 e1 hR2
          have z0 : ((j : Int) + 1 == 0) = false := by rw [beq_eq_false_iff_ne]; omega
          have z1 : ((j : Int) + 1 + 1 == (S.size : Int)) = false := by rw [beq_eq_false_iff_ne]; omega
          go_wp2
          go_roundw
          case rel => exact ⟨j + 1 + 1, z, by rw [HLen.out]; omega, by go_num, by go_num, by omega, by omega, HR2.out, HU.out⟩
          case measure => simp [intOf]; omega
        · have e1 : dl S.data.toList[k] = 0 := by unfold dl; rw [if_neg h1, if_neg h2]
          rw [e1, Int.add_zero] at HR2
          have x0 : ((S[k].toNat : Int) == 40) = false := byte_not (h := hlt) (c := 40) hkl h1
          have x1 : ((S[k].toNat : Int) == 41) = false := byte_not (h := hlt) (c := 41) hkl h2
          have x2 : ((S[k].toNat : Int) == 32) = false := byte_not (h := hlt) (c := 32) hkl h3
          have x3 : ((S[k].toNat : Int) != 32) = true := by rw [bne, x2]; rfl
          have HWr := Lib.hid (fun w => word_any (w0 := w) S[k])
          rw [show wordB S[k] = true from h4] at HWr
          clear h1 h2 h3 h4 hz2 hd1 e1 hR2
          go_wp2_with fail
          refine (HWr.out _).mono ?_
          rintro e w5 ⟨rfl, rfl⟩
          go_wp2
          go_roundw
          case rel => exact ⟨k + 1, z, by rw [HLen.out]; omega, by go_num, by go_num, by omega, by omega, HR2.out, HU.out⟩
          case measure => simp [intOf]; omega
      · obtain rfl : k = S.size := by omega
        have hz : z = 0 := by
          have h := HR.out
          rw [← HLen.out, List.take_length] at h
          rcases HG.out with h' | h'
          · rw [h'] at h; cases h; rfl
          · rw [h'.run 0 (Int.le_refl _)] at h; cases h; rfl
        subst hz
        go_wp2
        go_ret
        exact ⟨rfl, HU4.out.trans HU.out⟩
end
end Go.Proofs.YtiibknlpeodejaaGreatDoor

/- cornicelaw09.PrettySame: it answers yes. -/
namespace Go.Proofs.YtiibknlpeodejaaGreatDoor
open Go.Lx Go.RowKit

theorem leaf_out {s : ByteArray} (h : leafB s = false) : s.data.toList ∉ leafS := by
  intro hm
  have : leafB s = true := by
    unfold leafB
    rw [ByteArray.toList_eq]
    simp only [leafS, List.mem_cons, List.not_mem_nil, or_false] at hm
    rcases hm with e | e | e | e | e | e | e <;> rw [e] <;> decide
  rw [h] at this
  cases this
theorem conOk_names {t : List Nd} {av : List ByteArray} (hk : keyedB (namesB conB [] t) = false) : ConOk (namesB conB [] t ++ av) t := by
  intro x hx h1
  have hm : x.s ∈ namesB conB [] t := (namesB_mem conB x.s t []).2 (.inr ⟨x, hx, by simp [conB, h1], rfl⟩)
  refine ⟨List.mem_append_left _ hm, leaf_out ?_⟩
  unfold keyedB at hk
  rw [List.any_eq_false] at hk
  have := hk x.s hm
  simp at this
  exact this.2
theorem nd_same {x y : Nd} : ndEqB x y = true ↔ x = y := by
  obtain ⟨k, n, m, s⟩ := x
  obtain ⟨k', n', m', s'⟩ := y
  unfold ndEqB
  simp
  intro _ _ _
  constructor
  · intro h
    rw [ByteArray.toList_eq, ByteArray.toList_eq] at h
    exact bytes_ext h
  · rintro rfl; rfl
theorem sameB_iff : ∀ {a b : List Nd}, sameB a b = true ↔ a = b
  | [], [] => by simp [sameB]
  | x :: a, y :: b => by simp [sameB, nd_same, sameB_iff (a := a) (b := b)]
  | x :: a, [] => by simp [sameB]
  | [], y :: b => by simp [sameB]
theorem flat_inj2 (T : Tm) : okT T → ∀ U, okT U → ∀ p p' : List Nd, p ++ flat T = p' ++ flat U → T = U ∧ p = p' := by
  induction T using Tm.rec (motive_2 := fun l => okTs l → ∀ l', okTs l' → l.length = l'.length → ∀ p p' : List Nd, p ++ flats l = p' ++ flats l' → l = l' ∧ p = p') with
  | mk x l ih =>
    rintro ⟨_, hl, hls⟩ ⟨y, l'⟩ ⟨_, hl', hls'⟩ p p' h
    simp only [flat] at h
    rw [← List.append_assoc, ← List.append_assoc] at h
    obtain ⟨h1, h2⟩ := List.append_inj' h rfl
    obtain rfl : x = y := by simpa using h2
    obtain ⟨rfl, rfl⟩ := ih hls l' hls' (by rw [hl, hl']) p p' h1
    exact ⟨rfl, rfl⟩
  | nil =>
    rename_i l' _ hl p p' h
    cases l' with
    | nil => exact ⟨rfl, by simpa [flats] using h⟩
    | cons a l => cases hl
  | cons a l iha ihl =>
    rename_i hh l' hh' hl p p' h
    cases l' with
    | nil => cases hl
    | cons a' l' =>
      simp only [flats] at h
      rw [← List.append_assoc, ← List.append_assoc] at h
      obtain ⟨rfl, h1⟩ := ihl hh.2 l' hh'.2 (by simpa using hl) _ _ h
      obtain ⟨rfl, rfl⟩ := iha hh.1 a' hh'.1 _ _ h1
      exact ⟨rfl, rfl⟩
theorem flat_inj {T U : Tm} (h : okT T) (h' : okT U) (e : flat T = flat U) : T = U := (flat_inj2 T h U h' [] [] (by simpa using e)).1
theorem out_zero {t : List Nd} {av : List ByteArray} {s : List UInt8} {e : Int} (hl : t.length ≤ 120) (h : PrOut t av s e) : (e ≠ 0 → s = []) ∧ (e = 0 → checkE t = 0) := by
  rcases h with ⟨rfl, T, rfl, hok, hd, _, rfl⟩ | ⟨he, rfl⟩
  · exact ⟨fun h => absurd rfl h, fun _ => check_of_tree hok hd (by omega)⟩
  · exact ⟨fun _ => rfl, fun h => absurd h he⟩
theorem out_same {t u : List Nd} {s r : List UInt8} (h : PrOut t [] s 0) (h' : PrOut u [] r 0) (hk : keyedB (namesB conB [] t) = false) (hk' : keyedB (namesB conB [] u) = false) : ((⟨s.toArray⟩ : ByteArray).toList == (⟨r.toArray⟩ : ByteArray).toList) = sameB t u := by
  rcases h with ⟨_, T, rfl, hok, hd, hin, rfl⟩ | ⟨he, _⟩
  · rcases h' with ⟨_, U, rfl, hok', hd', hin', rfl⟩ | ⟨he, _⟩
    · rw [Bool.eq_iff_iff, sameB_iff, ByteArray.toList_eq, ByteArray.toList_eq, beq_iff_eq]
      constructor
      · intro e
        rw [say_same hok hok' (conOk_names hk) (conOk_names hk') hin hin' e]
      · intro e
        rw [flat_inj hok hok' e]
    · exact absurd rfl he
  · exact absurd rfl he
section
variable {w0 : World}
set_option maxRecDepth 100000 in
set_option maxHeartbeats 4000000 in
theorem same_law (t u : List Nd) {v vu : Value} (hB : Base w0) (hv : TermV w0 v t) (hu : TermV w0 vu u) : Calls Tryz.prog 5 #[v, vu] w0 fun e w => e = .returned (.bool true) ∧ Under w0 w := by
  have HH := Lib.hid (heavy_any t [] hv (TextsV.nil _))
  have HH2 := Lib.hid (heavy_any u [] hu (TextsV.nil _))
  have HSh := Lib.hid (fun w (h : Under w0 w) => shown_any (hB.under h))
  have HB := Lib.hid hB
  have HV := Lib.hid hv
  have HU := Lib.hid hu
  obtain ⟨p, c, rfl, _, _, _⟩ := hv
  obtain ⟨q, d, rfl, _, _, _⟩ := hu
  clear hB
  go_enter Tryz.func5, Tryz.ntmps5
  go_wp2_with fail
  refine HH.out.mono ?_
  rintro e w1 ⟨hb, rfl, rfl, hlight⟩
  cases hb
  case true =>
    clear hlight
    go_wp2_with fail
    refine (HSh.out _ (Under.refl _)).mono ?_
    rintro e w2 ⟨rfl, hU2⟩
    have HU2 := Lib.hid hU2
    clear hU2
    go_wp2
    go_ret
    exact ⟨rfl, HU2.out⟩
  case false =>
    obtain ⟨h1, _, h3, _⟩ := hlight rfl
    clear hlight
    go_wp2_with fail
    refine HH2.out.mono ?_
    rintro e w1 ⟨hb, rfl, rfl, hlight⟩
    cases hb
    case true =>
      clear hlight
      go_wp2_with fail
      refine (HSh.out _ (Under.refl _)).mono ?_
      rintro e w2 ⟨rfl, hU2⟩
      have HU2 := Lib.hid hU2
      clear hU2
      go_wp2
      go_ret
      exact ⟨rfl, HU2.out⟩
    case false =>
      obtain ⟨k1, _, k3, _⟩ := hlight rfl
      clear hlight
      obtain ⟨s, e, ho, hp, hr⟩ := prints_any t [] h1 (by decide) h3
      obtain ⟨r, f, ko, kp, _⟩ := prints_any u [] k1 (by decide) k3
      have HP := Lib.hid (fun w (h : Under w1 w) => hp w _ (.slice none 0 0) (TermV.mono _ _ _ _ h HV.out) (TextsV.nil _) (HB.out.under h))
      have HR := Lib.hid (fun w (h : Under w1 w) => hr w _ (.slice none 0 0) (TermV.mono _ _ _ _ h HV.out) (TextsV.nil _))
      have HQ := Lib.hid (fun w (h : Under w1 w) => kp w _ (.slice none 0 0) (TermV.mono _ _ _ _ h HU.out) (TextsV.nil _) (HB.out.under h))
      have HN := Lib.hid (fun w (h : Under w1 w) => rnames_any t h1 w _ (TermV.mono _ _ _ _ h HV.out))
      have HM := Lib.hid (fun w (h : Under w1 w) => rnames_any u k1 w _ (TermV.mono _ _ _ _ h HU.out))
      have HSm := Lib.hid (fun w (h : Under w1 w) => same_any t u (by simp only [maxLen]; omega) (TermV.mono _ _ _ _ h HV.out) (TermV.mono _ _ _ _ h HU.out))
      have HO := Lib.hid ho
      have KO := Lib.hid ko
      have HL := Lib.hid (And.intro h1 k1)
      clear ho hp hr h1 h3 ko kp k1 k3
      go_wp2_with fail
      refine (HSh.out _ (Under.refl _)).mono ?_
      rintro e w2 ⟨rfl, hU2⟩
      have HU2 := Lib.hid hU2
      clear hU2
      go_wp2_with fail
      refine (HP.out _ HU2.out).mono ?_
      rintro e w3 ⟨rfl, hU3⟩
      have HU3 := Lib.hid (HU2.out.trans hU3)
      clear hU3
      go_wp2_with fail
      refine (HQ.out _ HU3.out).mono ?_
      rintro e w4 ⟨rfl, hU4⟩
      have HU4 := Lib.hid (HU3.out.trans hU4)
      clear hU4
      go_wp2_with fail
      refine (HR.out _ HU4.out).mono ?_
      rintro e w5 ⟨rfl, hU5⟩
      have HU5 := Lib.hid (HU4.out.trans hU5)
      clear hU5
      have HZ := Lib.hid (out_zero HL.out.1 HO.out)
      have KZ := Lib.hid (out_zero HL.out.2 KO.out)
      clear HP HR HQ HSh HH HH2
      by_cases he : e = 0
      · subst he
        have hc := HZ.out.2 rfl
        by_cases hf : f = 0
        · subst hf
          have kc := KZ.out.2 rfl
          have e1 : ∀ p, nmZ p t = namesB p [] t := fun p => if_pos hc
          have e2 : ∀ p, nmZ p u = namesB p [] u := fun p => if_pos kc
          have HE := Lib.hid (fun h h' => out_same HO.out KO.out h h')
          have HLa := Lib.hid (namesB_len conB t [])
          have HLb := Lib.hid (namesB_len datB t [])
          have HLc := Lib.hid (namesB_len conB u [])
          have HLd := Lib.hid (namesB_len datB u [])
          unfold NmOut at HN HM
          simp only [hc, e1] at HN
          simp only [kc, e2] at HM
          clear hc kc e1 e2 HO KO HZ KZ
          generalize namesB conB [] t = n1 at *
          generalize namesB datB [] t = n2 at *
          generalize namesB conB [] u = n3 at *
          generalize namesB datB [] u = n4 at *
          generalize hSS : (⟨s.toArray⟩ : ByteArray) = SS at *
          generalize hRR : (⟨r.toArray⟩ : ByteArray) = RR at *
          clear hSS hRR
          go_wp2_with fail
          refine (HN.out _ HU5.out).mono ?_
          rintro e w6 ⟨q1, c1, q2, c2, rfl, ha6, hb6, hU6⟩
          have HU6 := Lib.hid (HU5.out.trans hU6)
          have HA6 := Lib.hid ha6
          have HB6 := Lib.hid hb6
          clear ha6 hb6 hU6
          go_wp2_with fail
          refine (HM.out _ HU6.out).mono ?_
          rintro e w7 ⟨q3, c3, q4, c4, rfl, ha7, hb7, hU7⟩
          have HU7 := Lib.hid (HU6.out.trans hU7)
          have HA7 := Lib.hid (fun w (h : Under w7 w) => keyed_any n1 (by have := HLa.out; have := HL.out.1; simp at *; omega) (HA6.out.under (hU7.trans h)))
          have HB7 := Lib.hid (fun w (h : Under w7 w) => keyed_any n2 (by have := HLb.out; have := HL.out.1; simp at *; omega) (HB6.out.under (hU7.trans h)))
          have HC7 := Lib.hid (fun w (h : Under w7 w) => keyed_any n3 (by have := HLc.out; have := HL.out.2; simp at *; omega) (ha7.under h))
          have HD7 := Lib.hid (fun w (h : Under w7 w) => keyed_any n4 (by have := HLd.out; have := HL.out.2; simp at *; omega) (hb7.under h))
          clear ha7 hb7 hU7
          cases f1 : keyedB n1
          · rw [f1] at HA7
            go_wp2_with fail
            refine (HA7.out _ (Under.refl _)).mono ?_
            rintro e w8 ⟨rfl, hU8⟩
            have HU8 := Lib.hid hU8
            clear hU8
            cases f2 : keyedB n2
            · rw [f2] at HB7
              go_wp2_with fail
              refine (HB7.out _ HU8.out).mono ?_
              rintro e w9 ⟨rfl, hU9⟩
              have HU9 := Lib.hid (HU8.out.trans hU9)
              clear hU9
              cases f3 : keyedB n3
              · rw [f3] at HC7
                go_wp2_with fail
                refine (HC7.out _ HU9.out).mono ?_
                rintro e wa ⟨rfl, hUa⟩
                have HUa := Lib.hid (HU9.out.trans hUa)
                clear hUa
                cases f4 : keyedB n4
                · rw [f4] at HD7
                  have HE2 := HE.out f1 f3
                  generalize sameB t u = b at *
                  go_wp2_with fail
                  refine (HD7.out _ HUa.out).mono ?_
                  rintro e wb ⟨rfl, hUb⟩
                  have HUb := Lib.hid (HU7.out.trans (HUa.out.trans hUb))
                  clear hUb
                  go_wp2_with fail
                  refine (HSm.out _ HUb.out).mono ?_
                  rintro e wc ⟨rfl, hUc⟩
                  have HUc := Lib.hid (HUb.out.trans hUc)
                  clear hUc
                  go_wp2
                  go_ret
                  exact ⟨rfl, HUc.out⟩
                · rw [f4] at HD7
                  go_wp2_with fail
                  refine (HD7.out _ HUa.out).mono ?_
                  rintro e wb ⟨rfl, hUb⟩
                  have HUb := Lib.hid (HU7.out.trans (HUa.out.trans hUb))
                  clear hUb
                  go_wp2
                  go_ret
                  exact ⟨rfl, HUb.out⟩
              · rw [f3] at HC7
                go_wp2_with fail
                refine (HC7.out _ HU9.out).mono ?_
                rintro e wa ⟨rfl, hUa⟩
                have HUa := Lib.hid (HU7.out.trans (HU9.out.trans hUa))
                clear hUa
                go_wp2
                go_ret
                exact ⟨rfl, HUa.out⟩
            · rw [f2] at HB7
              go_wp2_with fail
              refine (HB7.out _ HU8.out).mono ?_
              rintro e w9 ⟨rfl, hU9⟩
              have HU9 := Lib.hid (HU7.out.trans (HU8.out.trans hU9))
              clear hU9
              go_wp2
              go_ret
              exact ⟨rfl, HU9.out⟩
          · rw [f1] at HA7
            go_wp2_with fail
            refine (HA7.out _ (Under.refl _)).mono ?_
            rintro e w8 ⟨rfl, hU8⟩
            have HU8 := Lib.hid (HU7.out.trans hU8)
            clear hU8
            go_wp2
            go_ret
            exact ⟨rfl, HU8.out⟩
        · have hr0 := KZ.out.1 hf
          have hf' : (f != 0) = true := by simpa using hf
          subst hr0
          have hz : ((⟨([] : List UInt8).toArray⟩ : ByteArray).toList == []) = true := by kernel_rfl
          generalize (⟨([] : List UInt8).toArray⟩ : ByteArray) = RR at *
          obtain ⟨SS, hS⟩ : ∃ SS : ByteArray, SS = ⟨s.toArray⟩ := ⟨_, rfl⟩
          rw [← hS]
          clear hf HZ KZ HO KO hS
          cases hz2 : (SS.toList == [])
          · go_wp2
            all_goals
              go_ret
              exact ⟨rfl, HU5.out⟩
          · go_wp2
            all_goals
              go_ret
              exact ⟨rfl, HU5.out⟩
      · have hs0 := HZ.out.1 he
        have he' : (e != 0) = true := by simpa using he
        subst hs0
        have hz : ((⟨([] : List UInt8).toArray⟩ : ByteArray).toList == []) = true := by kernel_rfl
        generalize (⟨([] : List UInt8).toArray⟩ : ByteArray) = SS at *
        clear he HZ KZ HO KO
        go_wp2
        go_ret
        exact ⟨rfl, HU5.out⟩
end
end Go.Proofs.YtiibknlpeodejaaGreatDoor

/- Declarations, as they are read. -/
namespace Go.Lx

structure Dc where
  kind : Int
  level : Int
  name : ByteArray
  type : List Nd
  body : List Nd
  cons : List (List (List Nd))
/-- A declaration, as a value. -/
def DcV (w : World) (v : Value) (d : Dc) : Prop := ∃ vt vb vc, v = .agg #[.int .i64 d.kind, .int .i64 d.level, .string d.name, vt, vb, vc] ∧ TermV w vt d.type ∧ TermV w vb d.body ∧ ConsV w vc d.cons
theorem ConsV.mono : Mono ConsV := ListV.mono (ListV.mono TermV.mono)
theorem TermsV.mono : Mono TermsV := ListV.mono TermV.mono
theorem DcV.mono : Mono DcV := fun w w' v d hU ⟨vt, vb, vc, h1, h2, h3, h4⟩ => ⟨vt, vb, vc, h1, TermV.mono _ _ _ _ hU h2, TermV.mono _ _ _ _ hU h3, ConsV.mono _ _ _ _ hU h4⟩
/-- The terms of a declaration. -/
def termsOf (d : Dc) : List (List Nd) := if d.kind = 1 then [d.type, d.body] else if d.kind = 2 then [d.type] else if d.kind = 3 then d.cons.flatten else []
/-- What is not great: so that lengths are numbers. -/
structure Small (d : Dc) : Prop where
  name : d.name.size ≤ 1000000
  cons : d.cons.length ≤ 100000
  flat : d.cons.flatten.length ≤ 100000
  terms : ∀ t ∈ termsOf d, t.length ≤ 1000000 ∧ ∀ x ∈ t, x.s.size ≤ 1000000
end Go.Lx

/- Rows whose elements take several cells: declarations, entries. -/
namespace Go.Lx
open Go.RowKit

/-- A slice's cells, so many for each element, that are read. -/
def RowsV {α : Type} (size : Nat) (R : World → List Value → α → Prop) (w : World) (p : Option Addr) (xs : List α) : Prop :=
  ∃ rows : List (List Value), RowArg w p rows.flatten ∧ (∀ r ∈ rows, r.length = size) ∧ Zip (R w) rows xs
/-- A reading that stays where memory grows. -/
def MonoC {α : Type} (R : World → List Value → α → Prop) : Prop := ∀ w w' cs x, Under w w' → R w cs x → R w' cs x
theorem RowsV.under {α : Type} {size : Nat} {R : World → List Value → α → Prop} (hR : MonoC R) {w w' : World} {p : Option Addr} {xs : List α} (h : RowsV size R w p xs) (hU : Under w w') : RowsV size R w' p xs := by
  obtain ⟨rows, h1, h2, h3⟩ := h
  exact ⟨rows, h1.under hU, h2, h3.mono fun v x => hR _ _ _ _ hU⟩
theorem flatten_rows {rows : List (List Value)} {size : Nat} (h : ∀ r ∈ rows, r.length = size) : rows.flatten.length = rows.length * size := by
  induction rows with
  | nil => simp
  | cons r l ih =>
    rw [List.flatten_cons, List.length_append, h r (List.mem_cons_self ..), ih fun x hx => h x (List.mem_cons_of_mem _ hx), List.length_cons, Nat.add_mul, Nat.one_mul, Nat.add_comm]
theorem flatten_at : ∀ {rows : List (List Value)} {size k j : Nat} {r : List Value} {u : Value}, (∀ r ∈ rows, r.length = size) → rows[k]? = some r → r[j]? = some u → rows.flatten[k * size + j]? = some u
  | x :: l, size, 0, j, r, u, h, hk, hj => by
    cases hk
    rw [List.flatten_cons, Nat.zero_mul, Nat.zero_add, List.getElem?_append_left (List.getElem?_eq_some_iff.1 hj).1]
    exact hj
  | x :: l, size, k + 1, j, r, u, h, hk, hj => by
    have h0 := h x (List.mem_cons_self ..)
    rw [List.flatten_cons, List.getElem?_append_right (by rw [h0, Nat.add_mul]; omega), h0, show (k + 1) * size + j - size = k * size + j by rw [Nat.add_mul]; omega]
    exact flatten_at (fun x hx => h x (List.mem_cons_of_mem _ hx)) (by simpa using hk) hj
/-- An element of such a slice. -/
theorem RowsV.at {α : Type} {size : Nat} {R : World → List Value → α → Prop} {w : World} {p : Option Addr} {xs : List α} (h : RowsV size R w p xs) {k : Nat} {x : α} (hk : xs[k]? = some x) (hs : 0 < size) :
    ∃ b off r, p = some ⟨b, off, none⟩ ∧ b < w.heap.size ∧ r.length = size ∧ R w r x ∧ ∀ j u, r[j]? = some u → w.cell? ⟨b, off + (k * size + j), none⟩ = some u := by
  obtain ⟨rows, h1, h2, h3⟩ := h
  obtain ⟨r, hr, hR⟩ := h3.at hk
  have hrl := h2 r (List.mem_of_getElem? hr)
  have hne : rows.flatten ≠ [] := by
    intro e
    have := flatten_at (j := 0) (u := r[0]'(by omega)) h2 hr (List.getElem?_eq_getElem (by omega))
    rw [e] at this; cases this
  obtain ⟨b, off, e, hb, hc⟩ := h1 hne
  exact ⟨b, off, r, e, hb, hrl, hR, fun j u hj => hc _ _ (flatten_at h2 hr hj)⟩
theorem RowsV.nil {α : Type} {size : Nat} {R : World → List Value → α → Prop} {w : World} {p : Option Addr} : RowsV size R w p ([] : List α) := ⟨[], RowArg.nil, fun r h => (List.not_mem_nil h).elim, Zip.nil _⟩
/-- Rows of one's own. -/
theorem RowsV.of_own {α : Type} {size : Nat} {R : World → List Value → α → Prop} {w : World} {base : Nat} {e : TypeId} {v : Value} {n : Nat} {xs : List α} {rows : List (List Value)} (h : w.ownsRow base e size v n rows.flatten) (h2 : ∀ r ∈ rows, r.length = size) (h3 : Zip (R w) rows xs) :
    ∃ q c, v = .slice q n c ∧ n ≤ c ∧ RowsV size R w q xs := by
  obtain ⟨q, c, e, hc, hr⟩ := RowArg.of_own h
  exact ⟨q, c, e, hc, rows, hr, h2, h3⟩

/-- A declaration's cells. -/
def DcRow (w : World) (cs : List Value) (d : Dc) : Prop := ∃ vt vb vc, cs = [.int .i64 d.kind, .int .i64 d.level, .string d.name, vt, vb, vc] ∧ TermV w vt d.type ∧ TermV w vb d.body ∧ ConsV w vc d.cons
theorem DcRow.mono : MonoC DcRow := fun w w' cs d hU ⟨vt, vb, vc, h1, h2, h3, h4⟩ => ⟨vt, vb, vc, h1, TermV.mono _ _ _ _ hU h2, TermV.mono _ _ _ _ hU h3, ConsV.mono _ _ _ _ hU h4⟩
theorem DcRow.val {w : World} {cs : List Value} {d : Dc} (h : DcRow w cs d) : DcV w (.agg cs.toArray) d := by
  obtain ⟨vt, vb, vc, rfl, h1, h2, h3⟩ := h
  exact ⟨vt, vb, vc, rfl, h1, h2, h3⟩
theorem DcV.row {w : World} {v : Value} {d : Dc} (h : DcV w v d) : ∃ cs, v = .agg cs.toArray ∧ DcRow w cs d := by
  obtain ⟨vt, vb, vc, rfl, h1, h2, h3⟩ := h
  exact ⟨_, rfl, vt, vb, vc, rfl, h1, h2, h3⟩
/-- An entry's cells: its declaration, and two more. -/
def EntRow (w : World) (cs : List Value) (d : Dc) : Prop := ∃ vt vb vc st q n c, cs = [.int .i64 d.kind, .int .i64 d.level, .string d.name, vt, vb, vc, .bool st, .slice q n c] ∧ TermV w vt d.type ∧ TermV w vb d.body ∧ ConsV w vc d.cons
theorem EntRow.mono : MonoC EntRow := fun w w' cs d hU ⟨vt, vb, vc, st, q, n, c, h1, h2, h3, h4⟩ => ⟨vt, vb, vc, st, q, n, c, h1, TermV.mono _ _ _ _ hU h2, TermV.mono _ _ _ _ hU h3, ConsV.mono _ _ _ _ hU h4⟩
end Go.Lx

/- Arguments with depth, opened: rows of structs, slices of slices, terms, declarations. -/
namespace Go.Lx
open Go.ChangeShapes Go.WideShapes Go.RowKit Go.Deep

theorem list_upto {α : Type} {Q : Nat → α → Prop} (n : Nat) (h : ∀ i, i < n → ∃ t, Q i t) : ∃ l : List α, l.length = n ∧ ∀ i t, l[i]? = some t → Q i t := by
  induction n with
  | zero => exact ⟨[], rfl, fun i t h => by simp at h⟩
  | succ n ih =>
    obtain ⟨l, h1, h2⟩ := ih fun i hi => h i (by omega)
    obtain ⟨t, ht⟩ := h n (by omega)
    refine ⟨l ++ [t], by simp [h1], fun i u hu => ?_⟩
    rw [List.getElem?_append] at hu
    split at hu
    · exact h2 i u hu
    · rename_i hi
      have h0 : i - l.length = 0 := by
        have := (List.getElem?_eq_some_iff.1 hu).1
        simp at this; omega
      rw [h0] at hu
      cases hu
      have : i = n := by omega
      exact this ▸ ht
theorem flatten_get {rows : List (List Value)} {size : Nat} (hs : 0 < size) (h : ∀ r ∈ rows, r.length = size) {j : Nat} {u : Value} (hj : rows.flatten[j]? = some u) : ∃ r, rows[j / size]? = some r ∧ r[j % size]? = some u := by
  have hlen := flatten_rows h
  have hjl := (List.getElem?_eq_some_iff.1 hj).1
  rw [hlen] at hjl
  have hk : j / size < rows.length := (Nat.div_lt_iff_lt_mul hs).2 hjl
  have hm : j % size < size := Nat.mod_lt _ hs
  have hr := List.getElem?_eq_getElem hk
  have hrl := h _ (List.getElem_mem hk)
  refine ⟨rows[j / size], hr, ?_⟩
  have := flatten_at (j := j % size) (u := rows[j / size][j % size]'(by omega)) h hr (List.getElem?_eq_getElem (by omega))
  rw [Nat.div_add_mod' j size] at this
  rw [this] at hj
  cases hj
  exact List.getElem?_eq_getElem _
section
variable {H : Type} {enc : TypeId × Value → H} {P : Program} {w : World} {spare : Nat → Bool} {held : Bool} {t e : TypeId} {fuel : Nat} {cs : List Value} {x : DataW H × List MemPlace}
/-- A slice of elements of so many cells. -/
theorem open_rows {α : Type} {R : World → List Value → α → Prop} {size : Nat} (ht : P.underlying t = some (.slice e)) (hC : P.cellsOf e = size) (hs : 0 < size)
    (hopen : ∀ fuel cs x, cs.length = size → DataW.trod enc P w 0 spare held fuel e cs = some x → ∃ a, R w cs a) (h : DataW.trod enc P w 0 spare held fuel t cs = some x) :
    ∃ (p : Option Addr) (c : Nat) (xs : List α), cs = [.slice p xs.length c] ∧ xs.length ≤ c ∧ (p = none → c = 0) ∧ RowsV size R w p xs := by
  rcases open_slice ht h with ⟨rfl, _⟩ | ⟨a, len, cap, m, n, D, Pl, rfl, _, hl, hm, hmm, _, hi⟩
  · exact ⟨none, 0, [], rfl, Nat.le_refl _, fun _ => rfl, RowsV.nil⟩
  · have hlm : len ≤ m := by rw [hmm]; split <;> omega
    rw [hC] at hi
    have each : ∀ i, i < len → ∃ q : List Value × α, q.1.length = size ∧ R w q.1 q.2 ∧ ∀ j u, q.1[j]? = some u → w.cell? ((a.add (i * size)).add j) = some u := by
      intro i hlt
      obtain ⟨cs', hc, ht'⟩ := hi i (by omega)
      obtain ⟨_, hcl, hat⟩ := World.cells?_some hc
      obtain ⟨b, hb⟩ := hopen _ _ _ hcl ht'
      exact ⟨(cs', b), hcl, hb, fun j u hj => by
        have hjl := (List.getElem?_eq_some_iff.1 hj).1
        have hj' : cs'[j]? = some u := hj
        rw [hat j (by have : (cs', b).1.length = cs'.length := rfl; omega)]; exact hj'⟩
    obtain ⟨l, hll, hl2⟩ := list_upto len each
    refine ⟨some a, cap, l.map (·.2), by simp [hll], by simpa [hll] using hl, (fun h => by cases h), l.map (·.1), ?_, ?_, ?_⟩
    · intro hne
      obtain ⟨b, off, sp⟩ := a
      have hrows : ∀ r ∈ l.map (·.1), r.length = size := by
        intro r hr
        obtain ⟨q, hq, rfl⟩ := List.mem_map.1 hr
        obtain ⟨i, hi'⟩ := List.getElem?_of_mem hq
        exact (hl2 i q hi').1
      obtain ⟨u0, hu0⟩ : ∃ u, (l.map (·.1)).flatten[0]? = some u := by
        cases hf : (l.map (·.1)).flatten with
        | nil => exact absurd hf hne
        | cons y ys => exact ⟨y, rfl⟩
      have cellof : ∀ j u, (l.map (·.1)).flatten[j]? = some u → w.cell? ((Addr.add ⟨b, off, sp⟩ (j / size * size)).add (j % size)) = some u := by
        intro j u hj
        obtain ⟨r, hr, hru⟩ := flatten_get hs hrows hj
        rw [List.getElem?_map] at hr
        cases hq : l[j / size]? with
        | none => rw [hq] at hr; cases hr
        | some q =>
          rw [hq] at hr
          cases hr
          exact (hl2 _ q hq).2.2 _ u hru
      have c0 := cellof 0 u0 hu0
      have hsp : sp = none := by
        have := World.cell?_spot c0
        simpa [Addr.add] using this
      subst hsp
      refine ⟨b, off, rfl, ?_, fun j u hj => ?_⟩
      · simp only [World.cell?, Addr.add] at c0
        simp at c0
        cases hb : w.heap[b]? with
        | none => simp [hb] at c0
        | some o => exact (Array.getElem?_eq_some_iff.1 hb).1
      · have := cellof j u hj
        rw [add_off, add_off, Nat.add_assoc, Nat.div_add_mod' j size] at this
        exact this
    · intro r hr
      obtain ⟨q, hq, rfl⟩ := List.mem_map.1 hr
      obtain ⟨i, hi'⟩ := List.getElem?_of_mem hq
      exact (hl2 i q hi').1
    · refine ⟨by simp, fun i v y hv hy => ?_⟩
      rw [List.getElem?_map] at hv hy
      cases hq : l[i]? with
      | none => rw [hq] at hv; cases hv
      | some q =>
        rw [hq] at hv hy
        cases hv; cases hy
        exact (hl2 i q hq).2.1
/-- Rows of one cell: a list that is read. -/
theorem ListV.of_rows {α : Type} {R : World → Value → α → Prop} {p : Option Addr} {c : Nat} {xs : List α} (h : RowsV 1 (fun w cs a => ∃ v, cs = [v] ∧ R w v a) w p xs) (hc : xs.length ≤ c) (h0 : p = none → c = 0) : ListV R w (.slice p xs.length c) xs := by
  obtain ⟨rows, h1, h2, h3⟩ := h
  have hz : ∀ (rows : List (List Value)) (xs : List α), Zip (fun cs a => ∃ v, cs = [v] ∧ R w v a) rows xs → Zip (R w) rows.flatten xs := by
    intro rows
    induction rows with
    | nil => intro xs hz; obtain ⟨e, _⟩ := hz; cases xs with | nil => exact Zip.nil _ | cons => cases e
    | cons r l ih =>
      intro xs hz
      cases xs with
      | nil => cases hz.1
      | cons y ys =>
        obtain ⟨v, rfl, hv⟩ := hz.2 0 r y rfl rfl
        have ht : Zip (fun cs a => ∃ v, cs = [v] ∧ R w v a) l ys := ⟨by have := hz.1; simpa using this, fun i v x hv hx => hz.2 (i + 1) v x (by simpa using hv) (by simpa using hx)⟩
        have := (Zip.one hv).app (ih ys ht)
        simpa using this
  exact ⟨p, c, rows.flatten, rfl, hc, h0, h1, hz rows xs h3⟩
theorem open_listV {α : Type} {R : World → Value → α → Prop} (ht : P.underlying t = some (.slice e)) (hC : P.cellsOf e = 1)
    (hopen : ∀ fuel cs x, DataW.trod enc P w 0 spare held fuel e cs = some x → ∃ v a, cs = [v] ∧ R w v a) (h : DataW.trod enc P w 0 spare held fuel t cs = some x) :
    ∃ v xs, cs = [v] ∧ ListV R w v xs := by
  obtain ⟨p, c, xs, rfl, hc, h0, hr⟩ := open_rows (R := fun w cs a => ∃ v, cs = [v] ∧ R w v a) ht hC (by decide) (fun fuel cs x _ hx => by
    obtain ⟨v, a, rfl, hv⟩ := hopen fuel cs x hx
    exact ⟨a, v, rfl, hv⟩) h
  exact ⟨_, xs, rfl, ListV.of_rows hr hc h0⟩
/-- A slice of nodes. -/
theorem open_termV {f0 f1 f2 f3 : Field} (ht : P.underlying t = some (.slice e)) (he : P.underlying e = some (.struct #[f0, f1, f2, f3])) (hone : oneCellFields P #[f0, f1, f2, f3] = true) (hC : P.cellsOf e = 4)
    (u0 : P.underlying f0.type = some (.int .i64)) (u1 : P.underlying f1.type = some (.int .i64)) (u2 : P.underlying f2.type = some (.int .i64)) (u3 : P.underlying f3.type = some .string) (h : DataW.trod enc P w 0 spare held fuel t cs = some x) :
    ∃ v l, cs = [v] ∧ TermV w v l := by
  obtain ⟨p, c, xs, rfl, hc, h0, rows, hr1, hr2, hr3⟩ := open_rows (R := fun _ cs (a : Nd) => cs = ndCell a) ht hC (by decide) (fun fuel cs x hcl hx => by
    obtain ⟨ys, n', _, _, _, hyl, hf⟩ := DataW.trod_struct he hx
    obtain ⟨o0, k0⟩ := hone_of hone 0 f0 rfl
    obtain ⟨o1, k1⟩ := hone_of hone 1 f1 rfl
    obtain ⟨o2, k2⟩ := hone_of hone 2 f2 rfl
    obtain ⟨o3, k3⟩ := hone_of hone 3 f3 rfl
    have g0 := hf 0 f0 rfl
    have g1 := hf 1 f1 rfl
    have g2 := hf 2 f2 rfl
    have g3 := hf 3 f3 rfl
    rw [o0, k0] at g0
    rw [o1, k1] at g1
    rw [o2, k2] at g2
    rw [o3, k3] at g3
    match cs, hcl with
    | [v0, v1, v2, v3], _ =>
      match ys, hyl with
      | [y0, y1, y2, y3], _ =>
        obtain ⟨z0, e0, _, _⟩ := DataW.trod_int u0 (x := y0) g0
        obtain ⟨z1, e1, _, _⟩ := DataW.trod_int u1 (x := y1) g1
        obtain ⟨z2, e2, _, _⟩ := DataW.trod_int u2 (x := y2) g2
        obtain ⟨z3, e3, _, _⟩ := DataW.trod_string u3 (x := y3) g3
        cases e0; cases e1; cases e2; cases e3
        exact ⟨⟨z0, z1, z2, z3⟩, rfl⟩) h
  refine ⟨_, xs, rfl, p, c, rfl, hc, h0, ?_⟩
  have : ∀ (rows : List (List Value)) (xs : List Nd), Zip (fun cs a => cs = ndCell a) rows xs → rows.flatten = ndCells xs := by
    intro rows
    induction rows with
    | nil => intro xs hz; obtain ⟨e, _⟩ := hz; cases xs with | nil => rfl | cons => cases e
    | cons r l ih =>
      intro xs hz
      cases xs with
      | nil => cases hz.1
      | cons y ys =>
        obtain rfl := hz.2 0 r y rfl rfl
        have ht : Zip (fun cs a => cs = ndCell a) l ys := ⟨by have := hz.1; simpa using this, fun i v x hv hx => hz.2 (i + 1) v x (by simpa using hv) (by simpa using hx)⟩
        rw [List.flatten_cons, ih ys ht]
        rfl
  rw [← this rows xs hr3]
  exact hr1
/-- A declaration's cells. -/
theorem open_dcRow {s tT tTs tC : TypeId} {f0 f1 f2 f3 f4 f5 : Field} (he : P.underlying s = some (.struct #[f0, f1, f2, f3, f4, f5])) (hone : oneCellFields P #[f0, f1, f2, f3, f4, f5] = true) (hC : P.cellsOf s = 6)
    (u0 : P.underlying f0.type = some (.int .i64)) (u1 : P.underlying f1.type = some (.int .i64)) (u2 : P.underlying f2.type = some .string)
    (h3 : ∀ fuel cs x, DataW.trod enc P w 0 spare held fuel f3.type cs = some x → ∃ v l, cs = [v] ∧ TermV w v l) (h4 : ∀ fuel cs x, DataW.trod enc P w 0 spare held fuel f4.type cs = some x → ∃ v l, cs = [v] ∧ TermV w v l)
    (h5 : ∀ fuel cs x, DataW.trod enc P w 0 spare held fuel f5.type cs = some x → ∃ v l, cs = [v] ∧ ConsV w v l)
    (hcl : cs.length = 6) (hx : DataW.trod enc P w 0 spare held fuel s cs = some x) : ∃ d, DcRow w cs d := by
  obtain ⟨ys, n', _, _, _, hyl, hf⟩ := DataW.trod_struct he hx
  obtain ⟨o0, k0⟩ := hone_of hone 0 f0 rfl
  obtain ⟨o1, k1⟩ := hone_of hone 1 f1 rfl
  obtain ⟨o2, k2⟩ := hone_of hone 2 f2 rfl
  obtain ⟨o3, k3⟩ := hone_of hone 3 f3 rfl
  obtain ⟨o4, k4⟩ := hone_of hone 4 f4 rfl
  obtain ⟨o5, k5⟩ := hone_of hone 5 f5 rfl
  have g0 := hf 0 f0 rfl
  have g1 := hf 1 f1 rfl
  have g2 := hf 2 f2 rfl
  have g3 := hf 3 f3 rfl
  have g4 := hf 4 f4 rfl
  have g5 := hf 5 f5 rfl
  rw [o0, k0] at g0
  rw [o1, k1] at g1
  rw [o2, k2] at g2
  rw [o3, k3] at g3
  rw [o4, k4] at g4
  rw [o5, k5] at g5
  match cs, hcl with
  | [v0, v1, v2, v3, v4, v5], _ =>
    match ys, hyl with
    | [y0, y1, y2, y3, y4, y5], _ =>
      obtain ⟨z0, e0, _, _⟩ := DataW.trod_int u0 (x := y0) g0
      obtain ⟨z1, e1, _, _⟩ := DataW.trod_int u1 (x := y1) g1
      obtain ⟨z2, e2, _, _⟩ := DataW.trod_string u2 (x := y2) g2
      obtain ⟨q3, l3, e3, r3⟩ := h3 _ _ y3 g3
      obtain ⟨q4, l4, e4, r4⟩ := h4 _ _ y4 g4
      obtain ⟨q5, l5, e5, r5⟩ := h5 _ _ y5 g5
      cases e0; cases e1; cases e2; cases e3; cases e4; cases e5
      exact ⟨⟨z0, z1, z2, l3, l4, l5⟩, _, _, _, rfl, r3, r4, r5⟩
end
end Go.Lx

/- The table of shapes and the table of fields, out of what the row lists of them. -/
namespace Go.Lx
open Go.ChangeShapes Go.WideShapes Go.RowKit Go.Deep

/-- A slice of numbers, as the row lists it. -/
def bindsD {H : Type} (l : List Nat) : DataW H := if l = [] then .nil else .slice (l.map fun (n : Nat) => .lit (.int .i64 (n : Int))) []
/-- A shape, as the row lists it. -/
def shapeD {H : Type} (k : Nat) : DataW H := .agg [bindsD (bindsOf k), .lit (.bool (fN k)), .lit (.bool (fM k)), .lit (.bool (fS k))]
theorem cell_lt {w : World} {b j : Nat} {v : Value} (h : w.cell? ⟨b, j, none⟩ = some v) : b < w.heap.size := by
  simp only [World.cell?] at h
  cases hb : w.heap[b]? with
  | none => simp [hb] at h
  | some o => exact (Array.getElem?_eq_some_iff.1 hb).1
section
variable {H : Type} {enc : TypeId × Value → H} {P : Program} {w : World} {base : Nat} {spare : Nat → Bool} {held : Bool} {t e : TypeId} {fuel : Nat} {cs : List Value} {q : List MemPlace}
theorem laid_ints {l : List Nat} (ht : P.underlying t = some (.slice e)) (he : P.underlying e = some (.int .i64)) (hC : P.cellsOf e = 1) (h : DataW.trod enc P w base spare held fuel t cs = some (bindsD l, q)) :
    ∃ p c, cs = [.slice p l.length c] ∧ l.length ≤ c ∧ RowArg w p (intsN l) := by
  rcases open_slice ht h with ⟨rfl, hx⟩ | ⟨a, len, cap, m, n, D, Pl, rfl, _, hl, hm, hmm, hx, hi⟩
  · have : l = [] := by
      unfold bindsD at hx
      split at hx
      · assumption
      · simp at hx
    subst this
    exact ⟨none, 0, rfl, Nat.le_refl _, RowArg.nil⟩
  · have hlm : len ≤ m := by rw [hmm]; split <;> omega
    rw [hC] at hi
    have hne : l ≠ [] := by
      intro e; subst e
      simp [bindsD] at hx
    unfold bindsD at hx
    rw [if_neg hne] at hx
    simp only [Prod.mk.injEq, DataW.slice.injEq] at hx
    obtain ⟨⟨hmap, _⟩, _⟩ := hx
    have hlen : l.length = len := by have := congrArg List.length hmap; simpa using this
    have each : ∀ (i n' : Nat), l[i]? = some n' → w.cell? (a.add (i * 1)) = some (.int .i64 (n' : Int)) := by
      intro i n' hn'
      have hil := (List.getElem?_eq_some_iff.1 hn').1
      obtain ⟨cs', hc, ht'⟩ := hi i (by omega)
      obtain ⟨_, hcl, hat⟩ := World.cells?_some hc
      obtain ⟨z, e1, e2, _⟩ := DataW.trod_int he ht'
      subst e1
      have h0 := hat 0 (by decide)
      have hD : D i = .lit (.int .i64 (n' : Int)) := by
        have := congrArg (fun r => r[i]?) hmap
        simp only [List.getElem?_map, hn', Option.map_some, List.getElem?_range (show i < len by omega)] at this
        exact (Option.some.inj this).symm
      have e3 : D i = .lit (.int .i64 z) := congrArg Prod.fst e2
      rw [hD] at e3
      cases e3
      simpa [Addr.add] using h0
    refine ⟨some a, cap, by rw [hlen], by omega, fun _ => ?_⟩
    obtain ⟨b, off, sp⟩ := a
    have hp : 0 < l.length := List.length_pos_iff.2 hne
    have c0 := each 0 l[0] (List.getElem?_eq_getElem hp)
    have hsp : sp = none := by simpa [Addr.add] using World.cell?_spot c0
    subst hsp
    refine ⟨b, off, rfl, ?_, fun j u hj => ?_⟩
    · rw [add_off] at c0; exact cell_lt c0
    · unfold intsN at hj
      rw [List.getElem?_map] at hj
      cases hq : l[j]? with
      | none => rw [hq] at hj; cases hj
      | some n' =>
        rw [hq] at hj
        cases hj
        have := each j n' hq
        rw [add_off, Nat.mul_one] at this
        exact this
theorem arr_at {n size m' : Nat} {ds : List (DataW H)} (ht : P.underlying t = some (.array n e)) (hC : P.cellsOf e = size) (h : DataW.trod enc P w base spare held fuel t cs = some (.agg ds, q)) {i : Nat} (hi : i < n) :
    ∃ d q' m, ds[i]? = some d ∧ DataW.trod enc P w base spare held m e ((cs.drop (i * size)).take size) = some (d, q') := by
  obtain ⟨xs, m, _, hx, _, hn, hel⟩ := DataW.trod_array ht h
  simp only [Prod.mk.injEq, DataW.agg.injEq] at hx
  have h1 := hel i hi
  rw [hC] at h1
  have hxi : xs[i]? = some xs[i] := List.getElem?_eq_getElem (by omega)
  rw [hxi] at h1
  exact ⟨xs[i].1, xs[i].2, m, by rw [hx.1, List.getElem?_map, hxi]; rfl, h1⟩
theorem drop_take_at {cs : List Value} {i size j : Nat} {v : Value} (h : ((cs.drop (i * size)).take size)[j]? = some v) : cs[i * size + j]? = some v := by
  rw [List.getElem?_take] at h
  split at h
  · rw [List.getElem?_drop] at h; exact h
  · cases h
/-- The table of shapes. -/
theorem shapesAt_of {g : Nat} {s ti : TypeId} {f0 f1 f2 f3 : Field} (hcell : ∀ j, w.cell? ⟨g, j, none⟩ = cs[j]?) (ht : P.underlying t = some (.array 30 s)) (hC : P.cellsOf s = 4) (hs : P.underlying s = some (.struct #[f0, f1, f2, f3])) (hone : oneCellFields P #[f0, f1, f2, f3] = true)
    (u0 : P.underlying f0.type = some (.slice ti)) (ui : P.underlying ti = some (.int .i64)) (ci : P.cellsOf ti = 1) (u1 : P.underlying f1.type = some .bool) (u2 : P.underlying f2.type = some .bool) (u3 : P.underlying f3.type = some .bool)
    (h : DataW.trod enc P w base spare held fuel t cs = some (.agg ((List.range 30).map shapeD), q)) : ShapesAt g w := by
  have each : ∀ k, k < 30 → ∃ p c, w.cell? ⟨g, k * 4, none⟩ = some (.slice p (bindsOf k).length c) ∧ (bindsOf k).length ≤ c ∧ RowArg w p (intsN (bindsOf k)) ∧
      w.cell? ⟨g, k * 4 + 1, none⟩ = some (.bool (fN k)) ∧ w.cell? ⟨g, k * 4 + 2, none⟩ = some (.bool (fM k)) ∧ w.cell? ⟨g, k * 4 + 3, none⟩ = some (.bool (fS k)) := by
    intro k hk
    obtain ⟨d, q', m, hd, htr⟩ := arr_at (m' := 0) ht hC h hk
    rw [List.getElem?_map, List.getElem?_range hk] at hd
    cases hd
    obtain ⟨ys, n', _, hx, hcl, hyl, hf⟩ := DataW.trod_struct hs htr
    obtain ⟨o0, k0⟩ := hone_of hone 0 f0 rfl
    obtain ⟨o1, k1⟩ := hone_of hone 1 f1 rfl
    obtain ⟨o2, k2⟩ := hone_of hone 2 f2 rfl
    obtain ⟨o3, k3⟩ := hone_of hone 3 f3 rfl
    have g0 := hf 0 f0 rfl
    have g1 := hf 1 f1 rfl
    have g2 := hf 2 f2 rfl
    have g3 := hf 3 f3 rfl
    rw [o0, k0] at g0
    rw [o1, k1] at g1
    rw [o2, k2] at g2
    rw [o3, k3] at g3
    have hat : ∀ j v, ((cs.drop (k * 4)).take 4)[j]? = some v → w.cell? ⟨g, k * 4 + j, none⟩ = some v := fun j v hj => by rw [hcell]; exact drop_take_at hj
    rw [hC] at hcl
    generalize (cs.drop (k * 4)).take 4 = r at *
    match r, hcl with
    | [v0, v1, v2, v3], _ =>
      match ys, hyl with
      | [y0, y1, y2, y3], _ =>
        simp only [shapeD, Prod.mk.injEq, DataW.agg.injEq, List.map_cons, List.map_nil, List.cons.injEq] at hx
        obtain ⟨⟨e0, e1, e2, e3, _⟩, _⟩ := hx
        have g0' : DataW.trod enc P w base spare held n' f0.type [v0] = some (bindsD (bindsOf k), y0.2) := by rw [e0]; exact g0
        obtain ⟨p, c, hv0, hc, hr⟩ := laid_ints u0 ui ci g0'
        obtain ⟨b1, hv1, hb1⟩ := DataW.trod_bool u1 (x := y1) g1
        obtain ⟨b2, hv2, hb2⟩ := DataW.trod_bool u2 (x := y2) g2
        obtain ⟨b3, hv3, hb3⟩ := DataW.trod_bool u3 (x := y3) g3
        rw [hb1] at e1
        rw [hb2] at e2
        rw [hb3] at e3
        cases e1; cases e2; cases e3
        cases hv0; cases hv1; cases hv2; cases hv3
        exact ⟨p, c, hat 0 _ rfl, hc, hr, hat 1 _ rfl, hat 2 _ rfl, hat 3 _ rfl⟩
  refine ⟨?_, each⟩
  obtain ⟨_, _, c0, _⟩ := each 0 (by decide)
  exact cell_lt c0
end
end Go.Lx

/- A slice of strings, opened. -/
namespace Go.Lx
open Go.ChangeShapes Go.WideShapes Go.RowKit Go.Deep

section
variable {H : Type} {enc : TypeId × Value → H} {P : Program} {w : World} {spare : Nat → Bool} {held : Bool} {t e : TypeId} {fuel : Nat} {cs : List Value} {x : DataW H × List MemPlace}
theorem open_textsV (ht : P.underlying t = some (.slice e)) (he : P.underlying e = some .string) (hC : P.cellsOf e = 1) (h : DataW.trod enc P w 0 spare held fuel t cs = some x) : ∃ v l, cs = [v] ∧ TextsV w v l := by
  obtain ⟨p, c, xs, rfl, hc, h0, rows, hr1, hr2, hr3⟩ := open_rows (R := fun _ cs (a : ByteArray) => cs = [.string a]) ht hC (by decide) (fun fuel cs x hcl hx => by
    obtain ⟨z3, e3, _, _⟩ := DataW.trod_string he (x := x) hx
    exact ⟨z3, e3⟩) h
  refine ⟨_, xs, rfl, p, c, rfl, hc, h0, ?_⟩
  have : ∀ (rows : List (List Value)) (xs : List ByteArray), Zip (fun cs a => cs = [.string a]) rows xs → rows.flatten = xs.map .string := by
    intro rows
    induction rows with
    | nil => intro xs hz; obtain ⟨e, _⟩ := hz; cases xs with | nil => rfl | cons => cases e
    | cons r l ih =>
      intro xs hz
      cases xs with
      | nil => cases hz.1
      | cons y ys =>
        obtain rfl := hz.2 0 r y rfl rfl
        have ht : Zip (fun cs a => cs = [.string a]) l ys := ⟨by have := hz.1; simpa using this, fun i v x hv hx => hz.2 (i + 1) v x (by simpa using hv) (by simpa using hx)⟩
        rw [List.flatten_cons, ih ys ht]
        rfl
  rw [← this rows xs hr3]
  exact hr1
end
end Go.Lx

/- What the rows list, as the walks want it. -/
namespace Go.Proofs.YtiibknlpeodejaaGreatDoor
open Go.ChangeShapes Go.WideShapes Go.ChangeAt Go.WideMaps Go.WideElems Go.RowKit Go.Lx Go.Deep

theorem Tryz.own : ownKnob Tryz.prog.godebug = none := by kernel_rfl
theorem Tryz.laidOut : laidOutB Tryz.prog = true := by kernel_rfl
theorem gShapes : Tryz.prog.globalNamed "cornice/term.shapes" = some 0 := by kernel_rfl
theorem tShapes : (Tryz.prog.globals[0]?).map (·.type) = some 97 := by kernel_rfl
theorem tPow : (Tryz.prog.globals[1]?).map (·.type) = some 156 := by kernel_rfl
/-- What the rows list. -/
def laidL {H : Type} : List (String × DataW H) := [("math/bits.deBruijn32tab", Rows.laid_math_bits_deBruijn32tab), ("math/bits.deBruijn64tab", Rows.laid_math_bits_deBruijn64tab), ("internal/strconv.uint64pow10", Rows.laid_internal_strconv_uint64pow10), ("cornice/term.shapes", Rows.laid_cornice_term_shapes)]
theorem shapes_eq {H : Type} : (Rows.laid_cornice_term_shapes : DataW H) = .agg ((List.range 30).map shapeD) := by kernel_rfl
theorem pow_eq {H : Type} : (Rows.laid_internal_strconv_uint64pow10 : DataW H) = Lib.tabData .u64 Lib.pow10Tab := by kernel_rfl
theorem door_met (os : Os) (args : Array Value) : laidMetH Tryz.prog laidL ((World.doorLaid Tryz.prog 400 os).forCall (fun _ _ => 0) ⟨#[], args, []⟩).memory :=
  laidMetH_of_parts3 (fuel := 8) (laidMet_of_run' 8 (by kernel_rfl) (by kernel_rfl)) (by kernel_rfl) (by kernel_rfl)
/-- What the condition gives the walks. -/
theorem of_laid {W : World} (h : laidMetH Tryz.prog laidL W) : Base W := by
  rw [MakeChecks.laidMetH_plain _ _ _ (by kernel_rfl)] at h
  obtain ⟨ps, ⟨_, _, _, _, _, _, _, _, _, _, ⟨_, _, _, _, _, _, _, _, _, _, ⟨g2, t2, cs2, f2, p2, q2, hg2, ht2, hv2, hd2, ⟨g3, t3, cs3, f3, p3, q3, hg3, ht3, hv3, hd3, _, _⟩, _⟩, _⟩, _⟩, _, _⟩ := h
  obtain rfl := Option.some.inj (gShapes.symm.trans hg3)
  obtain rfl := Option.some.inj (gPow.symm.trans hg2)
  obtain rfl := Option.some.inj (tShapes.symm.trans ht3)
  obtain rfl := Option.some.inj (tPow.symm.trans ht2)
  refine ⟨?_, ?_⟩
  · rw [shapes_eq] at hd3
    exact shapesAt_of (cs := cs3.toList) (fun j => by rw [World.var?_cell hg3 hv3 j]; simp) Tryz.underlying97 (by kernel_rfl) Tryz.underlying96 (by kernel_rfl) Tryz.underlying63 Tryz.underlying3 (by kernel_rfl) Tryz.underlying4 Tryz.underlying4 Tryz.underlying4 hd3
  · rw [pow_eq] at hd2
    show W.var? Tryz.prog "internal/strconv.uint64pow10" = _
    rw [hv2, ← Lib.cells_of_tab Tryz.underlying156 Tryz.underlying140 (by kernel_rfl) (by kernel_rfl) hd2]
section
variable {H : Type} {enc : TypeId × Value → H} {w : World} {spare : Nat → Bool} {held : Bool} {fuel : Nat} {cs : List Value} {x : DataW H × List MemPlace}
theorem openT (h : DataW.trod enc Tryz.prog w 0 spare held fuel 22 cs = some x) : ∃ v l, cs = [v] ∧ TermV w v l :=
  open_termV Tryz.underlying22 Tryz.underlying38 (by kernel_rfl) (by kernel_rfl) Tryz.underlying3 Tryz.underlying3 Tryz.underlying3 Tryz.underlying9 h
theorem openS (h : DataW.trod enc Tryz.prog w 0 spare held fuel 23 cs = some x) : ∃ v l, cs = [v] ∧ TextsV w v l :=
  open_textsV Tryz.underlying23 Tryz.underlying9 (by kernel_rfl) h
theorem staysZ {W : World} {t : TypeId} {v : Value} {d : DataW H} {ps : List MemPlace} (hr : Tryz.prog.readableRec t = true) (hrow : t < Tryz.prog.types.size) (hU : Under W w) (tp : Nat → Question → Nat)
    (hlt : ∀ p ∈ ps, p.block < W.heap.size) (h : DataW.Trod enc Tryz.prog W 0 (fun _ => true) true t v d ps) : DataW.Trod enc Tryz.prog { w with tape := tp } 0 (fun b => decide (b < W.heap.size)) true t v d ps := by
  refine Go.WideElems.Trod_stays Tryz.laidOut hr hrow h (fun p hp => ?_) (fun p hp => by simpa using hlt p hp)
  have hb := hlt p hp
  cases p with
  | cell b off => exact under_cell hU hb off
  | map b => exact hU.low b hb
end
theorem below_ofZ {W w : World} (h : Under W w) : Below W.heap.size W { w with tape := W.tape } := ⟨h.os, rfl, h.output, h.size, fun b hb => h.low b hb⟩
theorem shut_boolZ {H : Type} {enc : TypeId × Value → H} {W : World} {base : Nat} {sp : Nat → Bool} {held : Bool} (b : Bool) : DataW.Trod enc Tryz.prog W base sp held 4 (.bool b) (.lit (.bool b)) [] := ⟨1, by simp [DataW.trod, Value.cells, Tryz.underlying4]⟩
end Go.Proofs.YtiibknlpeodejaaGreatDoor
