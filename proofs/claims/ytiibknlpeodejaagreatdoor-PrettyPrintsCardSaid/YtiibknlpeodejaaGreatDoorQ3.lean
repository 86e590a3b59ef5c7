/- Part 3 of what the proof rests on. -/
import Derived.Maps.AppendAt
import Derived.Deep.AppendLies
import Derived.Deep.RegionHeld3
import Derived.Laws.ResultCell
import Derived.Laws.AppendOwnNone
import Derived.Test.YtiibknlpeodejaaGreatDoorQ2
set_option linter.unusedSimpArgs false
set_option linter.unusedVariables false
/- append of so many zeros ('append(s, make([]int, n)...)') to a row of one's own. -/
namespace Go.Lx
open Go.RowKit

section
variable {P : Program}
theorem zeros_list (m : Nat) : (Builtin.zeroCells #[Value.int .i64 0] m).toList = List.replicate m (Value.int .i64 0) := by
  apply List.ext_getElem
  · simp [Builtin.zeroCells]
  · intro j h1 h2
    simp [Builtin.zeroCells, Nat.mod_one]
theorem run_append_zeros_own (w : World) (base : Nat) (t u ty e : TypeId) (i : TypeInfo) (ht : P.underlying t = some (.slice e)) (hu : P.underlying u = some (.int .i64)) (hi : P.info? e = some i) (hz : i.zero = some (.int .i64 0)) (hs : i.size = 1) (hby : i.bytes = 8)
    (v : Value) (n : Nat) (xs : List Value) (hown : w.ownsRow base e 1 v n xs) (hn0 : 0 < n) (m : Nat) (h1 : 1 ≤ m) (h8 : n + m ≤ 100) (hbase : base ≤ w.heap.size) :
    ∃ v' w', (Builtin.append_ #[t, u] ty #[v, .int .i64 (m : Int)]).run P w = .ok v' w' ∧ w'.ownsRow base e 1 v' (n + m) (xs ++ List.replicate m (.int .i64 0)) ∧ w.grownBy w' v.ownBlock := by
  have hw : IntKind.i64.wrap (m : Int) = m := by rw [IntKind.wrap_i64]; omega
  have hneg : ¬ ((m : Int) < 0) := by omega
  have hbig : ¬ ((281474976710656 : Int) < (m : Int) * 8) := by omega
  have hm0 : ¬ m = 0 := by omega
  have h63' : ¬ (9223372036854775807 < ((n : Int) + (m : Int))) := by omega
  have hlen : (xs ++ List.replicate m (Value.int .i64 0)).length = (n + m) * 1 := by rw [List.length_append, hown.1, List.length_replicate]; omega
  rcases hown.2 with ⟨rfl, rfl⟩ | ⟨g, cap, cur, rfl, hbg, hg, hnc, hcm, hcs, htake⟩
  · omega
  · by_cases hroom : n + m ≤ cap
    · have hfit : n + (List.replicate m (Value.int .i64 0)).length ≤ cur.size := by rw [hcs, List.length_replicate]; omega
      have hzl : (Builtin.zeroCells (Value.int .i64 0).cells m).toList = List.replicate m (Value.int .i64 0) := zeros_list m
      have hst := run_storeCells_at P g n e (List.replicate m (Value.int .i64 0)) 0 cur w hg (by simpa using hfit) (fun u hu => by rw [List.eq_of_mem_replicate hu]; rfl)
      simp only [Nat.add_zero] at hst
      refine ⟨.slice (some ⟨g, 0, none⟩) (n + m) cap, _, ?_, ⟨hlen, .inr ⟨g, cap, _, rfl, hbg, setRow_heap w g cur (cur.toList.take n ++ List.replicate m (Value.int .i64 0) ++ cur.toList.drop (n + (List.replicate m (Value.int .i64 0)).length)).toArray e _ hg, hroom, hcm, ?_, ?_⟩⟩, ⟨rfl, rfl, rfl, by simp, fun k _ hk => setRow_other w g k _ (fun e => hk (by simp [Value.ownBlock, e]))⟩⟩
      · simp [Builtin.append_, run_underlying ht, run_underlying hu, sizeOf, typeInfo, zeroValue, hi, hz, hs, hby, Builtin.lenOf, hroom, asInt, asIntOf, hw, hneg, hbig, hm0, hzl, Addr.add_lit, hst, Result.andThen]
      · simp only [List.size_toArray, List.length_append, List.length_take, List.length_drop, Array.length_toList]
        omega
      · have ht' : cur.toList.take n = xs := by simpa using htake
        simp only
        rw [ht', ← hlen]
        exact List.take_left
    · have holds : ∀ j u, xs[j]? = some u → w.drew.cell? ((⟨g, 0, none⟩ : Addr).add j) = some u := hown.cells (g := g) rfl
      have hfo := run_firstCells_some (P := P) w.drew 1 n ⟨g, 0, none⟩ n cap xs (by have := hown.1; omega) holds
      have h48' : ¬ (281474976710656 < Builtin.nextslicecap (n + m) cap * 8) := by
        unfold Builtin.nextslicecap
        split
        · omega
        · split
          · omega
          · omega
      refine ⟨.slice (some ⟨w.heap.size, 0, none⟩) (n + m) (grownCap w (n + m) cap e), w.drew.alloc (.cells (xs.toArray ++ Builtin.zeroCells #[.int .i64 0] m ++ Builtin.zeroCells #[.int .i64 0] (grownCap w (n + m) cap e - (n + m))) e), ?_, ?_, ?_⟩
      · simp [Builtin.append_, run_underlying ht, run_underlying hu, sizeOf, typeInfo, zeroValue, hi, hz, hs, hby, Builtin.lenOf, hroom, hm0, h63', h48', Question.forced, hfo, newRow, grownCap, asInt, asIntOf, hw, hneg, hbig]
        rfl
      · have hge := grownCap_ge w (n + m) cap e
        have hcm : grownCap w (n + m) cap e ≤ maxLen := grownCap_le_maxLen w (n + m) cap e (by simp only [maxLen]; omega)
        refine ⟨hlen, .inr ⟨w.heap.size, _, _, rfl, hbase, box_new w.drew _ _, hge, hcm, ?_, ?_⟩⟩
        · have := hown.1
          simp only [Array.size_append, List.size_toArray, size_zeroCells]
          simp
          omega
        · simp only [Array.toList_append, zeros_list]
          rw [← hlen]
          exact List.take_left
      · exact ⟨rfl, rfl, rfl, by simp, fun k hk _ => by
          show (w.heap.push _)[k]? = _
          rw [Array.getElem?_push_lt hk, ← Array.getElem?_eq_getElem]⟩
theorem wpList_append_zeros_own {w : World} {ops : Array Oper} {rest : List Oper} {o : Oper} {a : Act} {Q : Exit → Act → World → Prop} (hgd : o.guard = none) (s x : Operand) (base : Nat) (t u e : TypeId)
    (ho : o.op = .call { callee := .builtin .append, args := #[s, x], argTypes := #[t, u] }) (i : TypeInfo) (ht : P.underlying t = some (.slice e)) (hu : P.underlying u = some (.int .i64)) (hi : P.info? e = some i) (hz : i.zero = some (.int .i64 0)) (hs : i.size = 1) (hby : i.bytes = 8)
    (v : Value) (n : Nat) (xs : List Value) (m : Nat) (es : a.eval s = v) (ex : a.eval x = .int .i64 (m : Int)) (hown : w.ownsRow base e 1 v n xs) (hn0 : 0 < n) (h1 : 1 ≤ m) (h8 : n + m ≤ 100) (hbase : base ≤ w.heap.size)
    (h : ∀ v' w', w'.ownsRow base e 1 v' (n + m) (xs ++ List.replicate m (.int .i64 0)) → w.grownBy w' v.ownBlock → wpList P ops Q rest (a.put o.dst v') w') :
    wpList P ops Q (o :: rest) a w := by
  refine wpList_plain hgd fun K hK' => ?_
  obtain ⟨v', w', hrun, r1, r2⟩ := run_append_zeros_own (P := P) w base t u o.type e i ht hu hi hz hs hby v n xs hown hn0 m h1 h8 hbase
  unfold Oper.wp
  simp [execOp, ho, resolve, invoke, builtin, es, ex, hrun, Result.andThen]
  exact hK' _ _ (h v' w' r1 r2)
end
end Go.Lx

/- corniceref02.Binds: its contract, at Elim. -/
namespace Go.Proofs.YtiibknlpeodejaaGreatDoor
open Go.Lx Go.RowKit

section
variable {w0 : World}
set_option maxRecDepth 100000 in
set_option maxHeartbeats 2000000 in
theorem rb_27_no (n m : Int) (s : ByteArray) (h : nameB s = false ∨ n ≠ 0 ∨ m < 0 ∨ 6 < m) : Calls Tryz.prog 44 #[ndV ⟨27, n, m, s⟩] w0 (BOut w0 [] false) := by
  have HNm := Lib.hid (fun w => rname_any (w0 := w) s)
  unfold ndV
  generalize nameB s = nb at *
  cases nb
  · clear h
    go_enter Tryz.func44, Tryz.ntmps44
    go_wp2_with fail
    refine (HNm.out _).mono ?_
    rintro e w3 ⟨rfl, rfl⟩
    go_wp2
    go_ret2
    exact BOut.empty _ (under_alloc (under_alloc (Under.refl _) _) _)
  · by_cases h1 : n = 0
    · subst h1
      by_cases h3 : m < 0
      · clear h
        go_enter Tryz.func44, Tryz.ntmps44
        go_wp2_with fail
        refine (HNm.out _).mono ?_
        rintro e w3 ⟨rfl, rfl⟩
        go_wp2
        go_ret2
        exact BOut.empty _ (under_alloc (under_alloc (Under.refl _) _) _)
      · have h4 : 6 < m := by
          simp at h
          omega
        clear h
        go_enter Tryz.func44, Tryz.ntmps44
        go_wp2_with fail
        refine (HNm.out _).mono ?_
        rintro e w3 ⟨rfl, rfl⟩
        go_wp2
        go_ret2
        exact BOut.empty _ (under_alloc (under_alloc (Under.refl _) _) _)
    · clear h
      go_enter Tryz.func44, Tryz.ntmps44
      go_wp2_with fail
      refine (HNm.out _).mono ?_
      rintro e w3 ⟨rfl, rfl⟩
      go_wp2
      go_ret2
      exact BOut.empty _ (under_alloc (under_alloc (Under.refl _) _) _)
set_option maxRecDepth 100000 in
set_option maxHeartbeats 2000000 in
theorem rb_27_yes (m : Nat) (s : ByteArray) (hs : nameB s = true) (h3 : m ≤ 6) : Calls Tryz.prog 44 #[ndV ⟨27, 0, m, s⟩] w0 (BOut w0 (1 :: List.replicate (m + 1) 0) true) := by
  have HNm := Lib.hid (fun w => rname_any (w0 := w) s)
  rw [hs] at HNm
  obtain ⟨i0, hi, hz0, hz1, hz2⟩ := info_parts Tryz.infoInt
  unfold ndV
  have HE := Lib.hid (row_emptyZ (w0.alloc (.cells #[.int .i64 27, .int .i64 0, .int .i64 m, .string s] 38)) (w0.heap.size + 1) 3 1 (by simp))
  rw [show (w0.alloc (.cells #[.int .i64 27, .int .i64 0, .int .i64 m, .string s] 38)).heap.size = w0.heap.size + 1 by simp] at HE
  have m0 : (0 : Int) ≤ m := Int.natCast_nonneg _
  have m6 : (m : Int) ≤ 6 := by omega
  clear hs
  go_enter Tryz.func44, Tryz.ntmps44
  go_wp2_with fail
  refine (HNm.out _).mono ?_
  rintro e w3 ⟨rfl, rfl⟩
  obtain ⟨W1, hW1⟩ : ∃ W, W = (w0.alloc (.cells #[.int .i64 27, .int .i64 0, .int .i64 m, .string s] 38)).alloc (.cells #[] 3) := ⟨_, rfl⟩
  have HB := Lib.hid (show BoxAt W1 w0.heap.size 38 #[.int .i64 27, .int .i64 0, .int .i64 m, .string s] by rw [hW1]; exact (box_new w0 _ _).alloc _)
  have c1 := HB.out.cell 1
  have c2 := HB.out.cell 2
  have hsz : w0.heap.size + 2 = W1.heap.size := by rw [hW1]; simp
  have HU := Lib.hid (show Under w0 W1 by rw [hW1]; exact under_alloc (under_alloc (Under.refl _) _) _)
  have HR := Lib.hid (show W1.ownsRow (w0.heap.size + 1) 3 1 (.slice (some ⟨w0.heap.size + 1, 0, none⟩) 0 0) 0 [] by rw [hW1]; exact HE.out)
  rw [← hW1]
  clear hW1 HE
  have HS := Lib.hid hsz
  clear hsz
  go_wp2_with (at_builtin; refine wpList_append_lies _ rfl _ _ 63 rfl (w0.heap.size + 1) 3 i0 _ 1 8 Tryz.underlying63 hi hz0 hz1 hz2 rfl (by decide) _ _ _ rfl (HR.out.alloc _) ⟨W1.heap.size, 0, none⟩ 1 1 [.int .i64 1] rfl rfl ?c1 ?c2 (by decide) (by simp [maxLen]) (by simp) ?c5 (W1.heap.size + 1) (by simp) ?_)
  case c1 => exact cell_one_new _ _ _
  case c2 => simp [Value.oneCell']
  case c5 => have := HS.out; simp; omega
  intro g cap w2 hown hgrow hat hlt
  have HO := Lib.hid hown
  have HB2 := Lib.hid (BoxAt.grown (HB.out.alloc (.cells #[.int .i64 1] 3)) hgrow (fun e => by simp [Value.ownBlock] at e))
  have HU2 := Lib.hid (under_grown (under_alloc HU.out (.cells #[.int .i64 1] 3)) hgrow (fun g e => by simp [Value.ownBlock] at e; omega))
  have HS2 := Lib.hid hlt
  have d2 := HB2.out.cell 2
  have HZ := Lib.hid (show w0.heap.size + 1 ≤ w2.heap.size from Nat.le_of_lt (Nat.lt_of_le_of_lt (HO.out.lt _ rfl).1 HS2.out))
  clear hown hgrow hat hlt c1 c2
  go_wp2_with (at_builtin; refine wpList_append_zeros_own rfl _ _ (w0.heap.size + 1) 63 3 3 rfl i0 Tryz.underlying63 Tryz.underlying3 hi hz0 hz1 hz2 _ _ _ (m + 1) rfl ?c0 HO.out (by decide) (by omega) (by omega) HZ.out ?_)
  case c0 => exact congrArg (Value.int .i64) (by omega)
  intro v w4 hown hgrow
  have HO4 := Lib.hid hown
  have HU4 := Lib.hid (under_grown HU2.out hgrow fun k e => by have := (HO.out.lt k e).1; omega)
  clear hown hgrow
  obtain ⟨q, c, hv, hc, hr⟩ := RowArg.of_own HO4.out
  cases hv
  go_wp2
  go_ret2
  have hcs : [] ++ [Value.int .i64 1] ++ List.replicate (m + 1) (.int .i64 0) = intsN (1 :: List.replicate (m + 1) 0) := by simp [intsN]
  have hl : (1 :: List.replicate (m + 1) 0).length = 1 + (m + 1) := by simp; omega
  exact ⟨_, _, by rw [hl]; rfl, by rw [hl]; exact hc, by rw [← hcs]; exact hr, HU4.out⟩
end
end Go.Proofs.YtiibknlpeodejaaGreatDoor

/- corniceref02.Binds: its contract. Printed by genrb.py. -/
namespace Go.Proofs.YtiibknlpeodejaaGreatDoor
open Go.Lx Go.RowKit

theorem right_plain {k n m : Int} {s : ByteArray} (h1 : ¬ (k < 0 ∨ 30 ≤ k)) (h2 : fN k.toNat = false) (h3 : fM k.toNat = false) (h4 : fS k.toNat = false) (h5 : k ≠ 2) (h6 : k ≠ 26) (h7 : k ≠ 27) : rightB ⟨k, n, m, s⟩ = plainB ⟨k, n, m, s⟩ := by
  unfold rightB plainB
  rw [isEmpty_size, if_neg h1]
  simp only [h2, h3, h4, if_neg h5, if_neg h6, if_neg h7]
  by_cases a : n = 0 <;> by_cases b : m = 0 <;> by_cases c : s.size = 0 <;> simp [a, b, c]
theorem right_var {n m : Int} {s : ByteArray} : rightB ⟨0, n, m, s⟩ = varB n m s := by
  unfold rightB varB
  rw [isEmpty_size]
  by_cases b : m = 0 <;> by_cases c : s.size = 0 <;> simp [fN, fM, fS, mostN, b, c]
theorem right_pi {k n m : Int} {s : ByteArray} (hk : k = 3 ∨ k = 6) : rightB ⟨k, n, m, s⟩ = piB n m s := by
  unfold rightB piB
  rw [isEmpty_size]
  rcases hk with rfl | rfl <;> by_cases b : m = 0 <;> by_cases c : s.size = 0 <;> simp [fN, fM, fS, mostN, b, c]
theorem right_sort {n m : Int} {s : ByteArray} : rightB ⟨2, n, m, s⟩ = ((levB n && (m == 0)) && s.toList.isEmpty) := by
  unfold rightB levB
  rw [isEmpty_size]
  by_cases b : m = 0 <;> by_cases c : s.size = 0 <;> simp [fN, fM, fS, b, c]
theorem right_const {k n m : Int} {s : ByteArray} (hk : k = 1 ∨ k = 25) : rightB ⟨k, n, m, s⟩ = ((n == 0) && (m == 0) && nameB s) := by
  unfold rightB
  rcases hk with rfl | rfl <;> by_cases a : n = 0 <;> by_cases b : m = 0 <;> cases c : nameB s <;> simp [fN, fM, fS, a, b, c]
theorem right_con {n m : Int} {s : ByteArray} : rightB ⟨26, n, m, s⟩ = (nameB s && (decide (0 ≤ n) && decide (n ≤ 5) && decide (0 ≤ m) && decide (m ≤ 6))) := by
  unfold rightB
  cases c : nameB s <;> simp [fN, fM, fS, c]
theorem right_elim {n m : Int} {s : ByteArray} : rightB ⟨27, n, m, s⟩ = (nameB s && (n == 0) && (decide (0 ≤ m) && decide (m ≤ 6))) := by
  unfold rightB
  cases c : nameB s <;> by_cases a : n = 0 <;> simp [fN, fM, fS, a, c]
/-- What Binds answers. -/
def ROut (w0 : World) (x : Nd) (e : Ending) (w : World) : Prop := ∃ l, (rightB x = true → l = binds x) ∧ BOut w0 l (rightB x) e w
section
variable {w0 : World}
theorem ROut.of {w : World} {e : Ending} {x : Nd} {l : List Nat} {b : Bool} (h : BOut w0 l b e w) (hb : rightB x = b) (hl : b = true → l = binds x) : ROut w0 x e w := ⟨l, fun h => hl (hb ▸ h), by rw [hb]; exact h⟩
theorem ra_4 (n m : Int) (s : ByteArray) : Calls Tryz.prog 44 #[ndV ⟨4, n, m, s⟩] w0 (ROut w0 ⟨4, n, m, s⟩) := by
  refine (rb_lam n m s).mono fun e w h => ?_
  exact ROut.of (l := [0, 1]) h (right_plain (by decide) rfl rfl rfl (by decide) (by decide) (by decide)) (fun _ => rfl)
theorem ra_5 (n m : Int) (s : ByteArray) : Calls Tryz.prog 44 #[ndV ⟨5, n, m, s⟩] w0 (ROut w0 ⟨5, n, m, s⟩) := by
  refine (rb_5 n m s).mono fun e w h => ?_
  exact ROut.of (l := [0, 0]) h (right_plain (by decide) rfl rfl rfl (by decide) (by decide) (by decide)) (fun _ => rfl)
theorem ra_7 (n m : Int) (s : ByteArray) : Calls Tryz.prog 44 #[ndV ⟨7, n, m, s⟩] w0 (ROut w0 ⟨7, n, m, s⟩) := by
  refine (rb_7 n m s).mono fun e w h => ?_
  exact ROut.of (l := [0, 0, 0]) h (right_plain (by decide) rfl rfl rfl (by decide) (by decide) (by decide)) (fun _ => rfl)
theorem ra_8 (n m : Int) (s : ByteArray) : Calls Tryz.prog 44 #[ndV ⟨8, n, m, s⟩] w0 (ROut w0 ⟨8, n, m, s⟩) := by
  refine (rb_8 n m s).mono fun e w h => ?_
  exact ROut.of (l := [0]) h (right_plain (by decide) rfl rfl rfl (by decide) (by decide) (by decide)) (fun _ => rfl)
theorem ra_9 (n m : Int) (s : ByteArray) : Calls Tryz.prog 44 #[ndV ⟨9, n, m, s⟩] w0 (ROut w0 ⟨9, n, m, s⟩) := by
  refine (rb_9 n m s).mono fun e w h => ?_
  exact ROut.of (l := [0]) h (right_plain (by decide) rfl rfl rfl (by decide) (by decide) (by decide)) (fun _ => rfl)
theorem ra_10 (n m : Int) (s : ByteArray) : Calls Tryz.prog 44 #[ndV ⟨10, n, m, s⟩] w0 (ROut w0 ⟨10, n, m, s⟩) := by
  refine (rb_10 n m s).mono fun e w h => ?_
  exact ROut.of (l := []) h (right_plain (by decide) rfl rfl rfl (by decide) (by decide) (by decide)) (fun _ => rfl)
theorem ra_11 (n m : Int) (s : ByteArray) : Calls Tryz.prog 44 #[ndV ⟨11, n, m, s⟩] w0 (ROut w0 ⟨11, n, m, s⟩) := by
  refine (rb_11 n m s).mono fun e w h => ?_
  exact ROut.of (l := []) h (right_plain (by decide) rfl rfl rfl (by decide) (by decide) (by decide)) (fun _ => rfl)
theorem ra_12 (n m : Int) (s : ByteArray) : Calls Tryz.prog 44 #[ndV ⟨12, n, m, s⟩] w0 (ROut w0 ⟨12, n, m, s⟩) := by
  refine (rb_12 n m s).mono fun e w h => ?_
  exact ROut.of (l := [0]) h (right_plain (by decide) rfl rfl rfl (by decide) (by decide) (by decide)) (fun _ => rfl)
theorem ra_13 (n m : Int) (s : ByteArray) : Calls Tryz.prog 44 #[ndV ⟨13, n, m, s⟩] w0 (ROut w0 ⟨13, n, m, s⟩) := by
  refine (rb_13 n m s).mono fun e w h => ?_
  exact ROut.of (l := [1, 0, 2, 0]) h (right_plain (by decide) rfl rfl rfl (by decide) (by decide) (by decide)) (fun _ => rfl)
theorem ra_14 (n m : Int) (s : ByteArray) : Calls Tryz.prog 44 #[ndV ⟨14, n, m, s⟩] w0 (ROut w0 ⟨14, n, m, s⟩) := by
  refine (rb_14 n m s).mono fun e w h => ?_
  exact ROut.of (l := []) h (right_plain (by decide) rfl rfl rfl (by decide) (by decide) (by decide)) (fun _ => rfl)
theorem ra_15 (n m : Int) (s : ByteArray) : Calls Tryz.prog 44 #[ndV ⟨15, n, m, s⟩] w0 (ROut w0 ⟨15, n, m, s⟩) := by
  refine (rb_15 n m s).mono fun e w h => ?_
  exact ROut.of (l := [0, 0]) h (right_plain (by decide) rfl rfl rfl (by decide) (by decide) (by decide)) (fun _ => rfl)
theorem ra_16 (n m : Int) (s : ByteArray) : Calls Tryz.prog 44 #[ndV ⟨16, n, m, s⟩] w0 (ROut w0 ⟨16, n, m, s⟩) := by
  refine (rb_16 n m s).mono fun e w h => ?_
  exact ROut.of (l := []) h (right_plain (by decide) rfl rfl rfl (by decide) (by decide) (by decide)) (fun _ => rfl)
theorem ra_17 (n m : Int) (s : ByteArray) : Calls Tryz.prog 44 #[ndV ⟨17, n, m, s⟩] w0 (ROut w0 ⟨17, n, m, s⟩) := by
  refine (rb_17 n m s).mono fun e w h => ?_
  exact ROut.of (l := []) h (right_plain (by decide) rfl rfl rfl (by decide) (by decide) (by decide)) (fun _ => rfl)
theorem ra_18 (n m : Int) (s : ByteArray) : Calls Tryz.prog 44 #[ndV ⟨18, n, m, s⟩] w0 (ROut w0 ⟨18, n, m, s⟩) := by
  refine (rb_18 n m s).mono fun e w h => ?_
  exact ROut.of (l := [0, 0, 0]) h (right_plain (by decide) rfl rfl rfl (by decide) (by decide) (by decide)) (fun _ => rfl)
theorem ra_19 (n m : Int) (s : ByteArray) : Calls Tryz.prog 44 #[ndV ⟨19, n, m, s⟩] w0 (ROut w0 ⟨19, n, m, s⟩) := by
  refine (rb_19 n m s).mono fun e w h => ?_
  exact ROut.of (l := [0, 0]) h (right_plain (by decide) rfl rfl rfl (by decide) (by decide) (by decide)) (fun _ => rfl)
theorem ra_20 (n m : Int) (s : ByteArray) : Calls Tryz.prog 44 #[ndV ⟨20, n, m, s⟩] w0 (ROut w0 ⟨20, n, m, s⟩) := by
  refine (rb_20 n m s).mono fun e w h => ?_
  exact ROut.of (l := [0, 0, 0, 0]) h (right_plain (by decide) rfl rfl rfl (by decide) (by decide) (by decide)) (fun _ => rfl)
theorem ra_21 (n m : Int) (s : ByteArray) : Calls Tryz.prog 44 #[ndV ⟨21, n, m, s⟩] w0 (ROut w0 ⟨21, n, m, s⟩) := by
  refine (rb_21 n m s).mono fun e w h => ?_
  exact ROut.of (l := [0, 0, 1, 0, 0, 0]) h (right_plain (by decide) rfl rfl rfl (by decide) (by decide) (by decide)) (fun _ => rfl)
theorem ra_22 (n m : Int) (s : ByteArray) : Calls Tryz.prog 44 #[ndV ⟨22, n, m, s⟩] w0 (ROut w0 ⟨22, n, m, s⟩) := by
  refine (rb_22 n m s).mono fun e w h => ?_
  exact ROut.of (l := [0, 2, 0, 0, 0]) h (right_plain (by decide) rfl rfl rfl (by decide) (by decide) (by decide)) (fun _ => rfl)
theorem ra_23 (n m : Int) (s : ByteArray) : Calls Tryz.prog 44 #[ndV ⟨23, n, m, s⟩] w0 (ROut w0 ⟨23, n, m, s⟩) := by
  refine (rb_23 n m s).mono fun e w h => ?_
  exact ROut.of (l := [0, 0]) h (right_plain (by decide) rfl rfl rfl (by decide) (by decide) (by decide)) (fun _ => rfl)
theorem ra_24 (n m : Int) (s : ByteArray) : Calls Tryz.prog 44 #[ndV ⟨24, n, m, s⟩] w0 (ROut w0 ⟨24, n, m, s⟩) := by
  refine (rb_24 n m s).mono fun e w h => ?_
  exact ROut.of (l := [0, 1, 0, 0]) h (right_plain (by decide) rfl rfl rfl (by decide) (by decide) (by decide)) (fun _ => rfl)
theorem ra_28 (n m : Int) (s : ByteArray) : Calls Tryz.prog 44 #[ndV ⟨28, n, m, s⟩] w0 (ROut w0 ⟨28, n, m, s⟩) := by
  refine (rb_28 n m s).mono fun e w h => ?_
  exact ROut.of (l := [0]) h (right_plain (by decide) rfl rfl rfl (by decide) (by decide) (by decide)) (fun _ => rfl)
theorem ra_29 (n m : Int) (s : ByteArray) : Calls Tryz.prog 44 #[ndV ⟨29, n, m, s⟩] w0 (ROut w0 ⟨29, n, m, s⟩) := by
  refine (rb_29 n m s).mono fun e w h => ?_
  exact ROut.of (l := []) h (right_plain (by decide) rfl rfl rfl (by decide) (by decide) (by decide)) (fun _ => rfl)
theorem ra_1 (n m : Int) (s : ByteArray) : Calls Tryz.prog 44 #[ndV ⟨1, n, m, s⟩] w0 (ROut w0 ⟨1, n, m, s⟩) := by
  refine (rb_1 n m s).mono fun e w h => ?_
  exact ROut.of h (right_const (by simp)) (fun _ => rfl)
theorem ra_25 (n m : Int) (s : ByteArray) : Calls Tryz.prog 44 #[ndV ⟨25, n, m, s⟩] w0 (ROut w0 ⟨25, n, m, s⟩) := by
  refine (rb_25 n m s).mono fun e w h => ?_
  exact ROut.of h (right_const (by simp)) (fun _ => rfl)
theorem ra_0 (n m : Int) (s : ByteArray) : Calls Tryz.prog 44 #[ndV ⟨0, n, m, s⟩] w0 (ROut w0 ⟨0, n, m, s⟩) := by
  refine (rb_0 n m s).mono fun e w h => ?_
  exact ROut.of h right_var (fun _ => rfl)
theorem ra_2 (n m : Int) (s : ByteArray) : Calls Tryz.prog 44 #[ndV ⟨2, n, m, s⟩] w0 (ROut w0 ⟨2, n, m, s⟩) := by
  refine (rb_2 n m s).mono fun e w h => ?_
  exact ROut.of h right_sort (fun _ => rfl)
theorem ra_3 (n m : Int) (s : ByteArray) : Calls Tryz.prog 44 #[ndV ⟨3, n, m, s⟩] w0 (ROut w0 ⟨3, n, m, s⟩) := by
  by_cases h1 : 0 ≤ n
  · by_cases h2 : n ≤ 3
    · cases h3 : (m == 0)
      · exact (rb_3c n m s h1 h2 h3).mono fun e w h => ROut.of h (by rw [right_pi (by simp)]; unfold piB; rw [h3]; simp) (fun h => by cases h)
      · cases h4 : s.toList.isEmpty
        · exact (rb_3d n m s h1 h2 h3 h4).mono fun e w h => ROut.of h (by rw [right_pi (by simp)]; unfold piB; rw [h4]; simp) (fun h => by cases h)
        · exact (rb_3e n m s h1 h2 h3 h4).mono fun e w h => ROut.of h (by rw [right_pi (by simp)]; unfold piB; rw [h3, h4]; simp [h1, h2]) (fun _ => rfl)
    · exact (rb_3b n m s h1 (eq_false h2)).mono fun e w h => ROut.of h (by rw [right_pi (by simp)]; unfold piB; simp [h2]) (fun h => by cases h)
  · exact (rb_3a n m s (eq_false h1)).mono fun e w h => ROut.of h (by rw [right_pi (by simp)]; unfold piB; simp [h1]) (fun h => by cases h)
theorem ra_6 (n m : Int) (s : ByteArray) : Calls Tryz.prog 44 #[ndV ⟨6, n, m, s⟩] w0 (ROut w0 ⟨6, n, m, s⟩) := by
  by_cases h1 : 0 ≤ n
  · by_cases h2 : n ≤ 3
    · cases h3 : (m == 0)
      · exact (rb_6c n m s h1 h2 h3).mono fun e w h => ROut.of h (by rw [right_pi (by simp)]; unfold piB; rw [h3]; simp) (fun h => by cases h)
      · cases h4 : s.toList.isEmpty
        · exact (rb_6d n m s h1 h2 h3 h4).mono fun e w h => ROut.of h (by rw [right_pi (by simp)]; unfold piB; rw [h4]; simp) (fun h => by cases h)
        · exact (rb_6e n m s h1 h2 h3 h4).mono fun e w h => ROut.of h (by rw [right_pi (by simp)]; unfold piB; rw [h3, h4]; simp [h1, h2]) (fun _ => rfl)
    · exact (rb_6b n m s h1 (eq_false h2)).mono fun e w h => ROut.of h (by rw [right_pi (by simp)]; unfold piB; simp [h2]) (fun h => by cases h)
  · exact (rb_6a n m s (eq_false h1)).mono fun e w h => ROut.of h (by rw [right_pi (by simp)]; unfold piB; simp [h1]) (fun h => by cases h)
theorem ra_26 (n m : Int) (s : ByteArray) : Calls Tryz.prog 44 #[ndV ⟨26, n, m, s⟩] w0 (ROut w0 ⟨26, n, m, s⟩) := by
  by_cases h : nameB s = false ∨ n < 0 ∨ 6 ≤ n ∨ m < 0 ∨ 6 < m
  · refine (rb_26_no n m s h).mono fun e w hb => ROut.of hb ?_ (fun h => by cases h)
    rw [right_con]
    rcases h with h | h | h | h | h
    · rw [h]; rfl
    all_goals
      rw [Bool.and_eq_false_iff]
      right
      rw [Bool.eq_false_iff]
      intro c
      simp only [Bool.and_eq_true, decide_eq_true_eq] at c
      omega
  · have hs : nameB s = true := by cases c : nameB s; exact (h (.inl c)).elim; rfl
    have h' : 0 ≤ n ∧ n < 6 ∧ 0 ≤ m ∧ m ≤ 6 := by
      refine ⟨?_, ?_, ?_, ?_⟩ <;> (refine Classical.byContradiction fun c => h ?_; omega)
    obtain ⟨m', rfl⟩ : ∃ m' : Nat, m = m' := ⟨m.toNat, by omega⟩
    refine (rb_26_yes n m' s hs h'.1 h'.2.1 (by omega)).mono fun e w hb => ROut.of hb ?_ (fun _ => ?_)
    · rw [right_con, hs]
      simp only [Bool.true_and, Bool.and_eq_true, decide_eq_true_eq]
      omega
    · unfold binds
      rw [if_pos rfl]
      rfl
theorem ra_27 (n m : Int) (s : ByteArray) : Calls Tryz.prog 44 #[ndV ⟨27, n, m, s⟩] w0 (ROut w0 ⟨27, n, m, s⟩) := by
  by_cases h : nameB s = false ∨ n ≠ 0 ∨ m < 0 ∨ 6 < m
  · refine (rb_27_no n m s h).mono fun e w hb => ROut.of hb ?_ (fun h => by cases h)
    rw [right_elim]
    rcases h with h | h | h | h
    · rw [h]; rfl
    · have : (n == 0) = false := by simpa using h
      rw [this]; simp
    all_goals
      rw [Bool.and_eq_false_iff]
      right
      rw [Bool.eq_false_iff]
      intro c
      simp only [Bool.and_eq_true, decide_eq_true_eq] at c
      omega
  · have hs : nameB s = true := by cases c : nameB s; exact (h (.inl c)).elim; rfl
    have h' : n = 0 ∧ 0 ≤ m ∧ m ≤ 6 := by
      refine ⟨?_, ?_, ?_⟩ <;> (refine Classical.byContradiction fun c => h ?_; omega)
    obtain ⟨m', rfl⟩ : ∃ m' : Nat, m = m' := ⟨m.toNat, by omega⟩
    obtain rfl := h'.1
    refine (rb_27_yes m' s hs (by omega)).mono fun e w hb => ROut.of hb ?_ (fun _ => ?_)
    · rw [right_elim, hs]
      simp
      omega
    · unfold binds
      rw [if_neg (by simp), if_pos rfl]
      rfl
theorem rbinds_any (x : Nd) : Calls Tryz.prog 44 #[ndV x] w0 (ROut w0 x) := by
  obtain ⟨k, n, m, s⟩ := x
  by_cases h : k < 0 ∨ 29 < k
  · refine (rb_else k n m s h).mono fun e w hb => ROut.of hb ?_ (fun h => by cases h)
    unfold rightB
    rw [if_pos (by simp only; omega)]
  · have hk : k = 0 ∨ k = 1 ∨ k = 2 ∨ k = 3 ∨ k = 4 ∨ k = 5 ∨ k = 6 ∨ k = 7 ∨ k = 8 ∨ k = 9 ∨ k = 10 ∨ k = 11 ∨ k = 12 ∨ k = 13 ∨ k = 14 ∨ k = 15 ∨ k = 16 ∨ k = 17 ∨ k = 18 ∨ k = 19 ∨ k = 20 ∨ k = 21 ∨ k = 22 ∨ k = 23 ∨ k = 24 ∨ k = 25 ∨ k = 26 ∨ k = 27 ∨ k = 28 ∨ k = 29 := by omega
    rcases hk with rfl | rfl | rfl | rfl | rfl | rfl | rfl | rfl | rfl | rfl | rfl | rfl | rfl | rfl | rfl | rfl | rfl | rfl | rfl | rfl | rfl | rfl | rfl | rfl | rfl | rfl | rfl | rfl | rfl | rfl
    · exact ra_0 n m s
    · exact ra_1 n m s
    · exact ra_2 n m s
    · exact ra_3 n m s
    · exact ra_4 n m s
    · exact ra_5 n m s
    · exact ra_6 n m s
    · exact ra_7 n m s
    · exact ra_8 n m s
    · exact ra_9 n m s
    · exact ra_10 n m s
    · exact ra_11 n m s
    · exact ra_12 n m s
    · exact ra_13 n m s
    · exact ra_14 n m s
    · exact ra_15 n m s
    · exact ra_16 n m s
    · exact ra_17 n m s
    · exact ra_18 n m s
    · exact ra_19 n m s
    · exact ra_20 n m s
    · exact ra_21 n m s
    · exact ra_22 n m s
    · exact ra_23 n m s
    · exact ra_24 n m s
    · exact ra_25 n m s
    · exact ra_26 n m s
    · exact ra_27 n m s
    · exact ra_28 n m s
    · exact ra_29 n m s
end
end Go.Proofs.YtiibknlpeodejaaGreatDoor

/- corniceref02.whole: its contract. -/
namespace Go.Proofs.YtiibknlpeodejaaGreatDoor
open Go.Lx Go.RowKit

/-- Do these nodes, behind so many terms, make one? -/
def wholeGo : List Nd → Nat → Bool
  | [], d => d == 1
  | x :: t, d => if rightB x = false ∨ d < (binds x).length then false else wholeGo t (d - (binds x).length + 1)
def WhRel (w0 : World) (t : List Nd) (d i : Value) (wr : World) : Prop := ∃ k D : Nat, k ≤ t.length ∧ D ≤ k ∧ d = .int .i64 (D : Int) ∧ i = .int .i64 (k : Int) ∧ (wholeGo t 0 = wholeGo (t.drop k) D) ∧ Under w0 wr
section
variable {w0 : World}
set_option maxRecDepth 100000 in
set_option maxHeartbeats 1000000 in
theorem whole_any (t : List Nd) {v : Value} (hn : t.length ≤ 1000000) (hv : TermV w0 v t) : Calls Tryz.prog 51 #[v] w0 fun e w => e = .returned (.bool (wholeGo t 0)) ∧ Under w0 w := by
  obtain ⟨p, c, rfl, _, _, hr⟩ := hv
  have HR := Lib.hid hr
  have HN := Lib.hid hn
  have hn' : (t.length : Int) ≤ 1000000 := by omega
  have hn0 : (0 : Int) ≤ (t.length : Int) := by omega
  clear hr hn
  go_enter Tryz.func51, Tryz.ntmps51
  go_wp2
  go_loopw [3, 4] (fun d i wr => WhRel w0 t d i wr) (fun _ i _ => t.length - (intOf i).toNat)
  case atStart => exact ⟨0, 0, Nat.zero_le _, Nat.le_refl _, rfl, rfl, by simp, Under.refl _⟩
  case round =>
    obtain ⟨k, D, hk, hD, rfl, rfl, hG, hU⟩ := hrel
    have HG := Lib.hid hG
    clear hG
    have hD0 : (0 : Int) ≤ (D : Int) := by omega
    have hk0 : (0 : Int) ≤ (k : Int) := by omega
    have hDk : (D : Int) ≤ (k : Int) := by omega
    by_cases hlt : k < t.length
    · obtain ⟨b1, off1, rfl, hb1, c0, c1, c2, c3⟩ := RowArg.node HR.out (List.getElem?_eq_getElem hlt)
      rw [← under_cell hU hb1] at c0 c1 c2 c3
      have hb1' := Nat.lt_of_lt_of_le hb1 hU.size
      have HD := Lib.hid (show wholeGo (t.drop k) D = if rightB t[k] = false ∨ D < (binds t[k]).length then false else wholeGo (t.drop (k + 1)) (D - (binds t[k]).length + 1) by rw [List.drop_eq_getElem_cons hlt]; rfl)
      have HU := Lib.hid hU
      clear hU
      generalize t[k] = x at *
      have HC := Lib.hid (fun w => rbinds_any (w0 := w) x)
      have hlt' : (k : Int) < (t.length : Int) := by omega
      go_wp2_with fail
      refine (HC.out _).mono ?_
      rintro e w1 ⟨l, hl, q, c', rfl, hlc, hrl, hU1⟩
      have HU1 := Lib.hid (HU.out.trans hU1)
      clear hU1 hlc hrl HC c0 c1 c2 c3
      cases hx : rightB x
      · have HF : RowKit.Hid (wholeGo t 0 = false) := Lib.hid (by rw [HG.out, HD.out, if_pos (.inl hx)])
        clear hl hx
        go_wp2
        go_ret
        exact ⟨by rw [HF.out]; rfl, HU1.out⟩
      · obtain rfl := hl hx
        have HX := Lib.hid hx
        have hB8 := binds_len hx
        clear hl hx
        generalize (binds x).length = N at *
        have hN0 : (0 : Int) ≤ (N : Int) := by omega
        have hN8 : (N : Int) ≤ 8 := by omega
        by_cases hc : D < N
        · have hc' : (D : Int) < (N : Int) := by omega
          have HF : RowKit.Hid (wholeGo t 0 = false) := Lib.hid (by rw [HG.out, HD.out, if_pos (.inr hc)])
          clear hc
          go_wp2
          go_ret
          exact ⟨by rw [HF.out]; rfl, HU1.out⟩
        · have hc' : (N : Int) ≤ (D : Int) := by omega
          have HF : RowKit.Hid (wholeGo t 0 = wholeGo (t.drop (k + 1)) (D - N + 1)) := Lib.hid (by rw [HG.out, HD.out, if_neg (by rw [HX.out]; simp; omega)])
          clear hc
          go_wp2
          go_roundw
          case rel => exact ⟨k + 1, D - N + 1, by omega, by omega, by go_num, by go_num, HF.out, HU1.out⟩
          case measure => simp [intOf]; omega
    · obtain rfl : k = t.length := by omega
      have HF : RowKit.Hid (wholeGo t 0 = (D == 1)) := Lib.hid (by rw [HG.out, List.drop_length]; rfl)
      have HU := Lib.hid hU
      clear hU
      by_cases h1 : D = 1
      · subst h1
        have HF : RowKit.Hid (wholeGo t 0 = true) := Lib.hid (by rw [HF.out]; rfl)
        go_wp2
        go_ret
        exact ⟨by rw [HF.out]; rfl, HU.out⟩
      · have h1' : ((D : Int) == 1) = false := by simp; omega
        have HF : RowKit.Hid (wholeGo t 0 = false) := Lib.hid (by rw [HF.out]; simpa using h1)
        clear h1
        go_wp2
        go_ret
        exact ⟨by rw [HF.out]; rfl, HU.out⟩
end
end Go.Proofs.YtiibknlpeodejaaGreatDoor

/- corniceref02.deeper: its contract. -/
namespace Go.Proofs.YtiibknlpeodejaaGreatDoor
open Go.Lx Go.RowKit

def maxs (l : List Nat) : Nat := l.foldr max 0
theorem maxs_le {l : List Nat} {b : Nat} (h : ∀ a ∈ l, a ≤ b) : maxs l ≤ b := by
  induction l with
  | nil => exact Nat.zero_le _
  | cons a l ih =>
    have := ih fun x hx => h x (List.mem_cons_of_mem _ hx)
    have := h a (List.mem_cons_self ..)
    show max a (maxs l) ≤ b
    omega
/-- Is a term among these deeper than may be, where these depths wait? -/
def deepGo : List Nd → List Nat → Bool
  | [], _ => false
  | x :: t, st => if 60 < maxs (st.drop (st.length - (binds x).length)) + 1 then true else deepGo t (st.take (st.length - (binds x).length) ++ [maxs (st.drop (st.length - (binds x).length)) + 1])
structure DpRel (w0 : World) (t : List Nd) (st : List Nat) (k g c : Nat) (wr : World) : Prop where
  len : st.length ≤ k
  low : ∀ a ∈ st, a ≤ 60
  whole : wholeGo (t.drop k) st.length = true
  deep : deepGo t [] = deepGo (t.drop k) st
  own : wr.ownsRow w0.heap.size 3 1 (.slice (some ⟨g, 0, none⟩) st.length c) st.length (intsN st)
  under : Under w0 wr
def DpR (w0 : World) (t : List Nd) (l i : Value) (wr : World) : Prop := ∃ (k : Nat) (st : List Nat) (g c : Nat), k ≤ t.length ∧ l = .slice (some ⟨g, 0, none⟩) st.length c ∧ i = .int .i64 (k : Int) ∧ DpRel w0 t st k g c wr
def DiR (W : World) (st : List Nat) (g c N : Nat) (l n i : Value) (wr : World) : Prop := W = wr ∧ ∃ j M : Nat, j ≤ N ∧ j + M = st.length ∧ l = .slice (some ⟨g, 0, none⟩) M c ∧ n = .int .i64 (maxs (st.drop M) : Nat) ∧ i = .int .i64 (j : Int)
theorem intsN_at {l : List Nat} {k n : Nat} (h : l[k]? = some n) : (intsN l)[k]? = some (.int .i64 (n : Int)) := by
  unfold intsN
  rw [List.getElem?_map, h]
  rfl
section
variable {w0 : World}
set_option maxRecDepth 100000 in
set_option maxHeartbeats 2000000 in
theorem deeper_any (t : List Nd) {v : Value} (hn : t.length ≤ 1000000) (hv : TermV w0 v t) (hw : wholeGo t 0 = true) : Calls Tryz.prog 52 #[v] w0 fun e w => e = .returned (.bool (deepGo t [])) ∧ Under w0 w := by
  obtain ⟨p, c, rfl, _, _, hr⟩ := hv
  obtain ⟨i0, hi, hz0, hz1, hz2⟩ := info_parts Tryz.infoInt
  have HR := Lib.hid hr
  have HN := Lib.hid hn
  have HW := Lib.hid hw
  have hn' : (t.length : Int) ≤ 1000000 := by omega
  have hn0 : (0 : Int) ≤ (t.length : Int) := by omega
  clear hr hn hw
  go_enter Tryz.func52, Tryz.ntmps52
  go_wp2
  go_loopw [3, 4] (fun l i wr => DpR w0 t l i wr) (fun _ i _ => t.length - (intOf i).toNat)
  case atStart => exact ⟨0, [], w0.heap.size, 0, Nat.zero_le _, rfl, rfl, ⟨Nat.le_refl _, by simp, HW.out, by simp, row_emptyZ w0 _ _ _ (Nat.le_refl _), under_alloc (Under.refl _) _⟩⟩
  case round =>
    obtain ⟨k, st, g, c2, hk, rfl, rfl, hD⟩ := hrel
    have hL := hD.len
    have HD := Lib.hid hD
    clear hD
    have hk0 : (0 : Int) ≤ (k : Int) := by omega
    have hL0 : (0 : Int) ≤ (st.length : Int) := by omega
    have hLk : (st.length : Int) ≤ (k : Int) := by omega
    by_cases hlt : k < t.length
    · obtain ⟨b1, off1, rfl, hb1, c0, c1, c2', c3⟩ := RowArg.node HR.out (List.getElem?_eq_getElem hlt)
      rw [← under_cell HD.out.under hb1] at c0 c1 c2' c3
      have hb1' := Nat.lt_of_lt_of_le hb1 HD.out.under.size
      have hlt' : (k : Int) < (t.length : Int) := by omega
      have HX := Lib.hid (show wholeGo (t[k] :: t.drop (k + 1)) st.length = true by rw [← List.drop_eq_getElem_cons hlt]; exact HD.out.whole)
      have HG := Lib.hid (show deepGo t [] = deepGo (t[k] :: t.drop (k + 1)) st by rw [← List.drop_eq_getElem_cons hlt]; exact HD.out.deep)
      generalize t[k] = x at *
      have HC := Lib.hid (fun w => rbinds_any (w0 := w) x)
      have hx : rightB x = true ∧ (binds x).length ≤ st.length ∧ wholeGo (t.drop (k + 1)) (st.length - (binds x).length + 1) = true := by
        have := HX.out
        unfold wholeGo at this
        split at this
        · cases this
        · rename_i h
          exact ⟨by cases hh : rightB x; exact (h (.inl hh)).elim; rfl, by omega, this⟩
      obtain ⟨hx1, hx2, hx3⟩ := hx
      have HX1 := Lib.hid hx1
      have HX3 := Lib.hid hx3
      have hB8 := binds_len hx1
      clear hx1 hx3 HX
      go_wp2_with fail
      refine (HC.out _).mono ?_
      rintro e w1 ⟨l, hl, q, c', rfl, hlc, hrl, hU1⟩
      obtain rfl := hl HX1.out
      have HU1 := Lib.hid hU1
      clear hU1 hlc hrl HC c0 c1 c2' c3 hl
      have HO := Lib.hid (row_under HD.out.own HU1.out)
      have hG : deepGo t [] = if 60 < maxs (st.drop (st.length - (binds x).length)) + 1 then true else deepGo (t.drop (k + 1)) (st.take (st.length - (binds x).length) ++ [maxs (st.drop (st.length - (binds x).length)) + 1]) := by rw [HG.out]; rfl
      have HG := Lib.hid hG
      clear hG
      generalize (binds x).length = N at *
      have hN0 : (0 : Int) ≤ (N : Int) := by omega
      have hN8 : (N : Int) ≤ 8 := by omega
      obtain ⟨_, _, hge, _, hgb, hgl, hgc, hcm⟩ : ∃ g' cap, (Value.slice (some ⟨g, 0, none⟩) st.length c2 = .slice (some ⟨g', 0, none⟩) st.length cap) ∧ w0.heap.size ≤ g ∧ w0.heap.size ≤ g ∧ g < w1.heap.size ∧ st.length ≤ c2 ∧ c2 ≤ maxLen := by
        rcases HO.out.2 with ⟨h0, _⟩ | ⟨g', cap, cur, h0, hb, hg, h1, h2, _⟩
        · cases h0
        · cases h0; exact ⟨_, _, rfl, hb, hb, (Array.getElem?_eq_some_iff.1 hg).1, h1, h2⟩
      clear hge
      have hgc' : (st.length : Int) ≤ (c2 : Int) := by omega
      go_wp2
      go_loopw [3, 7, 8] (fun l n i wr => DiR w1 st g c2 N l n i wr) (fun _ _ i _ => N - (intOf i).toNat)
      case atStart => exact ⟨rfl, 0, st.length, Nat.zero_le _, by omega, rfl, by rw [List.drop_length]; rfl, rfl⟩
      case round =>
        obtain ⟨rfl, j, M, hj, hjM, rfl, rfl, rfl⟩ := hrel
        have hj0 : (0 : Int) ≤ (j : Int) := by omega
        have hM0 : (0 : Int) ≤ (M : Int) := by omega
        have HMX := Lib.hid (maxs_le (l := st.drop M) (b := 60) fun a ha => HD.out.low a (List.mem_of_mem_drop ha))
        by_cases hjN : j < N
        · obtain ⟨M, rfl⟩ : ∃ m, M = m + 1 := ⟨M - 1, by omega⟩
          have hst : M < st.length := by omega
          have HMC := Lib.hid (show maxs (st.drop M) = max st[M] (maxs (st.drop (M + 1))) by rw [List.drop_eq_getElem_cons hst]; rfl)
          have hcell := row_cell HO.out (g := g) rfl (intsN_at (List.getElem?_eq_getElem hst))
          have ha60 := HD.out.low _ (List.getElem_mem hst)
          generalize st[M] = a at *
          have hjN' : (j : Int) < (N : Int) := by omega
          have hMc : (M : Int) ≤ (c2 : Int) := by omega
          have hm60 := HMX.out
          generalize maxs (st.drop (M + 1)) = mx at *
          clear HMX
          have hMe : ((M : Int) + 1 - 1) = (M : Int) := by omega
          by_cases hma : a ≤ mx
          · have hma' : (a : Int) ≤ (mx : Int) := by omega
            go_wp2
            all_goals
              go_roundw
              case rel => exact ⟨rfl, j + 1, M, by omega, by omega, by go_num, by rw [HMC.out]; exact congrArg (Value.int .i64) (by omega), by go_num⟩
              case measure => simp [intOf]; omega
          · have hma' : (mx : Int) < (a : Int) := by omega
            go_wp2
            all_goals
              go_roundw
              case rel => exact ⟨rfl, j + 1, M, by omega, by omega, by go_num, by rw [HMC.out]; exact congrArg (Value.int .i64) (by omega), by go_num⟩
              case measure => simp [intOf]; omega
        · obtain rfl : j = N := by omega
          have hMe : M = st.length - j := by omega
          have HMe := Lib.hid hMe
          rw [← hMe] at HG HX3
          clear hMe
          have hm60 := HMX.out
          have HMv : RowKit.Hid (maxs (st.drop M) = maxs (st.drop M)) := Lib.hid rfl
          generalize hmx : maxs (st.drop M) = mx at *
          clear hmx HMv HMX
          have hmx0 : (0 : Int) ≤ (mx : Int) := by omega
          by_cases hd : 60 < mx + 1
          · have hd' : (60 : Int) < (mx : Int) + 1 := by omega
            have HF : RowKit.Hid (deepGo t [] = true) := Lib.hid (by rw [HG.out, if_pos hd])
            clear hd
            go_wp2
            go_ret
            exact ⟨by rw [HF.out]; rfl, HD.out.under.trans HU1.out⟩
          · have hd' : (mx : Int) + 1 ≤ 60 := by omega
            have HF : RowKit.Hid (deepGo t [] = deepGo (t.drop (k + 1)) (st.take M ++ [mx + 1])) := Lib.hid (by rw [HG.out, if_neg hd])
            have HMs := Lib.hid (show M ≤ st.length by omega)
            have hM1 : M ≤ 1000000 := by omega
            clear hd
            go_wp2_with (at_builtin; refine wpList_append_lies _ rfl _ _ 63 rfl w0.heap.size 3 i0 _ 1 8 Tryz.underlying63 hi hz0 hz1 hz2 rfl (by decide) _ _ _ rfl ((row_cut HO.out HMs.out).alloc _) ⟨w1.heap.size, 0, none⟩ 1 1 [.int .i64 ((mx + 1 : Nat) : Int)] rfl rfl ?c1 ?c2 (by decide) (by simp only [maxLen]; omega) (by omega) ?c5 (w1.heap.size + 1) (by simp) ?_)
            case c1 => exact cell_one_new _ _ _
            case c2 => simp [Value.oneCell']
            case c5 => have := (HD.out.under.trans HU1.out).size; simp; omega
            intro g3 c3 w3 hown hgrow hat hlt3
            have HO3 := Lib.hid hown
            have HU3 := Lib.hid (under_grown (under_alloc (HD.out.under.trans HU1.out) _) hgrow fun z e => by cases e; exact hgb)
            clear hown hgrow hat hlt3
            go_wp2
            go_roundw
            case rel =>
              have hlen : (st.take M ++ [mx + 1]).length = M + 1 := by rw [List.length_append, List.length_take, Nat.min_eq_left HMs.out]; rfl
              have hcs : (intsN st).take M ++ [Value.int .i64 ((mx : Int) + 1)] = intsN (st.take M ++ [mx + 1]) := by simp [intsN, List.map_take]
              refine ⟨k + 1, st.take M ++ [mx + 1], g3, c3, by omega, by rw [hlen], by go_num, ⟨by rw [hlen]; omega, ?_, by rw [hlen]; exact HX3.out, HF.out, by rw [hlen, ← hcs]; exact HO3.out, HU3.out⟩⟩
              intro a ha
              rcases List.mem_append.1 ha with ha | ha
              · exact HD.out.low a (List.mem_of_mem_take ha)
              · rw [List.mem_singleton.1 ha]; omega
            case measure => simp [intOf]; omega
    · obtain rfl : k = t.length := by omega
      have HF : RowKit.Hid (deepGo t [] = false) := Lib.hid (by rw [HD.out.deep, List.drop_length]; rfl)
      go_wp2
      go_ret
      exact ⟨by rw [HF.out]; rfl, HD.out.under⟩
end
end Go.Proofs.YtiibknlpeodejaaGreatDoor

/- Terms as trees: the nodes of a term are a tree's, each behind its parts. -/
namespace Go.Lx

/-- A term: its root, its parts. -/
inductive Tm where
  | mk (x : Nd) (args : List Tm)
def Tm.root : Tm → Nd
  | .mk x _ => x
def Tm.args : Tm → List Tm
  | .mk _ l => l
mutual
def flat : Tm → List Nd
  | .mk x l => flats l ++ [x]
def flats : List Tm → List Nd
  | [] => []
  | a :: l => flat a ++ flats l
end
mutual
/-- Each node's fields are right, and it has its parts. -/
def okT : Tm → Prop
  | .mk x l => rightB x = true ∧ l.length = (binds x).length ∧ okTs l
def okTs : List Tm → Prop
  | [] => True
  | a :: l => okT a ∧ okTs l
end
mutual
def deepT : Tm → Nat
  | .mk x l => deepTs 1 l
def deepTs : Nat → List Tm → Nat
  | d, [] => d
  | d, a :: l => deepTs (max d (deepT a + 1)) l
end
theorem flats_app (a b : List Tm) : flats (a ++ b) = flats a ++ flats b := by
  induction a with
  | nil => rfl
  | cons x l ih => simp [flats, ih]
theorem okTs_app {a b : List Tm} : okTs (a ++ b) ↔ okTs a ∧ okTs b := by
  induction a with
  | nil => simp [okTs]
  | cons x l ih => simp [okTs, ih, and_assoc]
theorem okTs_mem {l : List Tm} : okTs l ↔ ∀ a ∈ l, okT a := by
  induction l with
  | nil => simp [okTs]
  | cons x l ih => simp [okTs, ih]
theorem flat_ne (T : Tm) : flat T ≠ [] := by cases T; simp [flat]
theorem flat_len (T : Tm) : 0 < (flat T).length := List.length_pos_iff.2 (flat_ne T)
theorem flat_last (T : Tm) : (flat T).getLast (flat_ne T) = T.root := by cases T; simp [flat, Tm.root]
/-- The measures of trees that stand in a row, from a place on. -/
def measF : Nat → List Tm → List (Nat × Nat)
  | _, [] => []
  | i, a :: l => (i, deepT a) :: measF (i + (flat a).length) l
theorem measF_len (i : Nat) (l : List Tm) : (measF i l).length = l.length := by
  induction l generalizing i with
  | nil => rfl
  | cons x l ih => simp [measF, ih]
theorem measF_app (i : Nat) (a b : List Tm) : measF i (a ++ b) = measF i a ++ measF (i + (flats a).length) b := by
  induction a generalizing i with
  | nil => simp [measF, flats]
  | cons x l ih => simp [measF, ih, flats, Nat.add_assoc]
theorem measF_take (i k : Nat) (l : List Tm) : (measF i l).take k = measF i (l.take k) := by
  induction l generalizing i k with
  | nil => simp [measF]
  | cons x l ih => cases k with
    | zero => simp [measF]
    | succ k => simp [measF, ih]
theorem measF_drop (i k : Nat) (l : List Tm) (hk : k ≤ l.length) : (measF i l).drop k = measF (i + (flats (l.take k)).length) (l.drop k) := by
  have h := measF_app i (l.take k) (l.drop k)
  rw [List.take_append_drop] at h
  rw [h, List.drop_append_of_le_length (by rw [measF_len, List.length_take]; omega)]
  have : (measF i (l.take k)).length = k := by rw [measF_len, List.length_take]; omega
  rw [List.drop_of_length_le (by omega)]
  rfl
theorem deep_fold (i d : Nat) (l : List Tm) : (measF i l).foldl (fun d (x : Nat × Nat) => max d (x.2 + 1)) d = deepTs d l := by
  induction l generalizing i d with
  | nil => rfl
  | cons x l ih => simp only [measF, List.foldl_cons, deepTs]; exact ih _ _
/-- What the last nodes make. -/
theorem meas_mk (x : Nd) (i : Nat) (l : List Tm) : meas (i + (flats l).length) (measF i l) = (i, deepT (.mk x l)) := by
  unfold meas
  rw [deep_fold]
  cases l with
  | nil => simp [measF, flats, deepT]
  | cons a l => simp [measF, deepT]
/-- What the measures are of: trees in a row. -/
theorem measGo_forest : ∀ (t : List Nd) (all : List (Nat × Nat)) (Fs : List Tm) {r : List (Nat × Nat) × List (Nat × Nat)}, okTs Fs → measGo t (flats Fs).length all (measF 0 Fs) = some r →
    ∃ Gs, okTs Gs ∧ flats Gs = flats Fs ++ t ∧ r.2 = measF 0 Gs
  | [], all, Fs, r, hF, h => by cases h; exact ⟨Fs, hF, by simp, rfl⟩
  | x :: t, all, Fs, r, hF, h => by
    unfold measGo at h
    split at h
    · cases h
    · rename_i hc
      rw [measF_len] at hc h
      have hx : rightB x = true := by
        cases hr : rightB x
        · exact absurd (.inl hr) hc
        · rfl
      have hl : (binds x).length ≤ Fs.length := by
        apply Nat.le_of_not_lt
        exact fun h => hc (.inr h)
      have hk : Fs.length - (binds x).length ≤ Fs.length := by omega
      generalize hkk : Fs.length - (binds x).length = k at *
      have hsplit : flats Fs = flats (Fs.take k) ++ flats (Fs.drop k) := by rw [← flats_app, List.take_append_drop]
      have hm : meas (flats Fs).length ((measF 0 Fs).drop k) = ((flats (Fs.take k)).length, deepT (.mk x (Fs.drop k))) := by
        rw [measF_drop 0 k Fs hk, hsplit, List.length_append, Nat.zero_add]
        exact meas_mk x _ _
      simp only at h
      rw [hm, measF_take] at h
      have hnew : measF 0 (Fs.take k ++ [.mk x (Fs.drop k)]) = measF 0 (Fs.take k) ++ [((flats (Fs.take k)).length, deepT (.mk x (Fs.drop k)))] := by rw [measF_app, Nat.zero_add]; rfl
      have hfl : flats (Fs.take k ++ [.mk x (Fs.drop k)]) = flats Fs ++ [x] := by rw [flats_app, hsplit]; simp [flats, flat]
      rw [← hnew] at h
      have hlen : (flats Fs).length + 1 = (flats (Fs.take k ++ [.mk x (Fs.drop k)])).length := by rw [hfl]; simp
      rw [hlen] at h
      have hok : okTs (Fs.take k ++ [.mk x (Fs.drop k)]) := by
        have h0 := hF
        rw [← List.take_append_drop k Fs] at h0
        obtain ⟨h1, h2⟩ := okTs_app.1 h0
        exact okTs_app.2 ⟨h1, ⟨hx, by rw [List.length_drop]; omega, h2⟩, trivial⟩
      obtain ⟨Gs, g1, g2, g3⟩ := measGo_forest t _ _ hok h
      exact ⟨Gs, g1, by rw [g2, hfl]; simp, g3⟩
/-- The other way: trees in a row have their measures. -/
theorem measGo_tree : ∀ (T : Tm), okT T → ∀ (all : List (Nat × Nat)) (Fs : List Tm), ∃ all', measGo (flat T) (flats Fs).length all (measF 0 Fs) = some (all ++ all', measF 0 (Fs ++ [T])) ∧ all'.length = (flat T).length ∧ all'.getLast? = some ((flats Fs).length, deepT T) := by
  intro T
  induction T using Tm.rec (motive_2 := fun l => okTs l → ∀ (all : List (Nat × Nat)) (Fs : List Tm), ∃ all', measGo (flats l) (flats Fs).length all (measF 0 Fs) = some (all ++ all', measF 0 (Fs ++ l)) ∧ all'.length = (flats l).length) with
  | mk x l ih =>
    rintro ⟨hx, hl, hls⟩ all Fs
    obtain ⟨a1, h1, h2⟩ := ih hls all Fs
    refine ⟨a1 ++ [((flats Fs).length, deepT (.mk x l))], ?_, by simp [flat, h2], by simp⟩
    rw [flat, measGo_app, h1]
    simp only [Option.bind_some]
    unfold measGo
    rw [measF_len, List.length_append, if_neg (by rw [hx]; simp; omega)]
    have hk : Fs.length + l.length - (binds x).length = Fs.length := by omega
    simp only [hk]
    have hd : (measF 0 (Fs ++ l)).drop Fs.length = measF (flats Fs).length l := by
      rw [measF_drop 0 _ _ (by simp), List.drop_left, List.take_left, Nat.zero_add]
    have ht : (measF 0 (Fs ++ l)).take Fs.length = measF 0 Fs := by rw [measF_take, List.take_left]
    rw [hd, ht, meas_mk]
    unfold measGo
    rw [measF_app 0 Fs [.mk x l], Nat.zero_add, List.append_assoc]
    rfl
  | nil => rename_i hh all Fs; exact ⟨[], by simp [flats, measGo], rfl⟩
  | cons a l iha ihl =>
    rename_i hh all Fs
    obtain ⟨ha, hl⟩ := hh
    obtain ⟨a1, h1, h2, _⟩ := iha ha all Fs
    obtain ⟨a2, h3, h4⟩ := ihl hl (all ++ a1) (Fs ++ [a])
    refine ⟨a1 ++ a2, ?_, by simp [flats, h2, h4]⟩
    rw [flats, measGo_app, h1]
    simp only [Option.bind_some]
    have : (flats Fs).length + (flat a).length = (flats (Fs ++ [a])).length := by rw [flats_app]; simp [flats]
    rw [this, h3, List.append_assoc, List.append_assoc]
    rfl
/-- A term is a tree's nodes. -/
theorem tree_of_check {t : List Nd} (h : checkE t = 0) : ∃ T, flat T = t ∧ okT T ∧ deepT T ≤ 60 ∧ t.length ≤ 4000 := by
  unfold checkE at h
  split at h
  · cases h
  · rename_i hlen
    split at h
    · cases h
    · rename_i all op hm
      split at h
      · cases h
      · rename_i h1
        split at h
        · cases h
        · rename_i h2
          obtain ⟨Gs, g1, g2, g3⟩ := measGo_forest t [] [] (by simp [okTs]) hm
          simp only [ne_eq, Decidable.not_not] at h1
          simp only at g3
          rw [g3, measF_len] at h1
          match Gs, h1 with
          | [T], _ =>
            simp only [flats, List.nil_append, List.append_nil] at g2
            refine ⟨T, g2, g1.1, ?_, by omega⟩
            obtain ⟨a', q1, q2, q3⟩ := measGo_tree T g1.1 [] []
            rw [g2] at q1
            rw [show measGo t (flats []).length [] (measF 0 []) = measGo t 0 [] [] from rfl, hm] at q1
            simp only [Option.some.injEq, Prod.mk.injEq] at q1
            rw [q1.1, List.nil_append] at h2
            have : a'.getLastD (0, 0) = ((flats []).length, deepT T) := by rw [List.getLastD_eq_getLast?, q3]; rfl
            rw [this] at h2
            omega
theorem check_of_tree {T : Tm} (h : okT T) (hd : deepT T ≤ 60) (hl : (flat T).length ≤ 4000) : checkE (flat T) = 0 := by
  obtain ⟨a', q1, q2, q3⟩ := measGo_tree T h [] []
  unfold checkE
  rw [if_neg (by omega)]
  have q1' : measGo (flat T) 0 [] [] = some (a', measF 0 [T]) := by simpa [flats, measF] using q1
  rw [q1']
  have : a'.getLastD (0, 0) = ((flats []).length, deepT T) := by rw [List.getLastD_eq_getLast?, q3]; rfl
  simp only [this]
  rw [if_neg (by simp [measF]), if_neg (by omega)]
end Go.Lx

/- corniceref02.Check: its contract. -/
namespace Go.Proofs.YtiibknlpeodejaaGreatDoor
open Go.Lx Go.RowKit

theorem deepTs_maxs : ∀ (l : List Tm) (d : Nat), 1 ≤ d → deepTs d l = max d (maxs (l.map deepT) + 1)
  | [], d, h => by show d = max d (0 + 1); omega
  | a :: l, d, h => by
    show deepTs (max d (deepT a + 1)) l = max d (max (deepT a) (maxs (l.map deepT)) + 1)
    rw [deepTs_maxs l _ (by omega)]
    omega
theorem deepT_maxs (x : Nd) (l : List Tm) : deepT (.mk x l) = maxs (l.map deepT) + 1 := by
  show deepTs 1 l = _
  rw [deepTs_maxs l 1 (Nat.le_refl _)]
  omega
theorem deepGo_tree : ∀ (T : Tm), okT T → ∀ (rest : List Nd) (st : List Nat), deepGo (flat T ++ rest) st = if 60 < deepT T then true else deepGo rest (st ++ [deepT T]) := by
  intro T
  induction T using Tm.rec (motive_2 := fun l => okTs l → ∀ (rest : List Nd) (st : List Nat), deepGo (flats l ++ rest) st = if 60 < maxs (l.map deepT) then true else deepGo rest (st ++ l.map deepT)) with
  | mk x l ih =>
    rintro ⟨hx, hl, hls⟩ rest st
    rw [flat, List.append_assoc, ih hls, deepT_maxs]
    show (if 60 < maxs (l.map deepT) then true else deepGo (x :: rest) (st ++ l.map deepT)) = _
    have hk : (st ++ l.map deepT).length - (binds x).length = st.length := by rw [List.length_append, List.length_map]; omega
    unfold deepGo
    rw [hk, List.drop_left, List.take_left]
    by_cases h : 60 < maxs (l.map deepT)
    · rw [if_pos h, if_pos (by omega)]
    · rw [if_neg h]
      cases rest <;> rfl
  | nil => rename_i hh rest st; simp [flats, maxs]
  | cons a l iha ihl =>
    rename_i hh rest st
    obtain ⟨ha, hl⟩ := hh
    rw [flats, List.append_assoc, iha ha, ihl hl]
    show _ = if 60 < max (deepT a) (maxs (l.map deepT)) then true else deepGo rest (st ++ deepT a :: l.map deepT)
    rw [List.append_assoc]
    by_cases h : 60 < deepT a
    · rw [if_pos h, if_pos (by omega)]
    · rw [if_neg h]
      by_cases h2 : 60 < maxs (l.map deepT)
      · rw [if_pos h2, if_pos (by omega)]
      · rw [if_neg h2, if_neg (by omega)]; rfl
theorem whole_meas : ∀ (t : List Nd) (i : Nat) (all op : List (Nat × Nat)), wholeGo t op.length = match measGo t i all op with | none => false | some r => r.2.length == 1
  | [], i, all, op => rfl
  | x :: t, i, all, op => by
    unfold wholeGo measGo
    by_cases h : rightB x = false ∨ op.length < (binds x).length
    · rw [if_pos h, if_pos h]
    · rw [if_neg h, if_neg h]
      simp only
      rw [← whole_meas t (i + 1)]
      congr 1
      rw [List.length_append, List.length_take, Nat.min_eq_left (Nat.sub_le _ _)]
      rfl
theorem check_is (t : List Nd) : checkE t = if 4000 < t.length then 21 else if wholeGo t 0 = false then 20 else if deepGo t [] then 22 else 0 := by
  unfold checkE
  split
  · rfl
  have hw := whole_meas t 0 [] []
  rw [List.length_nil] at hw
  rw [hw]
  cases hm : measGo t 0 [] [] with
  | none => rfl
  | some r =>
    obtain ⟨all, op⟩ := r
    simp only
    by_cases h1 : op.length = 1
    · have e1 : ¬ (op.length ≠ 1) := by simpa using h1
      have e2 : ¬ ((op.length == 1) = false) := by simp [h1]
      rw [if_neg e1, if_neg e2]
      clear e1 e2
      obtain ⟨Gs, g1, g2, g3⟩ := measGo_forest t [] [] (by simp [okTs]) hm
      simp only at g3
      rw [g3, measF_len] at h1
      match Gs, h1 with
      | [T], _ =>
        simp only [flats, List.nil_append, List.append_nil] at g2
        obtain ⟨a', q1, q2, q3⟩ := measGo_tree T g1.1 [] []
        rw [g2] at q1
        rw [show measGo t (flats []).length [] (measF 0 []) = measGo t 0 [] [] from rfl, hm] at q1
        simp only [Option.some.injEq, Prod.mk.injEq] at q1
        have hl : a'.getLastD (0, 0) = ((flats []).length, deepT T) := by rw [List.getLastD_eq_getLast?, q3]; rfl
        rw [q1.1, List.nil_append, hl]
        have hd := deepGo_tree T g1.1 [] []
        rw [List.append_nil, g2] at hd
        rw [hd]
        by_cases h : 60 < deepT T
        · rw [if_pos h, if_pos h]; rfl
        · rw [if_neg h, if_neg h]; rfl
    · rw [if_pos (by simpa using h1), if_pos (by simpa using h1)]
section
variable {w0 : World}
set_option maxRecDepth 100000 in
set_option maxHeartbeats 1000000 in
theorem rcheck_any (t : List Nd) {v : Value} (hn : t.length ≤ maxLen) (hv : TermV w0 v t) : Calls Tryz.prog 27 #[v] w0 fun e w => e = .returned (.int .i64 (checkE t)) ∧ Under w0 w := by
  have HV := Lib.hid hv
  obtain ⟨p, c, rfl, _, _, _⟩ := hv
  have HE := Lib.hid (check_is t)
  by_cases h : 4000 < t.length
  · have h' : (4000 : Int) < (t.length : Int) := by omega
    have HE := Lib.hid (HE.out.trans (if_pos h))
    clear h
    go_enter Tryz.func27, Tryz.ntmps27
    go_wp2
    go_ret
    exact ⟨ret_int HE.out.symm, Under.refl _⟩
  · have h' : (t.length : Int) ≤ 4000 := by omega
    have HE := Lib.hid (HE.out.trans (if_neg h))
    have HW := Lib.hid (whole_any t (by omega) HV.out)
    cases hw : wholeGo t 0
    · have HE := Lib.hid (HE.out.trans (if_pos hw))
      rw [hw] at HW
      clear h hw
      go_enter Tryz.func27, Tryz.ntmps27
      go_wp2_with fail
      refine HW.out.mono ?_
      rintro e w1 ⟨rfl, hU1⟩
      have HU1 := Lib.hid hU1
      clear hU1
      go_wp2
      go_ret
      exact ⟨ret_int HE.out.symm, HU1.out⟩
    · have HE := Lib.hid (HE.out.trans (if_neg (by rw [hw]; decide)))
      have HD := Lib.hid (fun w1 (hU : Under w0 w1) => deeper_any (w0 := w1) t (by omega) (TermV.mono _ _ _ _ hU HV.out) hw)
      rw [hw] at HW
      clear h hw
      cases hd : deepGo t []
      all_goals
        rw [hd] at HD HE
        clear hd
        go_enter Tryz.func27, Tryz.ntmps27
        go_wp2_with fail
        refine HW.out.mono ?_
        rintro e w1 ⟨rfl, hU1⟩
        have HU1 := Lib.hid hU1
        clear hU1
        go_wp2_with fail
        refine (HD.out _ HU1.out).mono ?_
        rintro e w2 ⟨rfl, hU2⟩
        have HU2 := Lib.hid (HU1.out.trans hU2)
        clear hU2
        go_wp2
        go_ret
        exact ⟨ret_int HE.out.symm, HU2.out⟩
end
end Go.Proofs.YtiibknlpeodejaaGreatDoor

/- corniceref02.from: its contract. -/
namespace Go.Proofs.YtiibknlpeodejaaGreatDoor
open Go.Lx Go.RowKit

/-- from finds where a tree's nodes begin. -/
def FromOk (T : Tm) : Prop := okT T → ∀ (w0 : World) (v : Value) (t s r : List Nd) (e z : Nat), t = s ++ flat T ++ r → t.length ≤ 1000000 → TermV w0 v t → e + 1 = s.length + (flat T).length → z = s.length →
  Calls Tryz.prog 69 #[v, .int .i64 (e : Int)] w0 fun x w => x = .returned (.int .i64 (z : Int)) ∧ Under w0 w
def FrRel (w0 : World) (s : List Nd) (l : List Tm) (a i : Value) (wr : World) : Prop := ∃ j M z : Nat, j + M = l.length ∧ z = s.length + (flats (l.take M)).length ∧ a = .int .i64 (z : Int) ∧ i = .int .i64 (j : Int) ∧ Under w0 wr
set_option maxRecDepth 100000 in
set_option maxHeartbeats 1000000 in
theorem from_mk (x : Nd) (l : List Tm) (ih : ∀ a ∈ l, FromOk a) : FromOk (.mk x l) := by
  rintro ⟨hx, hl, hls⟩ w0 v t s r e z ht hn hv he hz
  have HV := Lib.hid hv
  have HN := Lib.hid hn
  have HT := Lib.hid ht
  have he' : e = s.length + (flats l).length := by rw [flat, List.length_append] at he; simp at he; omega
  have hte : t[e]? = some x := by
    rw [ht, flat, he', List.append_assoc, List.append_assoc, List.getElem?_append_right (by omega), Nat.add_sub_cancel_left, List.getElem?_append_right (Nat.le_refl _), Nat.sub_self]
    rfl
  have hlt : e < t.length := (List.getElem?_eq_some_iff.1 hte).1
  obtain ⟨p, c, rfl, _, _, hr⟩ := hv
  obtain ⟨b1, off1, rfl, hb1, c0, c1, c2, c3⟩ := RowArg.node hr hte
  have HC := Lib.hid (fun w => rbinds_any (w0 := w) x)
  have HX := Lib.hid hx
  have HLs := Lib.hid hls
  have HE := Lib.hid he'
  have HZ := Lib.hid hz
  have HIH := Lib.hid ih
  have hlt' : (e : Int) < (t.length : Int) := by omega
  have hn' : (t.length : Int) ≤ 1000000 := by omega
  have he0 : (0 : Int) ≤ (e : Int) := by omega
  have hB8 := binds_len hx
  have hL0 : (0 : Int) ≤ (l.length : Int) := by omega
  have hL8 : (l.length : Int) ≤ 8 := by omega
  have HL := Lib.hid hl
  clear ht hn hr hte he hz hls hx ih he' hB8 hl
  go_enter Tryz.func69, Tryz.ntmps69
  go_wp2_with fail
  refine (HC.out _).mono ?_
  rintro e1 w1 ⟨lb, hlb, q, c', rfl, hlc, hrl, hU1⟩
  obtain rfl := hlb HX.out
  have hU1' := hU1
  rw [HX.out, ← HL.out]
  have HU1 := Lib.hid (show Under w0 w1 from hU1')
  clear hU1 hU1' hlc hrl HC c0 c1 c2 c3 hlb
  go_wp2
  go_loopw [7, 8] (fun a i wr => FrRel w0 s l a i wr) (fun _ i _ => l.length - (intOf i).toNat)
  case atStart => exact ⟨0, l.length, e, by omega, by rw [List.take_length]; exact HE.out, rfl, rfl, HU1.out⟩
  case round =>
    obtain ⟨j, M, y, hj, hy, rfl, rfl, hU⟩ := hrel
    have HU := Lib.hid hU
    clear hU
    have hj0 : (0 : Int) ≤ (j : Int) := by omega
    by_cases hjl : j < l.length
    · obtain ⟨M, rfl⟩ : ∃ m, M = m + 1 := ⟨M - 1, by omega⟩
      have hM : M < l.length := by omega
      have hjl' : (j : Int) < (l.length : Int) := by omega
      have htk : flats (l.take (M + 1)) = flats (l.take M) ++ flat l[M] := by
        rw [List.take_succ_eq_append_getElem hM, flats_app]
        simp [flats]
      have hfl : flats l = flats (l.take M) ++ flat l[M] ++ flats (l.drop (M + 1)) := by
        rw [← htk, ← flats_app, List.take_append_drop]
      have hpos := flat_len l[M]
      rw [htk, List.length_append] at hy
      obtain ⟨y, rfl⟩ : ∃ m, y = m + 1 := ⟨y - 1, by omega⟩
      have hyt : y + 1 ≤ t.length := by
        have := congrArg List.length HT.out
        rw [flat, hfl] at this
        simp only [List.length_append] at this
        omega
      obtain ⟨z', hz'⟩ : ∃ z', z' = s.length + (flats (l.take M)).length := ⟨_, rfl⟩
      have HQ := Lib.hid (HIH.out l[M] (List.getElem_mem hM) (okTs_mem.1 HLs.out _ (List.getElem_mem hM)) wr _ t (s ++ flats (l.take M)) (flats (l.drop (M + 1)) ++ [x] ++ r) y z' (by rw [HT.out, flat, hfl]; simp only [List.append_assoc]) HN.out (TermV.mono _ _ _ _ HU.out HV.out) (by rw [List.length_append]; omega) (by rw [List.length_append]; exact hz'))
      have HZ' := Lib.hid hz'
      have hy1 : (y : Int) ≤ 1000000 := by omega
      have hy0 : (0 : Int) ≤ (y : Int) := by omega
      have hz0 : (0 : Int) ≤ (z' : Int) := by omega
      have hMe : ((y : Int) + 1 - 1) = (y : Int) := by omega
      clear hz' hy htk hfl hpos hyt
      go_wp2_with fail
      refine HQ.out.mono ?_
      rintro e2 w2 ⟨rfl, hU2⟩
      have HU2 := Lib.hid (HU.out.trans hU2)
      clear hU2
      go_wp2
      go_roundw
      case rel => exact ⟨j + 1, M, z', by omega, HZ'.out, by go_num, by go_num, HU2.out⟩
      case measure => simp [intOf]; omega
    · obtain rfl : M = 0 := by omega
      obtain rfl : j = l.length := by omega
      obtain rfl : y = z := by rw [hy, HZ.out]; simp [flats]
      go_wp2
      go_ret
      exact ⟨rfl, HU.out⟩
theorem from_all (T : Tm) : FromOk T := by
  induction T using Tm.rec (motive_2 := fun l => ∀ a ∈ l, FromOk a) with
  | mk x l ih => exact from_mk x l ih
  | nil => rename_i a ha; cases ha
  | cons a l iha ihl =>
    rename_i b hb
    rcases List.mem_cons.1 hb with rfl | hb
    · exact iha
    · exact ihl b hb
end Go.Proofs.YtiibknlpeodejaaGreatDoor

/- corniceref02.Parts: its contract. -/
namespace Go.Proofs.YtiibknlpeodejaaGreatDoor
open Go.Lx Go.RowKit

theorem Tryz.infoNds : (Tryz.prog.info? 22).map (fun i => (i.zero, i.size, i.bytes)) = some (some (.slice none 0 0), 1, 24) := by kernel_rfl
theorem row_oneZ (w : World) (base : Nat) (hb : base ≤ w.heap.size) (e : TypeId) (v : Value) : (w.alloc (.cells #[v] e)).ownsRow base e 1 (.slice (some ⟨w.heap.size, 0, none⟩) 1 1) 1 [v] :=
  ⟨rfl, .inr ⟨w.heap.size, 1, #[v], rfl, hb, heap_alloc_new w _, Nat.le_refl _, by decide, rfl, rfl⟩⟩
/-- A piece of a row. -/
theorem row_sub {w : World} {b off : Nat} {A B C : List Value} (h : RowArg w (some ⟨b, off, none⟩) (A ++ B ++ C)) : RowArg w (some ⟨b, off + A.length, none⟩) B := fun hne => by
  obtain ⟨b', off', e, hb, hc⟩ := h (by
    intro e
    simp only [List.append_eq_nil_iff] at e
    exact hne e.1.2)
  cases e
  refine ⟨b, off + A.length, rfl, hb, fun j u hj => ?_⟩
  have hjl : j < B.length := (List.getElem?_eq_some_iff.1 hj).1
  have := hc (A.length + j) u (by rw [List.append_assoc, List.getElem?_append_right (by omega), Nat.add_sub_cancel_left, List.getElem?_append_left hjl]; exact hj)
  rwa [Nat.add_assoc]
theorem term_sub {w : World} {b off n c : Nat} {A B C : List Nd} (h : RowArg w (some ⟨b, off, none⟩) (ndCells (A ++ B ++ C))) (hn : n = B.length) (hc : n ≤ c) : TermV w (.slice (some ⟨b, off + A.length * 4, none⟩) n c) B := by
  subst hn
  refine ⟨_, c, rfl, hc, fun e => (by cases e), ?_⟩
  rw [ndCells_app, ndCells_app] at h
  rw [← ndCells_len]
  exact row_sub h
def PaRel (w0 : World) (l : List Tm) (en out i : Value) (wr : World) : Prop := ∃ (j M E g c2 : Nat) (vs : List Value), j + M = l.length ∧ E = (flats (l.take M)).length ∧ en = .int .i64 (E : Int) ∧ out = .slice (some ⟨g, 0, none⟩) j c2 ∧ i = .int .i64 (j : Int) ∧
  wr.ownsRow w0.heap.size 22 1 (.slice (some ⟨g, 0, none⟩) j c2) j vs ∧ Zip (TermV w0) vs ((l.drop M).map flat) ∧ Under w0 wr
section
variable {w0 : World}
set_option maxRecDepth 100000 in
set_option maxHeartbeats 2000000 in
theorem parts_any (x : Nd) (l : List Tm) {t : List Nd} {v : Value} (hok : okT (.mk x l)) (ht : t = flat (.mk x l)) (hn : t.length ≤ 1000000) (hv : TermV w0 v t) :
    Calls Tryz.prog 45 #[v] w0 fun e w => ∃ vr, e = .returned vr ∧ TermsV w vr (l.map flat) ∧ Under w0 w := by
  obtain ⟨hx, hl, hls⟩ := hok
  have HV := Lib.hid hv
  have HN := Lib.hid hn
  have hte : t[(flats l).length]? = some x := by
    rw [ht, flat, List.getElem?_append_right (Nat.le_refl _), Nat.sub_self]
    rfl
  have hlen : t.length = (flats l).length + 1 := by rw [ht, flat, List.length_append]; rfl
  have HT := Lib.hid ht
  obtain ⟨p, c, rfl, hc, _, hr⟩ := hv
  obtain ⟨b1, off1, rfl, hb1, c0, c1, c2, c3⟩ := RowArg.node hr hte
  obtain ⟨i0, hi, hz0, hz1, hz2⟩ := info_parts Tryz.infoNds
  have HR := Lib.hid hr
  have HC := Lib.hid (fun w => rbinds_any (w0 := w) x)
  have HX := Lib.hid hx
  have HLs := Lib.hid hls
  have HLen := Lib.hid hlen
  rw [hlen] at hn hc ⊢
  obtain ⟨m, hm⟩ : ∃ m, m = (flats l).length := ⟨_, rfl⟩
  have HM := Lib.hid hm
  rw [← hm] at c0 c1 c2 c3 hn hc ⊢
  have hmi : ((m : Int) + 1 - 1) = (m : Int) := by omega
  have hm0 : (0 : Int) ≤ (m : Int) := by omega
  have hm1 : (m : Int) ≤ 1000000 := by omega
  have hB8 := binds_len hx
  have hL0 : (0 : Int) ≤ (l.length : Int) := by omega
  have hL8 : (l.length : Int) ≤ 8 := by omega
  have HL := Lib.hid hl
  clear ht hn hr hte hls hx hB8 hl hlen hm
  go_enter Tryz.func45, Tryz.ntmps45
  go_wp2_with fail
  refine (HC.out _).mono ?_
  rintro e1 w1 ⟨lb, hlb, q, c', rfl, hlc, hrl, hU1⟩
  obtain rfl := hlb HX.out
  have hU1' := hU1
  rw [HX.out, ← HL.out]
  have HU1 := Lib.hid (show Under w0 w1 from hU1')
  clear hU1 hU1' hlc hrl HC c0 c1 c2 c3 hlb
  go_wp2
  go_loopw [3, 6, 7] (fun en out i wr => PaRel w0 l en out i wr) (fun _ _ i _ => l.length - (intOf i).toNat)
  case atStart => exact ⟨0, l.length, m, w1.heap.size, 0, [], by omega, by rw [List.take_length]; exact HM.out, rfl, rfl, rfl, row_emptyZ w1 _ _ _ HU1.out.size, by rw [List.drop_length]; exact Zip.nil _, under_alloc HU1.out _⟩
  case round =>
    obtain ⟨j, M, E, g, gc, vs, hj, hE, rfl, rfl, rfl, hO, hZ, hU⟩ := hrel
    have HU := Lib.hid hU
    have HO := Lib.hid hO
    have HZ := Lib.hid hZ
    clear hU hO hZ
    have hj0 : (0 : Int) ≤ (j : Int) := by omega
    by_cases hjl : j < l.length
    · obtain ⟨M, rfl⟩ : ∃ m, M = m + 1 := ⟨M - 1, by omega⟩
      have hM : M < l.length := by omega
      have hjl' : (j : Int) < (l.length : Int) := by omega
      have htk : flats (l.take (M + 1)) = flats (l.take M) ++ flat l[M] := by
        rw [List.take_succ_eq_append_getElem hM, flats_app]
        simp [flats]
      have hfl : flats l = flats (l.take M) ++ flat l[M] ++ flats (l.drop (M + 1)) := by
        rw [← htk, ← flats_app, List.take_append_drop]
      have hpos := flat_len l[M]
      rw [htk, List.length_append] at hE
      obtain ⟨y, hy⟩ : ∃ y, E = y + 1 := ⟨E - 1, by omega⟩
      have hEm : E ≤ m := by
        rw [HM.out, hfl]
        simp only [List.length_append]
        omega
      obtain ⟨z', hz'⟩ : ∃ z', z' = (flats (l.take M)).length := ⟨_, rfl⟩
      have hTs : t = flats (l.take M) ++ flat l[M] ++ (flats (l.drop (M + 1)) ++ [x]) := by rw [HT.out, flat, hfl]; simp only [List.append_assoc]
      have HQ := Lib.hid (from_all l[M] (okTs_mem.1 HLs.out _ (List.getElem_mem hM)) wr _ t (flats (l.take M)) (flats (l.drop (M + 1)) ++ [x]) y z' hTs HN.out (TermV.mono _ _ _ _ HU.out HV.out) (by omega) hz')
      rw [HLen.out, ← HM.out] at HQ
      have HPc := Lib.hid (term_sub (n := E - z') (c := c - z') (by rw [← hTs]; exact HR.out) (by omega) (by omega))
      rw [← hz'] at HPc
      have HZ' := Lib.hid hz'
      have hzE : z' < E := by omega
      have hDr : (l.drop M).map flat = flat l[M] :: (l.drop (M + 1)).map flat := by rw [List.drop_eq_getElem_cons hM]; rfl
      have HDr := Lib.hid hDr
      generalize l[M] = T at *
      have hE1 : (E : Int) ≤ 1000000 := by omega
      have hE0 : (0 : Int) ≤ (E : Int) := by omega
      have hzz0 : (0 : Int) ≤ (z' : Int) := by omega
      have hzE' : (z' : Int) ≤ (E : Int) := by omega
      have hEc : (E : Int) ≤ (c : Int) := by omega
      have hzc : ¬ c = z' := by omega
      have hMe : ((E : Int) - 1) = (y : Int) := by omega
      have hmx : 1 + j ≤ maxLen := by simp only [maxLen]; omega
      have hby : (1 + j) * 24 ≤ 140737488355328 := by omega
      clear hz' htk hfl hpos hE hy hTs hDr hEm
      go_wp2_with fail
      refine HQ.out.mono ?_
      rintro e2 w2 ⟨rfl, hU2⟩
      have HU2 := Lib.hid hU2
      have hs1 := HU.out.size
      have hs2 := hU2.size
      clear hU2
      go_wp2_with (at_builtin; refine wpList_append_own_at _ rfl _ _ 66 rfl w0.heap.size 22 i0 _ 1 24 Tryz.underlying66 hi hz0 hz1 hz2 rfl (by decide) _ _ _ rfl (row_oneZ w2 w0.heap.size (by omega) 22 _) ⟨g, 0, none⟩ j gc vs rfl ?c0 ?c1 ?c2 hmx hby ?c5 ?_)
      case c0 => have := HO.out.1; omega
      case c1 =>
        intro j u hj
        rw [add_off, Nat.zero_add]
        exact row_cell ((row_under HO.out HU2.out).alloc _) rfl hj
      case c2 =>
        intro u hu
        obtain ⟨i, hi'⟩ := List.mem_iff_getElem?.1 hu
        have hil : i < ((l.drop (M + 1)).map flat).length := by rw [← HZ.out.1]; exact (List.getElem?_eq_some_iff.1 hi').1
        exact (HZ.out.2 i u _ hi' (List.getElem?_eq_getElem hil)).one
      case c5 => simp; omega
      intro v' w3 hown hgrow hnil hat
      obtain ⟨g', gc', rfl, _⟩ := row_block hown (by omega)
      have HO3 := Lib.hid hown
      have HU3 := Lib.hid (under_grown (under_alloc (HU.out.trans HU2.out) _) hgrow fun g e => by cases e; show w0.heap.size ≤ w2.heap.size; omega)
      clear hown hgrow hnil hat
      go_wp2
      go_roundw
      case rel =>
        refine ⟨j + 1, M, z', g', gc', _ :: vs, by omega, HZ'.out, by go_num, by rw [Nat.add_comm j 1], by go_num, by rw [Nat.add_comm j 1]; exact HO3.out, ?_, HU3.out⟩
        rw [HDr.out]
        exact (Zip.one HPc.out).app HZ.out
      case measure => simp [intOf]; omega
    · obtain rfl : M = 0 := by omega
      obtain rfl : j = l.length := by omega
      go_wp2
      go_ret
      refine ⟨_, rfl, ?_, HU.out⟩
      have hlm : (l.map flat).length = l.length := List.length_map ..
      have hz := HZ.out
      rw [List.drop_zero] at hz
      refine ListV.of_own (vs := vs) (by rw [hlm]; exact HO.out) (hz.mono fun v x h => TermV.mono _ _ _ _ HU.out h)
end
end Go.Proofs.YtiibknlpeodejaaGreatDoor

/- corniceref03.Count, Free: their contracts. -/
namespace Go.Proofs.YtiibknlpeodejaaGreatDoor
open Go.Lx Go.RowKit

mutual
/-- The greatest variable that is free under so many binders; -1: none is. -/
def topT : Tm → Nat → Int
  | .mk x l, u => if x.k = 0 then (if (u : Int) ≤ x.n then x.n - u else -1) else topTs l (binds x) u
def topTs : List Tm → List Nat → Nat → Int
  | [], _, _ => -1
  | a :: l, bs, u => max (topT a (u + bs.headD 0)) (topTs l bs.tail u)
end
theorem hrl_under {w w' : World} {p : Option Addr} {cs : List Value} (h : RowArg w p cs) (hU : Under w w') : RowArg w' p cs := h.under hU
theorem topTs_at {l : List Tm} {bs : List Nat} {u j : Nat} (hj : j < l.length) (hb : j < bs.length) : topTs (l.drop j) (bs.drop j) u = max (topT l[j] (u + bs[j])) (topTs (l.drop (j + 1)) (bs.drop (j + 1)) u) := by
  rw [List.drop_eq_getElem_cons hj, List.drop_eq_getElem_cons hb]
  rfl
def CountOk (T : Tm) : Prop := okT T → ∀ (w0 : World) (v : Value) (t : List Nd) (u : Nat), t = flat T → t.length ≤ 4000 → TermV w0 v t → u + 2 * t.length ≤ 100000 →
  Calls Tryz.prog 41 #[v, .int .i64 (-1), .int .i64 (u : Int)] w0 fun e w => ∃ many : Nat, many ≤ t.length ∧ e = .returned (.tuple #[.int .i64 (many : Int), .int .i64 (topT T u)]) ∧ Under w0 w
def CoRel (w1 : World) (x : Nd) (l : List Tm) (u : Nat) (mv tv i : Value) (wr : World) : Prop := ∃ (j n : Nat) (y : Int), j ≤ l.length ∧ n ≤ (flats (l.take j)).length ∧ -1 ≤ y ∧ mv = .int .i64 (n : Int) ∧ tv = .int .i64 y ∧ i = .int .i64 (j : Int) ∧
  topTs l (binds x) u = max y (topTs (l.drop j) ((binds x).drop j) u) ∧ Under w1 wr
set_option maxRecDepth 100000 in
set_option maxHeartbeats 1000000 in
theorem count_var (x : Nd) (l : List Tm) (hk : x.k = 0) : CountOk (.mk x l) := by
  rintro ⟨hx, hl, hls⟩ w0 v t u ht hn hv hu
  have hte : t[t.length - 1]? = some x := by rw [ht, flat]; simp
  have hpos : 1 ≤ t.length := by rw [ht, flat]; simp
  have hv2 := rightB_var hx hk
  have HR := Lib.hid (root_any (by omega) hte hv)
  have hu0 : (0 : Int) ≤ (u : Int) := by omega
  have hu1 : (u : Int) ≤ 100000 := by omega
  have h1 := hv2.1
  have h2 := hv2.2
  have HT : RowKit.Hid (topT (.mk x l) u = if (u : Int) ≤ x.n then x.n - u else -1) := Lib.hid (by unfold topT; rw [if_pos hk])
  clear hte hv2 ht hx hl hls hv
  obtain ⟨k, n, m, s⟩ := x
  simp only at hk h1 h2 HT
  subst hk
  unfold ndV at HR
  simp only at HR
  by_cases h : (u : Int) ≤ n
  · have h3 : (0 : Int) ≤ n - (u : Int) := by omega
    rw [if_pos h] at HT
    go_enter Tryz.func41, Tryz.ntmps41
    go_wp2_with fail
    refine HR.out.mono ?_
    rintro e w1 ⟨rfl, hU1⟩
    have HU1 := Lib.hid hU1
    clear hU1
    go_wp2
    go_ret2
    exact ⟨1, by omega, by rw [HT.out]; rfl, under_alloc HU1.out _⟩
  · have h3 : n - (u : Int) < 0 := by omega
    rw [if_neg h] at HT
    go_enter Tryz.func41, Tryz.ntmps41
    go_wp2_with fail
    refine HR.out.mono ?_
    rintro e w1 ⟨rfl, hU1⟩
    have HU1 := Lib.hid hU1
    clear hU1
    go_wp2
    go_ret2
    exact ⟨0, by omega, by rw [HT.out]; rfl, under_alloc HU1.out _⟩
set_option maxRecDepth 100000 in
set_option maxHeartbeats 2000000 in
theorem count_node (x : Nd) (l : List Tm) (hk : x.k ≠ 0) (ih : ∀ a ∈ l, CountOk a) : CountOk (.mk x l) := by
  intro hok w0 v t u ht hn hv hu
  have HOk := Lib.hid hok
  obtain ⟨hx, hl, hls⟩ := hok
  have hte : t[t.length - 1]? = some x := by rw [ht, flat]; simp
  have hfl : t.length = (flats l).length + 1 := by rw [ht, flat]; simp
  have HFl := Lib.hid hfl
  have HR := Lib.hid (root_any (by omega) hte hv)
  have HC := Lib.hid (fun w => rbinds_any (w0 := w) x)
  have HV := Lib.hid hv
  have HPa := Lib.hid (fun w (hU : Under w0 w) => parts_any (w0 := w) x l HOk.out ht (by omega) (TermV.mono _ _ _ _ hU hv))
  have HT : RowKit.Hid (topT (.mk x l) u = topTs l (binds x) u) := Lib.hid (by unfold topT; rw [if_neg hk])
  have HX := Lib.hid hx
  have HL := Lib.hid hl
  have HLs := Lib.hid hls
  have HIH := Lib.hid ih
  have HU0 := Lib.hid hu
  have HN0 := Lib.hid hn
  have hB8 := binds_len hx
  have hB2 : RowKit.Hid (∀ b ∈ binds x, b ≤ 2) := Lib.hid (by have := bindsR_le (x := x); unfold bindsR at this; rwa [if_pos hx] at this)
  have hk' : (x.k == 0) = false := by simpa using hk
  have hu0 : (0 : Int) ≤ (u : Int) := by omega
  have hu1 : (u : Int) ≤ 100000 := by omega
  have hL0 : (0 : Int) ≤ (l.length : Int) := by omega
  have hL8 : (l.length : Int) ≤ 8 := by omega
  clear hte ht hx hl hls hv hk ih hB8 hfl hu hn
  unfold ndV at HR
  unfold ndV at HC
  go_enter Tryz.func41, Tryz.ntmps41
  go_wp2_with fail
  refine HR.out.mono ?_
  rintro e w1 ⟨rfl, hU1⟩
  have HU1 := Lib.hid hU1
  clear hU1
  go_wp2_with fail
  refine (HC.out _).mono ?_
  rintro e w2 ⟨lb, hlb, q, cq, rfl, hlc, hrl, hU2⟩
  obtain rfl := hlb HX.out
  have HU2 := Lib.hid (show Under w0 w2 from (under_alloc HU1.out _).trans hU2)
  have HQ := Lib.hid hrl
  rw [HX.out, ← HL.out]
  clear hU2 hrl hlc hlb HR HC
  go_wp2_with fail
  refine (HPa.out _ HU2.out).mono ?_
  rintro e w3 ⟨vr, rfl, ⟨p3, c3, vs, rfl, h31, _, h32, h33⟩, hU3⟩
  have hlm : (l.map flat).length = l.length := List.length_map ..
  rw [hlm] at h31 ⊢
  have HQ3 := Lib.hid (hrl_under HQ.out hU3)
  have HU3 := Lib.hid (HU2.out.trans hU3)
  have HP3 := Lib.hid h32
  have HZ3 := Lib.hid h33
  clear hU3 h32 h33 hlm HPa
  go_wp2
  go_loopw [13, 14, 15] (fun mv tv i wr => CoRel w3 x l u mv tv i wr) (fun _ _ i _ => l.length - (intOf i).toNat)
  case atStart => exact ⟨0, 0, -1, Nat.zero_le _, Nat.zero_le _, by omega, rfl, rfl, rfl, by
    rw [List.drop_zero, List.drop_zero]
    have : ∀ (l : List Tm) (bs : List Nat), -1 ≤ topTs l bs u := fun l => by
      induction l with
      | nil => intro bs; exact Int.le_refl _
      | cons a l ih => intro bs; have := ih bs.tail; show -1 ≤ max _ _; omega
    have := this l (binds x)
    omega, Under.refl _⟩
  case round =>
    obtain ⟨j, n, y, hj, hnm, hy, rfl, rfl, rfl, hTo, hU⟩ := hrel
    have HU := Lib.hid hU
    have HTo := Lib.hid hTo
    have HNm := Lib.hid hnm
    clear hU hTo
    have hj0 : (0 : Int) ≤ (j : Int) := by omega
    have hfle : (flats (l.take j)).length ≤ (flats l).length := by
      have := congrArg List.length (flats_app (l.take j) (l.drop j))
      rw [List.take_append_drop, List.length_append] at this
      omega
    have hn0 : (0 : Int) ≤ (n : Int) := by omega
    have hn4 : (n : Int) ≤ 4000 := by have := HFl.out; have := HN0.out; omega
    by_cases hjl : j < l.length
    · have hjb : j < (binds x).length := by rw [← HL.out]; exact hjl
      obtain ⟨tv, htv, hterm⟩ := HZ3.out.at (i := j) (x := flat l[j]) (by rw [List.getElem?_map, List.getElem?_eq_getElem hjl]; rfl)
      have hok := okTs_mem.1 HLs.out _ (List.getElem_mem hjl)
      have hb2 := hB2.out _ (List.getElem_mem hjb)
      have htk : flats (l.take (j + 1)) = flats (l.take j) ++ flat l[j] := by
        rw [List.take_succ_eq_append_getElem hjl, flats_app]
        simp [flats]
      have hfl2 : (flats (l.take (j + 1))).length ≤ (flats l).length := by
        have := congrArg List.length (flats_app (l.take (j + 1)) (l.drop (j + 1)))
        rw [List.take_append_drop, List.length_append] at this
        omega
      rw [htk, List.length_append] at hfl2
      have hQ := fun w (hU : Under w3 w) => HIH.out l[j] (List.getElem_mem hjl) hok w tv (flat l[j]) (u + (binds x)[j]) rfl (by have := HFl.out; have := HN0.out; omega) (TermV.mono _ _ _ _ hU hterm) (by have := HFl.out; have := HU0.out; omega)
      simp only [Int.natCast_add] at hQ
      have HCq := Lib.hid hQ
      have HTs := Lib.hid (topTs_at (u := u) hjl hjb)
      have HTk := Lib.hid (congrArg List.length htk)
      have HF4 := Lib.hid (show (flats (l.take j)).length + (flat l[j]).length ≤ 4000 by have := HFl.out; have := HN0.out; omega)
      obtain ⟨pt, ct, rfl, _⟩ := hterm
      obtain ⟨bt, ot, rfl, hbt, hct⟩ := HP3.out (fun e => by rw [e] at htv; simp at htv)
      have cc := hct j _ htv
      obtain ⟨bb, ob, rfl, hbb, hcb⟩ := HQ3.out (fun e => by
        have := congrArg List.length e
        unfold intsN at this
        rw [List.length_map, List.length_nil] at this
        omega)
      have cb := hcb j _ (intsN_at (List.getElem?_eq_getElem hjb))
      rw [← under_cell HU.out hbt] at cc
      rw [← under_cell HU.out hbb] at cb
      have hbt' := Nat.lt_of_lt_of_le hbt HU.out.size
      have hbb' := Nat.lt_of_lt_of_le hbb HU.out.size
      clear hQ htk hfl2 hct hcb htv hok hfle
      generalize (binds x)[j] = bj at *
      generalize l[j] = T at *
      have hbj0 : (0 : Int) ≤ (bj : Int) := by omega
      have hbj2 : (bj : Int) ≤ 2 := by omega
      have hjl' : (j : Int) < (l.length : Int) := by omega
      have hwr : IntKind.i64.wrap ((u : Int) + (bj : Int)) = (u : Int) + (bj : Int) := by rw [IntKind.wrap_i64]; omega
      go_wp2_with fail
      go_region_held3 (fun w' => w'.cell? ⟨bt, ot + j, none⟩ = some (.slice pt (flat T).length ct) ∧ w'.cell? ⟨bb, ob + j, none⟩ = some (.int .i64 (bj : Int)))
        (first
          | go_keep
          | (refine ⟨?_, ?_⟩
             · (rw [under_cell hU4 hbt']; assumption)
             · (rw [under_cell hU4 hbb']; assumption)))
        ((go_simp; (try rw [hwr]); go_at_call 41; refine (HCq.out _ (under_drew HU.out)).mono ?_; rintro e w4 ⟨n4, hn4, rfl, hU4⟩))
      have HU4 := Lib.hid ((under_drew HU.out).trans hU4)
      have hn40 : (0 : Int) ≤ (n4 : Int) := by omega
      have hn41 : (n4 : Int) ≤ 4000 := by have := HF4.out; omega
      have HN4 := Lib.hid hn4
      generalize topT T (u + bj) = y4 at *
      clear hU4 hn4
      by_cases hyy : y4 ≤ y
      · have hyy' : y4 ≤ y := hyy
        go_wp2
        all_goals
          go_roundw
          case rel => exact ⟨j + 1, n + n4, max y y4, by omega, by rw [HTk.out, List.length_append]; have := HN4.out; have := HNm.out; omega, by omega, by go_num, by exact congrArg (Value.int .i64) (by omega), by go_num, by rw [HTo.out, HTs.out]; omega, HU4.out⟩
          case measure => simp [intOf]; omega
      · have hyy' : y < y4 := by omega
        go_wp2
        all_goals
          go_roundw
          case rel => exact ⟨j + 1, n + n4, max y y4, by omega, by rw [HTk.out, List.length_append]; have := HN4.out; have := HNm.out; omega, by omega, by go_num, by exact congrArg (Value.int .i64) (by omega), by go_num, by rw [HTo.out, HTs.out]; omega, HU4.out⟩
          case measure => simp [intOf]; omega
    · obtain rfl : j = l.length := by omega
      go_wp2
      go_ret2
      refine ⟨n, by have := HFl.out; omega, ?_, HU3.out.trans HU.out⟩
      rw [HT.out, HTo.out, List.drop_length]
      have : max y (topTs [] ((binds x).drop l.length) u) = y := by show max y (-1) = y; omega
      rw [this]
      rfl
theorem count_all (T : Tm) : CountOk T := by
  induction T using Tm.rec (motive_2 := fun l => ∀ a ∈ l, CountOk a) with
  | mk x l ih =>
    by_cases hk : x.k = 0
    · exact count_var x l hk
    · exact count_node x l hk ih
  | nil => rename_i a ha; cases ha
  | cons a l iha ihl =>
    rename_i b hb
    rcases List.mem_cons.1 hb with rfl | hb
    · exact iha
    · exact ihl b hb
end Go.Proofs.YtiibknlpeodejaaGreatDoor

/- corniceref03.Free: its contract. -/
namespace Go.Proofs.YtiibknlpeodejaaGreatDoor
open Go.Lx Go.RowKit

theorem topT_range (T : Tm) : okT T → ∀ u, -1 ≤ topT T u ∧ topT T u ≤ 99 := by
  induction T using Tm.rec (motive_2 := fun l => okTs l → ∀ bs u, -1 ≤ topTs l bs u ∧ topTs l bs u ≤ 99) with
  | mk x l ih =>
    rintro ⟨hx, _, hls⟩ u
    unfold topT
    by_cases hk : x.k = 0
    · have := rightB_var hx hk
      rw [if_pos hk]
      by_cases h : (u : Int) ≤ x.n
      · rw [if_pos h]; omega
      · rw [if_neg h]; omega
    · rw [if_neg hk]
      exact ih hls _ u
  | nil => rename_i hh bs u; show -1 ≤ (-1 : Int) ∧ (-1 : Int) ≤ 99; omega
  | cons a l iha ihl =>
    rename_i hh bs u
    have h1 := iha hh.1 (u + bs.headD 0)
    have h2 := ihl hh.2 bs.tail u
    show -1 ≤ max (topT a (u + bs.headD 0)) (topTs l bs.tail u) ∧ max (topT a (u + bs.headD 0)) (topTs l bs.tail u) ≤ 99
    omega
section
variable {w0 : World}
set_option maxRecDepth 100000 in
set_option maxHeartbeats 1000000 in
theorem rfree_bad (t : List Nd) {v : Value} (hn : t.length ≤ maxLen) (hv : TermV w0 v t) (h : checkE t ≠ 0) : Calls Tryz.prog 22 #[v] w0 fun e w => e = .returned (.tuple #[.int .i64 0, .int .i64 (checkE t)]) ∧ Under w0 w := by
  have HC := Lib.hid (rcheck_any t hn hv)
  have h' : (checkE t == 0) = false := by simpa using h
  clear hn hv h
  generalize checkE t = ce at *
  go_enter Tryz.func22, Tryz.ntmps22
  go_wp2_with fail
  refine HC.out.mono ?_
  rintro e w1 ⟨rfl, hU1⟩
  have HU1 := Lib.hid hU1
  clear hU1
  go_wp2
  go_ret2
  exact ⟨rfl, HU1.out⟩
set_option maxRecDepth 100000 in
set_option maxHeartbeats 1000000 in
theorem rfree_ok (T : Tm) {v : Value} (hok : okT T) (hd : deepT T ≤ 60) (hl : (flat T).length ≤ 4000) (hv : TermV w0 v (flat T)) : Calls Tryz.prog 22 #[v] w0 fun e w => e = .returned (.tuple #[.int .i64 (topT T 0 + 1), .int .i64 0]) ∧ Under w0 w := by
  have HC := Lib.hid (rcheck_any (flat T) (by simp only [maxLen]; omega) hv)
  rw [check_of_tree hok hd hl] at HC
  have HQ := Lib.hid (fun w (hU : Under w0 w) => count_all T hok w v (flat T) 0 rfl hl (TermV.mono _ _ _ _ hU hv) (by omega))
  have hr := topT_range T hok 0
  have h1 := hr.1
  have h2 := hr.2
  clear hok hd hl hv hr
  generalize topT T 0 = y at *
  go_enter Tryz.func22, Tryz.ntmps22
  go_wp2_with fail
  refine HC.out.mono ?_
  rintro e w1 ⟨rfl, hU1⟩
  have HU1 := Lib.hid hU1
  clear hU1
  go_wp2_with fail
  refine (HQ.out _ HU1.out).mono ?_
  rintro e w2 ⟨many, hm, rfl, hU2⟩
  have HU2 := Lib.hid (HU1.out.trans hU2)
  clear hU2
  go_wp2
  go_ret2
  exact ⟨rfl, HU2.out⟩
end
end Go.Proofs.YtiibknlpeodejaaGreatDoor

/- corniceref08.leaf: its contract. -/
namespace Go.Proofs.YtiibknlpeodejaaGreatDoor
open Go.Lx Go.RowKit

/-- Does a word stand alone? -/
def leafB (s : ByteArray) : Bool := s.toList == [80, 114, 111, 112] || (s.toList == [78, 97, 116] || (s.toList == [122, 101, 114, 111] || (s.toList == [69, 109, 112, 116, 121] || (s.toList == [85, 110, 105, 116] || (s.toList == [115, 116, 97, 114] || s.toList == [116, 105, 99, 107])))))
section
variable {w0 : World}
set_option maxRecDepth 100000 in
set_option maxHeartbeats 1000000 in
theorem rleaf_any (s : ByteArray) : Calls Tryz.prog 56 #[.string s] w0 fun e w => ∃ k n m x, e = .returned (.tuple #[.agg #[.int .i64 k, .int .i64 n, .int .i64 m, .string x], .bool (leafB s)]) ∧ Under w0 w := by
  have HO : RowKit.Hid (leafB s = (s.toList == [80, 114, 111, 112] || (s.toList == [78, 97, 116] || (s.toList == [122, 101, 114, 111] || (s.toList == [69, 109, 112, 116, 121] || (s.toList == [85, 110, 105, 116] || (s.toList == [115, 116, 97, 114] || s.toList == [116, 105, 99, 107]))))))) := Lib.hid rfl
  generalize leafB s = r at *
  go_enter Tryz.func56, Tryz.ntmps56
  go_wp2
  all_goals
    refine bodyPost_ret ((results_cell_tmp rfl _ _ _).trans (by simp [go_sem]; refine ⟨?_, by rw [HO.out]; simp [*]⟩; first | rfl | exact ⟨rfl, rfl, rfl, rfl⟩)) rfl ⟨_, _, _, _, rfl, ?_⟩
    first | exact under_alloc (Under.refl _) _ | skip
end
end Go.Proofs.YtiibknlpeodejaaGreatDoor

/- corniceref08.form, Keyword: their contracts. Printed by genform.py. -/
namespace Go.Proofs.YtiibknlpeodejaaGreatDoor
open Go.Lx Go.RowKit

/-- Does a word stand in a list? -/
def formB (s : ByteArray) : Bool := s.toList == [84, 121, 112, 101] || (s.toList == [112, 105] || (s.toList == [112, 105, 49] || (s.toList == [112, 105, 50] || (s.toList == [112, 105, 51] || (s.toList == [115, 105, 103] || (s.toList == [115, 105, 103, 49] || (s.toList == [115, 105, 103, 50] || (s.toList == [115, 105, 103, 51] || (s.toList == [108, 97, 109] || (s.toList == [97, 112, 112] || (s.toList == [112, 97, 105, 114] || (s.toList == [102, 115, 116] || (s.toList == [115, 110, 100] || (s.toList == [115, 117, 99] || (s.toList == [112, 114, 102] || (s.toList == [114, 101, 99] || (s.toList == [97, 98, 111, 114, 116] || (s.toList == [101, 113] || (s.toList == [114, 101, 102, 108] || (s.toList == [99, 97, 115, 116] || (s.toList == [116, 114, 97, 110, 115, 112] || (s.toList == [113, 117, 111, 116] || (s.toList == [99, 108, 97, 115, 115] || (s.toList == [113, 101, 108, 105, 109] || (s.toList == [100, 97, 116, 97] || (s.toList == [99, 111, 110] || (s.toList == [101, 108, 105, 109])))))))))))))))))))))))))))
section
variable {w0 : World}
set_option maxRecDepth 100000 in
set_option maxHeartbeats 8000000 in
theorem rform_any (s : ByteArray) : Calls Tryz.prog 55 #[.string s] w0 fun e w => ∃ k n x, e = .returned (.tuple #[.agg #[.int .i64 k, .int .i64 n, .string x], .bool (formB s)]) ∧ Under w0 w := by
  have HO : RowKit.Hid (formB s = (s.toList == [84, 121, 112, 101] || (s.toList == [112, 105] || (s.toList == [112, 105, 49] || (s.toList == [112, 105, 50] || (s.toList == [112, 105, 51] || (s.toList == [115, 105, 103] || (s.toList == [115, 105, 103, 49] || (s.toList == [115, 105, 103, 50] || (s.toList == [115, 105, 103, 51] || (s.toList == [108, 97, 109] || (s.toList == [97, 112, 112] || (s.toList == [112, 97, 105, 114] || (s.toList == [102, 115, 116] || (s.toList == [115, 110, 100] || (s.toList == [115, 117, 99] || (s.toList == [112, 114, 102] || (s.toList == [114, 101, 99] || (s.toList == [97, 98, 111, 114, 116] || (s.toList == [101, 113] || (s.toList == [114, 101, 102, 108] || (s.toList == [99, 97, 115, 116] || (s.toList == [116, 114, 97, 110, 115, 112] || (s.toList == [113, 117, 111, 116] || (s.toList == [99, 108, 97, 115, 115] || (s.toList == [113, 101, 108, 105, 109] || (s.toList == [100, 97, 116, 97] || (s.toList == [99, 111, 110] || (s.toList == [101, 108, 105, 109]))))))))))))))))))))))))))))) := Lib.hid rfl
  generalize formB s = r at *
  go_enter Tryz.func55, Tryz.ntmps55
  go_wp2
  all_goals
    refine bodyPost_ret ((results_cell_tmp rfl _ _ _).trans (by simp [go_sem]; refine ⟨?_, by rw [HO.out]; simp [*]⟩; first | rfl | exact ⟨rfl, rfl, rfl⟩)) rfl ⟨_, _, _, rfl, ?_⟩
    first | exact under_alloc (Under.refl _) _ | skip
end
end Go.Proofs.YtiibknlpeodejaaGreatDoor

/- corniceref08.Keyword: its contract. -/
namespace Go.Proofs.YtiibknlpeodejaaGreatDoor
open Go.Lx Go.RowKit

section
variable {w0 : World}
set_option maxRecDepth 100000 in
set_option maxHeartbeats 1000000 in
theorem rkeyword_any (s : ByteArray) : Calls Tryz.prog 31 #[.string s] w0 fun e w => e = .returned (.bool (formB s || leafB s)) ∧ Under w0 w := by
  have HF := Lib.hid (fun w => rform_any (w0 := w) s)
  have HL := Lib.hid (fun w => rleaf_any (w0 := w) s)
  generalize formB s = a at *
  generalize leafB s = b at *
  cases a
  all_goals cases b
  all_goals
    go_enter Tryz.func31, Tryz.ntmps31
    go_wp2_with fail
    refine (HF.out _).mono ?_
    rintro e w1 ⟨k1, n1, x1, rfl, hU1⟩
    have HU1 := Lib.hid hU1
    clear hU1
    go_wp2_with fail
    refine (HL.out _).mono ?_
    rintro e w2 ⟨k2, n2, m2, x2, rfl, hU2⟩
    have HU2 := Lib.hid ((under_alloc HU1.out _).trans hU2)
    clear hU2
    go_wp2
    go_ret
    exact ⟨rfl, under_alloc HU2.out _⟩
end
end Go.Proofs.YtiibknlpeodejaaGreatDoor

/- corniceref09.insert: its contract. -/
namespace Go.Proofs.YtiibknlpeodejaaGreatDoor
open Go.Lx Go.RowKit

theorem Tryz.infoStrZ : (Tryz.prog.info? 9).map (fun i => (i.zero, i.size, i.bytes)) = some (some (.string ⟨#[]⟩), 1, 16) := by kernel_rfl
/-- A text laid into a list that rises. -/
def insGo (s : ByteArray) : List ByteArray → Bool → List ByteArray
  | [], d => if d then [] else [s]
  | x :: r, d => if (!d && Op.bytesLess s.toList x.toList) = true then s :: x :: insGo s r true else x :: insGo s r d
def InR (w0 : World) (ss : List ByteArray) (s : ByteArray) (o d i : Value) (wr : World) : Prop := ∃ (k : Nat) (os : List ByteArray) (g c : Nat) (b : Bool), k ≤ ss.length ∧ os.length ≤ k + b.toNat ∧ o = .slice (some ⟨g, 0, none⟩) os.length c ∧ d = .bool b ∧ i = .int .i64 (k : Int) ∧ wr.ownsRow w0.heap.size 9 1 (.slice (some ⟨g, 0, none⟩) os.length c) os.length (os.map .string) ∧ Under w0 wr ∧ insGo s ss false = os ++ insGo s (ss.drop k) b
section
variable {w0 : World}
set_option maxRecDepth 100000 in
set_option maxHeartbeats 1000000 in
theorem insert_any (ss : List ByteArray) (s : ByteArray) {v : Value} (hn : ss.length ≤ 100000) (hh : hasB ss s = false) (hv : TextsV w0 v ss) : Calls Tryz.prog 28 #[v, .string s] w0 fun e w => ∃ vr, e = .returned vr ∧ w.ownsRow w0.heap.size 9 1 vr (insGo s ss false).length ((insGo s ss false).map .string) ∧ Under w0 w := by
  obtain ⟨i0, hi, hz0, hz1, hz2⟩ := info_parts Tryz.infoStrZ
  have HH := Lib.hid (has_any ss s (by simp only [maxLen]; omega) hv)
  rw [hh] at HH
  obtain ⟨p, c, rfl, _, _, hr⟩ := hv
  have HR := Lib.hid hr
  have hn' : (ss.length : Int) ≤ 100000 := by omega
  clear hr hn hh
  go_enter Tryz.func28, Tryz.ntmps28
  go_wp2_with fail
  refine HH.out.mono ?_
  rintro e w1 ⟨rfl, rfl⟩
  go_wp2
  go_loopw [5, 6, 7] (fun o d i wr => InR w1 ss s o d i wr) (fun _ _ i _ => ss.length - (intOf i).toNat)
  case atStart => exact ⟨0, [], w1.heap.size, 0, false, Nat.zero_le _, Nat.zero_le _, rfl, rfl, rfl, row_emptyZ w1 _ _ _ (Nat.le_refl _), under_alloc (Under.refl _) _, rfl⟩
  case round =>
    obtain ⟨k, os, g, c2, b, hk, hok, rfl, rfl, rfl, hO, hU, hG⟩ := hrel
    have HG := Lib.hid hG
    clear hG
    have hk0 : (0 : Int) ≤ (k : Int) := by omega
    have hok1 : os.length ≤ k + 1 := by cases b <;> simp at hok <;> omega
    by_cases hlt : k < ss.length
    · obtain ⟨b1, off1, rfl, hb1, cc⟩ := text_at HR.out hlt
      rw [← under_cell hU hb1] at cc
      have HD := Lib.hid (show insGo s (ss.drop k) b = if (!b && Op.bytesLess s.toList ss[k].toList) = true then s :: ss[k] :: insGo s (ss.drop (k + 1)) true else ss[k] :: insGo s (ss.drop (k + 1)) b by rw [List.drop_eq_getElem_cons hlt]; rfl)
      generalize ss[k] = x at *
      have hb1' := Nat.lt_of_lt_of_le hb1 hU.size
      have HU := Lib.hid hU
      have HO := Lib.hid hO
      have HC := Lib.hid cc
      have hlt' : (k : Int) < (ss.length : Int) := by omega
      have hgc : os.length ≤ c2 ∧ c2 ≤ maxLen := by
        rcases hO.2 with ⟨h0, _⟩ | ⟨g', cap, cur, h0, hb, hg, h1, h2, _⟩
        · cases h0
        · cases h0; exact ⟨h1, h2⟩
      clear hU hO
      cases b
      · cases hbl : Op.bytesLess s.toList x.toList
        · skip
          have HF := Lib.hid (HG.out.trans (by rw [HD.out, if_neg (by simp [*])]))
          go_wp2_with (at_builtin; refine wpList_append_lies _ rfl _ _ 23 rfl w1.heap.size 9 i0 _ 1 16 Tryz.underlying23 hi hz0 hz1 hz2 rfl (by decide) _ _ _ rfl (HO.out.alloc _) ⟨wr.heap.size, 0, none⟩ 1 1 [.string x] rfl rfl ?c1 ?c2 (by decide) (by simp only [maxLen]; omega) (by omega) ?c5 (wr.heap.size + 1) (by simp) ?_)
          case c1 => exact cell_one_new _ _ _
          case c2 => simp [Value.oneCell']
          case c5 => have := (HU.out).size; simp; omega
          intro g3 c3 w3 hown hgrow hat hlt3
          have HO3 := Lib.hid hown
          have HU3 := Lib.hid (under_grown (under_alloc (HU.out) _) hgrow fun z e => by cases e; exact (HO.out.lt _ rfl).1)
          clear hown hgrow hat hlt3
          go_wp2
          go_roundw
          case rel => exact ⟨k + 1, os ++ [x], g3, c3, false, by omega, by simp at hok ⊢; omega, by rw [List.length_append]; rfl, rfl, by go_num, by rw [List.length_append, List.map_append]; exact HO3.out, HU3.out, by rw [HF.out, List.append_assoc]; rfl⟩
          case measure => simp [intOf]; omega
        · skip
          have HF := Lib.hid (HG.out.trans (by rw [HD.out, if_pos (by simp [*])]))
          go_wp2_with (at_builtin; refine wpList_append_lies _ rfl _ _ 23 rfl w1.heap.size 9 i0 _ 1 16 Tryz.underlying23 hi hz0 hz1 hz2 rfl (by decide) _ _ _ rfl (HO.out.alloc _) ⟨wr.heap.size, 0, none⟩ 1 1 [.string s] rfl rfl ?c1 ?c2 (by decide) (by simp only [maxLen]; omega) (by omega) ?c5 (wr.heap.size + 1) (by simp) ?_)
          case c1 => exact cell_one_new _ _ _
          case c2 => simp [Value.oneCell']
          case c5 => have := (HU.out).size; simp; omega
          intro g3 c3 w3 hown hgrow hat hlt3
          have HO3 := Lib.hid hown
          have HU3 := Lib.hid (under_grown (under_alloc (HU.out) _) hgrow fun z e => by cases e; exact (HO.out.lt _ rfl).1)
          clear hown hgrow hat hlt3
          have HB3 := Lib.hid (show w3.cell? ⟨b1, off1 + k, none⟩ = some (.string x) by rw [under_cell (show Under w1 w3 from HU3.out) hb1, ← under_cell HU.out hb1]; exact HC.out)
          have cc3 := HB3.out
          go_wp2_with (at_builtin; refine wpList_append_lies _ rfl _ _ 23 rfl w1.heap.size 9 i0 _ 1 16 Tryz.underlying23 hi hz0 hz1 hz2 rfl (by decide) _ _ _ rfl (HO3.out.alloc _) ⟨w3.heap.size, 0, none⟩ 1 1 [.string x] rfl rfl ?c1 ?c2 (by decide) (by simp only [maxLen]; omega) (by omega) ?c5 (w3.heap.size + 1) (by simp) ?_)
          case c1 => exact cell_one_new _ _ _
          case c2 => simp [Value.oneCell']
          case c5 => have := (HU3.out).size; simp; omega
          intro g4 c4 w4 hown hgrow hat hlt4
          have HO4 := Lib.hid hown
          have HU4 := Lib.hid (under_grown (under_alloc (HU3.out) _) hgrow fun z e => by cases e; exact (HO3.out.lt _ rfl).1)
          clear hown hgrow hat hlt4
          go_wp2
          go_roundw
          case rel => exact ⟨k + 1, os ++ [s] ++ [x], g4, c4, true, by omega, by simp at hok ⊢; omega, by simp, rfl, by go_num, by simpa using HO4.out, HU4.out, by rw [HF.out]; simp⟩
          case measure => simp [intOf]; omega
      · skip
        have HF := Lib.hid (HG.out.trans (by rw [HD.out, if_neg (by simp [*])]))
        go_wp2_with (at_builtin; refine wpList_append_lies _ rfl _ _ 23 rfl w1.heap.size 9 i0 _ 1 16 Tryz.underlying23 hi hz0 hz1 hz2 rfl (by decide) _ _ _ rfl (HO.out.alloc _) ⟨wr.heap.size, 0, none⟩ 1 1 [.string x] rfl rfl ?c1 ?c2 (by decide) (by simp only [maxLen]; omega) (by omega) ?c5 (wr.heap.size + 1) (by simp) ?_)
        case c1 => exact cell_one_new _ _ _
        case c2 => simp [Value.oneCell']
        case c5 => have := (HU.out).size; simp; omega
        intro g3 c3 w3 hown hgrow hat hlt3
        have HO3 := Lib.hid hown
        have HU3 := Lib.hid (under_grown (under_alloc (HU.out) _) hgrow fun z e => by cases e; exact (HO.out.lt _ rfl).1)
        clear hown hgrow hat hlt3
        go_wp2
        go_roundw
        case rel => exact ⟨k + 1, os ++ [x], g3, c3, true, by omega, by simp at hok ⊢; omega, by rw [List.length_append]; rfl, rfl, by go_num, by rw [List.length_append, List.map_append]; exact HO3.out, HU3.out, by rw [HF.out, List.append_assoc]; rfl⟩
        case measure => simp [intOf]; omega
    · obtain rfl : k = ss.length := by omega
      have HU := Lib.hid hU
      have HO := Lib.hid hO
      have hgc : os.length ≤ c2 ∧ c2 ≤ maxLen := by
        rcases hO.2 with ⟨h0, _⟩ | ⟨g', cap, cur, h0, hb, hg, h1, h2, _⟩
        · cases h0
        · cases h0; exact ⟨h1, h2⟩
      clear hU hO
      cases b
      · have HF := Lib.hid (HG.out.trans (by rw [List.drop_length]; rfl : _ = os ++ [s]))
        go_wp2_with (at_builtin; refine wpList_append_lies _ rfl _ _ 23 rfl w1.heap.size 9 i0 _ 1 16 Tryz.underlying23 hi hz0 hz1 hz2 rfl (by decide) _ _ _ rfl (HO.out.alloc _) ⟨wr.heap.size, 0, none⟩ 1 1 [.string s] rfl rfl ?c1 ?c2 (by decide) (by simp only [maxLen]; omega) (by omega) ?c5 (wr.heap.size + 1) (by simp) ?_)
        case c1 => exact cell_one_new _ _ _
        case c2 => simp [Value.oneCell']
        case c5 => have := (HU.out).size; simp; omega
        intro g3 c3 w3 hown hgrow hat hlt3
        have HO3 := Lib.hid hown
        have HU3 := Lib.hid (under_grown (under_alloc (HU.out) _) hgrow fun z e => by cases e; exact (HO.out.lt _ rfl).1)
        clear hown hgrow hat hlt3
        go_wp2
        go_ret
        refine ⟨_, rfl, ?_, HU3.out⟩
        rw [HF.out]
        rw [List.length_append, List.map_append]; exact HO3.out
      · have HF := Lib.hid (HG.out.trans (by rw [List.drop_length]; simp [insGo] : _ = os))
        go_wp2
        go_ret
        refine ⟨_, rfl, ?_, HU.out⟩
        rw [HF.out]
        exact HO.out
end
end Go.Proofs.YtiibknlpeodejaaGreatDoor

/- corniceref09.insert: where the text is there. -/
namespace Go.Proofs.YtiibknlpeodejaaGreatDoor
open Go.Lx Go.RowKit

section
variable {w0 : World}
set_option maxRecDepth 100000 in
set_option maxHeartbeats 1000000 in
theorem insert_had (ss : List ByteArray) (s : ByteArray) {v : Value} (hn : ss.length ≤ 100000) (hh : hasB ss s = true) (hv : TextsV w0 v ss) : Calls Tryz.prog 28 #[v, .string s] w0 fun e w => e = .returned v ∧ w = w0 := by
  have HH := Lib.hid (has_any ss s (by simp only [maxLen]; omega) hv)
  rw [hh] at HH
  obtain ⟨p, c, rfl, _, _, _⟩ := hv
  clear hn hh
  go_enter Tryz.func28, Tryz.ntmps28
  go_wp2_with fail
  refine HH.out.mono ?_
  rintro e w1 ⟨rfl, rfl⟩
  go_wp2
  go_ret
  exact ⟨rfl, rfl⟩
/-- A text laid into a list that rises, if it is not there. -/
def insB (ss : List ByteArray) (s : ByteArray) : List ByteArray := if hasB ss s then ss else insGo s ss false
theorem rinsert_any {base : Nat} (ss : List ByteArray) (s : ByteArray) {v : Value} (hn : ss.length ≤ 100000) (hb : base ≤ w0.heap.size) (hv : w0.ownsRow base 9 1 v ss.length (ss.map .string)) : Calls Tryz.prog 28 #[v, .string s] w0 fun e w => ∃ vr, e = .returned vr ∧ w.ownsRow base 9 1 vr (insB ss s).length ((insB ss s).map .string) ∧ Under w0 w := by
  unfold insB
  cases hh : hasB ss s
  · exact (insert_any ss s hn hh (TextsV.of_own hv)).mono fun e w ⟨vr, h1, h2, h3⟩ => ⟨vr, h1, row_base h2 hb, h3⟩
  · refine (insert_had ss s hn hh (TextsV.of_own hv)).mono fun e w h => ?_
    obtain ⟨rfl, rfl⟩ := h
    exact ⟨_, rfl, hv, Under.refl _⟩
end
end Go.Proofs.YtiibknlpeodejaaGreatDoor

/- corniceref09.Names: its contract. -/
namespace Go.Proofs.YtiibknlpeodejaaGreatDoor
open Go.Lx Go.RowKit

/-- The names of a term's nodes of a kind, in a list that rises. -/
def conB (x : Nd) : Bool := x.k == 1
def datB (x : Nd) : Bool := !(x.k == 1) && !(x.s.toList == [])
def namesB (p : Nd → Bool) (l : List ByteArray) : List Nd → List ByteArray
  | [] => l
  | x :: t => namesB p (if p x then insB l x.s else l) t
theorem insGo_len (s : ByteArray) : ∀ (l : List ByteArray) (d : Bool), (insGo s l d).length ≤ l.length + 1
  | [], d => by cases d <;> simp [insGo]
  | x :: l, d => by
    unfold insGo
    split
    · have := insGo_lenT s l
      simp only [List.length_cons]
      omega
    · have := insGo_len s l d
      simp only [List.length_cons]
      omega
where insGo_lenT (s : ByteArray) : ∀ l : List ByteArray, (insGo s l true).length ≤ l.length
  | [] => by simp [insGo]
  | x :: l => by
    have := insGo_lenT s l
    simp [insGo]
    exact this
theorem insB_len (l : List ByteArray) (s : ByteArray) : (insB l s).length ≤ l.length + 1 := by
  unfold insB
  split
  · omega
  · exact insGo_len s l false
theorem row_emptyN {w : World} {n : Nat} (hn : w.heap.size = n) {base : Nat} (e : TypeId) (size : Nat) (hb : base ≤ w.heap.size) : (w.alloc (.cells #[] e)).ownsRow base e size (.slice (some ⟨n, 0, none⟩) 0 0) 0 [] := by subst hn; exact row_emptyZ w base e size hb
def NmRel (w0 : World) (t : List Nd) (a b i : Value) (wr : World) : Prop := ∃ (k : Nat) (la lb : List ByteArray), k ≤ t.length ∧ la.length ≤ k ∧ lb.length ≤ k ∧ i = .int .i64 (k : Int) ∧ wr.ownsRow w0.heap.size 9 1 a la.length (la.map .string) ∧ wr.ownsRow w0.heap.size 9 1 b lb.length (lb.map .string) ∧ Under w0 wr ∧
  namesB conB [] t = namesB conB la (t.drop k) ∧ namesB datB [] t = namesB datB lb (t.drop k)
section
variable {w0 : World}
set_option maxRecDepth 100000 in
set_option maxHeartbeats 1000000 in
theorem rnames_bad (t : List Nd) {v : Value} (hn : t.length ≤ maxLen) (hv : TermV w0 v t) (h : checkE t ≠ 0) : Calls Tryz.prog 11 #[v] w0 fun e w => e = .returned (.tuple #[.slice none 0 0, .slice none 0 0, .int .i64 (checkE t)]) ∧ Under w0 w := by
  have HC := Lib.hid (rcheck_any t hn hv)
  have h' : (checkE t == 0) = false := by simpa using h
  clear hn hv h
  generalize checkE t = ce at *
  go_enter Tryz.func11, Tryz.ntmps11
  go_wp2_with fail
  refine HC.out.mono ?_
  rintro e w1 ⟨rfl, hU1⟩
  have HU1 := Lib.hid hU1
  clear hU1
  go_wp2
  go_ret3
  exact ⟨rfl, HU1.out⟩
set_option maxRecDepth 100000 in
set_option maxHeartbeats 1000000 in
theorem rnames_ok (t : List Nd) {v : Value} (hn : t.length ≤ 90000) (hv : TermV w0 v t) (h : checkE t = 0) : Calls Tryz.prog 11 #[v] w0 fun e w => ∃ a b, e = .returned (.tuple #[a, b, .int .i64 0]) ∧ w.ownsRow w0.heap.size 9 1 a (namesB conB [] t).length ((namesB conB [] t).map .string) ∧ w.ownsRow w0.heap.size 9 1 b (namesB datB [] t).length ((namesB datB [] t).map .string) ∧ Under w0 w := by
  have HC := Lib.hid (rcheck_any t (by simp only [maxLen]; omega) hv)
  rw [h] at HC
  obtain ⟨p, c, rfl, _, _, hr⟩ := hv
  have HR := Lib.hid hr
  have hn' : (t.length : Int) ≤ 90000 := by omega
  clear hr h
  go_enter Tryz.func11, Tryz.ntmps11
  go_wp2_with fail
  refine HC.out.mono ?_
  rintro e w1 ⟨rfl, hU1⟩
  have HU1 := Lib.hid hU1
  clear hU1
  go_wp2
  go_loopw [6, 7, 8] (fun a b i wr => NmRel w0 t a b i wr) (fun _ _ i _ => t.length - (intOf i).toNat)
  case atStart => exact ⟨0, [], [], Nat.zero_le _, Nat.le_refl _, Nat.le_refl _, rfl, (row_emptyN rfl _ _ HU1.out.size).alloc _, row_emptyN (by simp) _ _ (by have := HU1.out.size; simp; omega), under_alloc (under_alloc HU1.out _) _, rfl, rfl⟩
  case round =>
    obtain ⟨k, la, lb, hk, hla, hlb, rfl, hA, hB, hU, hGa, hGb⟩ := hrel
    have HGA := Lib.hid hGa
    have HGB := Lib.hid hGb
    have HU := Lib.hid hU
    have HA := Lib.hid hA
    have HB := Lib.hid hB
    obtain ⟨pa, ca, rfl, _, _⟩ := RowArg.of_own hA
    obtain ⟨pb, cb, rfl, _, _⟩ := RowArg.of_own hB
    clear hGa hGb hU hA hB
    have hk0 : (0 : Int) ≤ (k : Int) := by omega
    by_cases hlt : k < t.length
    · obtain ⟨b1, off1, rfl, hb1, c0, c1, c2, c3⟩ := RowArg.node (HR.out.under HU.out) (List.getElem?_eq_getElem hlt)
      have HDa := Lib.hid (show namesB conB la (t.drop k) = namesB conB (if conB t[k] then insB la t[k].s else la) (t.drop (k + 1)) by rw [List.drop_eq_getElem_cons hlt]; rfl)
      have HDb := Lib.hid (show namesB datB lb (t.drop k) = namesB datB (if datB t[k] then insB lb t[k].s else lb) (t.drop (k + 1)) by rw [List.drop_eq_getElem_cons hlt]; rfl)
      generalize t[k] = x at *
      have hlt' : (k : Int) < (t.length : Int) := by omega
      have HIa := Lib.hid (rinsert_any la x.s (by omega) HU.out.size HA.out)
      have HIb := Lib.hid (rinsert_any lb x.s (by omega) HU.out.size HB.out)
      have hia := insB_len la x.s
      have hib := insB_len lb x.s
      cases hk1 : (x.k == 1)
      · cases hs : (x.s.toList == [])
        · have HA2 := Lib.hid (HDa.out.trans (by rw [if_neg (by simp [conB, hk1])]))
          have HB2 := Lib.hid (HDb.out.trans (by rw [if_pos (by simp [datB, hk1, hs])]))
          go_wp2_with fail
          refine HIb.out.mono ?_
          rintro e2 w2 ⟨vr, rfl, hvr, hU2⟩
          go_wp2
          go_roundw
          case rel => exact ⟨k + 1, la, insB lb x.s, by omega, by omega, by omega, by go_num, row_under HA.out hU2, hvr, HU.out.trans hU2, HGA.out.trans HA2.out, HGB.out.trans HB2.out⟩
          case measure => simp [intOf]; omega
        · have HA2 := Lib.hid (HDa.out.trans (by rw [if_neg (by simp [conB, hk1])]))
          have HB2 := Lib.hid (HDb.out.trans (by rw [if_neg (by simp [datB, hs])]))
          go_wp2
          go_roundw
          case rel => exact ⟨k + 1, la, lb, by omega, by omega, by omega, by go_num, HA.out, HB.out, HU.out, HGA.out.trans HA2.out, HGB.out.trans HB2.out⟩
          case measure => simp [intOf]; omega
      · have HA2 := Lib.hid (HDa.out.trans (by rw [if_pos (by simp [conB, hk1])]))
        have HB2 := Lib.hid (HDb.out.trans (by rw [if_neg (by simp [datB, hk1])]))
        go_wp2_with fail
        refine HIa.out.mono ?_
        rintro e2 w2 ⟨vr, rfl, hvr, hU2⟩
        go_wp2
        go_roundw
        case rel => exact ⟨k + 1, insB la x.s, lb, by omega, by omega, by omega, by go_num, hvr, row_under HB.out hU2, HU.out.trans hU2, HGA.out.trans HA2.out, HGB.out.trans HB2.out⟩
        case measure => simp [intOf]; omega
    · obtain rfl : k = t.length := by omega
      go_wp2
      go_ret3
      refine ⟨_, _, rfl, ?_, ?_, HU.out⟩
      · rw [HGA.out, List.drop_length]; exact HA.out
      · rw [HGB.out, List.drop_length]; exact HB.out
end
end Go.Proofs.YtiibknlpeodejaaGreatDoor

/- corniceref09.words: its contract. -/
namespace Go.Proofs.YtiibknlpeodejaaGreatDoor
open Go.Lx Go.RowKit

theorem heads_at (k : Nat) (hk : k < 30) : (#[.string ⟨#[]⟩, .string ⟨#[]⟩, .string ⟨#[84, 121, 112, 101]⟩, .string ⟨#[112, 105]⟩, .string ⟨#[108, 97, 109]⟩, .string ⟨#[97, 112, 112]⟩, .string ⟨#[115, 105, 103]⟩, .string ⟨#[112, 97, 105, 114]⟩, .string ⟨#[102, 115, 116]⟩, .string ⟨#[115, 110, 100]⟩, .string ⟨#[78, 97, 116]⟩, .string ⟨#[122, 101, 114, 111]⟩, .string ⟨#[115, 117, 99]⟩, .string ⟨#[114, 101, 99]⟩, .string ⟨#[69, 109, 112, 116, 121]⟩, .string ⟨#[97, 98, 111, 114, 116]⟩, .string ⟨#[85, 110, 105, 116]⟩, .string ⟨#[115, 116, 97, 114]⟩, .string ⟨#[101, 113]⟩, .string ⟨#[114, 101, 102, 108]⟩, .string ⟨#[99, 97, 115, 116]⟩, .string ⟨#[116, 114, 97, 110, 115, 112]⟩, .string ⟨#[113, 117, 111, 116]⟩, .string ⟨#[99, 108, 97, 115, 115]⟩, .string ⟨#[113, 101, 108, 105, 109]⟩, .string ⟨#[100, 97, 116, 97]⟩, .string ⟨#[99, 111, 110]⟩, .string ⟨#[101, 108, 105, 109]⟩, .string ⟨#[112, 114, 102]⟩, .string ⟨#[116, 105, 99, 107]⟩] : Array Value)[k]? = some (.string (headB k)) := by
  rcases (by omega : k = 0 ∨ k = 1 ∨ k = 2 ∨ k = 3 ∨ k = 4 ∨ k = 5 ∨ k = 6 ∨ k = 7 ∨ k = 8 ∨ k = 9 ∨ k = 10 ∨ k = 11 ∨ k = 12 ∨ k = 13 ∨ k = 14 ∨ k = 15 ∨ k = 16 ∨ k = 17 ∨ k = 18 ∨ k = 19 ∨ k = 20 ∨ k = 21 ∨ k = 22 ∨ k = 23 ∨ k = 24 ∨ k = 25 ∨ k = 26 ∨ k = 27 ∨ k = 28 ∨ k = 29) with rfl | rfl | rfl | rfl | rfl | rfl | rfl | rfl | rfl | rfl | rfl | rfl | rfl | rfl | rfl | rfl | rfl | rfl | rfl | rfl | rfl | rfl | rfl | rfl | rfl | rfl | rfl | rfl | rfl | rfl <;> rfl
theorem heads_cell (w : World) (k : Nat) (hk : k < 30) : (w.alloc (.cells #[.string ⟨#[]⟩, .string ⟨#[]⟩, .string ⟨#[84, 121, 112, 101]⟩, .string ⟨#[112, 105]⟩, .string ⟨#[108, 97, 109]⟩, .string ⟨#[97, 112, 112]⟩, .string ⟨#[115, 105, 103]⟩, .string ⟨#[112, 97, 105, 114]⟩, .string ⟨#[102, 115, 116]⟩, .string ⟨#[115, 110, 100]⟩, .string ⟨#[78, 97, 116]⟩, .string ⟨#[122, 101, 114, 111]⟩, .string ⟨#[115, 117, 99]⟩, .string ⟨#[114, 101, 99]⟩, .string ⟨#[69, 109, 112, 116, 121]⟩, .string ⟨#[97, 98, 111, 114, 116]⟩, .string ⟨#[85, 110, 105, 116]⟩, .string ⟨#[115, 116, 97, 114]⟩, .string ⟨#[101, 113]⟩, .string ⟨#[114, 101, 102, 108]⟩, .string ⟨#[99, 97, 115, 116]⟩, .string ⟨#[116, 114, 97, 110, 115, 112]⟩, .string ⟨#[113, 117, 111, 116]⟩, .string ⟨#[99, 108, 97, 115, 115]⟩, .string ⟨#[113, 101, 108, 105, 109]⟩, .string ⟨#[100, 97, 116, 97]⟩, .string ⟨#[99, 111, 110]⟩, .string ⟨#[101, 108, 105, 109]⟩, .string ⟨#[112, 114, 102]⟩, .string ⟨#[116, 105, 99, 107]⟩] 9)).cell? ⟨w.heap.size, k, none⟩ = some (.string (headB k)) :=
  ((box_new w #[.string ⟨#[]⟩, .string ⟨#[]⟩, .string ⟨#[84, 121, 112, 101]⟩, .string ⟨#[112, 105]⟩, .string ⟨#[108, 97, 109]⟩, .string ⟨#[97, 112, 112]⟩, .string ⟨#[115, 105, 103]⟩, .string ⟨#[112, 97, 105, 114]⟩, .string ⟨#[102, 115, 116]⟩, .string ⟨#[115, 110, 100]⟩, .string ⟨#[78, 97, 116]⟩, .string ⟨#[122, 101, 114, 111]⟩, .string ⟨#[115, 117, 99]⟩, .string ⟨#[114, 101, 99]⟩, .string ⟨#[69, 109, 112, 116, 121]⟩, .string ⟨#[97, 98, 111, 114, 116]⟩, .string ⟨#[85, 110, 105, 116]⟩, .string ⟨#[115, 116, 97, 114]⟩, .string ⟨#[101, 113]⟩, .string ⟨#[114, 101, 102, 108]⟩, .string ⟨#[99, 97, 115, 116]⟩, .string ⟨#[116, 114, 97, 110, 115, 112]⟩, .string ⟨#[113, 117, 111, 116]⟩, .string ⟨#[99, 108, 97, 115, 115]⟩, .string ⟨#[113, 101, 108, 105, 109]⟩, .string ⟨#[100, 97, 116, 97]⟩, .string ⟨#[99, 111, 110]⟩, .string ⟨#[101, 108, 105, 109]⟩, .string ⟨#[112, 114, 102]⟩, .string ⟨#[116, 105, 99, 107]⟩] 9).cell k).trans (heads_at k hk)
section
variable {w0 : World}
set_option maxRecDepth 100000 in
set_option maxHeartbeats 4000000 in
theorem rwords_any (x : Nd) (h : rightB x = true) : Calls Tryz.prog 43 #[ndV x] w0 fun e w => e = .returned (.string (wordsB x)) ∧ Under w0 w := by
  have hk := rightB_k h
  obtain ⟨k, n, m, s⟩ := x
  simp only at hk
  obtain ⟨kk, rfl⟩ : ∃ kk : Nat, k = kk := ⟨k.toNat, by omega⟩
  have hk30 : kk < 30 := by omega
  have hc := heads_cell (w0.alloc (.cells #[.int .i64 (kk : Int), .int .i64 n, .int .i64 m, .string s] 38)) kk hk30
  rw [show (w0.alloc (.cells #[.int .i64 (kk : Int), .int .i64 n, .int .i64 m, .string s] 38)).heap.size = w0.heap.size + 1 by simp] at hc
  have hk0 : (0 : Int) ≤ kk := by omega
  have hk1 : (kk : Int) < 30 := by omega
  by_cases hn : ((kk : Int) = 3 ∨ (kk : Int) = 6) ∧ 0 < n
  · have hn5 : n ≤ 5 := by
      unfold rightB at h
      simp only at h
      rcases hn.1 with e | e
      · obtain rfl : kk = 3 := by omega
        simp [fN, fM, fS, mostN] at h; omega
      · obtain rfl : kk = 6 := by omega
        simp [fN, fM, fS, mostN] at h; omega
    obtain ⟨u, rfl⟩ : ∃ u : Nat, n = u := ⟨n.toNat, by omega⟩
    have HW : RowKit.Hid (wordsB ⟨kk, (u : Int), m, s⟩ = ⟨(headB kk).data ++ (Lib.decDigits u).toArray⟩) := Lib.hid (by unfold wordsB; rw [if_pos hn]; simp)
    have HI := Lib.hid (fun w => digits_any u u (Nat.le_refl _) (by omega) w)
    have hL := decDigits_len u (by omega)
    have hh : (headB kk).size ≤ 10 := by
      rcases hn.1 with e | e
      · obtain rfl : kk = 3 := by omega
        decide
      · obtain rfl : kk = 6 := by omega
        decide
    have hL2 : ¬ 9223372036854775807 < (headB kk).size + (Lib.decDigits u).toArray.size := by simp; omega
    have hu : (0 : Int) < u := hn.2
    have h36 := hn.1
    generalize wordsB ⟨kk, (u : Int), m, s⟩ = W at *
    unfold ndV
    generalize headB kk = hd at *
    generalize (Lib.decDigits u).toArray = L at *
    clear h hn hk hL hh hk30
    cases h3 : ((kk : Int) == 3)
    · have h6 : ((kk : Int) == 6) = true := by simp at h3 ⊢; omega
      clear h36
      go_enter Tryz.func43, Tryz.ntmps43
      go_wp2_with fail
      refine (HI.out _).mono ?_
      rintro e w1 ⟨rfl, mm, rfl⟩
      go_wp2
      go_ret
      refine ⟨?_, under_drewN (under_alloc (under_alloc (Under.refl w0) _) _) _⟩
      rw [HW.out]
      exact congrArg (fun x => Ending.returned (.string x)) (ByteArray.ext (by simp))
    · clear h36
      go_enter Tryz.func43, Tryz.ntmps43
      go_wp2_with fail
      refine (HI.out _).mono ?_
      rintro e w1 ⟨rfl, mm, rfl⟩
      go_wp2
      go_ret
      refine ⟨?_, under_drewN (under_alloc (under_alloc (Under.refl w0) _) _) _⟩
      rw [HW.out]
      exact congrArg (fun x => Ending.returned (.string x)) (ByteArray.ext (by simp))
  · have HW : RowKit.Hid (wordsB ⟨kk, n, m, s⟩ = headB kk) := Lib.hid (by unfold wordsB; rw [if_neg hn]; simp)
    generalize wordsB ⟨kk, n, m, s⟩ = W at *
    unfold ndV
    clear h
    generalize headB kk = hd at *
    cases h3 : ((kk : Int) == 3)
    · cases h6 : ((kk : Int) == 6)
      · clear hn hk hk30
        go_enter Tryz.func43, Tryz.ntmps43
        go_wp2
        go_ret
        exact ⟨by rw [HW.out]; rfl, under_alloc (under_alloc (Under.refl w0) _) _⟩
      · have hn' : ¬ 0 < n := fun h => hn ⟨.inr (by simpa using h6), h⟩
        clear hn hk hk30
        go_enter Tryz.func43, Tryz.ntmps43
        go_wp2
        go_ret
        exact ⟨by rw [HW.out]; rfl, under_alloc (under_alloc (Under.refl w0) _) _⟩
    · have hn' : ¬ 0 < n := fun h => hn ⟨.inl (by simpa using h3), h⟩
      clear hn hk hk30
      go_enter Tryz.func43, Tryz.ntmps43
      go_wp2
      go_ret
      exact ⟨by rw [HW.out]; rfl, under_alloc (under_alloc (Under.refl w0) _) _⟩
end
end Go.Proofs.YtiibknlpeodejaaGreatDoor

/- What a term says: its text, plainly. -/
namespace Go.Lx

/-- The names that so many binders more are given. -/
def bindN (av : List ByteArray) : List ByteArray → Nat → List ByteArray
  | _, 0 => []
  | st, n + 1 => nameN (freshN (av ++ st) st.length) :: bindN av (st ++ [nameN (freshN (av ++ st) st.length)]) n
def wordL (b : ByteArray) : List UInt8 := 32 :: b.data.toList
def namesL : List ByteArray → List UInt8
  | [] => []
  | x :: l => wordL x ++ namesL l
theorem namesL_app (a b : List ByteArray) : namesL (a ++ b) = namesL a ++ namesL b := by
  induction a with
  | nil => rfl
  | cons x a ih => simp [namesL, ih]
def firstK (x : Nd) : Bool := x.k == 3 || x.k == 6 || x.k == 4
def plainK (x : Nd) : Bool := x.k == 10 || x.k == 11 || x.k == 14 || x.k == 16 || x.k == 17 || x.k == 29
/-- How a list begins. -/
def headL (x : Nd) : List UInt8 := [40] ++ (wordsB x).data.toList ++ (if x.s.toList == [] then [] else wordL x.s) ++ (if x.k = 26 then 32 :: Lib.decDigits x.n.toNat else [])
mutual
/-- The text of a term, where so many binders are around. -/
def sayT (av : List ByteArray) : Tm → List ByteArray → List UInt8
  | .mk x l, st =>
    if x.k = 0 then (st.getD (st.length - 1 - x.n.toNat) ⟨#[]⟩).data.toList
    else if x.k = 1 then x.s.data.toList
    else if plainK x then (wordsB x).data.toList
    else if x.k = 2 then (if x.n = 0 then [80, 114, 111, 112] else [40, 84, 121, 112, 101, 32] ++ Lib.decDigits x.n.toNat ++ [41])
    else headL x ++ (if firstK x then wordL (nameN (freshN (av ++ st) st.length)) else []) ++ sayTs av l (binds x) st (firstK x) ++ [41]
def sayTs (av : List ByteArray) : List Tm → List Nat → List ByteArray → Bool → List UInt8
  | [], _, _, _ => []
  | a :: l, bs, st, f => (if f then [] else namesL (bindN av st (bs.headD 0))) ++ 32 :: sayT av a (st ++ bindN av st (bs.headD 0)) ++ sayTs av l bs.tail st f
end
mutual
/-- No variable is free under so many binders. -/
def inT : Tm → Nat → Prop
  | .mk x l, d => if x.k = 0 then x.n < (d : Int) else inTs l (binds x) d
def inTs : List Tm → List Nat → Nat → Prop
  | [], _, _ => True
  | a :: l, bs, d => inT a (d + bs.headD 0) ∧ inTs l bs.tail d
end
theorem sayTs_at {av : List ByteArray} {l : List Tm} {bs : List Nat} {st : List ByteArray} {f : Bool} {j : Nat} (hj : j < l.length) (hb : j < bs.length) : sayTs av (l.drop j) (bs.drop j) st f = (if f then [] else namesL (bindN av st bs[j])) ++ 32 :: sayT av l[j] (st ++ bindN av st bs[j]) ++ sayTs av (l.drop (j + 1)) (bs.drop (j + 1)) st f := by
  rw [List.drop_eq_getElem_cons hj, List.drop_eq_getElem_cons hb]
  rfl
theorem inTs_at {l : List Tm} {bs : List Nat} {d : Nat} : ∀ {j : Nat} (hj : j < l.length) (hb : j < bs.length), inTs l bs d → inT l[j] (d + bs[j]) := by
  induction l generalizing bs with
  | nil => intro j hj; simp at hj
  | cons a l ih =>
    intro j hj hb h
    cases bs with
    | nil => simp at hb
    | cons b bs =>
      cases j with
      | zero => exact h.1
      | succ j => exact ih (by simpa using hj) (by simpa using hb) h.2
theorem bindN_len (av : List ByteArray) : ∀ (n : Nat) (st : List ByteArray), (bindN av st n).length = n
  | 0, _ => rfl
  | n + 1, st => by simp [bindN, bindN_len av n]
theorem bindN_snoc (av : List ByteArray) : ∀ (n : Nat) (st : List ByteArray), bindN av st (n + 1) = bindN av st n ++ [nameN (freshN (av ++ (st ++ bindN av st n)) (st.length + n))]
  | 0, st => by simp [bindN]
  | n + 1, st => by
    rw [bindN, bindN_snoc av n]
    simp only [bindN, List.cons_append, List.append_assoc, List.length_append, List.length_cons, List.length_nil, List.nil_append]
    rw [show st.length + (0 + 1) + n = st.length + (n + 1) by omega]
theorem dec_len (n : Nat) (h : n ≤ 9223372036854775807) : (Lib.decDigits n).length ≤ 21 := by
  have h := Lib.itoa_length_le (n : Int) (by omega) (by omega)
  unfold Lib.itoa at h
  rwa [if_neg (by omega), show ((n : Int)).toNat = n by omega] at h
theorem nameN_len {n : Nat} (h : n ≤ 9223372036854775807) : (nameN n).size ≤ 22 := by
  have := dec_len n h
  unfold nameN ByteArray.size
  simp
  omega
theorem bindN_sizes (av : List ByteArray) : ∀ (n : Nat) (st : List ByteArray), av.length ≤ 1000000 → st.length + n ≤ 1000000 → ∀ s ∈ bindN av st n, s.size ≤ 22
  | 0, st, _, _, s, hs => by simp [bindN] at hs
  | n + 1, st, ha, hl, s, hs => by
    rw [bindN] at hs
    rcases List.mem_cons.1 hs with rfl | hs
    · have := (freshN_spec (av ++ st) st.length).2.1
      rw [List.length_append] at this
      exact nameN_len (by omega)
    · exact bindN_sizes av n _ ha (by simp; omega) s hs
theorem namesL_len : ∀ (l : List ByteArray), (∀ s ∈ l, s.size ≤ 22) → (namesL l).length ≤ 23 * l.length
  | [], _ => Nat.le_refl _
  | x :: l, h => by
    have h1 := namesL_len l fun s hs => h s (List.mem_cons_of_mem _ hs)
    have h2 := h x (List.mem_cons_self ..)
    have : x.data.toList.length = x.size := rfl
    simp [namesL, wordL]
    have : x.data.size = x.size := rfl
    omega
theorem rightB_n {x : Nd} (h : rightB x = true) : 0 ≤ x.n ∧ x.n ≤ 99 := by
  unfold rightB at h
  split at h
  · cases h
  · split at h
    · cases h
    · rename_i h1
      split at h
      · cases h
      · split at h
        · cases h
        · split at h
          · cases h
          · split at h
            · simp at h; omega
            · split at h
              · simp at h; omega
              · split at h
                · rename_i h27
                  simp [h27, fN] at h1
                  omega
                · cases hf : fN x.k.toNat
                  · simp [hf] at h1; omega
                  · have h5 : mostN x.k ≤ 99 := by unfold mostN; split <;> (try split) <;> omega
                    rw [hf] at h
                    simp at h
                    omega
theorem rightB_s {x : Nd} (h : rightB x = true) : x.s.size ≤ 16 := by
  unfold rightB at h
  split at h
  · cases h
  · split at h
    · cases h
    · split at h
      · cases h
      · split at h
        · cases h
        · rename_i h3
          split at h
          · cases h
          · rename_i h4
            cases hf : fS x.k.toNat
            · simp [hf] at h3; simp [h3]
            · simp [hf, nameB] at h4
              omega
theorem headB_len (k : Nat) : (headB k).size ≤ 6 := by
  unfold headB
  split <;> decide
theorem wordsB_len {x : Nd} (h : rightB x = true) : (wordsB x).size ≤ 27 := by
  have h1 := headB_len x.k.toNat
  have h2 := rightB_n h
  unfold wordsB
  split
  · have := dec_len x.n.toNat (by omega)
    have e : (headB x.k.toNat).data.size = (headB x.k.toNat).size := rfl
    show ((headB x.k.toNat).data ++ (Lib.decDigits x.n.toNat).toArray).size ≤ 27
    simp
    omega
  · omega
theorem headL_len {x : Nd} (h : rightB x = true) : (headL x).length ≤ 68 := by
  have h1 := wordsB_len h
  have h2 := rightB_s h
  have h3 := dec_len x.n.toNat (by have := rightB_n h; omega)
  have e1 : (wordsB x).data.size = (wordsB x).size := rfl
  have e2 : x.s.data.size = x.s.size := rfl
  unfold headL
  split <;> split <;> simp [wordL] <;> omega
theorem sayT_len (av : List ByteArray) (ha : av.length ≤ 1000000) (T : Tm) : okT T → ∀ st : List ByteArray, (∀ s ∈ st, s.size ≤ 22) → st.length + 2 * (flat T).length ≤ 1000000 → (sayT av T st).length + 70 ≤ 200 * (flat T).length := by
  induction T using Tm.rec (motive_2 := fun l => okTs l → ∀ (bs : List Nat) (st : List ByteArray) (f : Bool), (∀ b ∈ bs, b ≤ 2) → (∀ s ∈ st, s.size ≤ 22) → st.length + 2 + 2 * (flats l).length ≤ 1000000 → (sayTs av l bs st f).length ≤ 200 * (flats l).length) with
  | mk x l ih =>
    rintro ⟨hx, _, hls⟩ st hst hl
    have hfl : (flat (.mk x l)).length = (flats l).length + 1 := by simp [flat]
    rw [hfl] at hl ⊢
    unfold sayT
    split
    · cases hg : st[st.length - 1 - x.n.toNat]? with
      | none => simp [hg]; omega
      | some y =>
        have := hst y (List.mem_of_getElem? hg)
        have e : y.data.size = y.size := rfl
        simp [hg]
        omega
    split
    · have := rightB_s hx
      have e : x.s.data.size = x.s.size := rfl
      simp
      omega
    split
    · have := wordsB_len hx
      have e : (wordsB x).data.size = (wordsB x).size := rfl
      simp
      omega
    split
    · split
      · simp; omega
      · have := dec_len x.n.toNat (by have := rightB_n hx; omega)
        simp
        omega
    · have h1 := headL_len hx
      have h2 := ih hls (binds x) st (firstK x) (fun b hb => by have := bindsR_le (x := x); unfold bindsR at this; rw [if_pos hx] at this; exact this b hb) hst (by omega)
      have h3 : (nameN (freshN (av ++ st) st.length)).size ≤ 22 := by
        have := (freshN_spec (av ++ st) st.length).2.1
        rw [List.length_append] at this
        exact nameN_len (by omega)
      have e : (nameN (freshN (av ++ st) st.length)).data.size = (nameN (freshN (av ++ st) st.length)).size := rfl
      have h4 : (if firstK x then wordL (nameN (freshN (av ++ st) st.length)) else []).length ≤ 23 := by
        split
        · simp [wordL]; omega
        · simp
      simp only [List.length_append, List.length_cons, List.length_nil]
      omega
  | nil => rename_i hh bs st f hb hs hl; simp [sayTs]
  | cons a l iha ihl =>
    rename_i hh bs st f hb hs hl
    obtain ⟨hoa, hol⟩ := hh
    rw [flats, List.length_append] at hl
    have hb2 : bs.headD 0 ≤ 2 := by
      cases bs with
      | nil => simp
      | cons b bs => exact hb b (List.mem_cons_self ..)
    have hpos := flat_len a
    have hsz := bindN_sizes av (bs.headD 0) st ha (by omega)
    have h1 := iha hoa (st ++ bindN av st (bs.headD 0)) (fun s h => by
      rcases List.mem_append.1 h with h | h
      · exact hs s h
      · exact hsz s h) (by rw [List.length_append, bindN_len]; omega)
    have h2 := ihl hol bs.tail st f (fun b h => hb b (List.mem_of_mem_tail h)) hs (by omega)
    have h3 : (if f then [] else namesL (bindN av st (bs.headD 0))).length ≤ 46 := by
      split
      · simp
      · have := namesL_len _ hsz
        rw [bindN_len] at this
        omega
    rw [flats, List.length_append]
    simp only [sayTs, List.length_append, List.length_cons]
    omega
end Go.Lx

/- corniceref09.said: variables, constants, words, Sorts. -/
namespace Go.Proofs.YtiibknlpeodejaaGreatDoor
open Go.Lx Go.RowKit

/-- said gives a term's text. -/
def SaidOk (T : Tm) : Prop := okT T → ∀ (w0 : World) (v vs va : Value) (t : List Nd) (st av : List ByteArray), t = flat T → t.length ≤ 4000 → TermV w0 v t → TextsV w0 vs st → TextsV w0 va av → av.length ≤ 100000 → st.length + 2 * t.length ≤ 100000 → (∀ s ∈ st, s.size ≤ 22) → inT T st.length →
  Calls Tryz.prog 23 #[v, vs, va] w0 fun e w => e = .returned (.string ⟨(sayT av T st).toArray⟩) ∧ Under w0 w
theorem ret_str {a b : ByteArray} (h : a = b) : Ending.returned (.string a) = .returned (.string b) := by rw [h]
theorem bytes_back (s : ByteArray) : (⟨s.data.toList.toArray⟩ : ByteArray) = s := by cases s; simp
set_option maxRecDepth 100000 in
set_option maxHeartbeats 1000000 in
theorem said_var (x : Nd) (l : List Tm) (hk : x.k = 0) : SaidOk (.mk x l) := by
  rintro ⟨hx, hl, hls⟩ w0 v vs va t st av ht hn hv hvs hva ha hst hss hin
  have hte : t[t.length - 1]? = some x := by rw [ht, flat]; simp
  have hpos : 1 ≤ t.length := by rw [ht, flat]; simp
  have hv2 := rightB_var hx hk
  have HR := Lib.hid (root_any (by omega) hte hv)
  unfold inT at hin
  rw [if_pos hk] at hin
  have HT : RowKit.Hid (sayT av (.mk x l) st = (st.getD (st.length - 1 - x.n.toNat) ⟨#[]⟩).data.toList) := Lib.hid (by unfold sayT; rw [if_pos hk])
  obtain ⟨u, hu⟩ : ∃ u : Nat, x.n = u := ⟨x.n.toNat, by omega⟩
  rw [hu] at hin hv2 HT
  obtain ⟨m, hm⟩ : ∃ m, st.length = m + (u + 1) := ⟨st.length - (u + 1), by omega⟩
  obtain ⟨ps, cs, rfl, hcs, _, hrs⟩ := hvs
  have hml : m < st.length := by omega
  obtain ⟨b, off, rfl, hb, cc⟩ := text_at hrs hml
  have HT2 : RowKit.Hid (sayT av (.mk x l) st = st[m].data.toList) := Lib.hid (by rw [HT.out, Int.toNat_natCast, show st.length - 1 - u = m by omega, List.getD_eq_getElem?_getD, List.getElem?_eq_getElem hml]; rfl)
  generalize sayT av (.mk x l) st = R at *
  generalize st[m] = y at *
  rw [hm] at hcs ⊢
  have h1 : (m : Int) + ((u : Int) + 1) - 1 = m + u := by omega
  have h2 : (m : Int) + (u : Int) - u = m := by omega
  have hm0 : (0 : Int) ≤ m := by omega
  have hu0 : (0 : Int) ≤ u := by omega
  have hmx : (m : Int) ≤ 100000 := by omega
  have hux : (u : Int) ≤ 100 := by omega
  have CC := Lib.hid cc
  clear hte ht hx hl hls hv hva hss hrs HT hin hv2 hm hml hst hn cc hpos
  obtain ⟨k, n, m', s⟩ := x
  simp only at hk hu
  subst hk hu
  unfold ndV at HR
  simp only at HR
  go_enter Tryz.func23, Tryz.ntmps23
  go_wp2_with fail
  refine HR.out.mono ?_
  rintro e w1 ⟨rfl, hU1⟩
  have HU1 := Lib.hid hU1
  have hb1 := Nat.lt_of_lt_of_le hb hU1.size
  have CC1 := (under_cell hU1 hb (off + m)).trans CC.out
  clear hU1 HR
  go_wp2
  go_ret
  exact ⟨ret_str (by rw [HT2.out, bytes_back]), under_alloc HU1.out _⟩
set_option maxRecDepth 100000 in
set_option maxHeartbeats 1000000 in
theorem said_const (x : Nd) (l : List Tm) (hk : x.k = 1) : SaidOk (.mk x l) := by
  rintro ⟨hx, hl, hls⟩ w0 v vs va t st av ht hn hv hvs hva ha hst hss hin
  have hte : t[t.length - 1]? = some x := by rw [ht, flat]; simp
  have hpos : 1 ≤ t.length := by rw [ht, flat]; simp
  have HR := Lib.hid (root_any (by omega) hte hv)
  have HT : RowKit.Hid (sayT av (.mk x l) st = x.s.data.toList) := Lib.hid (by unfold sayT; rw [if_neg (by omega), if_pos hk])
  generalize sayT av (.mk x l) st = R at *
  obtain ⟨ps, cs, rfl, hcs, _, hrs⟩ := hvs
  clear hte ht hx hl hls hv hva hss hrs hin hst hn hpos
  obtain ⟨k, n, m', s⟩ := x
  simp only at hk HT
  subst hk
  unfold ndV at HR
  simp only at HR
  go_enter Tryz.func23, Tryz.ntmps23
  go_wp2_with fail
  refine HR.out.mono ?_
  rintro e w1 ⟨rfl, hU1⟩
  have HU1 := Lib.hid hU1
  clear hU1 HR
  go_wp2
  go_ret
  exact ⟨ret_str (by rw [HT.out, bytes_back]), under_alloc HU1.out _⟩
set_option maxRecDepth 100000 in
set_option maxHeartbeats 1000000 in
theorem said_plain (x : Nd) (l : List Tm) (hk : plainK x = true) : SaidOk (.mk x l) := by
  rintro ⟨hx, hl, hls⟩ w0 v vs va t st av ht hn hv hvs hva ha hst hss hin
  have hte : t[t.length - 1]? = some x := by rw [ht, flat]; simp
  have hpos : 1 ≤ t.length := by rw [ht, flat]; simp
  have HR := Lib.hid (root_any (by omega) hte hv)
  have hk6 : x.k = 10 ∨ x.k = 11 ∨ x.k = 14 ∨ x.k = 16 ∨ x.k = 17 ∨ x.k = 29 := by simpa [plainK, or_assoc] using hk
  have HT : RowKit.Hid (sayT av (.mk x l) st = (wordsB x).data.toList) := Lib.hid (by unfold sayT; rw [if_neg (by omega), if_neg (by omega), if_pos hk])
  have HW := Lib.hid (fun w => rwords_any (w0 := w) x hx)
  generalize sayT av (.mk x l) st = R at *
  generalize wordsB x = W at *
  obtain ⟨ps, cs, rfl, hcs, _, hrs⟩ := hvs
  clear hte ht hx hl hls hv hva hss hrs hin hst hn hpos hk
  obtain ⟨k, n, m', s⟩ := x
  simp only at hk6
  unfold ndV at HR HW
  simp only at HR HW
  rcases hk6 with rfl | rfl | rfl | rfl | rfl | rfl
  all_goals
    go_enter Tryz.func23, Tryz.ntmps23
    go_wp2_with fail
    refine HR.out.mono ?_
    rintro e w1 ⟨rfl, hU1⟩
    have HU1 := Lib.hid hU1
    clear hU1 HR
    go_wp2_with fail
    refine (HW.out _).mono ?_
    rintro e w2 ⟨rfl, hU2⟩
    have HU2 := Lib.hid ((under_alloc HU1.out _).trans hU2)
    clear hU2
    go_wp2
    go_ret
    exact ⟨ret_str (by rw [HT.out, bytes_back]), HU2.out⟩
set_option maxRecDepth 100000 in
set_option maxHeartbeats 1000000 in
theorem said_sort (x : Nd) (l : List Tm) (hk : x.k = 2) : SaidOk (.mk x l) := by
  rintro ⟨hx, hl, hls⟩ w0 v vs va t st av ht hn hv hvs hva ha hst hss hin
  have hte : t[t.length - 1]? = some x := by rw [ht, flat]; simp
  have hpos : 1 ≤ t.length := by rw [ht, flat]; simp
  have HR := Lib.hid (root_any (by omega) hte hv)
  have hxn := rightB_n hx
  have HT : RowKit.Hid (sayT av (.mk x l) st = if x.n = 0 then [80, 114, 111, 112] else [40, 84, 121, 112, 101, 32] ++ Lib.decDigits x.n.toNat ++ [41]) := Lib.hid (by unfold sayT; rw [if_neg (by omega), if_neg (by omega), if_neg (by simp [plainK, hk]), if_pos hk])
  generalize sayT av (.mk x l) st = R at *
  obtain ⟨ps, cs, rfl, hcs, _, hrs⟩ := hvs
  clear hte ht hx hl hls hv hva hss hrs hin hst hn hpos
  obtain ⟨k, n, m', s⟩ := x
  simp only at hk HT hxn
  subst hk
  unfold ndV at HR
  simp only at HR
  obtain ⟨u, rfl⟩ : ∃ u : Nat, n = u := ⟨n.toNat, by omega⟩
  cases hn0 : ((u : Int) == 0)
  · have hne : ¬ (u : Int) = 0 := by simpa using hn0
    rw [if_neg hne, Int.toNat_natCast] at HT
    have HI := Lib.hid (fun w => digits_any u u (Nat.le_refl _) (by omega) w)
    have hL := dec_len u (by omega)
    have hL1 : ¬ 9223372036854775807 < 6 + (Lib.decDigits u).toArray.size := by simp; omega
    have hL2 : ¬ 9223372036854775807 < 6 + (Lib.decDigits u).toArray.size + 1 := by simp; omega
    clear hne hL hxn
    generalize Lib.decDigits u = L at *
    go_enter Tryz.func23, Tryz.ntmps23
    go_wp2_with fail
    refine HR.out.mono ?_
    rintro e w1 ⟨rfl, hU1⟩
    have HU1 := Lib.hid hU1
    clear hU1 HR
    go_wp2_with fail
    refine (HI.out _).mono ?_
    rintro e w2 ⟨rfl, mm, rfl⟩
    go_wp2
    go_ret
    exact ⟨ret_str (by rw [HT.out]; exact ByteArray.ext (by simp)), under_drewN (under_alloc HU1.out _) _⟩
  · have hne : (u : Int) = 0 := by simpa using hn0
    rw [if_pos hne] at HT
    go_enter Tryz.func23, Tryz.ntmps23
    go_wp2_with fail
    refine HR.out.mono ?_
    rintro e w1 ⟨rfl, hU1⟩
    have HU1 := Lib.hid hU1
    clear hU1 HR
    go_wp2
    go_ret
    exact ⟨ret_str (by rw [HT.out]), under_alloc HU1.out _⟩
end Go.Proofs.YtiibknlpeodejaaGreatDoor

/- append(s, x...) onto a row of one's own, from a slice that is read; append(s, x) of one element. -/
namespace Go.Lx
open Go.RowKit

/-- A new row of one element, at whatever spelling of its block. -/
theorem arg_at (w : World) {n : Nat} (u : Value) (t : TypeId) (h : w.heap.size = n) : RowArg (w.alloc (.cells #[u] t)) (some ⟨n, 0, none⟩) [u] := h ▸ arg_new w [u] t (0, 0)
section
variable {P : Program} {w : World} {ops : Array Oper} {rest : List Oper} {o : Oper} {a : Act} {Q : Exit → Act → World → Prop}
/-- append(s, x...): elements of so many cells each. -/
theorem wpList_append_read (hgd : o.guard = none) (s x : Operand) (t : TypeId)
    (ho : o.op = .call { callee := .builtin .append, args := #[s, x], argTypes := #[t, t] })
    (base : Nat) (e : TypeId) (i : TypeInfo) (z : Value) (size bytes : Nat) (ht : P.underlying t = some (.slice e)) (hi : P.info? e = some i) (hz : i.zero = some z)
    (hsize : i.size = size) (hby : i.bytes = bytes) (hzs : z.cells.size = size) (hsz : 0 < size)
    (v : Value) (n : Nat) (xs : List Value) (hs : a.eval s = v) (hown : w.ownsRow base e size v n xs)
    (p : Option Addr) (m c : Nat) (news : List Value) (hx : a.eval x = .slice p m c) (hl : news.length = m * size) (hc : m ≤ c) (h0 : p = none → c = 0) (hp : RowArg w p news) (h1 : ∀ u ∈ news, u.oneCell' = true)
    (h63 : n + m ≤ maxLen) (hbytes : (n + m) * bytes ≤ 140737488355328) (hbase : base ≤ w.heap.size)
    (h : ∀ v' w', w'.ownsRow base e size v' (n + m) (xs ++ news) → w.grownBy w' v.ownBlock → wpList P ops Q rest (a.put o.dst v') w') :
    wpList P ops Q (o :: rest) a w := by
  cases p with
  | none =>
    have hc0 := h0 rfl
    have hm0 : m = 0 := by omega
    subst hc0 hm0
    have hn : news = [] := List.eq_nil_of_length_eq_zero (by omega)
    subst hn
    exact wpList_append_own_none hgd s x t ho base e i size ht hi v n xs hs hown hx (h v w (by simpa using hown) ⟨rfl, rfl, rfl, Nat.le_refl _, fun _ _ _ => rfl⟩)
  | some ad =>
    refine wpList_append_own_at _ hgd s x t ho base e i z size bytes ht hi hz hsize hby hzs hsz v n xs hs hown ad m c news hx hl ?_ h1 h63 hbytes hbase (fun v' w' h1 h2 _ _ => h v' w' h1 h2)
    intro j u hj
    obtain ⟨b, off, e, hb, ht⟩ := hp (fun e => by rw [e] at hj; cases hj)
    cases e
    rw [add_off]
    exact ht j u hj
end
end Go.Lx
