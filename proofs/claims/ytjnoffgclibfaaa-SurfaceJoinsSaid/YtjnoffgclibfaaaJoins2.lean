/- SurfaceJoins: what stands behind the test of its bound. -/
import Derived.Test.YtjnoffgclibfaaaJoins
import Derived.Laws.AppendOwnNone
set_option linter.unusedSimpArgs false
set_option linter.unusedVariables false
namespace Go.Proofs.Ytjnoffgclibfaaa
open Go.Conc Go.Lx Go.RowKit

theorem under_refl (w : World) : Under w w := ⟨rfl, rfl, Nat.le_refl _, fun _ _ => rfl⟩
theorem append_sx {w : World} {ops : Array Oper} {rest : List Oper} {o : Oper} {a : Act} {Q : Exit → Act → World → Prop} (hgd : o.guard = none) (s x : Operand) 
    (ho : o.op = .call { callee := .builtin .append, args := #[s, x], argTypes := #[36, 36] })
    (base : Nat) (v : Value) (n : Nat) (xs : List Value) (hs : a.eval s = v) (hown : w.ownsRow base 57 3 v n xs)
    (row : List Sx) (p : Option Addr) (cap : Nat) (hx : a.eval x = .slice p row.length cap) (hp : SxArg w p row) (hz : p = none → cap = 0)
    (h63 : n + row.length ≤ 1000000) (hbase : base ≤ w.heap.size)
    (h : ∀ v' w', w'.ownsRow base 57 3 v' (n + row.length) (xs ++ sxCells row) → w.grownBy w' v.ownBlock → wpList Try.prog ops Q rest (a.put o.dst v') w') :
    wpList Try.prog ops Q (o :: rest) a w := by
  obtain ⟨i0, hi, hz0, hz1, hz2⟩ := info_parts Try.info57
  cases p with
  | none =>
    have hr : row = [] := Decidable.byContradiction fun hne => by
      obtain ⟨b, off, e, _⟩ := hp hne
      cases e
    subst hr
    rw [hz rfl] at hx
    exact wpList_append_own_none hgd s x _ ho base _ i0 3 Try.underlying36 hi v n xs hs hown hx (h v w (by simpa [sxCells] using hown) ⟨rfl, rfl, rfl, Nat.le_refl _, fun _ _ _ => rfl⟩)
  | some ad =>
    refine wpList_append_own_at _ hgd s x _ ho base _ i0 _ 3 32 Try.underlying36 hi hz0 hz1 hz2 rfl (by decide) v n xs hs hown ad row.length cap (sxCells row) hx (sxCells_len row) ?_ (fun u hu => sx_one hu) (by simp only [maxLen]; omega) (by omega) hbase (fun v' w' h1 h2 _ _ => h v' w' h1 h2)
    intro j u hj
    obtain ⟨b, off, e, hb, ht⟩ := hp (fun e => by rw [e] at hj; simp [sxCells] at hj)
    cases e
    rw [add_off]
    exact sx_cell ht hj
theorem own_far {w : World} {base : Nat} {e : TypeId} {s n : Nat} {v l : Value} {xs : List Value} (h : w.ownsRow base e s v n xs) (hl : ∀ g, l.ownBlock = some g → g < base) : v.ownBlock = none ∨ v.ownBlock ≠ l.ownBlock := by
  cases hv : v.ownBlock with
  | none => exact .inl rfl
  | some g => exact .inr fun e => by have := hl g e.symm; have := (row_lt h hv).1; omega
/-- Items, as far as its answer alone counts. -/
theorem items_flat {w0 : World} {cap : Nat} (row : List Sx) {p : Option Addr} (hn : row.length ≤ 1000000) (hcap : row.length ≤ cap) (hp : SxArg w0 p row) :
    Calls Try.prog 25 #[.slice p row.length cap] w0 fun e w' => ∃ q c, e = .returned (.tuple #[.slice q ((itemsGo row).getD []).length c, .bool (itemsGo row).isSome]) ∧ Under w0 w' := by
  refine (items_any row hn hcap hp).mono ?_
  rintro e w' ⟨hU, h⟩
  cases hR : itemsGo row with
  | none => rw [hR] at h; exact ⟨none, 0, h, hU⟩
  | some ls =>
    rw [hR] at h
    obtain ⟨vo, vs, rfl, h1, h2⟩ := h
    obtain ⟨q, c, rfl, _⟩ := rows_arg h1 h2
    exact ⟨q, c, rfl, hU⟩
theorem refItems_flat {w0 : World} {cap : Nat} (row : List Sx) {p : Option Addr} (hn : row.length ≤ 1000000) (hcap : row.length ≤ cap) (hp : SxArg w0 p row) :
    Calls Try.prog 26 #[.slice p row.length cap] w0 fun e w' => ∃ v, e = .returned (.tuple #[v, .bool (itemsGo row).isSome]) ∧ Under w0 w' := by
  refine (refItems_any row hn hcap hp).mono ?_
  rintro e w' ⟨hU, h⟩
  cases hR : itemsGo row with
  | none => rw [hR] at h; exact ⟨_, h, hU⟩
  | some ls =>
    rw [hR] at h
    obtain ⟨g, c, vs, rfl, _⟩ := h
    exact ⟨_, rfl, hU⟩
theorem items_bound {row : List Sx} {ls : List (List Sx)} (h : itemsGo row = some ls) : ls.length ≤ row.length ∧ ∀ l ∈ ls, l.length ≤ row.length := by
  unfold itemsGo at h
  cases hb : beginsGo row 0 [] with
  | none => rw [hb] at h; cases h
  | some st =>
    rw [hb] at h; cases h
    refine ⟨by rw [pieces_len]; simpa using begins_len row 0 [] st hb, fun l hl => ?_⟩
    unfold pieces piece at hl
    obtain ⟨i, _, rfl⟩ := List.mem_map.1 hl
    rw [List.length_take, List.length_drop]
    omega

def jnFrame0 (la lb : Value) (J : Nat → Value) : Array Value := #[la, lb, J 2, J 3, J 4, J 5, J 6, J 7, J 8, J 9, J 10, J 11, J 12, J 13, J 14, J 15, J 16, J 17, J 18, J 19, J 20, J 21, J 22, J 23, J 24, J 25, J 26, J 27, J 28, J 29, J 30, J 31, J 32, J 33, J 34, J 35, J 36, J 37, J 38, J 39, J 40, J 41, J 42, J 43, J 44, J 45, J 46, J 47, J 48, J 49, J 50, J 51, J 52, J 53, J 54, J 55, J 56, J 57, J 58, J 59, J 60, J 61, J 62, J 63, J 64, J 65, J 66, J 67, J 68, J 69, J 70, J 71, J 72, J 73, J 74, J 75, J 76, J 77, J 78, J 79, J 80, J 81, J 82, J 83, J 84, J 85, J 86, J 87, J 88, J 89, J 90, J 91, J 92, J 93, J 94, J 95, J 96, J 97, J 98, J 99, J 100, J 101, J 102, J 103, J 104, J 105, J 106, J 107, J 108, J 109, J 110, J 111, J 112, J 113, J 114, J 115, J 116, J 117, J 118, J 119, J 120, J 121, J 122, J 123, J 124, J 125, J 126, J 127, J 128, J 129, J 130, J 131, J 132, J 133, J 134, J 135, J 136, J 137, J 138, J 139, J 140, J 141, J 142, J 143, J 144, J 145, J 146, J 147]
section
variable {W : World} {ca cb : Nat}
set_option maxRecDepth 100000 in
set_option maxHeartbeats 1000000 in
theorem jn_rest (ra rb : List Sx) {pa pb : Option Addr} (hla : ra.length ≤ 200) (hlb : rb.length ≤ 200) (hca : ra.length ≤ ca) (hcb : rb.length ≤ cb) (hza : pa = none → ca = 0) (hzb : pb = none → cb = 0) (ha : SxArg W pa ra) (hb : SxArg W pb rb) (J : Nat → Value) (w : World) (hU : Under W w) :
    jnRest.wp Try.prog (bodyPostG Try.prog Try.f9 (TrueU W)) ⟨jnFrame0 (.slice pa ra.length ca) (.slice pb rb.length cb) J, []⟩ w := by
  have C1 := Lib.hid (items_flat (w0 := w) (cap := ca) ra (by omega) hca (ha.under hU))
  have C2 := Lib.hid (fun w1 (hU1 : Under W w1) => items_flat (w0 := w1) (cap := cb) rb (by omega) hcb (hb.under hU1))
  have HA := Lib.hid ha
  have HB := Lib.hid hb
  have HZA := Lib.hid hza
  have HZB := Lib.hid hzb
  have HU := Lib.hid hU
  clear ha hb hza hzb hU
  generalize hQ : bodyPostG Try.prog Try.f9 (TrueU W) = Q
  have HQ := Lib.hid hQ
  clear hQ
  unfold jnRest jnText
  simp only [Try.f9, Option.getD_some, sndOf]
  unfold jnFrame0
  go_wp2_with fail
  refine C1.out.mono ?_
  rintro e w1 ⟨px, cx, rfl, hU1⟩
  have HU1 := Lib.hid (HU.out.trans hU1)
  clear hU1 C1 HU
  go_wp2_with fail
  refine (C2.out w1 HU1.out).mono ?_
  rintro e w2 ⟨py, cy, rfl, hU2⟩
  have HU2 := Lib.hid (HU1.out.trans hU2)
  clear hU2 C2 HU1
  go_wp2_with (at_builtin; refine append_sx rfl _ _ rfl W.heap.size _ _ _ rfl (row_new0 w2 _ _ _ HU2.out.size) ra pa ca rfl (HA.out.under (under_alloc HU2.out _)) HZA.out (by omega) (by have := HU2.out.size; simp; omega) ?_)
  intro vl w3 hown3 hgrow3
  have HU3 := Lib.hid (under_grown (under_alloc HU2.out _) hgrow3 fun g e => by cases e; exact HU2.out.size)
  have HO3 := Lib.hid hown3
  clear hown3 hgrow3
  go_wp2_with (at_builtin; refine append_sx rfl _ _ rfl W.heap.size _ _ _ rfl HO3.out rb pb cb rfl (HB.out.under HU3.out) HZB.out (by omega) HU3.out.size ?_)
  intro vl2 w4 hown4 hgrow4
  rw [← sxCells_app, ← List.length_append] at hown4
  have hlen : (ra ++ rb).length = ra.length + rb.length := List.length_append
  have hjoin := fun x y (h1 : itemsGo ra = some x) (h2 : itemsGo rb = some y) => items_join h1 h2
  generalize ra ++ rb = rl at hown4 hlen hjoin
  have HJ := Lib.hid hjoin
  clear hjoin
  have HU4 := Lib.hid (under_grown HU3.out hgrow4 fun g e => (row_lt HO3.out e).1)
  obtain ⟨pl, cl, rfl, hcl, hsl⟩ := sx_arg' hown4
  have HO4 := Lib.hid hown4
  have HS4 := Lib.hid hsl
  clear hown4 hgrow4 hsl HO3 HU3 HZA HZB
  have hlab : rl.length ≤ 400 := by omega
  clear hlen
  have HCL := Lib.hid hcl
  clear hcl
  go_wp2_with fail
  refine (theirs_any (w0 := w4) (cap := ca) ra (by omega) (HA.out.under HU4.out)).mono ?_
  rintro e w5 ⟨v5, rfl, hown5, hU5⟩
  obtain ⟨p5, c5, rfl, hc5, hs5⟩ := sx_arg' hown5
  have HU45 := Lib.hid hU5
  have C5 := Lib.hid (refItems_flat (w0 := w5) (cap := c5) ra (by omega) hc5 hs5)
  clear hown5 hU5 hs5 hc5
  go_wp2_with fail
  refine C5.out.mono ?_
  rintro e w6 ⟨v6, rfl, hU6⟩
  have HU46 := Lib.hid (HU45.out.trans hU6)
  clear hU6 HU45 C5
  cases hA : itemsGo ra with
  | none =>
    simp only [Option.getD_none, List.length_nil, Option.isSome_none]
    have HUW := Lib.hid (HU4.out.trans HU46.out)
    clear hA HA HB HU2 HU4 HU46 HO4 HS4 HCL
    go_wp2
    rw [← HQ.out]
    exact bodyG_tmp rfl rfl ⟨rfl, HUW.out⟩
  | some xs =>
    cases hB : itemsGo rb with
    | none =>
      simp only [Option.getD_none, List.length_nil, Option.isSome_none, Option.getD_some, Option.isSome_some]
      have HUW := Lib.hid (HU4.out.trans HU46.out)
      clear hA hB HA HB HU2 HU4 HU46 HO4 HS4 HCL
      by_cases hx : (xs.length : Int) = 0
      · have e1 : ((xs.length : Int) == 0) = true := by simpa using hx
        clear hx
        go_wp2
        rw [← HQ.out]
        exact bodyG_tmp rfl rfl ⟨rfl, HUW.out⟩
      · have e1 : ((xs.length : Int) == 0) = false := by simpa using hx
        clear hx
        go_wp2
        rw [← HQ.out]
        exact bodyG_tmp rfl rfl ⟨rfl, HUW.out⟩
    | some ys =>
      simp only [Option.getD_some, Option.isSome_some]
      obtain ⟨zs, hz, hzl⟩ := HJ.out _ _ hA hB
      obtain ⟨hbz, hbl⟩ := items_list hz 0
      obtain ⟨hzn, hzm⟩ := items_bound hz
      have hxn := (items_bound hA).1
      have hyn := (items_bound hB).1
      have C6 := items_any (w0 := w6) (cap := cl) rl (by omega) HCL.out (HS4.out.under HU46.out)
      rw [hz] at C6
      have C6 := Lib.hid C6
      have HZ := Lib.hid hz
      have HBZ := Lib.hid hbz
      have HBL := Lib.hid hbl
      have HZM := Lib.hid hzm
      have HLAB := Lib.hid hlab
      have HZL := Lib.hid hzl
      have HZN := Lib.hid hzn
      have x1 : (xs.length : Int) ≤ 200 := by omega
      have x2 : (ys.length : Int) ≤ 200 := by omega
      have x3 : ((zs.length : Int) != (xs.length : Int) + (ys.length : Int)) = false := by rw [hzl]; simp
      have x4 : (zs.length : Int) ≤ 400 := by omega
      clear hA hB hz hzl hbz hbl hzn hzm hxn hyn hlab
      go_wp2_with fail
      refine C6.out.mono ?_
      rintro e w7 ⟨hU7, vo, vs, rfl, hown7, hels7⟩
      obtain ⟨pz, cz, rfl, _⟩ := rows_arg hown7 hels7
      have HU47 := Lib.hid (HU46.out.trans hU7)
      have HO7 := Lib.hid hown7
      have HE7 := Lib.hid hels7
      have hlow : ∀ g, (Value.slice pl rl.length cl).ownBlock = some g → g < w6.heap.size := fun g e => Nat.lt_of_lt_of_le (row_lt HO4.out e).2 HU46.out.size
      have HLO := Lib.hid hlow
      clear hU7 hown7 hels7 hlow C6
      obtain ⟨i0, hi, hz0, hz1, hz2⟩ := info_parts Try.info57
      have hmx : rl.length + 1 ≤ maxLen := by have := HLAB.out; simp only [maxLen]; omega
      have hby : (rl.length + 1) * 32 ≤ 140737488355328 := by have := HLAB.out; omega
      have hws := HU4.out.size
      have hws7 := HU47.out.size
      go_wp2_with (at_builtin; refine wpList_append_own_at _ rfl _ _ 36 rfl W.heap.size 57 i0 _ 3 32 Try.underlying36 hi hz0 hz1 hz2 rfl (by decide) _ _ _ rfl ((row_under HO4.out HU47.out).alloc _) ⟨w7.heap.size, 0, none⟩ 1 1 [.int .i64 (zs.length : Int), .int .i64 0, .string ⟨#[]⟩] rfl rfl ?c1 ?c2 hmx hby ?c5 ?_)
      case c1 =>
        intro j u hj
        match j, hj with
        | 0, hj => cases hj; simp [Addr.add]
        | 1, hj => cases hj; simp [Addr.add]
        | 2, hj => cases hj; simp [Addr.add]
      case c2 => intro u hu; simp at hu; rcases hu with rfl | rfl | rfl <;> rfl
      case c5 => simp; omega
      intro vl3 w8 hown8 hgrow8 _ _
      have hr8 : RowsArg w8 pz zs := by
        have h1 := row_grown (HO7.out.alloc _) hgrow8 (own_ne HO7.out (row_under HO4.out HU47.out) (by decide))
        have h2 := HE7.out.map fun v n xs h => row_grown (h.alloc _) hgrow8 (own_far h HLO.out)
        obtain ⟨p, c, e, h3⟩ := rows_arg h1 h2
        cases e
        exact h3
      have hU8 : Under W w8 := under_grown (under_alloc (HU4.out.trans HU47.out) _) hgrow8 fun g e => (row_lt HO4.out e).1
      have hown8' : w8.ownsRow W.heap.size 57 3 vl3 (rl ++ [(⟨zs.length, 0, ⟨#[]⟩⟩ : Sx)]).length (sxCells (rl ++ [(⟨zs.length, 0, ⟨#[]⟩⟩ : Sx)])) := by rw [List.length_append, sxCells_app]; exact hown8
      have hlen8 : (rl ++ [(⟨zs.length, 0, ⟨#[]⟩⟩ : Sx)]).length ≤ 401 := by have := HLAB.out; rw [List.length_append]; simp; omega
      have hp8 : partsGo (rl ++ [(⟨zs.length, 0, ⟨#[]⟩⟩ : Sx)]) = some zs := by
        rw [partsGo_snoc, HBZ.out]
        exact HZ.out
      have hi8 := HBL.out
      generalize rl ++ [(⟨zs.length, 0, ⟨#[]⟩⟩ : Sx)] = r8 at *
      obtain ⟨p8, c8, rfl, hc8, hs8⟩ := sx_arg' hown8'
      have C7 := parts_any (w0 := w8) (cap := c8) r8 (by omega) hc8 hs8
      rw [hp8] at C7
      have C8 : ∀ w9, Under w8 w9 → Calls Try.prog 25 #[.slice p8 r8.length c8] w9 (ItOut w9 (some [r8])) := by
        intro w9 hU9
        have := items_any (w0 := w9) (cap := c8) r8 (by omega) hc8 (hs8.under hU9)
        rw [hi8] at this
        exact this
      have C7 := Lib.hid C7
      have C8 := Lib.hid C8
      have HR8 := Lib.hid hr8
      have HU8 := Lib.hid hU8
      have hl8 : (r8.length : Int) ≤ 401 := by omega
      have e8 : ((r8.length : Int) != (r8.length : Int)) = false := by simp
      have ez : ((zs.length : Int) != (zs.length : Int)) = false := by simp
      clear hr8 hU8 hown8 hown8' hgrow8 hp8 hi8 hs8 hc8 HBZ HBL HZ HO4 HS4 HCL HO7 HE7 HLO HU47 HU46 HU4 HU2 HA HB
      go_wp2_with fail
      refine C7.out.mono ?_
      rintro e w9 ⟨hU9, vp, vps, rfl, hown9, hels9⟩
      obtain ⟨pp, cp, rfl, hr9⟩ := rows_arg hown9 hels9
      have HU9 := Lib.hid hU9
      have HR9 := Lib.hid hr9
      clear hU9 hr9 hown9 hels9 C7
      go_wp2_with fail
      refine (C8.out w9 HU9.out).mono ?_
      rintro e w10 ⟨hU10, vq, vqs, rfl, hown10, hels10⟩
      obtain ⟨pq, cq, rfl, hr10⟩ := rows_arg hown10 hels10
      obtain ⟨bq, oq, rfl, hbq, hat⟩ := hr10 (by simp)
      obtain ⟨qq, aq, hcell, _, _⟩ := hat 0 r8 rfl
      rw [Nat.add_zero] at hcell
      have HU10 := Lib.hid ((HU8.out.trans HU9.out).trans hU10)
      have HL := Lib.hid (fun m a w h => jn_rounds (w0 := w10) (cz := cz) (cp := cp) zs (by omega) (fun l hl => Nat.le_trans (HZM.out l hl) (by have := HLAB.out; omega)) (HR8.out.under (HU9.out.trans hU10)) (HR9.out.under hU10) m a w h)
      clear hU10 hown10 hels10 hat C8
      go_wp2
      rename_i K hK
      refine wp_mono (HL.out zs.length _ _ ⟨0, Nat.add_zero _, _, pframe_ex (F := jnFrame _ _ 0) (by rfl), under_refl w10⟩) ?_
      rintro e a' w' ⟨rfl, J', rfl, hU'⟩
      simp only [Exit.inBlock, if_pos, Exit.then]
      refine hK _ _ ?_
      have HU' := Lib.hid (HU10.out.trans hU')
      clear hU'
      unfold jnFrame
      go_wp2
      rw [← HQ.out]
      exact bodyG_tmp rfl rfl ⟨rfl, HU'.out⟩
end
end Go.Proofs.Ytjnoffgclibfaaa
