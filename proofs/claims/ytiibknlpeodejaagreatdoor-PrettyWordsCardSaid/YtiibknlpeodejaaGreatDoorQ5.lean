/- Part 5 of what the proof rests on. -/
import Derived.Deep.RegionLaw
import Derived.Deep.RegionHeld3
import Derived.Test.YtiibknlpeodejaaGreatDoorQ4
set_option linter.unusedSimpArgs false
set_option linter.unusedVariables false
/- pretty.(*printer).words: variables, constants, words, Sorts. -/
namespace Go.Proofs.YtiibknlpeodejaaGreatDoor
open Go.Lx Go.RowKit

theorem heads_look {w : World} {hb : Nat} (h : MapIAt w hb headsL) {k : Int} (h0 : 0 ≤ k) (h1 : k < 30) : (Instr.lookup 42 (.map (some hb)) (.int .i64 k) false).run Tryz.prog w = .ok (.agg #[.string (headB k.toNat)]) w := by
  have hz : (zeroValue 60).run Tryz.prog = fun w => .ok (.agg #[.string ⟨#[]⟩]) w := by funext w; kernel_rfl
  have h2 := h.lookup (k := k) (kt := 3) (et := 60) Tryz.underlying42 Tryz.underlying3 (z := .agg #[.string ⟨#[]⟩]) (by rw [hz])
  have h3 := headsL_get k.toNat (by omega)
  rw [show ((k.toNat : Nat) : Int) = k by omega] at h3
  rw [h3] at h2
  exact h2
theorem head_field (h : ByteArray) (w : World) : (Instr.field 60 (.agg #[.string h]) 0).run Tryz.prog w = .ok (.string h) w := by kernel_rfl
set_option maxRecDepth 100000 in
set_option maxHeartbeats 1000000 in
theorem words_const (x : Nd) (l : List Tm) (h1 : x.k = 1) : WordsOk (.mk x l) := by
  rintro hok hd hn W0 w pb hq tb ks st av sv tv hW hS hP hT hv hA ha hst hss hin
  have hx := hok.1
  have hte : (flat (.mk x l))[(flat (.mk x l)).length - 1]? = some x := by rw [flat]; simp
  have hpos : 1 ≤ (flat (.mk x l)).length := by rw [flat]; simp
  obtain ⟨p, c, rfl, hc, hp0, hr⟩ := hv
  obtain ⟨b, off, rfl, hb, c0, c1, c2, c3⟩ := RowArg.node hr hte
  obtain ⟨M, hM⟩ : ∃ M, (flat (.mk x l)).length = M + 1 := ⟨(flat (.mk x l)).length - 1, by omega⟩
  rw [hM] at c0 c1 c2 c3
  simp only [Nat.add_sub_cancel] at c0 c1 c2 c3
  have hM0 : (0 : Int) ≤ (M : Int) := by omega
  have hM4 : (M : Int) ≤ 4000 := by omega
  have hMi : ((M : Int) + 1 - 1) = (M : Int) := by omega
  have hk := rightB_k hx
  obtain ⟨w1, hw1⟩ : ∃ w1, w1 = (w.alloc (.cells #[.pointer (some ⟨pb, 0, none⟩)] 41)).alloc (.cells #[.int .i64 x.k, .int .i64 x.n, .int .i64 x.m, .string x.s] 38) := ⟨_, rfl⟩
  have hU1 : Under w w1 := by rw [hw1]; exact under_alloc (under_alloc (Under.refl w) _) _
  have hB1 : BoxAt w1 w.heap.size 41 #[.pointer (some ⟨pb, 0, none⟩)] := by rw [hw1]; exact (box_new w _ _).alloc _
  have hB2 : BoxAt w1 (w.heap.size + 1) 38 #[.int .i64 x.k, .int .i64 x.n, .int .i64 x.m, .string x.s] := by
    have := box_new (w.alloc (.cells #[.pointer (some ⟨pb, 0, none⟩)] 41)) #[.int .i64 x.k, .int .i64 x.n, .int .i64 x.m, .string x.s] 38
    rw [World.size_alloc] at this
    rw [hw1]
    exact this
  have hP1 := hP.under hU1
  have d0 : w1.cell? ⟨w.heap.size, 0, none⟩ = some (.pointer (some ⟨pb, 0, none⟩)) := hB1.cell 0
  have d1 : w1.cell? ⟨pb, 0, none⟩ = some (.map (some hq)) := hP1.box.cell 0
  have d2 : w1.cell? ⟨w.heap.size + 1, 0, none⟩ = some (.int .i64 x.k) := hB2.cell 0
  have d3 : MapIAt w1 hq headsL := hP1.heads
  have HT : RowKit.Hid (sayT av (.mk x l) st = x.s.data.toList) := Lib.hid (by unfold sayT; rw [if_neg (by omega), if_pos h1])
  generalize sayT av (.mk x l) st = R at *
  have HFd := head_field
  have HLk := fun (w' : World) (h : MapIAt w' hq headsL) => heads_look h hk.1 hk.2
  rw [hM]
  subst hw1
  have HU1 := Lib.hid hU1
  have HB1 := Lib.hid hB1
  have HB2 := Lib.hid hB2
  have HP1 := Lib.hid hP1
  have dd := And.intro d0 (And.intro d1 (And.intro d2 d3))
  have HK := Lib.hid hk
  rw [hM] at hc
  clear hte hr hok hin hst hss hA hT hS hW hP hU1 hB1 hB2 hP1 hpos hn hM hp0 hx hd d0 d1 d2 d3 hk
  obtain ⟨k, n, m, s⟩ := x
  simp only at *
  subst h1
  go_enter Tryz.func21, Tryz.ntmps21
  go_wp2_with fail
  go_region_held3 (fun w' => w'.cell? ⟨w.heap.size, 0, none⟩ = some (.pointer (some ⟨pb, 0, none⟩)) ∧ w'.cell? ⟨pb, 0, none⟩ = some (.map (some hq)) ∧ w'.cell? ⟨w.heap.size + 1, 0, none⟩ = some (.int .i64 1) ∧ MapIAt w' hq headsL)
    (first
      | exact dd
      | go_keep)
    (fail)
  rename_i hHeld
  clear dd hHeld HLk HFd c0 c1 c2 c3
  go_wp2
  go_ret
  exact ⟨ret_str (by rw [HT.out, bytes_back]), sv, HP1.out.under (under_drew (Under.refl _)), Ch.of_under (HU1.out.trans (under_drew (Under.refl _))), fun b _ e => e⟩
set_option maxRecDepth 100000 in
set_option maxHeartbeats 1000000 in
theorem words_prop (x : Nd) (l : List Tm) (h1 : x.k = 2) (h2 : x.n = 0) : WordsOk (.mk x l) := by
  rintro hok hd hn W0 w pb hq tb ks st av sv tv hW hS hP hT hv hA ha hst hss hin
  have hx := hok.1
  have hte : (flat (.mk x l))[(flat (.mk x l)).length - 1]? = some x := by rw [flat]; simp
  have hpos : 1 ≤ (flat (.mk x l)).length := by rw [flat]; simp
  obtain ⟨p, c, rfl, hc, hp0, hr⟩ := hv
  obtain ⟨b, off, rfl, hb, c0, c1, c2, c3⟩ := RowArg.node hr hte
  obtain ⟨M, hM⟩ : ∃ M, (flat (.mk x l)).length = M + 1 := ⟨(flat (.mk x l)).length - 1, by omega⟩
  rw [hM] at c0 c1 c2 c3
  simp only [Nat.add_sub_cancel] at c0 c1 c2 c3
  have hM0 : (0 : Int) ≤ (M : Int) := by omega
  have hM4 : (M : Int) ≤ 4000 := by omega
  have hMi : ((M : Int) + 1 - 1) = (M : Int) := by omega
  have hk := rightB_k hx
  obtain ⟨w1, hw1⟩ : ∃ w1, w1 = (w.alloc (.cells #[.pointer (some ⟨pb, 0, none⟩)] 41)).alloc (.cells #[.int .i64 x.k, .int .i64 x.n, .int .i64 x.m, .string x.s] 38) := ⟨_, rfl⟩
  have hU1 : Under w w1 := by rw [hw1]; exact under_alloc (under_alloc (Under.refl w) _) _
  have hB1 : BoxAt w1 w.heap.size 41 #[.pointer (some ⟨pb, 0, none⟩)] := by rw [hw1]; exact (box_new w _ _).alloc _
  have hB2 : BoxAt w1 (w.heap.size + 1) 38 #[.int .i64 x.k, .int .i64 x.n, .int .i64 x.m, .string x.s] := by
    have := box_new (w.alloc (.cells #[.pointer (some ⟨pb, 0, none⟩)] 41)) #[.int .i64 x.k, .int .i64 x.n, .int .i64 x.m, .string x.s] 38
    rw [World.size_alloc] at this
    rw [hw1]
    exact this
  have hP1 := hP.under hU1
  have d0 : w1.cell? ⟨w.heap.size, 0, none⟩ = some (.pointer (some ⟨pb, 0, none⟩)) := hB1.cell 0
  have d1 : w1.cell? ⟨pb, 0, none⟩ = some (.map (some hq)) := hP1.box.cell 0
  have d2 : w1.cell? ⟨w.heap.size + 1, 0, none⟩ = some (.int .i64 x.k) := hB2.cell 0
  have d3 : MapIAt w1 hq headsL := hP1.heads
  have HT : RowKit.Hid (sayT av (.mk x l) st = (⟨#[80, 114, 111, 112]⟩ : ByteArray).data.toList) := Lib.hid (by unfold sayT; rw [if_neg (by omega), if_neg (by omega), if_neg (by simp [plainK, h1]), if_pos h1, if_pos h2])
  generalize sayT av (.mk x l) st = R at *
  have HFd := head_field
  have HLk := fun (w' : World) (h : MapIAt w' hq headsL) => heads_look h hk.1 hk.2
  rw [hM]
  subst hw1
  have HU1 := Lib.hid hU1
  have HB1 := Lib.hid hB1
  have HB2 := Lib.hid hB2
  have HP1 := Lib.hid hP1
  have dd := And.intro d0 (And.intro d1 (And.intro d2 d3))
  have HK := Lib.hid hk
  rw [hM] at hc
  clear hte hr hok hin hst hss hA hT hS hW hP hU1 hB1 hB2 hP1 hpos hn hM hp0 hx hd d0 d1 d2 d3 hk
  obtain ⟨k, n, m, s⟩ := x
  simp only at *
  subst h1 h2
  go_enter Tryz.func21, Tryz.ntmps21
  go_wp2_with fail
  go_region_held3 (fun w' => w'.cell? ⟨w.heap.size, 0, none⟩ = some (.pointer (some ⟨pb, 0, none⟩)) ∧ w'.cell? ⟨pb, 0, none⟩ = some (.map (some hq)) ∧ w'.cell? ⟨w.heap.size + 1, 0, none⟩ = some (.int .i64 2) ∧ MapIAt w' hq headsL)
    (first
      | exact dd
      | go_keep)
    (fail)
  rename_i hHeld
  clear dd hHeld HLk HFd c0 c1 c2 c3
  go_wp2
  go_ret
  exact ⟨ret_str (by rw [HT.out]), sv, HP1.out.under (under_drew (Under.refl _)), Ch.of_under (HU1.out.trans (under_drew (Under.refl _))), fun b _ e => e⟩
set_option maxRecDepth 100000 in
set_option maxHeartbeats 1000000 in
theorem words_sort (x : Nd) (l : List Tm) (h1 : x.k = 2) (h2 : x.n ≠ 0) : WordsOk (.mk x l) := by
  rintro hok hd hn W0 w pb hq tb ks st av sv tv hW hS hP hT hv hA ha hst hss hin
  have hx := hok.1
  have hte : (flat (.mk x l))[(flat (.mk x l)).length - 1]? = some x := by rw [flat]; simp
  have hpos : 1 ≤ (flat (.mk x l)).length := by rw [flat]; simp
  obtain ⟨p, c, rfl, hc, hp0, hr⟩ := hv
  obtain ⟨b, off, rfl, hb, c0, c1, c2, c3⟩ := RowArg.node hr hte
  obtain ⟨M, hM⟩ : ∃ M, (flat (.mk x l)).length = M + 1 := ⟨(flat (.mk x l)).length - 1, by omega⟩
  rw [hM] at c0 c1 c2 c3
  simp only [Nat.add_sub_cancel] at c0 c1 c2 c3
  have hM0 : (0 : Int) ≤ (M : Int) := by omega
  have hM4 : (M : Int) ≤ 4000 := by omega
  have hMi : ((M : Int) + 1 - 1) = (M : Int) := by omega
  have hk := rightB_k hx
  obtain ⟨w1, hw1⟩ : ∃ w1, w1 = (w.alloc (.cells #[.pointer (some ⟨pb, 0, none⟩)] 41)).alloc (.cells #[.int .i64 x.k, .int .i64 x.n, .int .i64 x.m, .string x.s] 38) := ⟨_, rfl⟩
  have hU1 : Under w w1 := by rw [hw1]; exact under_alloc (under_alloc (Under.refl w) _) _
  have hB1 : BoxAt w1 w.heap.size 41 #[.pointer (some ⟨pb, 0, none⟩)] := by rw [hw1]; exact (box_new w _ _).alloc _
  have hB2 : BoxAt w1 (w.heap.size + 1) 38 #[.int .i64 x.k, .int .i64 x.n, .int .i64 x.m, .string x.s] := by
    have := box_new (w.alloc (.cells #[.pointer (some ⟨pb, 0, none⟩)] 41)) #[.int .i64 x.k, .int .i64 x.n, .int .i64 x.m, .string x.s] 38
    rw [World.size_alloc] at this
    rw [hw1]
    exact this
  have hP1 := hP.under hU1
  have d0 : w1.cell? ⟨w.heap.size, 0, none⟩ = some (.pointer (some ⟨pb, 0, none⟩)) := hB1.cell 0
  have d1 : w1.cell? ⟨pb, 0, none⟩ = some (.map (some hq)) := hP1.box.cell 0
  have d2 : w1.cell? ⟨w.heap.size + 1, 0, none⟩ = some (.int .i64 x.k) := hB2.cell 0
  have d3 : MapIAt w1 hq headsL := hP1.heads
  have hn9 := rightB_n hx
  have HT : RowKit.Hid (sayT av (.mk x l) st = [40, 84, 121, 112, 101, 32] ++ Lib.decDigits x.n.toNat ++ [41]) := Lib.hid (by unfold sayT; rw [if_neg (by omega), if_neg (by omega), if_neg (by simp [plainK, h1]), if_pos h1, if_neg h2])
  generalize sayT av (.mk x l) st = R at *
  have HFd := head_field
  have HLk := fun (w' : World) (h : MapIAt w' hq headsL) => heads_look h hk.1 hk.2
  rw [hM]
  subst hw1
  have HU1 := Lib.hid hU1
  have HB1 := Lib.hid hB1
  have HB2 := Lib.hid hB2
  have HP1 := Lib.hid hP1
  have dd := And.intro d0 (And.intro d1 (And.intro d2 d3))
  have HK := Lib.hid hk
  rw [hM] at hc
  clear hte hr hok hin hst hss hA hT hS hW hP hU1 hB1 hB2 hP1 hpos hn hM hp0 hx hd d0 d1 d2 d3 hk
  obtain ⟨k, n, m, s⟩ := x
  simp only at *
  subst h1
  obtain ⟨u, rfl⟩ : ∃ u : Nat, n = u := ⟨n.toNat, by omega⟩
  rw [Int.toNat_natCast] at HT
  have hu : u < 100 := by omega
  have h2' : ((u : Int) == 0) = false := by simpa using h2
  have HI := Lib.hid (fun w => Tryz.strconv_Itoa_small u hu w)
  have hL := dec_len u (by omega)
  have hL1 : ¬ 9223372036854775807 < 6 + (Lib.decDigits u).toArray.size := by simp; omega
  have hL2 : ¬ 9223372036854775807 < 6 + (Lib.decDigits u).toArray.size + 1 := by simp; omega
  clear hL h2
  generalize Lib.decDigits u = D at *
  go_enter Tryz.func21, Tryz.ntmps21
  go_wp2_with fail
  go_region_held3 (fun w' => w'.cell? ⟨w.heap.size, 0, none⟩ = some (.pointer (some ⟨pb, 0, none⟩)) ∧ w'.cell? ⟨pb, 0, none⟩ = some (.map (some hq)) ∧ w'.cell? ⟨w.heap.size + 1, 0, none⟩ = some (.int .i64 2) ∧ MapIAt w' hq headsL)
    (first
      | exact dd
      | go_keep)
    (fail)
  rename_i hHeld
  clear dd hHeld HLk HFd c0 c1 c2 c3
  go_wp2_with fail
  refine (HI.out _).mono ?_
  rintro e w2 ⟨rfl, rfl⟩
  go_wp2
  go_ret
  exact ⟨ret_str (by rw [HT.out]; exact ByteArray.ext (by simp)), sv, HP1.out.under (under_drew (Under.refl _)), Ch.of_under (HU1.out.trans (under_drew (Under.refl _))), fun b _ e => e⟩
set_option maxRecDepth 100000 in
set_option maxHeartbeats 1000000 in
theorem words_var (x : Nd) (l : List Tm) (h1 : x.k = 0) : WordsOk (.mk x l) := by
  rintro hok hd hn W0 w pb hq tb ks st av sv tv hW hS hP hT hv hA ha hst hss hin
  have hx := hok.1
  have hte : (flat (.mk x l))[(flat (.mk x l)).length - 1]? = some x := by rw [flat]; simp
  have hpos : 1 ≤ (flat (.mk x l)).length := by rw [flat]; simp
  obtain ⟨p, c, rfl, hc, hp0, hr⟩ := hv
  obtain ⟨b, off, rfl, hb, c0, c1, c2, c3⟩ := RowArg.node hr hte
  obtain ⟨M, hM⟩ : ∃ M, (flat (.mk x l)).length = M + 1 := ⟨(flat (.mk x l)).length - 1, by omega⟩
  rw [hM] at c0 c1 c2 c3
  simp only [Nat.add_sub_cancel] at c0 c1 c2 c3
  have hM0 : (0 : Int) ≤ (M : Int) := by omega
  have hM4 : (M : Int) ≤ 4000 := by omega
  have hMi : ((M : Int) + 1 - 1) = (M : Int) := by omega
  have hk := rightB_k hx
  obtain ⟨w1, hw1⟩ : ∃ w1, w1 = (w.alloc (.cells #[.pointer (some ⟨pb, 0, none⟩)] 41)).alloc (.cells #[.int .i64 x.k, .int .i64 x.n, .int .i64 x.m, .string x.s] 38) := ⟨_, rfl⟩
  have hU1 : Under w w1 := by rw [hw1]; exact under_alloc (under_alloc (Under.refl w) _) _
  have hB1 : BoxAt w1 w.heap.size 41 #[.pointer (some ⟨pb, 0, none⟩)] := by rw [hw1]; exact (box_new w _ _).alloc _
  have hB2 : BoxAt w1 (w.heap.size + 1) 38 #[.int .i64 x.k, .int .i64 x.n, .int .i64 x.m, .string x.s] := by
    have := box_new (w.alloc (.cells #[.pointer (some ⟨pb, 0, none⟩)] 41)) #[.int .i64 x.k, .int .i64 x.n, .int .i64 x.m, .string x.s] 38
    rw [World.size_alloc] at this
    rw [hw1]
    exact this
  have hP1 := hP.under hU1
  have d0 : w1.cell? ⟨w.heap.size, 0, none⟩ = some (.pointer (some ⟨pb, 0, none⟩)) := hB1.cell 0
  have d1 : w1.cell? ⟨pb, 0, none⟩ = some (.map (some hq)) := hP1.box.cell 0
  have d2 : w1.cell? ⟨w.heap.size + 1, 0, none⟩ = some (.int .i64 x.k) := hB2.cell 0
  have d3 : MapIAt w1 hq headsL := hP1.heads
  have hv2 := rightB_var hx h1
  unfold inT at hin
  rw [if_pos h1] at hin
  obtain ⟨u, hu⟩ : ∃ u : Nat, x.n = u := ⟨x.n.toNat, by omega⟩
  rw [hu] at hin hv2
  obtain ⟨m', hm'⟩ : ∃ m, st.length = m + (u + 1) := ⟨st.length - (u + 1), by omega⟩
  have hml : m' < st.length := by omega
  have HT : RowKit.Hid (sayT av (.mk x l) st = st[m'].data.toList) := Lib.hid (by unfold sayT; rw [if_pos h1, hu, Int.toNat_natCast, show st.length - 1 - u = m' by omega, List.getD_eq_getElem?_getD, List.getElem?_eq_getElem hml]; rfl)
  generalize sayT av (.mk x l) st = R at *
  obtain ⟨g, gc, rfl, hg, _, hgl, _, _⟩ := row_block hP1.row (by omega)
  have d4 : w1.cell? ⟨g, m', none⟩ = some (.string st[m']) := row_cell hP1.row hg (by simp [List.getElem?_eq_getElem hml])
  have d5 : w1.cell? ⟨pb, 2, none⟩ = some (.slice (some ⟨g, 0, none⟩) st.length gc) := hP1.box.cell 2
  have d6 : w1.cell? ⟨w.heap.size + 1, 1, none⟩ = some (.int .i64 x.n) := hB2.cell 1
  generalize st[m'] = y at *
  have HSt := Lib.hid hm'
  rw [hm'] at d5
  have i1 : (m' : Int) + ((u : Int) + 1) - 1 = m' + u := by omega
  have i2 : (m' : Int) + (u : Int) - u = m' := by omega
  have i3 : (0 : Int) ≤ m' := by omega
  have i4 : (0 : Int) ≤ u := by omega
  have i5 : (m' : Int) ≤ 100000 := by omega
  have i6 : (u : Int) ≤ 100 := by omega
  have i9 : IntKind.i64.wrap ((m' : Int) + (u : Int)) = (m' : Int) + u := by rw [IntKind.wrap_i64]; omega
  have i11 : IntKind.i64.wrap (m' : Int) = (m' : Int) := by rw [IntKind.wrap_i64]; omega
  have i7 : (m' : Int) < (m' : Int) + ((u : Int) + 1) := by omega
  have i8 : (m' : Int) < ((m' + (u + 1) : Nat) : Int) := by omega
  rw [hu] at d6
  have HFd := head_field
  have HLk := fun (w' : World) (h : MapIAt w' hq headsL) => heads_look h hk.1 hk.2
  rw [hM]
  subst hw1
  have HU1 := Lib.hid hU1
  have HB1 := Lib.hid hB1
  have HB2 := Lib.hid hB2
  have HP1 := Lib.hid hP1
  have dd := And.intro d0 (And.intro d1 (And.intro d2 d3))
  have HK := Lib.hid hk
  rw [hM] at hc
  have de := And.intro d0 (And.intro d5 (And.intro d6 d4))
  clear hte hr hok hin hst hss hA hT hS hW hP hU1 hB1 hB2 hP1 hpos hn hM hp0 hx hd d0 d1 d2 d3 hk d4 d5 d6 hm' hml
  obtain ⟨k, n, m, s⟩ := x
  simp only at *
  subst h1 hu
  go_enter Tryz.func21, Tryz.ntmps21
  go_wp2_with fail
  go_region_held3 (fun w' => w'.cell? ⟨w.heap.size, 0, none⟩ = some (.pointer (some ⟨pb, 0, none⟩)) ∧ w'.cell? ⟨pb, 0, none⟩ = some (.map (some hq)) ∧ w'.cell? ⟨w.heap.size + 1, 0, none⟩ = some (.int .i64 0) ∧ MapIAt w' hq headsL)
    (first
      | exact dd
      | go_keep)
    (fail)
  rename_i hHeld
  clear dd hHeld HLk HFd c0 c1 c2 c3
  go_wp2_with fail
  go_region_held3 (fun w' => w'.cell? ⟨w.heap.size, 0, none⟩ = some (.pointer (some ⟨pb, 0, none⟩)) ∧ w'.cell? ⟨pb, 2, none⟩ = some (.slice (some ⟨g, 0, none⟩) (m' + (u + 1)) gc) ∧ w'.cell? ⟨w.heap.size + 1, 1, none⟩ = some (.int .i64 (u : Int)) ∧ w'.cell? ⟨g, m', none⟩ = some (.string y))
    (first
      | exact de
      | go_keep)
    (fail)
  rename_i hHeld
  clear de hHeld
  go_wp2
  go_ret
  exact ⟨ret_str (by rw [HT.out, bytes_back]), _, HP1.out.under (under_drew (under_drew (Under.refl _))), Ch.of_under (HU1.out.trans (under_drew (under_drew (Under.refl _)))), fun b _ e => e⟩
end Go.Proofs.YtiibknlpeodejaaGreatDoor

/- pretty.(*printer).words: words that stand alone; what the loop over the parts holds. -/
namespace Go.Proofs.YtiibknlpeodejaaGreatDoor
open Go.Lx Go.RowKit

/-- What the parts say, one by one. -/
def partsL (av : List ByteArray) : List Tm → List Nat → List ByteArray → List ByteArray
  | [], _, _ => []
  | a :: l, bs, st => bindN av st (bs.headD 0) ++ ⟨(sayT av a (st ++ bindN av st (bs.headD 0))).toArray⟩ :: partsL av l bs.tail st
theorem partsL_at {av : List ByteArray} {l : List Tm} {bs : List Nat} {st : List ByteArray} {j : Nat} (hj : j < l.length) (hb : j < bs.length) : partsL av (l.drop j) (bs.drop j) st = bindN av st bs[j] ++ ⟨(sayT av l[j] (st ++ bindN av st bs[j])).toArray⟩ :: partsL av (l.drop (j + 1)) (bs.drop (j + 1)) st := by
  rw [List.drop_eq_getElem_cons hj, List.drop_eq_getElem_cons hb]
  rfl
theorem partsL_says (av : List ByteArray) : ∀ (l : List Tm) (bs : List Nat) (st : List ByteArray), namesL (partsL av l bs st) = sayTs av l bs st false
  | [], _, _ => rfl
  | a :: l, bs, st => by
    rw [partsL, sayTs, namesL_app, namesL, partsL_says av l bs.tail st]
    simp [wordL]
theorem join_names (x : ByteArray) (l : List ByteArray) : Lib.join ((x :: l).map (·.data.toList)) [32] = x.data.toList ++ namesL l := by
  induction l generalizing x with
  | nil => simp [Lib.join, namesL, List.intercalate, List.intersperse]
  | cons y l ih =>
    have h := ih y
    simp only [Lib.join, List.intercalate, List.map_cons, List.intersperse, List.flatten_cons] at h ⊢
    rw [h]
    simp [namesL, wordL]
/-- What the loop holds. -/
structure WdI (W0 w4 : World) (pb hb tb lb : Nat) (ks : Assoc) (st : List ByteArray) (sv lv : Value) (ls : List ByteArray) (sv' lv' : Value) (wr : World) : Prop where
  pr : PrS W0 pb hb tb ks st sv' wr
  lbx : BoxAt wr lb 23 #[lv']
  lrow : wr.ownsRow W0.heap.size 9 1 lv' ls.length (ls.map .string)
  apart : lv'.ownBlock = none ∨ lv'.ownBlock ≠ sv'.ownBlock
  lo : W0.heap.size ≤ lb
  ch : Ch (fun b => PrC pb tb sv b ∨ b = lb ∨ lv.ownBlock = some b) w4 wr
  own : ∀ b, b < w4.heap.size → sv'.ownBlock = some b → sv.ownBlock = some b
  lown : ∀ b, b < w4.heap.size → lv'.ownBlock = some b → lv.ownBlock = some b
section
variable {W0 w4 wr w' : World} {pb hb tb lb : Nat} {ks : Assoc} {st ls ls0 : List ByteArray} {sv lv sv' lv' : Value}
/-- Rows of another kind are as they were. -/
theorem WdI.row (h : WdI W0 w4 pb hb tb lb ks st sv lv ls sv' lv' wr) (h0 : WdI W0 w4 pb hb tb lb ks st sv lv ls0 sv lv w4) {base : Nat} {e : TypeId} {s n : Nat} {v : Value} {xs : List Value} (hr : w4.ownsRow base e s v n xs) (h1 : e ≠ 46) (h2 : e ≠ 9) (h3 : e ≠ 23) : wr.ownsRow base e s v n xs := by
  refine row_ch hr h.ch ?_
  rintro g hg ((rfl | rfl | e0) | rfl | e0)
  · exact box_own_ne h0.pr.box hr h1 hg
  · exact map_own_ne h0.pr.taken hr hg
  · rcases own_ne hr h0.pr.row h2 with h' | h'
    · rw [h'] at hg; cases hg
    · exact h' (hg.trans e0.symm)
  · exact box_own_ne h0.lbx hr h3 hg
  · rcases own_ne hr h0.lrow h2 with h' | h'
    · rw [h'] at hg; cases hg
    · exact h' (hg.trans e0.symm)
theorem WdI.box (h : WdI W0 w4 pb hb tb lb ks st sv lv ls sv' lv' wr) (h0 : WdI W0 w4 pb hb tb lb ks st sv lv ls0 sv lv w4) {b : Nat} {t : TypeId} {cs : Array Value} (hb : BoxAt w4 b t cs) (h1 : t ≠ 46) (h2 : t ≠ 9) (h3 : t ≠ 23) : BoxAt wr b t cs := by
  refine box_ch hb h.ch ?_
  rintro ((rfl | rfl | e) | rfl | e)
  · exact box_box_ne hb h0.pr.box h1 rfl
  · exact box_map_ne hb h0.pr.taken rfl
  · exact box_own_ne hb h0.pr.row (fun e => h2 e.symm) e
  · exact box_box_ne hb h0.lbx h3 rfl
  · exact box_own_ne hb h0.lrow (fun e => h2 e.symm) e
theorem WdI.und (h : WdI W0 w4 pb hb tb lb ks st sv lv ls sv' lv' wr) (hU : Under wr w') : WdI W0 w4 pb hb tb lb ks st sv lv ls sv' lv' w' :=
  ⟨h.pr.under hU, h.lbx.under hU, row_under h.lrow hU, h.apart, h.lo, h.ch.under hU, h.own, h.lown⟩
theorem WdI.step (h : WdI W0 w4 pb hb tb lb ks st sv lv ls sv' lv' wr) {L : Lay} {ls' : List ByteArray} {sv2 lv2 xv : Value} {T : Tm} (hU : UnS W0 L ks st sv2 ls' lv2 xv T w') (e1 : L.pb = pb) (e2 : L.hb = hb) (e3 : L.tb = tb) (e4 : L.lb = lb) (hc : Ch (UnC L sv' lv') wr w')
    (ho : ∀ b, b < wr.heap.size → sv2.ownBlock = some b → sv'.ownBlock = some b) (hl : ∀ b, b < wr.heap.size → lv2.ownBlock = some b → lv'.ownBlock = some b) : WdI W0 w4 pb hb tb lb ks st sv lv ls' sv2 lv2 w' := by
  subst e1 e2 e3 e4
  have hz := h.ch.size
  refine ⟨hU.pr, hU.lbx, hU.lrow, hU.apart, hU.lo, h.ch.trans hc ?_, fun b hb e => h.own b hb (ho b (by omega) e), fun b hb e => h.lown b hb (hl b (by omega) e)⟩
  rintro i hi ((rfl | rfl | e) | rfl | e)
  · exact .inl (.inl rfl)
  · exact .inl (.inr (.inl rfl))
  · exact .inl (.inr (.inr (h.own i hi e)))
  · exact .inr (.inl rfl)
  · exact .inr (.inr (h.lown i hi e))
end
end Go.Proofs.YtiibknlpeodejaaGreatDoor

/- What a term says has words, blanks and parentheses alone, which belong together. -/
namespace Go.Lx

/-- A word's byte. -/
def wrdB (c : UInt8) : Bool := ltrB c || digB c
theorem wrdB_ne {c : UInt8} (h : wrdB c = true) : c ≠ 32 ∧ c ≠ 40 ∧ c ≠ 41 := by
  refine ⟨?_, ?_, ?_⟩ <;> rintro rfl <;> exact absurd h (by decide +kernel)
def dl (c : UInt8) : Int := if c = 40 then 1 else if c = 41 then -1 else 0
/-- How many parentheses are open behind a text; none where one is shut that is not open. -/
def runP : Int → List UInt8 → Option Int
  | d, [] => some d
  | d, c :: l => if d + dl c < 0 then none else runP (d + dl c) l
theorem runP_app : ∀ (a b : List UInt8) (d : Int), runP d (a ++ b) = (runP d a).bind fun e => runP e b
  | [], b, d => rfl
  | c :: a, b, d => by
    simp only [List.cons_append, runP]
    split
    · rfl
    · exact runP_app a b _
def byteOk (c : UInt8) : Bool := c == 40 || (c == 41 || (c == 32 || wrdB c))
def nextOk (a b : UInt8) : Bool := !(a == 32 && b == 32) && !(a == 40 && b == 32) && !(a == 32 && b == 41)
def adjB : List UInt8 → Bool
  | [] => true
  | a :: l => (match l with | [] => true | b :: _ => nextOk a b) && adjB l
theorem adjB_app {a : List UInt8} {x y : UInt8} {b : List UInt8} (ha : adjB (a ++ [x]) = true) (hb : adjB (y :: b) = true) (h : nextOk x y = true) : adjB (a ++ x :: y :: b) = true := by
  induction a with
  | nil => simp only [List.nil_append, adjB] at *; simp [h]; simpa using hb
  | cons c a ih =>
    simp only [List.cons_append, adjB, Bool.and_eq_true] at ha ⊢
    refine ⟨?_, ih ha.2⟩
    cases a with
    | nil => exact ha.1
    | cons e a => exact ha.1
theorem adjB_at : ∀ {l : List UInt8} {i : Nat} (h : i + 1 < l.length), adjB l = true → nextOk l[i] l[i + 1] = true
  | a :: b :: l, 0, h, ha => by simp only [adjB, Bool.and_eq_true] at ha; exact ha.1
  | a :: l, i + 1, h, ha => by
    simp only [adjB, Bool.and_eq_true] at ha
    exact adjB_at (l := l) (i := i) (by simpa using h) ha.2
  | [_], 0, h, _ => by simp at h
/-- A text of words, blanks and parentheses. -/
structure GoodL (l : List UInt8) : Prop where
  ne : l ≠ []
  fst : ∀ a, l.head? = some a → a ≠ 32 ∧ a ≠ 41
  lst : ∀ a, l.getLast? = some a → a ≠ 32 ∧ a ≠ 40
  adj : adjB l = true
  byt : ∀ c ∈ l, byteOk c = true
  run : ∀ d : Int, 0 ≤ d → runP d l = some d
theorem nextOk_ne {a b : UInt8} (ha : a ≠ 32 ∧ a ≠ 40) (hb : b ≠ 41) : nextOk a b = true := by
  unfold nextOk
  simp [ha.1, ha.2, hb]
theorem good_word {l : List UInt8} (h0 : l ≠ []) (h : ∀ c ∈ l, wrdB c = true) : GoodL l := by
  have hne : ∀ c ∈ l, c ≠ 32 ∧ c ≠ 40 ∧ c ≠ 41 := fun c hc => wrdB_ne (h c hc)
  refine ⟨h0, fun a ha => ?_, fun a ha => ?_, ?_, fun c hc => ?_, ?_⟩
  · have := hne a (List.mem_of_mem_head? (by rw [ha]; rfl)); exact ⟨this.1, this.2.2⟩
  · have := hne a (List.mem_of_mem_getLast? (by rw [ha]; rfl)); exact ⟨this.1, this.2.1⟩
  · clear h h0
    induction l with
    | nil => rfl
    | cons a l ih =>
      simp only [adjB, Bool.and_eq_true]
      refine ⟨?_, ih fun c hc => hne c (List.mem_cons_of_mem _ hc)⟩
      cases l with
      | nil => rfl
      | cons b l =>
        have h1 := hne a (List.mem_cons_self ..)
        have h2 := hne b (by simp)
        exact nextOk_ne ⟨h1.1, h1.2.1⟩ h2.2.2
  · simp [byteOk, h c hc]
  · clear h h0
    induction l with
    | nil => intro d _; rfl
    | cons a l ih =>
      intro d hd
      have h1 := hne a (List.mem_cons_self ..)
      have e : dl a = 0 := by simp [dl, h1.2.1, h1.2.2]
      rw [runP, e, if_neg (by omega), Int.add_zero]
      exact ih (fun c hc => hne c (List.mem_cons_of_mem _ hc)) d hd
theorem good_split {l : List UInt8} (h : l ≠ []) : ∃ a x, l = a ++ [x] ∧ l.getLast? = some x := ⟨l.dropLast, l.getLast h, (List.dropLast_concat_getLast h).symm, List.getLast?_eq_some_getLast h⟩
theorem good_sp {a b : List UInt8} (ha : GoodL a) (hb : GoodL b) : GoodL (a ++ 32 :: b) := by
  obtain ⟨a', x, rfl, hx⟩ := good_split ha.ne
  obtain ⟨y, b', rfl⟩ := List.exists_cons_of_ne_nil hb.ne
  have h1 := ha.lst x hx
  have h2 := hb.fst y rfl
  refine ⟨by simp, fun c hc => ?_, fun c hc => ?_, ?_, fun c hc => ?_, fun d hd => ?_⟩
  · refine ha.fst c ?_
    cases a' with
    | nil => simpa using hc
    | cons e a' => simpa using hc
  · refine hb.lst c ?_
    rw [← hc, List.getLast?_append]
    rw [List.getLast?_cons_cons, List.getLast?_eq_some_getLast (by simp)]
    rfl
  · rw [List.append_assoc]
    refine adjB_app ha.adj ?_ (nextOk_ne h1 (by decide))
    show (nextOk 32 y && adjB (y :: b')) = true
    rw [hb.adj, Bool.and_true]
    unfold nextOk
    simp [h2.1, h2.2]
  · rcases List.mem_append.1 hc with hc | hc
    · exact ha.byt c hc
    · rcases List.mem_cons.1 hc with rfl | hc
      · rfl
      · exact hb.byt c hc
  · rw [runP_app, ha.run d hd]
    simp only [Option.bind_some, runP]
    rw [show dl 32 = 0 by rfl, if_neg (by omega), Int.add_zero]
    exact hb.run d hd
theorem good_paren {a : List UInt8} (ha : GoodL a) : GoodL ([40] ++ a ++ [41]) := by
  obtain ⟨y, b, hb⟩ := List.exists_cons_of_ne_nil ha.ne
  obtain ⟨a', x, e, hx⟩ := good_split ha.ne
  have h1 := ha.lst x hx
  have h2 := ha.fst y (by rw [hb]; rfl)
  refine ⟨by simp, fun c hc => ?_, fun c hc => ?_, ?_, fun c hc => ?_, fun d hd => ?_⟩
  · obtain rfl : (40 : UInt8) = c := by simpa using hc
    decide
  · rw [List.getLast?_append] at hc
    obtain rfl : (41 : UInt8) = c := by simpa using hc
    decide
  · have h3 : adjB (a ++ [41]) = true := by
      rw [e, List.append_assoc]
      refine adjB_app (by rw [← e]; exact ha.adj) rfl ?_
      unfold nextOk; simp [h1.1, h1.2]
    rw [List.append_assoc]
    show adjB (40 :: (a ++ [41])) = true
    rw [hb] at h3 ⊢
    show (nextOk 40 y && adjB (y :: b ++ [41])) = true
    rw [h3, Bool.and_true]
    unfold nextOk; simp [h2.1, h2.2]
  · rcases List.mem_append.1 hc with hc | hc
    · rcases List.mem_append.1 hc with hc | hc
      · obtain rfl : c = 40 := by simpa using hc
        rfl
      · exact ha.byt c hc
    · obtain rfl : c = 41 := by simpa using hc
      rfl
  · rw [runP_app, runP_app]
    simp only [runP, Option.bind_some]
    rw [show dl 40 = 1 by rfl, if_neg (by omega)]
    simp only [Option.bind_some]
    rw [ha.run (d + 1) (by omega)]
    simp only [Option.bind_some, runP]
    rw [show dl 41 = -1 by rfl, if_neg (by omega)]
    congr 1
    omega
/-- What follows: so many good texts, a blank ahead of each. -/
inductive TailL : List UInt8 → Prop
  | nil : TailL []
  | cons {a l : List UInt8} : GoodL a → TailL l → TailL (32 :: a ++ l)
theorem tail_app {a b : List UInt8} (ha : TailL a) (hb : TailL b) : TailL (a ++ b) := by
  induction ha with
  | nil => exact hb
  | cons h _ ih => rw [List.append_assoc]; exact .cons h ih
theorem good_tail {b : List UInt8} (hb : TailL b) : ∀ {a : List UInt8}, GoodL a → GoodL (a ++ b) := by
  induction hb with
  | nil => intro a ha; simpa using ha
  | cons h _ ih =>
    intro a ha
    rw [← List.append_assoc]
    exact ih (good_sp ha h)
/-- A word. -/
def WordB (s : ByteArray) : Prop := s.data.toList ≠ [] ∧ ∀ c ∈ s.data.toList, wrdB c = true
theorem WordB.good {s : ByteArray} (h : WordB s) : GoodL s.data.toList := good_word h.1 h.2
theorem WordB.tail {s : ByteArray} (h : WordB s) : TailL (wordL s) := by
  have := TailL.cons h.good .nil
  rwa [List.append_nil] at this
theorem digit_wrd (d : Nat) (h : d < 10) : wrdB (UInt8.ofNat (48 + d)) = true := by
  rcases (by omega : d = 0 ∨ d = 1 ∨ d = 2 ∨ d = 3 ∨ d = 4 ∨ d = 5 ∨ d = 6 ∨ d = 7 ∨ d = 8 ∨ d = 9) with rfl | rfl | rfl | rfl | rfl | rfl | rfl | rfl | rfl | rfl <;> decide +kernel
theorem digits_wrd (n : Nat) : Lib.decDigits n ≠ [] ∧ ∀ c ∈ Lib.decDigits n, wrdB c = true := by
  induction n using Nat.strongRecOn with
  | ind n ih =>
    rw [Lib.decDigits]
    split
    · rename_i h
      refine ⟨by simp, fun c hc => ?_⟩
      obtain rfl := List.mem_singleton.1 hc
      exact digit_wrd n h
    · refine ⟨by simp, fun c hc => ?_⟩
      rcases List.mem_append.1 hc with hc | hc
      · exact (ih (n / 10) (by omega)).2 c hc
      · obtain rfl := List.mem_singleton.1 hc
        exact digit_wrd _ (by omega)
theorem nameN_word (k : Nat) : WordB (nameN k) := by
  refine ⟨by simp [nameN], fun c hc => ?_⟩
  have : (nameN k).data.toList = 120 :: Lib.decDigits k := by simp [nameN]
  rw [this] at hc
  rcases List.mem_cons.1 hc with rfl | hc
  · decide +kernel
  · exact (digits_wrd k).2 c hc
theorem headB_word {k : Nat} (h1 : 2 ≤ k) (h2 : k < 30) : WordB (headB k) := by
  have h : ∀ k : Nat, k < 28 → (headB (k + 2)).data.toList ≠ [] ∧ ((headB (k + 2)).data.toList.all fun c => wrdB c) = true := by decide +kernel
  obtain ⟨k', rfl⟩ : ∃ k', k = k' + 2 := ⟨k - 2, by omega⟩
  have := h k' (by omega)
  exact ⟨this.1, List.all_eq_true.1 this.2⟩
theorem wordsB_word {x : Nd} (hx : rightB x = true) (h0 : x.k ≠ 0) (h1 : x.k ≠ 1) : WordB (wordsB x) := by
  have hk := rightB_k hx
  have hw := headB_word (k := x.k.toNat) (by omega) (by omega)
  unfold wordsB
  split
  · refine ⟨by simp [(digits_wrd x.n.toNat).1], fun c hc => ?_⟩
    have : ((⟨(headB x.k.toNat).data ++ (Lib.decDigits x.n.toNat).toArray⟩ : ByteArray)).data.toList = (headB x.k.toNat).data.toList ++ Lib.decDigits x.n.toNat := by simp
    rw [this] at hc
    rcases List.mem_append.1 hc with hc | hc
    · exact hw.2 c hc
    · exact (digits_wrd _).2 c hc
  · exact hw
theorem nameFrom_wrd : ∀ (l : List UInt8) (i : Nat), nameFrom i l = true → ∀ c ∈ l, wrdB c = true
  | [], i, _, c, hc => by simp at hc
  | a :: l, i, h, c, hc => by
    simp only [nameFrom, Bool.and_eq_true] at h
    rcases List.mem_cons.1 hc with rfl | hc
    · have := h.1
      unfold okB at this
      unfold wrdB
      cases hl : ltrB c
      · rw [hl] at this; simp at this; simp [this.2]
      · rfl
    · exact nameFrom_wrd l _ h.2 c hc
theorem nameB_word {s : ByteArray} (h : nameB s = true) : WordB s := by
  unfold nameB at h
  simp only [Bool.and_eq_true, decide_eq_true_eq] at h
  refine ⟨fun e => ?_, nameFrom_wrd _ _ h.1⟩
  have e2 : s.data.toList.length = s.size := by rw [Array.length_toList]; rfl
  rw [e] at e2
  exact h.2.1 e2.symm
/-- A node's name is one, where it is not empty. -/
theorem rightB_name {x : Nd} (h : rightB x = true) : (x.s.toList = [] ∧ fS x.k.toNat = false) ∨ (nameB x.s = true ∧ fS x.k.toNat = true) := by
  unfold rightB at h
  split at h
  · cases h
  · split at h
    · cases h
    · split at h
      · cases h
      · split at h
        · cases h
        · rename_i h3
          split at h
          · cases h
          · rename_i h4
            cases hf : fS x.k.toNat
            · left
              simp [hf] at h3
              refine ⟨?_, rfl⟩
              rw [ByteArray.toList_eq]
              have e2 : x.s.data.toList.length = x.s.size := by rw [Array.length_toList]; rfl
              rw [h3] at e2 ⊢
              rfl
            · right
              simp [hf] at h4
              exact ⟨h4, rfl⟩
theorem names_tail : ∀ {l : List ByteArray}, (∀ s ∈ l, WordB s) → TailL (namesL l)
  | [], _ => .nil
  | x :: l, h => tail_app (h x (List.mem_cons_self ..)).tail (names_tail fun s hs => h s (List.mem_cons_of_mem _ hs))
theorem bindN_word (av : List ByteArray) : ∀ (n : Nat) (st : List ByteArray), ∀ s ∈ bindN av st n, WordB s
  | 0, st, s, hs => by simp [bindN] at hs
  | n + 1, st, s, hs => by
    rw [bindN] at hs
    rcases List.mem_cons.1 hs with rfl | hs
    · exact nameN_word _
    · exact bindN_word av n _ s hs
theorem sayT_good (av : List ByteArray) (T : Tm) : okT T → ∀ st : List ByteArray, (∀ s ∈ st, WordB s) → inT T st.length → GoodL (sayT av T st) := by
  induction T using Tm.rec (motive_2 := fun l => okTs l → ∀ (bs : List Nat) (st : List ByteArray) (f : Bool), (∀ s ∈ st, WordB s) → inTs l bs st.length → TailL (sayTs av l bs st f)) with
  | mk x l ih =>
    rintro ⟨hx, hl, hls⟩ st hst hin
    unfold sayT
    unfold inT at hin
    split
    · rename_i hk
      rw [if_pos hk] at hin
      have h0 : x.n.toNat < st.length := by
        have := (rightB_n hx).1
        omega
      have hlt : st.length - 1 - x.n.toNat < st.length := by omega
      rw [List.getD_eq_getElem?_getD, List.getElem?_eq_getElem hlt]
      exact (hst _ (List.getElem_mem hlt)).good
    rename_i h0
    rw [if_neg h0] at hin
    split
    · rename_i h1
      rcases rightB_name hx with ⟨_, h⟩ | ⟨h, _⟩
      · rw [h1] at h; cases h
      · exact (nameB_word h).good
    rename_i h1
    have hw := wordsB_word hx h0 h1
    split
    · exact hw.good
    split
    · rename_i h2
      split
      · exact good_word (by simp) (by decide +kernel)
      · have hd := digits_wrd x.n.toNat
        have := good_paren (good_sp (good_word (l := [84, 121, 112, 101]) (by simp) (by decide +kernel)) (good_word hd.1 hd.2))
        simpa using this
    · have h2 : TailL ((if x.s.toList == [] then [] else wordL x.s) ++ (if x.k = 26 then 32 :: Lib.decDigits x.n.toNat else []) ++ (if firstK x then wordL (nameN (freshN (av ++ st) st.length)) else []) ++ sayTs av l (binds x) st (firstK x)) := by
        refine tail_app (tail_app (tail_app ?_ ?_) ?_) (ih hls _ st _ hst hin)
        · rcases rightB_name hx with ⟨h, _⟩ | ⟨h, _⟩
          · rw [h]; exact .nil
          · split
            · exact .nil
            · exact (nameB_word h).tail
        · split
          · have hd := digits_wrd x.n.toNat
            have := TailL.cons (good_word hd.1 hd.2) .nil
            rwa [List.append_nil] at this
          · exact .nil
        · split
          · exact (nameN_word _).tail
          · exact .nil
      have := good_paren (good_tail h2 hw.good)
      unfold headL
      simpa [List.append_assoc] using this
  | nil => rename_i hh bs st f hst hin; exact .nil
  | cons a l iha ihl =>
    rename_i hh bs st f hst hin
    unfold sayTs
    have hb := bindN_word av (bs.headD 0) st
    have h1 := iha hh.1 (st ++ bindN av st (bs.headD 0)) (fun s hs => by
      rcases List.mem_append.1 hs with hs | hs
      · exact hst s hs
      · exact hb s hs) (by rw [List.length_append, bindN_len]; exact hin.1)
    have h2 := ihl hh.2 bs.tail st f hst hin.2
    refine tail_app (a := (if f then [] else namesL (bindN av st (bs.headD 0))) ++ 32 :: sayT av a (st ++ bindN av st (bs.headD 0))) (tail_app ?_ ?_) h2
    · split
      · exact .nil
      · exact names_tail hb
    · have := TailL.cons h1 .nil
      rwa [List.append_nil] at this
end Go.Lx

/- Terms that say the same are the same, where no constant is called like a word that stands alone. -/
namespace Go.Lx

/-- No word goes on. -/
def StopL (r : List UInt8) : Prop := ∀ c, r.head? = some c → wrdB c = false
theorem word_eq : ∀ {a b r r' : List UInt8}, (∀ c ∈ a, wrdB c = true) → (∀ c ∈ b, wrdB c = true) → StopL r → StopL r' → a ++ r = b ++ r' → a = b ∧ r = r'
  | [], [], r, r', _, _, _, _, h => ⟨rfl, h⟩
  | [], y :: b, r, r', _, hb, hr, _, h => by
    have h1 := hr y (by rw [show r = y :: (b ++ r') from h]; rfl)
    rw [hb y (List.mem_cons_self ..)] at h1
    cases h1
  | x :: a, [], r, r', ha, _, _, hr', h => by
    have h1 := hr' x (by rw [show r' = x :: (a ++ r) from h.symm]; rfl)
    rw [ha x (List.mem_cons_self ..)] at h1
    cases h1
  | x :: a, y :: b, r, r', ha, hb, hr, hr', h => by
    simp only [List.cons_append, List.cons.injEq] at h
    obtain ⟨h1, h2⟩ := word_eq (fun c hc => ha c (List.mem_cons_of_mem _ hc)) (fun c hc => hb c (List.mem_cons_of_mem _ hc)) hr hr' h.2
    exact ⟨by rw [h.1, h1], h2⟩
theorem stop_nil : StopL [] := fun c h => by cases h
theorem stop_sp (r : List UInt8) : StopL (32 :: r) := fun c h => by cases h; decide +kernel
theorem stop_cl (r : List UInt8) : StopL (41 :: r) := fun c h => by cases h; decide +kernel
theorem bytes_ext {a b : ByteArray} (h : a.data.toList = b.data.toList) : a = b := by
  obtain ⟨⟨a⟩⟩ := a
  obtain ⟨⟨b⟩⟩ := b
  simp only at h
  rw [h]
/-- Words that stand alone. -/
def leafS : List (List UInt8) := [[80, 114, 111, 112], [78, 97, 116], [122, 101, 114, 111], [69, 109, 112, 116, 121], [85, 110, 105, 116], [115, 116, 97, 114], [116, 105, 99, 107]]
theorem amongB_iff {ss : List ByteArray} {s : ByteArray} : amongB ss s = true ↔ s ∈ ss := by
  unfold amongB
  rw [List.any_eq_true]
  constructor
  · rintro ⟨x, hx, he⟩
    rw [ByteArray.toList_eq, ByteArray.toList_eq] at he
    have e : x = s := bytes_ext (by simpa using he)
    exact e ▸ hx
  · intro h
    exact ⟨s, h, by simp⟩
/-- What stands around: names of the printer's own, unlike, none of which is to be avoided. -/
structure StOk (av av' st : List ByteArray) : Prop where
  own : ∀ s ∈ st, ∃ k, s = nameN k
  nod : st.Nodup
  out : ∀ s ∈ st, s ∉ av
  out' : ∀ s ∈ st, s ∉ av'
theorem StOk.word {av av' st : List ByteArray} (h : StOk av av' st) : ∀ s ∈ st, WordB s := fun s hs => by
  obtain ⟨k, rfl⟩ := h.own s hs
  exact nameN_word k
theorem fresh_out (av st : List ByteArray) (d : Nat) : nameN (freshN (av ++ st) d) ∉ av ∧ nameN (freshN (av ++ st) d) ∉ st := by
  have h := (freshN_spec (av ++ st) d).2.2.1
  have : nameN (freshN (av ++ st) d) ∉ av ++ st := fun hm => by
    rw [amongB_iff.2 hm] at h
    cases h
  simpa using this
theorem StOk.snoc {av av' st : List ByteArray} (h : StOk av av' st) {s : ByteArray} (h1 : s = nameN (freshN (av ++ st) st.length)) (h2 : s = nameN (freshN (av' ++ st) st.length)) : StOk av av' (st ++ [s]) := by
  have f1 := fresh_out av st st.length
  have f2 := fresh_out av' st st.length
  rw [← h1] at f1
  rw [← h2] at f2
  refine ⟨fun x hx => ?_, ?_, fun x hx => ?_, fun x hx => ?_⟩
  · rcases List.mem_append.1 hx with hx | hx
    · exact h.own x hx
    · exact ⟨_, (List.mem_singleton.1 hx).trans h1⟩
  · rw [List.nodup_append]
    refine ⟨h.nod, by simp, fun a ha b hb => ?_⟩
    obtain rfl := List.mem_singleton.1 hb
    rintro rfl
    exact f1.2 ha
  · rcases List.mem_append.1 hx with hx | hx
    · exact h.out x hx
    · rw [List.mem_singleton.1 hx]; exact f1.1
  · rcases List.mem_append.1 hx with hx | hx
    · exact h.out' x hx
    · rw [List.mem_singleton.1 hx]; exact f2.1
/-- The names of so many binders, read. -/
theorem names_eq {av av' : List ByteArray} : ∀ (n : Nat) {st : List ByteArray} {r r' : List UInt8}, StOk av av' st → namesL (bindN av st n) ++ 32 :: r = namesL (bindN av' st n) ++ 32 :: r' →
    bindN av st n = bindN av' st n ∧ r = r' ∧ StOk av av' (st ++ bindN av st n)
  | 0, st, r, r', hs, h => by
    simp only [bindN, namesL, List.nil_append, List.cons.injEq, true_and] at h
    exact ⟨rfl, h, by simpa [bindN] using hs⟩
  | n + 1, st, r, r', hs, h => by
    simp only [bindN, namesL, wordL, List.cons_append, List.cons.injEq, true_and, List.append_assoc] at h
    have stops : ∀ (l : List ByteArray) (q : List UInt8), StopL (namesL l ++ 32 :: q) := fun l q => by
      cases l with
      | nil => exact stop_sp q
      | cons x l => exact stop_sp _
    obtain ⟨h1, h2⟩ := word_eq (nameN_word _).2 (nameN_word _).2 (stops _ _) (stops _ _) h
    have e := bytes_ext h1
    have hs' := hs.snoc rfl e
    rw [← e] at h2
    obtain ⟨g1, g2, g3⟩ := names_eq n hs' h2
    simp only [bindN]
    rw [← e, ← g1]
    exact ⟨rfl, g2, by simpa [List.append_assoc] using g3⟩
theorem dec_small {n : Nat} (h : n < 10) : Lib.decDigits n = [UInt8.ofNat (48 + n)] := by rw [Lib.decDigits, dif_pos h]
def wordF (k n : Nat) : List UInt8 := if (k == 3 || k == 6) && decide (0 < n) then (headB k).data.toList ++ [UInt8.ofNat (48 + n)] else (headB k).data.toList
theorem rightB_pi {x : Nd} (h : rightB x = true) (hk : x.k = 3 ∨ x.k = 6) : 0 ≤ x.n ∧ x.n ≤ 3 := by
  unfold rightB at h
  rcases hk with hk | hk <;> simp [hk, fN, fM, fS, mostN] at h <;> omega
theorem wordsB_F {x : Nd} (h : rightB x = true) : (wordsB x).data.toList = wordF x.k.toNat x.n.toNat := by
  have hk := rightB_k h
  unfold wordsB wordF
  by_cases h3 : x.k = 3 ∨ x.k = 6
  · have hn := rightB_pi h h3
    by_cases h0 : 0 < x.n
    · have e : ((x.k.toNat == 3 || x.k.toNat == 6) && decide (0 < x.n.toNat)) = true := by
        rcases h3 with h3 | h3 <;> simp [h3] <;> omega
      rw [if_pos ⟨h3, h0⟩, e, if_pos rfl, dec_small (by omega)]
      simp
    · have e : ((x.k.toNat == 3 || x.k.toNat == 6) && decide (0 < x.n.toNat)) = false := by
        have : x.n.toNat = 0 := by omega
        simp [this]
      rw [if_neg (fun h => h0 h.2), e]
      rfl
  · have e : ((x.k.toNat == 3 || x.k.toNat == 6) && decide (0 < x.n.toNat)) = false := by
      have h1 : (x.k.toNat == 3) = false := by simp; omega
      have h2 : (x.k.toNat == 6) = false := by simp; omega
      rw [h1, h2]; rfl
    rw [if_neg (fun h => h3 h.1), e]
    rfl
theorem wordF_injF : ∀ k : Fin 28, ∀ n : Fin 4, ∀ k' : Fin 28, ∀ n' : Fin 4, wordF (k.val + 2) n.val = wordF (k'.val + 2) n'.val → k.val = k'.val ∧ ((k.val = 1 ∨ k.val = 4) → n.val = n'.val) := by decide +kernel
theorem wordF_inj (k : Nat) (hk : k < 28) (n : Nat) (hn : n < 4) (k' : Nat) (hk' : k' < 28) (n' : Nat) (hn' : n' < 4) (h : wordF (k + 2) n = wordF (k' + 2) n') : k = k' ∧ ((k = 1 ∨ k = 4) → n = n') := wordF_injF ⟨k, hk⟩ ⟨n, hn⟩ ⟨k', hk'⟩ ⟨n', hn'⟩ h
theorem wordF_big {k n : Nat} (h : ¬ (k = 3 ∨ k = 6)) : wordF k n = wordF k 0 := by
  unfold wordF
  have : (k == 3 || k == 6) = false := by simpa using h
  rw [this]
  rfl
/-- A word says its kind, and a binder's number. -/
theorem words_eq {x y : Nd} (hx : rightB x = true) (hy : rightB y = true) (hx2 : 2 ≤ x.k) (hy2 : 2 ≤ y.k) (h : (wordsB x).data.toList = (wordsB y).data.toList) : x.k = y.k ∧ ((x.k = 3 ∨ x.k = 6) → x.n = y.n) := by
  rw [wordsB_F hx, wordsB_F hy] at h
  have kx := rightB_k hx
  have ky := rightB_k hy
  obtain ⟨nx, hnx, h1, e1⟩ : ∃ n, n < 4 ∧ wordF x.k.toNat x.n.toNat = wordF (x.k.toNat - 2 + 2) n ∧ ((x.k = 3 ∨ x.k = 6) → n = x.n.toNat) := by
    rw [show x.k.toNat - 2 + 2 = x.k.toNat by omega]
    by_cases h3 : x.k = 3 ∨ x.k = 6
    · have := rightB_pi hx h3
      exact ⟨x.n.toNat, by omega, rfl, fun _ => rfl⟩
    · exact ⟨0, by omega, wordF_big (by omega), fun h => absurd h h3⟩
  obtain ⟨ny, hny, h2, e2⟩ : ∃ n, n < 4 ∧ wordF y.k.toNat y.n.toNat = wordF (y.k.toNat - 2 + 2) n ∧ ((y.k = 3 ∨ y.k = 6) → n = y.n.toNat) := by
    rw [show y.k.toNat - 2 + 2 = y.k.toNat by omega]
    by_cases h3 : y.k = 3 ∨ y.k = 6
    · have := rightB_pi hy h3
      exact ⟨y.n.toNat, by omega, rfl, fun _ => rfl⟩
    · exact ⟨0, by omega, wordF_big (by omega), fun h => absurd h h3⟩
  rw [h1, h2] at h
  obtain ⟨g1, g2⟩ := wordF_inj _ (by omega) _ hnx _ (by omega) _ hny h
  have hk : x.k = y.k := by omega
  refine ⟨hk, fun h3 => ?_⟩
  have := g2 (by omega)
  have e1' := e1 h3
  have e2' := e2 (by rw [← hk]; exact h3)
  have p1 := rightB_pi hx h3
  have p2 := rightB_pi hy (by rw [← hk]; exact h3)
  omega
theorem rightB_zero {x : Nd} (h : rightB x = true) : (fN x.k.toNat = false → x.n = 0) ∧ (fM x.k.toNat = false → x.m = 0) ∧ (fS x.k.toNat = false → x.s = ⟨#[]⟩) := by
  have hs := rightB_name h
  unfold rightB at h
  split at h
  · cases h
  · split at h
    · cases h
    · rename_i h1
      split at h
      · cases h
      · rename_i h2
        refine ⟨fun hf => ?_, fun hf => ?_, fun hf => ?_⟩
        · apply Decidable.byContradiction; intro hn; exact h1 ⟨hf, hn⟩
        · apply Decidable.byContradiction; intro hn; exact h2 ⟨hf, hn⟩
        · rcases hs with ⟨h, _⟩ | ⟨_, h⟩
          · rw [ByteArray.toList_eq] at h
            exact bytes_ext h
          · rw [hf] at h; cases h
theorem nd_eq {x y : Nd} (hx : rightB x = true) (hy : rightB y = true) (hk : x.k = y.k) (hn : fN x.k.toNat = true → x.n = y.n) (hm : fM x.k.toNat = true → x.m = y.m) (hs : fS x.k.toNat = true → x.s = y.s) : x = y := by
  obtain ⟨a1, a2, a3⟩ := rightB_zero hx
  obtain ⟨b1, b2, b3⟩ := rightB_zero hy
  rw [← hk] at b1 b2 b3
  have en : x.n = y.n := by cases hf : fN x.k.toNat with | true => exact hn hf | false => rw [a1 hf, b1 hf]
  have em : x.m = y.m := by cases hf : fM x.k.toNat with | true => exact hm hf | false => rw [a2 hf, b2 hf]
  have es : x.s = y.s := by cases hf : fS x.k.toNat with | true => exact hs hf | false => rw [a3 hf, b3 hf]
  cases x; cases y
  simp only at *
  subst hk en em es
  rfl
/-- The constants of a term: their names are to be avoided, and are no words that stand alone. -/
def ConOk (av : List ByteArray) (t : List Nd) : Prop := ∀ x ∈ t, x.k = 1 → x.s ∈ av ∧ x.s.data.toList ∉ leafS
theorem leaf_first {l : List UInt8} (h : l ∈ leafS) : ∃ c r, l = c :: r ∧ c ≠ 120 ∧ c ≠ 40 ∧ ∀ c ∈ l, wrdB c = true := by
  have : ∀ l ∈ leafS, (∃ c r, l = c :: r ∧ c ≠ 120 ∧ c ≠ 40) ∧ (l.all fun c => wrdB c) = true := by
    intro l hl
    simp only [leafS, List.mem_cons, List.not_mem_nil, or_false] at hl
    rcases hl with rfl | rfl | rfl | rfl | rfl | rfl | rfl <;> exact ⟨⟨_, _, rfl, by decide, by decide⟩, by decide +kernel⟩
  obtain ⟨⟨c, r, h1, h2, h3⟩, h4⟩ := this l h
  exact ⟨c, r, h1, h2, h3, List.all_eq_true.1 h4⟩
/-- What stands alone: a variable, a constant, a word. -/
inductive Atom (av st : List ByteArray) : Tm → List UInt8 → Prop
  | var (x : Nd) (i : Nat) (h : x.k = 0) (hi : i < st.length) (e : x.n = ((st.length - 1 - i : Nat) : Int)) : Atom av st (.mk x []) (st[i].data.toList)
  | con (x : Nd) (h : x.k = 1) (hw : WordB x.s) : Atom av st (.mk x []) (x.s.data.toList)
  | leaf (x : Nd) (l : List UInt8) (h : l ∈ leafS) (hk : l = if x.k = 2 then [80, 114, 111, 112] else (headB x.k.toNat).data.toList) (h2 : (x.k = 2 ∧ x.n = 0) ∨ plainK x = true) : Atom av st (.mk x []) l
theorem Atom.word {av av' st : List ByteArray} (hs : StOk av av' st) {T : Tm} {l : List UInt8} (h : Atom av st T l) : l ≠ [] ∧ ∀ c ∈ l, wrdB c = true := by
  cases h with
  | var x i h hi e => exact hs.word _ (List.getElem_mem hi)
  | con x h hw => exact hw
  | leaf x l h hk h2 =>
    obtain ⟨c, r, rfl, _, _, hw⟩ := leaf_first h
    exact ⟨by simp, hw⟩
theorem nodup_idx {α : Type} {l : List α} (h : l.Nodup) {i j : Nat} (hi : i < l.length) (hj : j < l.length) (e : l[i] = l[j]) : i = j := by
  rcases Nat.lt_trichotomy i j with hlt | rfl | hlt
  · exact absurd e ((List.pairwise_iff_getElem.1 h) i j hi hj hlt)
  · rfl
  · exact absurd e.symm ((List.pairwise_iff_getElem.1 h) j i hj hi hlt)
theorem atom_eq {av av' st : List ByteArray} (hs : StOk av av' st) {T U : Tm} {l : List UInt8} (hT : okT T) (hU : okT U) (cT : ConOk av (flat T)) (cU : ConOk av' (flat U)) (h : Atom av st T l) (h' : Atom av' st U l) : T = U := by
  generalize hl : l = l' at h'
  have own : ∀ {i : Nat} (hi : i < st.length) {m : List UInt8}, m ∈ leafS → st[i].data.toList ≠ m := fun hi m hm e => by
    obtain ⟨k, hk⟩ := hs.own _ (List.getElem_mem hi)
    obtain ⟨c, r, hm', h1, _⟩ := leaf_first hm
    rw [hk, hm'] at e
    simp only [nameN] at e
    simp at e
    exact h1 e.1.symm
  cases h with
  | var x i hk hi e =>
    cases h' with
    | var y j hk' hj e' =>
      have hij := nodup_idx hs.nod hi hj (bytes_ext hl)
      subst hij
      rw [nd_eq hT.1 hU.1 (by rw [hk, hk']) (fun _ => by rw [e, e']) (fun h => by rw [hk] at h; cases h) (fun h => by rw [hk] at h; cases h)]
    | con y hk' hw =>
      have := (cU y (by simp [flat, flats]) hk').1
      rw [← bytes_ext hl] at this
      exact absurd this (hs.out' _ (List.getElem_mem hi))
    | leaf y _ hm _ _ => exact absurd hl (own hi hm)
  | con x hk hw =>
    cases h' with
    | var y j hk' hj e' =>
      have := (cT x (by simp [flat, flats]) hk).1
      rw [bytes_ext hl] at this
      exact absurd this (hs.out _ (List.getElem_mem hj))
    | con y hk' hw' => rw [nd_eq hT.1 hU.1 (by rw [hk, hk']) (fun h => by rw [hk] at h; cases h) (fun h => by rw [hk] at h; cases h) (fun _ => bytes_ext hl)]
    | leaf y _ hm _ _ =>
      have := (cT x (by simp [flat, flats]) hk).2
      rw [hl] at this
      exact absurd hm this
  | leaf x _ hm hk h2 =>
    cases h' with
    | var y j hk' hj e' => exact absurd hl.symm (own hj hm)
    | con y hk' hw =>
      have := (cU y (by simp [flat, flats]) hk').2
      rw [← hl] at this
      exact absurd hm this
    | leaf y _ hm' hk' h2' =>
      have h6 : ∀ z : Nd, plainK z = true → z.k = 10 ∨ z.k = 11 ∨ z.k = 14 ∨ z.k = 16 ∨ z.k = 17 ∨ z.k = 29 := fun z hz => by simpa [plainK, or_assoc] using hz
      have hkk : x.k = y.k := by
        obtain ⟨kx, nx, mx, sx⟩ := x
        obtain ⟨ky, ny, my, sy⟩ := y
        simp only at *
        have p2 : kx = 2 ∨ kx = 10 ∨ kx = 11 ∨ kx = 14 ∨ kx = 16 ∨ kx = 17 ∨ kx = 29 := by
          rcases h2 with ⟨h2, _⟩ | h2
          · exact .inl h2
          · exact .inr (h6 _ h2)
        have p2' : ky = 2 ∨ ky = 10 ∨ ky = 11 ∨ ky = 14 ∨ ky = 16 ∨ ky = 17 ∨ ky = 29 := by
          rcases h2' with ⟨h2, _⟩ | h2
          · exact .inl h2
          · exact .inr (h6 _ h2)
        rw [hk, hk'] at hl
        clear h2 h2' hk hk' hm hm' h6 cT cU hT hU
        rcases p2 with rfl | rfl | rfl | rfl | rfl | rfl | rfl <;> rcases p2' with rfl | rfl | rfl | rfl | rfl | rfl | rfl <;> first | rfl | exact absurd hl (by decide)
      rw [nd_eq hT.1 hU.1 hkk (fun hf => ?_) (fun hf => ?_) (fun hf => ?_)]
      · rcases h2 with ⟨h2, h3⟩ | h2
        · rcases h2' with ⟨_, h3'⟩ | h2'
          · rw [h3, h3']
          · exfalso; rcases h6 y h2' with h | h | h | h | h | h <;> omega
        · rcases h6 x h2 with h | h | h | h | h | h <;> rw [h] at hf <;> cases hf
      · rcases h2 with ⟨h2, h3⟩ | h2
        · rw [h2] at hf; cases hf
        · rcases h6 x h2 with h | h | h | h | h | h <;> rw [h] at hf <;> cases hf
      · rcases h2 with ⟨h2, h3⟩ | h2
        · rw [h2] at hf; cases hf
        · rcases h6 x h2 with h | h | h | h | h | h <;> rw [h] at hf <;> cases hf
theorem say_atom {av st : List ByteArray} {x : Nd} {l : List Tm} (hT : okT (.mk x l)) (hin : inT (.mk x l) st.length) (h : x.k = 0 ∨ x.k = 1 ∨ plainK x = true ∨ (x.k = 2 ∧ x.n = 0)) : Atom av st (.mk x l) (sayT av (.mk x l) st) := by
  have h6 : plainK x = true → x.k = 10 ∨ x.k = 11 ∨ x.k = 14 ∨ x.k = 16 ∨ x.k = 17 ∨ x.k = 29 := fun hz => by simpa [plainK, or_assoc] using hz
  have hl0 : l = [] := by
    have h1 := hT.2.1
    have : binds x = [] := by
      unfold binds
      rcases h with h | h | h | ⟨h, _⟩
      · simp [h, bindsOf]
      · simp [h, bindsOf]
      · rcases h6 h with h | h | h | h | h | h <;> simp [h, bindsOf]
      · simp [h, bindsOf]
    rw [this] at h1
    exact List.eq_nil_of_length_eq_zero h1
  subst hl0
  unfold sayT
  unfold inT at hin
  by_cases h0 : x.k = 0
  · rw [if_pos h0] at hin ⊢
    have hn := (rightB_n hT.1).1
    have hlt : st.length - 1 - x.n.toNat < st.length := by omega
    rw [List.getD_eq_getElem?_getD, List.getElem?_eq_getElem hlt]
    exact .var x _ h0 hlt (by omega)
  rw [if_neg h0]
  by_cases h1 : x.k = 1
  · rw [if_pos h1]
    refine .con x h1 ?_
    rcases rightB_name hT.1 with ⟨_, h⟩ | ⟨h, _⟩
    · rw [h1] at h; cases h
    · exact nameB_word h
  rw [if_neg h1]
  by_cases hp : plainK x = true
  · rw [if_pos hp]
    have e : (wordsB x).data.toList = (headB x.k.toNat).data.toList := by
      unfold wordsB
      rw [if_neg (by rcases h6 hp with h | h | h | h | h | h <;> omega)]
    rw [e]
    refine .leaf x _ ?_ ?_ (.inr hp)
    · rcases h6 hp with h | h | h | h | h | h <;> rw [h] <;> decide +kernel
    · rcases h6 hp with h | h | h | h | h | h <;> simp [h]
  · rw [if_neg hp]
    rcases h with h | h | h | ⟨h, hn⟩
    · exact absurd h h0
    · exact absurd h h1
    · exact absurd h hp
    · rw [if_pos h, if_pos hn]
      exact .leaf x _ (by decide) (by rw [if_pos h]) (.inl ⟨h, hn⟩)
theorem say_list {av st : List ByteArray} {x : Nd} {l : List Tm} (h : ¬ (x.k = 0 ∨ x.k = 1 ∨ plainK x = true ∨ (x.k = 2 ∧ x.n = 0))) :
    (x.k = 2 ∧ x.n ≠ 0 ∧ sayT av (.mk x l) st = 40 :: (wordsB x).data.toList ++ 32 :: Lib.decDigits x.n.toNat ++ [41]) ∨
    (x.k ≠ 2 ∧ sayT av (.mk x l) st = 40 :: (wordsB x).data.toList ++ ((if x.s.toList == [] then [] else wordL x.s) ++ ((if x.k = 26 then 32 :: Lib.decDigits x.n.toNat else []) ++ ((if firstK x then wordL (nameN (freshN (av ++ st) st.length)) else []) ++ (sayTs av l (binds x) st (firstK x) ++ [41]))))) := by
  simp only [not_or, not_and] at h
  obtain ⟨h0, h1, h2, h3⟩ := h
  unfold sayT
  rw [if_neg h0, if_neg h1, if_neg h2]
  by_cases hk : x.k = 2
  · left
    refine ⟨hk, h3 hk, ?_⟩
    rw [if_pos hk, if_neg (h3 hk)]
    have : (wordsB x).data.toList = [84, 121, 112, 101] := by
      unfold wordsB
      rw [if_neg (by omega), hk]
      rfl
    rw [this]
    simp
  · right
    refine ⟨hk, ?_⟩
    rw [if_neg hk]
    unfold headL
    simp [List.append_assoc]
theorem stop_rest {av st : List ByteArray} {l : List Tm} {bs : List Nat} {f : Bool} {r : List UInt8} : StopL (sayTs av l bs st f ++ 41 :: r) := by
  cases l with
  | nil => exact stop_cl r
  | cons a l =>
    unfold sayTs
    split
    · simp only [List.nil_append, List.cons_append]
      exact stop_sp _
    · cases bindN av st (bs.headD 0) with
      | nil => simp only [namesL, List.nil_append, List.cons_append]; exact stop_sp _
      | cons y q => simp only [namesL, wordL, List.cons_append]; exact stop_sp _
theorem stop_if {c : Bool} {w : List UInt8} {r : List UInt8} (h : StopL r) : StopL ((if c then 32 :: w else []) ++ r) := by
  cases c
  · simpa using h
  · simp only [if_pos, List.cons_append]; exact stop_sp _
end Go.Lx

/- Terms that say the same are the same: the induction. -/
namespace Go.Lx

theorem says_sp {av st : List ByteArray} {a : Tm} {l : List Tm} {bs : List Nat} {f : Bool} (z : List UInt8) : ∃ q, sayTs av (a :: l) bs st f ++ z = 32 :: q := by
  unfold sayTs
  split
  · exact ⟨_, rfl⟩
  · cases bindN av st (bs.headD 0) with
    | nil => exact ⟨_, rfl⟩
    | cons y q => exact ⟨_, rfl⟩
theorem binds_pref {x y : Nd} (h : x.k = y.k) (i : Nat) (hi : i < (binds x).length) (hj : i < (binds y).length) : (binds x)[i]? = (binds y)[i]? := by
  unfold binds at *
  rw [← h] at hj ⊢
  split
  · rename_i h26
    rw [if_pos h26, List.length_replicate] at hi hj
    simp [hi, hj]
  · split
    · rename_i h26 h27
      rw [if_neg h26, if_pos h27, List.length_cons, List.length_replicate] at hi hj
      cases i with
      | zero => rfl
      | succ i => simp only [List.getElem?_cons_succ, List.getElem?_replicate]; rw [if_pos (by omega), if_pos (by omega)]
    · rfl
theorem first_binds {x : Nd} (h : firstK x = true) : ∀ b ∈ binds x, b ≤ 1 := by
  have : x.k = 3 ∨ x.k = 6 ∨ x.k = 4 := by simpa [firstK, or_assoc] using h
  unfold binds
  rcases this with h | h | h <;> simp [h, bindsOf]
theorem conOk_app {av : List ByteArray} {a b : List Nd} (h : ConOk av (a ++ b)) : ConOk av a ∧ ConOk av b := ⟨fun x hx => h x (List.mem_append_left _ hx), fun x hx => h x (List.mem_append_right _ hx)⟩
theorem say_inj {av av' : List ByteArray} (T : Tm) : okT T → ConOk av (flat T) → ∀ st, StOk av av' st → inT T st.length → ∀ U, okT U → ConOk av' (flat U) → inT U st.length → ∀ r r', StopL r → StopL r' → sayT av T st ++ r = sayT av' U st ++ r' → T = U ∧ r = r' := by
  induction T using Tm.rec (motive_2 := fun l => okTs l → ConOk av (flats l) → ∀ (bs : List Nat) st (f : Bool), StOk av av' st → inTs l bs st.length → l.length = bs.length → ∀ l' (bs' : List Nat), okTs l' → ConOk av' (flats l') → inTs l' bs' st.length → l'.length = bs'.length →
      (∀ i : Nat, i < bs.length → i < bs'.length → bs[i]? = bs'[i]?) → (f = true → (∀ b ∈ bs, b ≤ 1) ∧ nameN (freshN (av ++ st) st.length) = nameN (freshN (av' ++ st) st.length)) →
      ∀ r r', sayTs av l bs st f ++ 41 :: r = sayTs av' l' bs' st f ++ 41 :: r' → l = l' ∧ r = r') with
  | mk x l ih =>
    intro hT cT st hs iT U hU cU iU r r' hr hr' h
    obtain ⟨y, l'⟩ := U
    by_cases ax : x.k = 0 ∨ x.k = 1 ∨ plainK x = true ∨ (x.k = 2 ∧ x.n = 0)
    · have aT := say_atom (av := av) hT iT ax
      by_cases ay : y.k = 0 ∨ y.k = 1 ∨ plainK y = true ∨ (y.k = 2 ∧ y.n = 0)
      · have aU := say_atom (av := av') hU iU ay
        obtain ⟨h1, h2⟩ := word_eq (aT.word hs).2 (aU.word (av' := av) ⟨hs.own, hs.nod, hs.out', hs.out⟩).2 hr hr' h
        rw [← h1] at aU
        exact ⟨atom_eq hs hT hU cT cU aT aU, h2⟩
      · exfalso
        obtain ⟨c, q, hc⟩ := List.exists_cons_of_ne_nil (aT.word hs).1
        have hw := (aT.word hs).2 c (by rw [hc]; exact List.mem_cons_self ..)
        rw [hc] at h
        have : c = 40 := by
          rcases say_list (av := av') (st := st) (l := l') ay with ⟨_, _, e⟩ | ⟨_, e⟩ <;> rw [e] at h <;> simp only [List.cons_append, List.cons.injEq] at h <;> exact h.1
        rw [this] at hw
        exact absurd hw (by decide +kernel)
    · by_cases ay : y.k = 0 ∨ y.k = 1 ∨ plainK y = true ∨ (y.k = 2 ∧ y.n = 0)
      · exfalso
        have aU := say_atom (av := av') hU iU ay
        have hw' := aU.word (av' := av) ⟨hs.own, hs.nod, hs.out', hs.out⟩
        obtain ⟨c, q, hc⟩ := List.exists_cons_of_ne_nil hw'.1
        have hw := hw'.2 c (by rw [hc]; exact List.mem_cons_self ..)
        rw [hc] at h
        have : c = 40 := by
          rcases say_list (av := av) (st := st) (l := l) ax with ⟨_, _, e⟩ | ⟨_, e⟩ <;> rw [e] at h <;> simp only [List.cons_append, List.cons.injEq] at h <;> exact h.1.symm
        rw [this] at hw
        exact absurd hw (by decide +kernel)
      · have hx2 : 2 ≤ x.k := by have := rightB_k hT.1; simp only [not_or] at ax; omega
        have hy2 : 2 ≤ y.k := by have := rightB_k hU.1; simp only [not_or] at ay; omega
        have wx := wordsB_word hT.1 (by omega) (by omega)
        have wy := wordsB_word hU.1 (by omega) (by omega)
        have dx := digits_wrd x.n.toNat
        have dy := digits_wrd y.n.toNat
        have stR : ∀ (z : Nd) (a : List ByteArray) (m : List Tm) (q : List UInt8), StopL ((if z.s.toList == [] then [] else wordL z.s) ++ ((if z.k = 26 then 32 :: Lib.decDigits z.n.toNat else []) ++ ((if firstK z then wordL (nameN (freshN (a ++ st) st.length)) else []) ++ (sayTs a m (binds z) st (firstK z) ++ 41 :: q)))) := fun z a m q => by
          split
          · rw [List.nil_append]
            split
            · exact stop_sp _
            · rw [List.nil_append]
              split
              · exact stop_sp _
              · exact stop_rest
          · exact stop_sp _
        rcases say_list (av := av) (st := st) (l := l) ax with ⟨kx, nx, ex⟩ | ⟨kx, ex⟩ <;> rcases say_list (av := av') (st := st) (l := l') ay with ⟨ky, ny, ey⟩ | ⟨ky, ey⟩
        · rw [ex, ey] at h
          simp only [List.cons_append, List.cons.injEq, true_and, List.append_assoc, List.nil_append] at h
          obtain ⟨h1, h2⟩ := word_eq wx.2 wy.2 (stop_sp _) (stop_sp _) h
          simp only [List.cons.injEq, true_and] at h2
          obtain ⟨h3, h4⟩ := word_eq dx.2 dy.2 (stop_cl _) (stop_cl _) h2
          have hn := decDigits_inj h3
          have p1 := (rightB_n hT.1).1
          have p2 := (rightB_n hU.1).1
          have e := nd_eq hT.1 hU.1 (by rw [kx, ky]) (fun _ => by omega) (fun hf => by rw [kx] at hf; cases hf) (fun hf => by rw [kx] at hf; cases hf)
          subst e
          have l0 : ∀ m : List Tm, m.length = (binds x).length → m = [] := fun m hm => by
            have : binds x = [] := by simp [binds, kx, bindsOf]
            rw [this] at hm
            exact List.eq_nil_of_length_eq_zero hm
          rw [l0 l hT.2.1, l0 l' hU.2.1]
          simp only [List.cons.injEq, true_and] at h4
          exact ⟨rfl, h4⟩
        · exfalso
          rw [ex, ey] at h
          simp only [List.cons_append, List.cons.injEq, true_and, List.append_assoc, List.nil_append] at h
          have h1 := (words_eq hT.1 hU.1 hx2 hy2 (word_eq wx.2 wy.2 (stop_sp _) (stR y av' l' r') h).1).1
          omega
        · exfalso
          rw [ex, ey] at h
          simp only [List.cons_append, List.cons.injEq, true_and, List.append_assoc, List.nil_append] at h
          have h1 := (words_eq hT.1 hU.1 hx2 hy2 (word_eq wx.2 wy.2 (stR x av l r) (stop_sp _) h).1).1
          omega
        · rw [ex, ey] at h
          simp only [List.cons_append, List.cons.injEq, true_and, List.append_assoc, List.nil_append] at h
          obtain ⟨h1, h2⟩ := word_eq wx.2 wy.2 (stR x av l r) (stR y av' l' r') h
          obtain ⟨hk, hpi⟩ := words_eq hT.1 hU.1 hx2 hy2 h1
          have hfk : firstK y = firstK x := by unfold firstK; rw [hk]
          have st2 : ∀ (z : Nd) (a : List ByteArray) (m : List Tm) (q : List UInt8), StopL ((if z.k = 26 then 32 :: Lib.decDigits z.n.toNat else []) ++ ((if firstK z then wordL (nameN (freshN (a ++ st) st.length)) else []) ++ (sayTs a m (binds z) st (firstK z) ++ 41 :: q))) := fun z a m q => by
            split
            · exact stop_sp _
            · rw [List.nil_append]
              split
              · exact stop_sp _
              · exact stop_rest
          have st3 : ∀ (z : Nd) (a : List ByteArray) (m : List Tm) (q : List UInt8), StopL ((if firstK z then wordL (nameN (freshN (a ++ st) st.length)) else []) ++ (sayTs a m (binds z) st (firstK z) ++ 41 :: q)) := fun z a m q => by
            split
            · exact stop_sp _
            · exact stop_rest
          -- the name
          have h3 : (fS x.k.toNat = true → x.s = y.s) ∧ ((if x.k = 26 then 32 :: Lib.decDigits x.n.toNat else []) ++ ((if firstK x then wordL (nameN (freshN (av ++ st) st.length)) else []) ++ (sayTs av l (binds x) st (firstK x) ++ 41 :: r))) =
              ((if y.k = 26 then 32 :: Lib.decDigits y.n.toNat else []) ++ ((if firstK y then wordL (nameN (freshN (av' ++ st) st.length)) else []) ++ (sayTs av' l' (binds y) st (firstK y) ++ 41 :: r'))) := by
            have ne : ∀ {s : ByteArray}, nameB s = true → (s.toList == []) = false := fun {s} hs => by
              have := (nameB_word hs).1
              rw [ByteArray.toList_eq]
              simpa using this
            rcases rightB_name hT.1 with ⟨s1, f1⟩ | ⟨s1, f1⟩
            · rcases rightB_name hU.1 with ⟨s2, f2⟩ | ⟨s2, f2⟩
              · rw [s1, s2] at h2
                exact ⟨fun hf => (by rw [f1] at hf; cases hf), by simpa using h2⟩
              · rw [hk, f2] at f1; cases f1
            · rcases rightB_name hU.1 with ⟨s2, f2⟩ | ⟨s2, f2⟩
              · rw [hk, f2] at f1; cases f1
              · rw [ne s1, ne s2] at h2
                simp only [Bool.false_eq_true, if_false, wordL, List.cons_append, List.cons.injEq, true_and] at h2
                obtain ⟨g1, g2⟩ := word_eq (nameB_word s1).2 (nameB_word s2).2 (st2 x av l r) (st2 y av' l' r') h2
                exact ⟨fun _ => bytes_ext g1, g2⟩
          obtain ⟨hsx, h3⟩ := h3
          have h4 : (x.k = 26 → x.n = y.n) ∧ ((if firstK x then wordL (nameN (freshN (av ++ st) st.length)) else []) ++ (sayTs av l (binds x) st (firstK x) ++ 41 :: r)) =
              ((if firstK y then wordL (nameN (freshN (av' ++ st) st.length)) else []) ++ (sayTs av' l' (binds y) st (firstK y) ++ 41 :: r')) := by
            rw [← hk] at h3
            by_cases h26 : x.k = 26
            · rw [if_pos h26, if_pos h26] at h3
              simp only [List.cons_append, List.cons.injEq, true_and] at h3
              obtain ⟨g1, g2⟩ := word_eq dx.2 dy.2 (st3 x av l r) (st3 y av' l' r') h3
              have := decDigits_inj g1
              have p1 := (rightB_n hT.1).1
              have p2 := (rightB_n hU.1).1
              exact ⟨fun _ => by omega, g2⟩
            · rw [if_neg h26, if_neg h26] at h3
              exact ⟨fun h => absurd h h26, by simpa using h3⟩
          obtain ⟨hn26, h4⟩ := h4
          rw [hfk] at h4
          have h5 : (firstK x = true → nameN (freshN (av ++ st) st.length) = nameN (freshN (av' ++ st) st.length)) ∧ sayTs av l (binds x) st (firstK x) ++ 41 :: r = sayTs av' l' (binds y) st (firstK x) ++ 41 :: r' := by
            cases hf : firstK x
            · rw [hf] at h4
              exact ⟨fun h => Bool.noConfusion h, by simpa using h4⟩
            · rw [hf] at h4
              simp only [if_true, wordL, List.cons_append, List.cons.injEq, true_and] at h4
              obtain ⟨g1, g2⟩ := word_eq (nameN_word _).2 (nameN_word _).2 stop_rest stop_rest h4
              exact ⟨fun _ => bytes_ext g1, g2⟩
          obtain ⟨hfst, h5⟩ := h5
          have x0 : x.k ≠ 0 := by omega
          have y0 : y.k ≠ 0 := by omega
          unfold inT at iT iU
          rw [if_neg x0] at iT
          rw [if_neg y0] at iU
          have c1 := (conOk_app (b := [x]) (by rw [flat] at cT; exact cT)).1
          have c2 := (conOk_app (b := [y]) (by rw [flat] at cU; exact cU)).1
          obtain ⟨e1, e2⟩ := ih hT.2.2 c1 (binds x) st (firstK x) hs iT hT.2.1 l' (binds y) hU.2.2 c2 iU hU.2.1 (fun i h1 h2 => binds_pref hk i h1 h2) (fun hf => ⟨first_binds hf, hfst hf⟩) r r' h5
          subst e1
          have hlen : (binds x).length = (binds y).length := hT.2.1.symm.trans hU.2.1
          have e : x = y := nd_eq hT.1 hU.1 hk (fun hf => by
            by_cases h3 : x.k = 3 ∨ x.k = 6
            · exact hpi h3
            · by_cases h26 : x.k = 26
              · exact hn26 h26
              · exfalso
                have : x.k.toNat ≠ 0 ∧ x.k.toNat ≠ 2 ∧ x.k.toNat ≠ 3 ∧ x.k.toNat ≠ 6 ∧ x.k.toNat ≠ 26 := by omega
                simp [fN, this] at hf) (fun hf => by
            have hm : x.k = 26 ∨ x.k = 27 := by
              apply Decidable.byContradiction
              intro hn
              have : x.k.toNat ≠ 26 ∧ x.k.toNat ≠ 27 := by omega
              simp [fM, this] at hf
            have m1 := rightB_m hT.1 hm
            have m2 := rightB_m hU.1 (by rw [← hk]; exact hm)
            unfold binds at hlen
            rw [← hk] at hlen
            rcases hm with hm | hm
            · rw [if_pos hm, if_pos hm, List.length_replicate, List.length_replicate] at hlen
              omega
            · rw [if_neg (by omega), if_pos hm, if_neg (by omega), if_pos hm] at hlen
              simp only [List.length_cons, List.length_replicate] at hlen
              omega) hsx
          subst e
          exact ⟨rfl, e2⟩
  | nil =>
    rename_i hl cl bs st f hs il hb l' bs' hl' cl' il' hb' hp hf r r' h
    cases l' with
    | nil =>
      simp only [sayTs, List.nil_append, List.cons.injEq, true_and] at h
      exact ⟨rfl, h⟩
    | cons a' l' =>
      exfalso
      obtain ⟨q, hq⟩ := says_sp (av := av') (st := st) (a := a') (l := l') (bs := bs') (f := f) (41 :: r')
      rw [hq] at h
      simp [sayTs] at h
  | cons a l iha ihl =>
    rename_i hl cl bs st f hs il hb l' bs' hl' cl' il' hb' hp hf r r' h
    cases l' with
    | nil =>
      exfalso
      obtain ⟨q, hq⟩ := says_sp (av := av) (st := st) (a := a) (l := l) (bs := bs) (f := f) (41 :: r)
      rw [hq] at h
      simp [sayTs] at h
    | cons a' l' =>
      obtain ⟨b, bs, rfl⟩ : ∃ b q, bs = b :: q := by cases bs with | nil => simp at hb | cons b q => exact ⟨b, q, rfl⟩
      obtain ⟨b', bs', rfl⟩ : ∃ b q, bs' = b :: q := by cases bs' with | nil => simp at hb' | cons b q => exact ⟨b, q, rfl⟩
      have hbb : b = b' := by simpa using hp 0 (by simp) (by simp)
      subst hbb
      have c1 := conOk_app (by rw [flats] at cl; exact cl)
      have c2 := conOk_app (by rw [flats] at cl'; exact cl')
      simp only [sayTs, List.headD_cons, List.tail_cons, List.append_assoc, List.cons_append] at h
      simp only [inTs, List.headD_cons, List.tail_cons] at il il'
      have step : bindN av st b = bindN av' st b ∧ sayT av a (st ++ bindN av st b) ++ (sayTs av l bs st f ++ 41 :: r) = sayT av' a' (st ++ bindN av' st b) ++ (sayTs av' l' bs' st f ++ 41 :: r') ∧ StOk av av' (st ++ bindN av st b) := by
        cases f with
        | false =>
          simp only [Bool.false_eq_true, if_false] at h
          exact names_eq b hs h
        | true =>
          simp only [if_true, List.nil_append, List.cons.injEq, true_and] at h
          obtain ⟨h1, h2⟩ := hf rfl
          have hb1 := h1 b (List.mem_cons_self ..)
          rcases (by omega : b = 0 ∨ b = 1) with rfl | rfl
          · exact ⟨rfl, h, by simpa [bindN] using hs⟩
          · refine ⟨by simp only [bindN]; rw [h2], h, ?_⟩
            simp only [bindN]
            exact hs.snoc rfl h2
      obtain ⟨s1, s2, s3⟩ := step
      rw [← s1] at s2
      have hlen : (st ++ bindN av st b).length = st.length + b := by rw [List.length_append, bindN_len]
      obtain ⟨e1, e2⟩ := iha hl.1 c1.1 _ s3 (by rw [hlen]; exact il.1) a' hl'.1 c2.1 (by rw [hlen]; exact il'.1) _ _ stop_rest stop_rest s2
      obtain ⟨e3, e4⟩ := ihl hl.2 c1.2 bs st f hs il.2 (by simpa using hb) l' bs' hl'.2 c2.2 il'.2 (by simpa using hb') (fun i h1 h2 => by simpa using hp (i + 1) (by simpa using h1) (by simpa using h2)) (fun h => ⟨fun b hb => (hf h).1 b (List.mem_cons_of_mem _ hb), (hf h).2⟩) r r' e2
      exact ⟨by rw [e1, e3], e4⟩
/-- Two closed terms that say the same are the same. -/
theorem say_same {av av' : List ByteArray} {T U : Tm} (hT : okT T) (hU : okT U) (cT : ConOk av (flat T)) (cU : ConOk av' (flat U)) (iT : inT T 0) (iU : inT U 0) (h : sayT av T [] = sayT av' U []) : T = U :=
  (say_inj T hT cT [] ⟨fun s hs => by simp at hs, List.nodup_nil, fun s hs => by simp at hs, fun s hs => by simp at hs⟩ iT U hU cU iU [] [] stop_nil stop_nil (by rw [h])).1
end Go.Lx

/- pretty.(*printer).words: what a node says, as its words are joined. -/
namespace Go.Proofs.YtiibknlpeodejaaGreatDoor
open Go.Lx Go.RowKit

theorem store_func {P : Program} {w : World} {a : Addr} {m : Mode} (f : Fn) (r l : Array Value) : (store a (.func f r l) m).run P w = stored P w a (.func f r l) m := run_store P w a _ m rfl
attribute [local go_sem] store_func
theorem deepTs_ge : ∀ (l : List Tm) (d : Nat), d ≤ deepTs d l ∧ ∀ a ∈ l, deepT a + 1 ≤ deepTs d l
  | [], d => ⟨Nat.le_refl _, fun a h => by cases h⟩
  | b :: l, d => by
    obtain ⟨h1, h2⟩ := deepTs_ge l (max d (deepT b + 1))
    simp only [deepTs]
    refine ⟨by omega, fun a ha => ?_⟩
    rcases List.mem_cons.1 ha with rfl | ha
    · omega
    · exact h2 a ha
theorem deep_part {x : Nd} {l : List Tm} {a : Tm} (ha : a ∈ l) : deepT a ≤ deepT (.mk x l) := by
  have := (deepTs_ge l 1).2 a ha
  rw [deepT]
  omega
theorem flat_part : ∀ {l : List Tm} {a : Tm}, a ∈ l → (flat a).length ≤ (flats l).length
  | b :: l, a, ha => by
    rw [flats, List.length_append]
    rcases List.mem_cons.1 ha with rfl | ha
    · omega
    · have := flat_part ha; omega
/-- What stands between the head and the parts. -/
def extraL (x : Nd) : List ByteArray := (if x.s.toList == [] then [] else [x.s]) ++ (if x.k = 26 then [⟨(Lib.decDigits x.n.toNat).toArray⟩] else [])
theorem say_join {av st : List ByteArray} {x : Nd} {l : List Tm} (h0 : x.k ≠ 0) (h1 : x.k ≠ 1) (h2 : x.k ≠ 2) (hp : plainK x = false) (hf : firstK x = false) :
    sayT av (.mk x l) st = 40 :: Lib.join ((wordsB x :: (extraL x ++ partsL av l (binds x) st)).map (·.data.toList)) [32] ++ [41] := by
  rw [join_names, namesL_app, partsL_says]
  unfold sayT
  rw [if_neg h0, if_neg h1, if_neg (by rw [hp]; simp), if_neg h2, hf]
  unfold headL extraL
  split <;> split <;> simp [namesL, wordL]
theorem say_first {av st : List ByteArray} {x : Nd} {a b : Tm} (h0 : x.k ≠ 0) (h1 : x.k ≠ 1) (h2 : x.k ≠ 2) (hp : plainK x = false) (hf : firstK x = true) (hs : (x.s.toList == []) = true) (hb : binds x = [0, 1]) (h26 : x.k ≠ 26) :
    sayT av (.mk x [a, b]) st = 40 :: Lib.join ([wordsB x, nameN (freshN (av ++ st) st.length), ⟨(sayT av a st).toArray⟩, ⟨(sayT av b (st ++ [nameN (freshN (av ++ st) st.length)])).toArray⟩].map (·.data.toList)) [32] ++ [41] := by
  rw [join_names]
  conv => lhs; unfold sayT
  rw [if_neg h0, if_neg h1, if_neg (by rw [hp]; simp), if_neg h2, hf, hb]
  unfold headL
  rw [hs, if_neg h26]
  simp [namesL, wordL, sayTs, bindN]
/-- What the loop holds, at a part. -/
def WdRel (W0 w4 : World) (pb hb tb lb : Nat) (ks : Assoc) (st av : List ByteArray) (sv lv : Value) (l : List Tm) (bs : List Nat) (ls : List ByteArray) (i : Value) (wr : World) : Prop :=
  ∃ (j : Nat) (os : List ByteArray) (sv' lv' : Value), j ≤ l.length ∧ i = .int .i64 (j : Int) ∧ os.length ≤ 3 * j ∧ partsL av l bs st = os ++ partsL av (l.drop j) (bs.drop j) st ∧ WdI W0 w4 pb hb tb lb ks st sv lv (ls ++ os) sv' lv' wr
theorem binds_ne {x : Nd} (hx : rightB x = true) (h0 : x.k ≠ 0) (h1 : x.k ≠ 1) (h2 : x.k ≠ 2) (hp : plainK x = false) (hs : (x.s.toList == []) = true) (h26 : x.k ≠ 26) : (binds x).length ≠ 0 := by
  have hk := rightB_k hx
  have hf : fS x.k.toNat = false := by
    rcases rightB_name hx with ⟨_, h⟩ | ⟨h, _⟩
    · exact h
    · have := (nameB_word h).1
      rw [ByteArray.toList_eq] at hs
      simp at hs
      simp [hs] at this
  obtain ⟨k, n, m, s⟩ := x
  simp only at *
  unfold plainK at hp
  unfold binds
  simp only at *
  rcases (by omega : k = 3 ∨ k = 4 ∨ k = 5 ∨ k = 6 ∨ k = 7 ∨ k = 8 ∨ k = 9 ∨ k = 10 ∨ k = 11 ∨ k = 12 ∨ k = 13 ∨ k = 14 ∨ k = 15 ∨ k = 16 ∨ k = 17 ∨ k = 18 ∨ k = 19 ∨ k = 20 ∨ k = 21 ∨ k = 22 ∨ k = 23 ∨ k = 24 ∨ k = 25 ∨ k = 27 ∨ k = 28 ∨ k = 29) with rfl | rfl | rfl | rfl | rfl | rfl | rfl | rfl | rfl | rfl | rfl | rfl | rfl | rfl | rfl | rfl | rfl | rfl | rfl | rfl | rfl | rfl | rfl | rfl | rfl | rfl
  all_goals first
    | (exact absurd hp (by decide))
    | (exact absurd hf (by decide))
    | (simp [bindsOf])
theorem pr_set {W0 w w' : World} {pb hb tb : Nat} {ks : Assoc} {st : List ByteArray} {sv lv : Value} {n : Nat} {xs : List Value} (h : PrS W0 pb hb tb ks st sv w) (hl : w.ownsRow W0.heap.size 9 1 lv n xs) (ha : lv.ownBlock = none ∨ lv.ownBlock ≠ sv.ownBlock) (hc : Ch (fun i => lv.ownBlock = some i) w w') : PrS W0 pb hb tb ks st sv w' :=
  ⟨box_ch h.box hc (fun e => box_own_ne h.box hl (by decide) e), h.heads.same (hc.block _ h.heads.lt (fun e => mapI_own_ne h.heads hl e)), h.taken.same (hc.block _ h.taken.lt (fun e => map_own_ne h.taken hl e)),
    row_ch h.row hc (fun g hg e => by
      rcases ha with h' | h'
      · rw [h'] at e; cases e
      · exact h' (e.trans hg.symm)), under_ch h.und hc (fun b hb => (row_lt hl hb).1), h.lo⟩
/-- The ways through a piece meet again: the frame is the same but for two numbers. -/
theorem wp_meet {P : Program} {c : Code} {Q : Exit → Act → World → Prop} {a : Act} {w : World} (A : Nat → Nat → Act) (G : Nat → Nat → World → Prop)
    (hr : ∀ K : Act → World → Prop, (∀ g cc w', G g cc w' → K (A g cc) w') → c.wp P (Exit.then K (fun _ _ _ => False)) a w) (hi : ∀ g cc w', G g cc w' → Q .normal (A g cc) w') : c.wp P Q a w :=
  Code.wp_mono (fun e a w h => by
    cases e with
    | normal => obtain ⟨g, cc, rfl, hG⟩ := h; exact hi _ _ _ hG
    | _ => exact h.elim) (hr (fun a w' => ∃ g cc, a = A g cc ∧ G g cc w') (fun g cc w' hG => ⟨g, cc, rfl, hG⟩))
/-- A text more in the words. -/
theorem push_l {W0 w2 w3 w5 : World} {lb g cap : Nat} {lv : Value} {ls : List ByteArray} {x : ByteArray} (hU : Under w2 w3) (hlb : w2.heap.size ≤ lb) (hL : BoxAt w3 lb 23 #[lv]) (hR : w3.ownsRow W0.heap.size 9 1 lv ls.length (ls.map .string)) (hv : ∀ i, lv.ownBlock = some i → w2.heap.size ≤ i)
    (hown : w5.ownsRow W0.heap.size 9 1 (.slice (some ⟨g, 0, none⟩) (ls.length + 1) cap) (ls.length + 1) (ls.map .string ++ [.string x])) (hgr : (w3.alloc (.cells #[.string x] 9)).grownBy w5 lv.ownBlock) (hat : lv.ownBlock = some g ∨ w2.heap.size ≤ g) :
    BoxAt w5 lb 23 #[lv] ∧ Under w2 (w5.setCell ⟨lb, 0, none⟩ (.slice (some ⟨g, 0, none⟩) (ls.length + 1) cap)) ∧ BoxAt (w5.setCell ⟨lb, 0, none⟩ (.slice (some ⟨g, 0, none⟩) (ls.length + 1) cap)) lb 23 #[.slice (some ⟨g, 0, none⟩) (ls.length + 1) cap] ∧
      (w5.setCell ⟨lb, 0, none⟩ (.slice (some ⟨g, 0, none⟩) (ls.length + 1) cap)).ownsRow W0.heap.size 9 1 (.slice (some ⟨g, 0, none⟩) (ls.length + 1) cap) (ls ++ [x]).length ((ls ++ [x]).map .string) ∧ ∀ i, (Value.slice (some ⟨g, 0, none⟩) (ls.length + 1) cap).ownBlock = some i → w2.heap.size ≤ i := by
  have hc5 : Ch (fun i => lv.ownBlock = some i) w3 w5 := (Ch.of_under (under_alloc (Under.refl w3) _)).grown hgr (fun g e _ => e)
  have hb5 := box_ch hL hc5 (fun e => box_own_ne hL hR (by decide) e)
  have hU5 : Under w2 w5 := under_ch hU hc5 hv
  refine ⟨hb5, under_set hU5 hlb _ _, hb5.set 0 _, ?_, fun i hi => ?_⟩
  · rw [List.length_append, List.map_append]
    exact row_other hown (box_own_ne hb5 hown (by decide)) 0 _
  · have e : g = i := by simpa [Value.ownBlock] using hi
    rcases hat with h | h
    · exact hv i (by rw [h, e])
    · omega
end Go.Proofs.YtiibknlpeodejaaGreatDoor

/- pretty.(*printer).words: nodes that have no name. Printed by pwords.py. -/
namespace Go.Proofs.YtiibknlpeodejaaGreatDoor
open Go.Lx Go.RowKit
attribute [local go_sem] store_func

set_option maxRecDepth 100000 in
set_option maxHeartbeats 2000000 in
theorem words_rest (x : Nd) (l : List Tm) (f0 : (x.k == 0) = false) (f1 : (x.k == 1) = false) (f2 : (x.k == 2) = false) (fp : plainK x = false) (f3 : (x.k == 3) = false) (f6 : (x.k == 6) = false) (f4 : (x.k == 4) = false) (f26 : (x.k == 26) = false) (fs : (x.s.toList == []) = true) (ih : ∀ a ∈ l, WordsOk a) : WordsOk (.mk x l) := by
  have g0 : x.k ≠ 0 := by simpa using f0
  have g1 : x.k ≠ 1 := by simpa using f1
  have g2 : x.k ≠ 2 := by simpa using f2
  rintro hok hd hn W0 w pb hq tb ks st av sv tv hW hS hP hT hv hA ha hst hss hin
  have hx := hok.1
  have hte : (flat (.mk x l))[(flat (.mk x l)).length - 1]? = some x := by rw [flat]; simp
  have hpos : 1 ≤ (flat (.mk x l)).length := by rw [flat]; simp
  have hsl := sayT_len av (by omega) (.mk x l) hok st hss (by omega)
  have hlen := hok.2.1
  have hl8 := binds_len hx
  have hbr : (if rightB x then binds x else []) = binds x := if_pos hx
  have hb2 : ∀ b ∈ binds x, b ≤ 2 := fun b hb => by have := bindsR_le (x := x); unfold bindsR at this; rw [hbr] at this; exact this b hb
  unfold inT at hin
  rw [if_neg (by omega)] at hin
  obtain ⟨p, c, rfl, hc, hp0, hr⟩ := hv
  obtain ⟨b, off, rfl, hb, c0, c1, c2, c3⟩ := RowArg.node hr hte
  have HAr := Lib.hid (fun w1 (hU : Under w w1) => args_any (w0 := w1) x l (t := flat (.mk x l)) (b := b) (off := off) (c := c) rfl hok hd hn hc (hr.under hU) ((hS.under hP.und).under hU))
  have HBn := Lib.hid (fun w1 (hU : Under w w1) => binds_any (w0 := w1) x (by have := rightB_s hx; simp only [maxLen]; omega) ((hS.under hP.und).under hU))
  have HUn := Lib.hid (fun a (ha' : a ∈ l) => under_any a (okTs_mem.1 hok.2.2 a ha') (Nat.le_trans (deep_part ha') hd) (by have := flat_part ha'; rw [flat, List.length_append] at hn; omega) (ih a ha'))
  have hfl : (flat (.mk x l)).length = (flats l).length + 1 := by rw [flat]; simp
  obtain ⟨M, hM⟩ : ∃ M, (flat (.mk x l)).length = M + 1 := ⟨(flat (.mk x l)).length - 1, by omega⟩
  rw [hM] at c0 c1 c2 c3
  simp only [Nat.add_sub_cancel] at c0 c1 c2 c3
  have hM0 : (0 : Int) ≤ (M : Int) := by omega
  have hM4 : (M : Int) ≤ 4000 := by omega
  have hMi : ((M : Int) + 1 - 1) = (M : Int) := by omega
  have hk := rightB_k hx
  obtain ⟨w1, hw1⟩ : ∃ w1, w1 = (w.alloc (.cells #[.pointer (some ⟨pb, 0, none⟩)] 41)).alloc (.cells #[.int .i64 x.k, .int .i64 x.n, .int .i64 x.m, .string x.s] 38) := ⟨_, rfl⟩
  have hU1 : Under w w1 := by rw [hw1]; exact under_alloc (under_alloc (Under.refl w) _) _
  have hB1 : BoxAt w1 w.heap.size 41 #[.pointer (some ⟨pb, 0, none⟩)] := by rw [hw1]; exact (box_new w _ _).alloc _
  have hB2 : BoxAt w1 (w.heap.size + 1) 38 #[.int .i64 x.k, .int .i64 x.n, .int .i64 x.m, .string x.s] := by
    have := box_new (w.alloc (.cells #[.pointer (some ⟨pb, 0, none⟩)] 41)) #[.int .i64 x.k, .int .i64 x.n, .int .i64 x.m, .string x.s] 38
    rw [World.size_alloc] at this
    rw [hw1]
    exact this
  have hP1 := hP.under hU1
  have d0 : w1.cell? ⟨w.heap.size, 0, none⟩ = some (.pointer (some ⟨pb, 0, none⟩)) := hB1.cell 0
  have d1 : w1.cell? ⟨pb, 0, none⟩ = some (.map (some hq)) := hP1.box.cell 0
  have d2 : w1.cell? ⟨w.heap.size + 1, 0, none⟩ = some (.int .i64 x.k) := hB2.cell 0
  have d3 : MapIAt w1 hq headsL := hP1.heads
  have hsz1 : w1.heap.size = w.heap.size + 2 := by rw [hw1]; simp
  have HFd := head_field
  have HLk := fun (w' : World) (h : MapIAt w' hq headsL) => heads_look h hk.1 hk.2
  rw [hM]
  have HU1 := Lib.hid hU1
  have HB1 := Lib.hid hB1
  have HB2 := Lib.hid hB2
  have HP1 := Lib.hid hP1
  have HP := Lib.hid hP
  have HT0 := Lib.hid hT
  have dd := And.intro d0 (And.intro d1 (And.intro d2 d3))
  have HK := Lib.hid hk
  have HIn := Lib.hid hin
  have HLen := Lib.hid hlen
  have HL8 := Lib.hid hl8
  have HBr := Lib.hid hbr
  have HB22b := Lib.hid hb2
  have HX := Lib.hid hx
  have HSS := Lib.hid hss
  have HW := Lib.hid hW
  have HS := Lib.hid hS
  have HFl := Lib.hid hfl
  have HSt := Lib.hid hst
  have HHa := Lib.hid ha
  have HM := Lib.hid hM
  rw [hM] at hc hsl HAr hn
  have HSl := Lib.hid hsl
  have HN4 := Lib.hid hn
  clear hte hr hok hin hst hss hA hT hS hW hP hU1 hB1 hB2 hP1 hpos hn hM hp0 hx hd d0 d1 d2 d3 hk hsl hlen hl8 hbr hb2 hfl ha ih
  have HT : RowKit.Hid (sayT av (.mk x l) st = 40 :: Lib.join ((wordsB x :: ([] ++ partsL av l (binds x) st)).map (·.data.toList)) [32] ++ [41]) := Lib.hid (by
    have := say_join (av := av) (st := st) (x := x) (l := l) g0 g1 g2 fp (by simp [firstK, f3, f6, f4])
    have hne : ¬ x.k = 26 := by simpa using f26
    rw [show extraL x = [] by unfold extraL; rw [fs, if_neg hne]; rfl] at this
    exact this)
  have HWd : RowKit.Hid (headB x.k.toNat = wordsB x) := Lib.hid (by unfold wordsB; rw [if_neg (by have := f3; have := f6; simp at *; omega)])
  rw [HWd.out] at HLk
  generalize wordsB x = W at *
  have fl : ((l.length : Int) == 0) = false := by
    have := binds_ne HX.out g0 g1 g2 fp fs (by simpa using f26)
    rw [HLen.out]
    exact beq_false_of_ne (by omega)
  subst hw1
  clear g0 g1 g2 fp HWd HX
  obtain ⟨k, n, m, s⟩ := x
  simp only at *
  go_enter Tryz.func21, Tryz.ntmps21
  go_wp2_with fail
  go_region_held3 (fun w' => w'.cell? ⟨w.heap.size, 0, none⟩ = some (.pointer (some ⟨pb, 0, none⟩)) ∧ w'.cell? ⟨pb, 0, none⟩ = some (.map (some hq)) ∧ w'.cell? ⟨w.heap.size + 1, 0, none⟩ = some (.int .i64 k) ∧ MapIAt w' hq headsL)
    (first
      | exact dd
      | go_keep)
    (fail)
  rename_i hHeld
  clear dd hHeld HLk HFd c0 c1 c2 c3
  go_wp2_with fail
  refine (HBn.out _ (HU1.out.trans (under_drew (Under.refl _)))).mono ?_
  rintro e w2 ⟨vb, rfl, hrb, hU2⟩
  rw [HBr.out] at hrb
  have HU2 := Lib.hid ((HU1.out.trans (under_drew (Under.refl _))).trans hU2)
  have HB12 := Lib.hid (HB1.out.under ((under_drew (Under.refl _)).trans hU2))
  have hB22 := HB2.out.under ((under_drew (Under.refl _)).trans hU2)
  have HB22 := Lib.hid hB22
  have HRb := Lib.hid hrb
  obtain ⟨qb, cb, rfl, _, _⟩ := RowArg.of_own hrb
  rw [← HLen.out]
  have e3 : w2.cell? ⟨w.heap.size + 1, 3, none⟩ = some (.string s) := hB22.cell 3
  have e1 : w2.cell? ⟨w.heap.size + 1, 1, none⟩ = some (.int .i64 n) := hB22.cell 1
  have e0 : w2.cell? ⟨w.heap.size + 1, 0, none⟩ = some (.int .i64 k) := hB22.cell 0
  have el := hB22.lt
  have hU3 : Under w2 ((w2.alloc (.cells #[.string W] 9)).alloc (.cells #[.slice (some ⟨w2.heap.size, 0, none⟩) 1 1] 23)) := under_alloc (under_alloc (Under.refl _) _) _
  have hB3 := hB22.under hU3
  have m3 : ((w2.alloc (.cells #[.string W] 9)).alloc (.cells #[.slice (some ⟨w2.heap.size, 0, none⟩) 1 1] 23)).cell? ⟨w.heap.size + 1, 3, none⟩ = some (.string s) := hB3.cell 3
  have m1 : ((w2.alloc (.cells #[.string W] 9)).alloc (.cells #[.slice (some ⟨w2.heap.size, 0, none⟩) 1 1] 23)).cell? ⟨w.heap.size + 1, 1, none⟩ = some (.int .i64 n) := hB3.cell 1
  have m0 : ((w2.alloc (.cells #[.string W] 9)).alloc (.cells #[.slice (some ⟨w2.heap.size, 0, none⟩) 1 1] 23)).cell? ⟨w.heap.size + 1, 0, none⟩ = some (.int .i64 k) := hB3.cell 0
  have ml := hB3.lt
  have hL3 := box_new (w2.alloc (.cells #[.string W] 9)) #[.slice (some ⟨w2.heap.size, 0, none⟩) 1 1] 23
  rw [World.size_alloc] at hL3
  have l0 : ((w2.alloc (.cells #[.string W] 9)).alloc (.cells #[.slice (some ⟨w2.heap.size, 0, none⟩) 1 1] 23)).cell? ⟨w2.heap.size + 1, 0, none⟩ = some (.slice (some ⟨w2.heap.size, 0, none⟩) 1 1) := hL3.cell 0
  have ll := hL3.lt
  have hz2 : w.heap.size ≤ w2.heap.size := HU2.out.size
  have hbs : W0.heap.size ≤ w2.heap.size := (HP.out.und.trans HU2.out).size
  have hR3 := row_under (own_one w2 W0.heap.size 9 (.string W) hbs) (under_alloc (Under.refl _) (.cells #[.slice (some ⟨w2.heap.size, 0, none⟩) 1 1] 23))
  have hv3 : ∀ i, (Value.slice (some ⟨w2.heap.size, 0, none⟩) 1 1).ownBlock = some i → w2.heap.size ≤ i := fun i h => by cases h; exact Nat.le_refl _
  have HU23 := Lib.hid hU3
  have HL3 := Lib.hid hL3
  have HR3 := Lib.hid hR3
  have HV3 := Lib.hid hv3
  clear hrb hU2 hB22 hU3 hB3 hL3 hR3 hv3
  go_wp2_with fail
  refine (HAr.out _ (HU2.out.trans HU23.out)).mono ?_
  clear e3 e1 e0 el m3 m1 m0 ml l0 ll
  generalize ((w2.alloc (.cells #[.string W] 9)).alloc (.cells #[.slice (some ⟨w2.heap.size, 0, none⟩) 1 1] 23)) = w3 at HU23 HL3 HR3 ⊢
  rintro e w4 ⟨vr, vs, rfl, hU4, hvr, hz⟩
  have HU3 := Lib.hid (HU2.out.trans HU23.out)
  have HU4 := Lib.hid (HU3.out.trans hU4)
  have HU24 := Lib.hid (HU23.out.trans hU4)
  have h0 : WdI W0 w4 pb hq tb (w2.heap.size + 1) ks st sv (.slice (some ⟨w2.heap.size, 0, none⟩) 1 1) [W] sv (.slice (some ⟨w2.heap.size, 0, none⟩) 1 1) w4 := ⟨HP.out.under HU4.out, HL3.out.under hU4, row_under HR3.out hU4, by
    cases ho : ((.slice (some ⟨w2.heap.size, 0, none⟩) 1 1) : Value).ownBlock with
    | none => exact .inl rfl
    | some g =>
      right
      intro e
      have h1 := (row_lt HP.out.row (g := g) e.symm).2
      have h2 := HV3.out g ho
      omega, by omega, Ch.refl _, fun b _ e => e, fun b _ e => e⟩
  have H0 := Lib.hid h0
  have HB14 := Lib.hid (HB12.out.under HU24.out)
  have HB24 := Lib.hid (HB22.out.under HU24.out)
  have HRb4 := Lib.hid (row_under HRb.out HU24.out)
  have HVr := Lib.hid hvr
  have HZ := Lib.hid hz
  have hbase := HU4.out.size
  have hvl : vs.length = l.length := by have := hvr.1; omega
  obtain ⟨qp, cp, rfl, _, _⟩ := RowArg.of_own hvr
  have HVl := Lib.hid hvl
  have HLb := Lib.hid (show w.heap.size ≤ w2.heap.size + 1 by omega)
  have HLv := Lib.hid (fun i (h : ((.slice (some ⟨w2.heap.size, 0, none⟩) 1 1) : Value).ownBlock = some i) => (show w.heap.size ≤ i from Nat.le_trans hz2 (HV3.out i h)))
  have HB34 := Lib.hid (show W0.heap.size ≤ w3.heap.size from (HP.out.und.trans HU3.out).size)
  clear h0 hvr hz hU4 hvl HB12 HB22 HU23 HRb HL3 HR3
  go_wp2
  go_loopw [130] (fun i wr => WdRel W0 w4 pb hq tb (w2.heap.size + 1) ks st av sv (.slice (some ⟨w2.heap.size, 0, none⟩) 1 1) l (binds ⟨k, n, m, s⟩) [W] i wr) (fun i _ => l.length - (intOf i).toNat)
  case atStart => exact ⟨0, [], sv, (.slice (some ⟨w2.heap.size, 0, none⟩) 1 1), Nat.zero_le _, rfl, Nat.zero_le _, rfl, by rw [List.append_nil]; exact H0.out⟩
  case round =>
    obtain ⟨j, os, sv', lv', hj, rfl, hos, hpa, hI⟩ := hrel
    have HI := Lib.hid hI
    have HPa := Lib.hid hpa
    have HOs := Lib.hid hos
    have hj0 : (0 : Int) ≤ (j : Int) := by omega
    have hj8 : l.length ≤ 8 := by rw [HLen.out]; exact HL8.out
    clear hpa hos
    by_cases hjl : j < l.length
    · have hjb : j < (binds ⟨k, n, m, s⟩).length := by rw [← HLen.out]; exact hjl
      have hjl' : (j : Int) < (l.length : Int) := by omega
      have hjv : j < vs.length := by rw [HVl.out]; exact hjl
      have hrv := HI.out.row H0.out HVr.out (by decide) (by decide) (by decide)
      obtain ⟨gp, cp', ep, hgp, _, hgl, _, _⟩ := row_block hrv (by omega)
      obtain ⟨rfl, rfl⟩ : qp = some ⟨gp, 0, none⟩ ∧ cp = cp' := by cases ep; exact ⟨rfl, rfl⟩
      clear ep
      have v0 := row_cell hrv hgp (List.getElem?_eq_getElem hjv)
      have hrb := HI.out.row H0.out HRb4.out (by decide) (by decide) (by decide)
      obtain ⟨gb, cb', eb, hgb, _, hbl, _, _⟩ := row_block hrb (by omega)
      rw [← HLen.out] at eb
      obtain ⟨rfl, rfl⟩ : qb = some ⟨gb, 0, none⟩ ∧ cb = cb' := by cases eb; exact ⟨rfl, rfl⟩
      clear eb
      have hbi := intsN_at (List.getElem?_eq_getElem hjb)
      have hpart := row_base (HI.out.row H0.out (HZ.out.2 j _ _ (List.getElem?_eq_getElem hjv) (List.getElem?_eq_getElem hjl)) (by decide) (by decide) (by decide)) (base' := W0.heap.size) HB34.out
      have HPt := Lib.hid hpart
      have hin := inTs_at hjl hjb HIn.out
      have hb2 := HB22b.out _ (List.getElem_mem hjb)
      have hfp := flat_part (List.getElem_mem hjl)
      have HPl := Lib.hid (partsL_at (av := av) (st := st) hjl hjb)
      have HQ := HUn.out _ (List.getElem_mem hjl) (binds ⟨k, n, m, s⟩)[j]
      generalize hTT : l[j] = T at *
      generalize (binds ⟨k, n, m, s⟩)[j] = bj at *
      generalize vs[j] = xv at *
      obtain ⟨qx, cx, rfl, _, _⟩ := RowArg.of_own hpart
      have hbj0 : (0 : Int) ≤ (bj : Int) := by omega
      obtain ⟨W5, hW5⟩ : ∃ W5, W5 = ((wr.alloc (.cells #[.slice qx (flat T).length cx] 22)).alloc (.cells #[(.func (.func 37) #[] #[.pointer (some ⟨w2.heap.size + 1, 0, none⟩), .pointer (some ⟨w.heap.size, 0, none⟩), .pointer (some ⟨wr.heap.size, 0, none⟩), .pointer (some ⟨wr.heap.size + 1, 0, none⟩)])] 58)).drew := ⟨_, rfl⟩
      have hU5 : Under wr W5 := by rw [hW5]; exact under_drew (under_alloc (under_alloc (Under.refl _) _) _)
      have hUn : UnS W0 ⟨pb, hq, tb, w2.heap.size + 1, w.heap.size, wr.heap.size, wr.heap.size + 1⟩ ks st sv' ([W] ++ os) lv' (.slice qx (flat T).length cx) T W5 := by
        refine ⟨HI.out.pr.under hU5, HI.out.lbx.under hU5, row_under HI.out.lrow hU5, HI.out.apart, (HI.out.box H0.out HB14.out (by decide) (by decide) (by decide)).under hU5, ?_, ?_, row_under HPt.out hU5, HI.out.lo⟩
        · rw [hW5]; exact ((box_new wr _ _).alloc _).drew
        · rw [hW5]
          have := box_new (wr.alloc (.cells #[.slice qx (flat T).length cx] 22)) #[(.func (.func 37) #[] #[.pointer (some ⟨w2.heap.size + 1, 0, none⟩), .pointer (some ⟨w.heap.size, 0, none⟩), .pointer (some ⟨wr.heap.size, 0, none⟩), .pointer (some ⟨wr.heap.size + 1, 0, none⟩)])] 58
          rw [World.size_alloc] at this
          exact this.drew
      have HC := Lib.hid (HQ W0 W5 ⟨pb, hq, tb, w2.heap.size + 1, w.heap.size, wr.heap.size, wr.heap.size + 1⟩ ks st av ([W] ++ os) sv' lv' _ HW.out HS.out hUn HT0.out HHa.out (by have := HSt.out; have := HFl.out; omega) (by have := HOs.out; simp; omega) HSS.out hin)
      have u0 : W5.cell? ⟨wr.heap.size + 1, 0, none⟩ = some (.func (.func 37) #[] #[.pointer (some ⟨w2.heap.size + 1, 0, none⟩), .pointer (some ⟨w.heap.size, 0, none⟩), .pointer (some ⟨wr.heap.size, 0, none⟩), .pointer (some ⟨wr.heap.size + 1, 0, none⟩)]) := hUn.ubx.cell 0
      have b5 : W5.cell? ⟨gb, j, none⟩ = some (.int .i64 (bj : Int)) := row_cell (row_under hrb hU5) hgb hbi
      have tt := And.intro u0 b5
      have HBi := Lib.hid hbi
      have hb2' := hb2
      have HUn5 := Lib.hid hUn
      have HU5 := Lib.hid hU5
      have HE5 := Lib.hid hW5
      clear u0 b5 hrb hUn hU5 hpart hrv hbi hin HQ hb2 hfp hgb hgp hW5
      subst hTT
      go_wp2_with fail
      rw [HE5.out] at tt
      go_region_held3 (fun w' => w'.cell? ⟨wr.heap.size + 1, 0, none⟩ = some (.func (.func 37) #[] #[.pointer (some ⟨w2.heap.size + 1, 0, none⟩), .pointer (some ⟨w.heap.size, 0, none⟩), .pointer (some ⟨wr.heap.size, 0, none⟩), .pointer (some ⟨wr.heap.size + 1, 0, none⟩)]) ∧ w'.cell? ⟨gb, j, none⟩ = some (.int .i64 (bj : Int)))
        (first
          | exact tt
          | go_keep
          | exact ⟨q0, q1⟩)
        ((go_simp; go_at_call 37; rw [← HE5.out]; refine HC.out.mono ?_; rintro e w6 ⟨⟨v6, rfl⟩, sv6, lv6, hU6, hC6, hO6, hL6⟩
          have q0 : w6.cell? ⟨wr.heap.size + 1, 0, none⟩ = some (.func (.func 37) #[] #[.pointer (some ⟨w2.heap.size + 1, 0, none⟩), .pointer (some ⟨w.heap.size, 0, none⟩), .pointer (some ⟨wr.heap.size, 0, none⟩), .pointer (some ⟨wr.heap.size + 1, 0, none⟩)]) := hU6.ubx.cell 0
          have HW6 := Lib.hid ((HI.out.und HU5.out).step hU6 rfl rfl rfl rfl hC6 hO6 hL6)
          have q1 : w6.cell? ⟨gb, j, none⟩ = some (.int .i64 (bj : Int)) := row_cell (HW6.out.row H0.out HRb4.out (by decide) (by decide) (by decide)) rfl HBi.out))
      rename_i hHeld
      clear hHeld q0 q1 tt hU6 hC6 hO6 hL6
      go_wp2
      go_roundw
      case rel =>
        refine ⟨j + 1, os ++ bindN av st bj ++ [⟨(sayT av l[j] (st ++ bindN av st bj)).toArray⟩], sv6, lv6, by omega, by go_num, ?_, ?_, ?_⟩
        · have := HOs.out
          rw [List.length_append, List.length_append, bindN_len, List.length_singleton]
          omega
        · rw [HPa.out, HPl.out]
          simp
        · have := HW6.out
          simp only [List.append_assoc] at this ⊢
          exact this
      case measure => simp [intOf]; omega
    · obtain rfl : j = l.length := by omega
      have hos : os = partsL av l (binds ⟨k, n, m, s⟩) st := by rw [HPa.out, List.drop_length]; simp [partsL]
      obtain ⟨g9, c9, e9, hg9, _, hl9, hc9, _⟩ := row_block HI.out.lrow (by simp)
      subst e9
      have hJ : ∀ jj u, ([W] ++ os)[jj]? = some u → wr.cell? ⟨g9, 0 + jj, none⟩ = some (.string u) := fun jj u hu => by rw [Nat.zero_add]; exact row_cell HI.out.lrow rfl (by rw [List.getElem?_map, hu]; rfl)
      rw [← hos] at HT
      have HTs := HT.out
      obtain ⟨J, hJd⟩ : ∃ J, J = Lib.join (([W] ++ os).map (·.data.toList)) (⟨#[32]⟩ : ByteArray).data.toList := ⟨_, rfl⟩
      have hTJ : sayT av (.mk ⟨k, n, m, s⟩ l) st = 40 :: J ++ [41] := by rw [HTs, hJd]; rfl
      have hJl : J.length + 2 ≤ 1000000 := by
        have h1 := HSl.out
        have h2 := HN4.out
        rw [hTJ] at h1
        simp at h1
        omega
      have HJc := Lib.hid (Tryz.strings_Join g9 0 c9 ([W] ++ os) ⟨#[32]⟩ wr hJ hl9 (by have := HOs.out; simp; omega) hc9 (by rw [← hJd]; omega))
      rw [← hJd] at HJc
      have HTJ := Lib.hid hTJ
      have z0 : wr.cell? ⟨w2.heap.size + 1, 0, none⟩ = some (.slice (some ⟨g9, 0, none⟩) ([W] ++ os).length c9) := HI.out.lbx.cell 0
      have z1 := HI.out.lbx.lt
      have hnb := HI.out.box H0.out HB24.out (by decide) (by decide) (by decide)
      have z4 : wr.cell? ⟨w.heap.size + 1, 0, none⟩ = some (.int .i64 k) := hnb.cell 0
      have z5 := hnb.lt
      have z2 : ¬ 9223372036854775807 < 1 + J.toArray.size := by simp; omega
      have z3 : ¬ 9223372036854775807 < 1 + J.toArray.size + 1 := by simp; omega
      have HCJ := Lib.hid ((Ch.of_under HU4.out).trans HI.out.ch (D := fun b => PrC pb tb sv b ∨ b = w2.heap.size + 1 ∨ ((.slice (some ⟨w2.heap.size, 0, none⟩) 1 1) : Value).ownBlock = some b) (C := PrC pb tb sv) (fun i hi h => by
        rcases h with h | h | h
        · exact h
        · have := HLb.out; omega
        · have := HLv.out i h; omega))
      have HPJ := Lib.hid HI.out.pr
      clear hos hJ HTs hJd hTJ hJl HT
      go_wp2_with fail
      clear z0 z1 hnb z4 z5
      refine HJc.out.mono ?_
      rintro e w7 ⟨rfl, hBl⟩
      have HU7 := Lib.hid (under_below hBl)
      clear hBl HJc
      go_wp2
      go_ret
      exact ⟨ret_str (by rw [HTJ.out]; exact ByteArray.ext (by simp)), sv', HPJ.out.under HU7.out, HCJ.out.under HU7.out, fun b hb e => HI.out.own b (by have := HU4.out.size; omega) e⟩
end Go.Proofs.YtiibknlpeodejaaGreatDoor

/- pretty.(*printer).words: nodes that have a name. Printed by pwords.py. -/
namespace Go.Proofs.YtiibknlpeodejaaGreatDoor
open Go.Lx Go.RowKit
attribute [local go_sem] store_func

set_option maxRecDepth 100000 in
set_option maxHeartbeats 2000000 in
theorem words_name (x : Nd) (l : List Tm) (f0 : (x.k == 0) = false) (f1 : (x.k == 1) = false) (f2 : (x.k == 2) = false) (fp : plainK x = false) (f3 : (x.k == 3) = false) (f6 : (x.k == 6) = false) (f4 : (x.k == 4) = false) (f26 : (x.k == 26) = false) (fs : (x.s.toList == []) = false) (ih : ∀ a ∈ l, WordsOk a) : WordsOk (.mk x l) := by
  obtain ⟨i0, hi, hz0, hz1, hz2'⟩ := info_parts Tryz.infoStrZ
  have g0 : x.k ≠ 0 := by simpa using f0
  have g1 : x.k ≠ 1 := by simpa using f1
  have g2 : x.k ≠ 2 := by simpa using f2
  rintro hok hd hn W0 w pb hq tb ks st av sv tv hW hS hP hT hv hA ha hst hss hin
  have hx := hok.1
  have hte : (flat (.mk x l))[(flat (.mk x l)).length - 1]? = some x := by rw [flat]; simp
  have hpos : 1 ≤ (flat (.mk x l)).length := by rw [flat]; simp
  have hsl := sayT_len av (by omega) (.mk x l) hok st hss (by omega)
  have hlen := hok.2.1
  have hl8 := binds_len hx
  have hbr : (if rightB x then binds x else []) = binds x := if_pos hx
  have hb2 : ∀ b ∈ binds x, b ≤ 2 := fun b hb => by have := bindsR_le (x := x); unfold bindsR at this; rw [hbr] at this; exact this b hb
  unfold inT at hin
  rw [if_neg (by omega)] at hin
  obtain ⟨p, c, rfl, hc, hp0, hr⟩ := hv
  obtain ⟨b, off, rfl, hb, c0, c1, c2, c3⟩ := RowArg.node hr hte
  have HAr := Lib.hid (fun w1 (hU : Under w w1) => args_any (w0 := w1) x l (t := flat (.mk x l)) (b := b) (off := off) (c := c) rfl hok hd hn hc (hr.under hU) ((hS.under hP.und).under hU))
  have HBn := Lib.hid (fun w1 (hU : Under w w1) => binds_any (w0 := w1) x (by have := rightB_s hx; simp only [maxLen]; omega) ((hS.under hP.und).under hU))
  have HUn := Lib.hid (fun a (ha' : a ∈ l) => under_any a (okTs_mem.1 hok.2.2 a ha') (Nat.le_trans (deep_part ha') hd) (by have := flat_part ha'; rw [flat, List.length_append] at hn; omega) (ih a ha'))
  have hfl : (flat (.mk x l)).length = (flats l).length + 1 := by rw [flat]; simp
  obtain ⟨M, hM⟩ : ∃ M, (flat (.mk x l)).length = M + 1 := ⟨(flat (.mk x l)).length - 1, by omega⟩
  rw [hM] at c0 c1 c2 c3
  simp only [Nat.add_sub_cancel] at c0 c1 c2 c3
  have hM0 : (0 : Int) ≤ (M : Int) := by omega
  have hM4 : (M : Int) ≤ 4000 := by omega
  have hMi : ((M : Int) + 1 - 1) = (M : Int) := by omega
  have hk := rightB_k hx
  obtain ⟨w1, hw1⟩ : ∃ w1, w1 = (w.alloc (.cells #[.pointer (some ⟨pb, 0, none⟩)] 41)).alloc (.cells #[.int .i64 x.k, .int .i64 x.n, .int .i64 x.m, .string x.s] 38) := ⟨_, rfl⟩
  have hU1 : Under w w1 := by rw [hw1]; exact under_alloc (under_alloc (Under.refl w) _) _
  have hB1 : BoxAt w1 w.heap.size 41 #[.pointer (some ⟨pb, 0, none⟩)] := by rw [hw1]; exact (box_new w _ _).alloc _
  have hB2 : BoxAt w1 (w.heap.size + 1) 38 #[.int .i64 x.k, .int .i64 x.n, .int .i64 x.m, .string x.s] := by
    have := box_new (w.alloc (.cells #[.pointer (some ⟨pb, 0, none⟩)] 41)) #[.int .i64 x.k, .int .i64 x.n, .int .i64 x.m, .string x.s] 38
    rw [World.size_alloc] at this
    rw [hw1]
    exact this
  have hP1 := hP.under hU1
  have d0 : w1.cell? ⟨w.heap.size, 0, none⟩ = some (.pointer (some ⟨pb, 0, none⟩)) := hB1.cell 0
  have d1 : w1.cell? ⟨pb, 0, none⟩ = some (.map (some hq)) := hP1.box.cell 0
  have d2 : w1.cell? ⟨w.heap.size + 1, 0, none⟩ = some (.int .i64 x.k) := hB2.cell 0
  have d3 : MapIAt w1 hq headsL := hP1.heads
  have hsz1 : w1.heap.size = w.heap.size + 2 := by rw [hw1]; simp
  have HFd := head_field
  have HLk := fun (w' : World) (h : MapIAt w' hq headsL) => heads_look h hk.1 hk.2
  rw [hM]
  have HU1 := Lib.hid hU1
  have HB1 := Lib.hid hB1
  have HB2 := Lib.hid hB2
  have HP1 := Lib.hid hP1
  have HP := Lib.hid hP
  have HT0 := Lib.hid hT
  have dd := And.intro d0 (And.intro d1 (And.intro d2 d3))
  have HK := Lib.hid hk
  have HIn := Lib.hid hin
  have HLen := Lib.hid hlen
  have HL8 := Lib.hid hl8
  have HBr := Lib.hid hbr
  have HB22b := Lib.hid hb2
  have HX := Lib.hid hx
  have HSS := Lib.hid hss
  have HW := Lib.hid hW
  have HS := Lib.hid hS
  have HFl := Lib.hid hfl
  have HSt := Lib.hid hst
  have HHa := Lib.hid ha
  have HM := Lib.hid hM
  rw [hM] at hc hsl HAr hn
  have HSl := Lib.hid hsl
  have HN4 := Lib.hid hn
  clear hte hr hok hin hst hss hA hT hS hW hP hU1 hB1 hB2 hP1 hpos hn hM hp0 hx hd d0 d1 d2 d3 hk hsl hlen hl8 hbr hb2 hfl ha ih
  have HT : RowKit.Hid (sayT av (.mk x l) st = 40 :: Lib.join ((wordsB x :: ([x.s] ++ partsL av l (binds x) st)).map (·.data.toList)) [32] ++ [41]) := Lib.hid (by
    have := say_join (av := av) (st := st) (x := x) (l := l) g0 g1 g2 fp (by simp [firstK, f3, f6, f4])
    have hne : ¬ x.k = 26 := by simpa using f26
    rw [show extraL x = [x.s] by unfold extraL; rw [fs, if_neg hne]; rfl] at this
    exact this)
  have HWd : RowKit.Hid (headB x.k.toNat = wordsB x) := Lib.hid (by unfold wordsB; rw [if_neg (by have := f3; have := f6; simp at *; omega)])
  rw [HWd.out] at HLk
  generalize wordsB x = W at *
  subst hw1
  clear g0 g1 g2 fp HWd HX
  obtain ⟨k, n, m, s⟩ := x
  simp only at *
  cases fl : ((l.length : Int) == 0)
  all_goals
    go_enter Tryz.func21, Tryz.ntmps21
    go_wp2_with fail
    go_region_held3 (fun w' => w'.cell? ⟨w.heap.size, 0, none⟩ = some (.pointer (some ⟨pb, 0, none⟩)) ∧ w'.cell? ⟨pb, 0, none⟩ = some (.map (some hq)) ∧ w'.cell? ⟨w.heap.size + 1, 0, none⟩ = some (.int .i64 k) ∧ MapIAt w' hq headsL)
      (first
        | exact dd
        | go_keep)
      (fail)
    rename_i hHeld
    clear dd hHeld HLk HFd c0 c1 c2 c3
    go_wp2_with fail
    refine (HBn.out _ (HU1.out.trans (under_drew (Under.refl _)))).mono ?_
    rintro e w2 ⟨vb, rfl, hrb, hU2⟩
    rw [HBr.out] at hrb
    have HU2 := Lib.hid ((HU1.out.trans (under_drew (Under.refl _))).trans hU2)
    have HB12 := Lib.hid (HB1.out.under ((under_drew (Under.refl _)).trans hU2))
    have hB22 := HB2.out.under ((under_drew (Under.refl _)).trans hU2)
    have HB22 := Lib.hid hB22
    have HRb := Lib.hid hrb
    obtain ⟨qb, cb, rfl, _, _⟩ := RowArg.of_own hrb
    rw [← HLen.out]
    have e3 : w2.cell? ⟨w.heap.size + 1, 3, none⟩ = some (.string s) := hB22.cell 3
    have e1 : w2.cell? ⟨w.heap.size + 1, 1, none⟩ = some (.int .i64 n) := hB22.cell 1
    have e0 : w2.cell? ⟨w.heap.size + 1, 0, none⟩ = some (.int .i64 k) := hB22.cell 0
    have el := hB22.lt
    have hU3 : Under w2 ((w2.alloc (.cells #[.string W] 9)).alloc (.cells #[.slice (some ⟨w2.heap.size, 0, none⟩) 1 1] 23)) := under_alloc (under_alloc (Under.refl _) _) _
    have hB3 := hB22.under hU3
    have m3 : ((w2.alloc (.cells #[.string W] 9)).alloc (.cells #[.slice (some ⟨w2.heap.size, 0, none⟩) 1 1] 23)).cell? ⟨w.heap.size + 1, 3, none⟩ = some (.string s) := hB3.cell 3
    have m1 : ((w2.alloc (.cells #[.string W] 9)).alloc (.cells #[.slice (some ⟨w2.heap.size, 0, none⟩) 1 1] 23)).cell? ⟨w.heap.size + 1, 1, none⟩ = some (.int .i64 n) := hB3.cell 1
    have m0 : ((w2.alloc (.cells #[.string W] 9)).alloc (.cells #[.slice (some ⟨w2.heap.size, 0, none⟩) 1 1] 23)).cell? ⟨w.heap.size + 1, 0, none⟩ = some (.int .i64 k) := hB3.cell 0
    have ml := hB3.lt
    have hL3 := box_new (w2.alloc (.cells #[.string W] 9)) #[.slice (some ⟨w2.heap.size, 0, none⟩) 1 1] 23
    rw [World.size_alloc] at hL3
    have l0 : ((w2.alloc (.cells #[.string W] 9)).alloc (.cells #[.slice (some ⟨w2.heap.size, 0, none⟩) 1 1] 23)).cell? ⟨w2.heap.size + 1, 0, none⟩ = some (.slice (some ⟨w2.heap.size, 0, none⟩) 1 1) := hL3.cell 0
    have ll := hL3.lt
    have hz2 : w.heap.size ≤ w2.heap.size := HU2.out.size
    have hbs : W0.heap.size ≤ w2.heap.size := (HP.out.und.trans HU2.out).size
    have hR3 := row_under (own_one w2 W0.heap.size 9 (.string W) hbs) (under_alloc (Under.refl _) (.cells #[.slice (some ⟨w2.heap.size, 0, none⟩) 1 1] 23))
    have hv3 : ∀ i, (Value.slice (some ⟨w2.heap.size, 0, none⟩) 1 1).ownBlock = some i → w2.heap.size ≤ i := fun i h => by cases h; exact Nat.le_refl _
    have HU23 := Lib.hid hU3
    have HL3 := Lib.hid hL3
    have HR3 := Lib.hid hR3
    have HV3 := Lib.hid hv3
    clear hrb hU2 hB22 hU3 hB3 hL3 hR3 hv3
    go_wp2_with (at_builtin; refine wpList_append_lies _ rfl _ _ 23 rfl W0.heap.size 9 i0 _ 1 16 Tryz.underlying23 hi hz0 hz1 hz2' rfl (by decide) (.slice (some ⟨w2.heap.size, 0, none⟩) 1 1) 1 ([W].map .string) rfl (HR3.out.alloc _) _ 1 1 [.string s] rfl rfl (fun j u hj => by have h := cell_one_new ((w2.alloc (.cells #[.string W] 9)).alloc (.cells #[.slice (some ⟨w2.heap.size, 0, none⟩) 1 1] 23)) (.string s) 9 j u hj; simpa using h) (by simp [Value.oneCell']) (by omega) (by simp only [maxLen]; omega) (by omega) (by simp; omega) ((((w2.alloc (.cells #[.string W] 9)).alloc (.cells #[.slice (some ⟨w2.heap.size, 0, none⟩) 1 1] 23))).heap.size + 1) (by simp) ?_)
    intro gg cc w5 hown hgrow hat hlt
    obtain ⟨p1, p2, p3, p4, p5⟩ := push_l (ls := [W]) (x := s) HU23.out (Nat.le_succ _) HL3.out HR3.out HV3.out hown hgrow (hat.imp id (fun e => by first | omega | (simp at e; omega)))
    have pb5 : w5.cell? ⟨w2.heap.size + 1, 0, none⟩ = some (.slice (some ⟨w2.heap.size, 0, none⟩) 1 1) := p1.cell 0
    have pf5 := p1.free 0
    have pl5 := p1.lt
    have hB5 := HB22.out.under p2
    have r1 : (w5.setCell ⟨w2.heap.size + 1, 0, none⟩ (.slice (some ⟨gg, 0, none⟩) (1 + 1) cc)).cell? ⟨w.heap.size + 1, 1, none⟩ = some (.int .i64 n) := hB5.cell 1
    have r0 : (w5.setCell ⟨w2.heap.size + 1, 0, none⟩ (.slice (some ⟨gg, 0, none⟩) (1 + 1) cc)).cell? ⟨w.heap.size + 1, 0, none⟩ = some (.int .i64 k) := hB5.cell 0
    have rl := hB5.lt
    have rb : (w5.setCell ⟨w2.heap.size + 1, 0, none⟩ (.slice (some ⟨gg, 0, none⟩) (1 + 1) cc)).cell? ⟨w2.heap.size + 1, 0, none⟩ = some (.slice (some ⟨gg, 0, none⟩) (1 + 1) cc) := p3.cell 0
    have rbl := p3.lt
    have HU23 := Lib.hid p2
    have HL3 := Lib.hid p3
    have HR3 := Lib.hid p4
    have HV3 := Lib.hid p5
    clear p1 p2 p3 p4 p5 hown hgrow hat hlt hB5 e3 e1 e0 el m3 m1 m0 ml l0 ll
    simp only [List.length_cons, List.length_nil, Nat.zero_add, Nat.reduceAdd, List.cons_append, List.nil_append] at HR3 HL3 HV3 HU23 r1 r0 rl rb rbl
    go_wp2_with fail
    refine (HAr.out _ (HU2.out.trans HU23.out)).mono ?_
    clear pb5 pf5 pl5 r1 r0 rl rb rbl
    generalize (w5.setCell ⟨w2.heap.size + 1, 0, none⟩ (.slice (some ⟨gg, 0, none⟩) 2 cc)) = w3 at HU23 HL3 HR3 ⊢
    rintro e w4 ⟨vr, vs, rfl, hU4, hvr, hz⟩
    have HU3 := Lib.hid (HU2.out.trans HU23.out)
    have HU4 := Lib.hid (HU3.out.trans hU4)
    have HU24 := Lib.hid (HU23.out.trans hU4)
    have h0 : WdI W0 w4 pb hq tb (w2.heap.size + 1) ks st sv (.slice (some ⟨gg, 0, none⟩) 2 cc) [W, s] sv (.slice (some ⟨gg, 0, none⟩) 2 cc) w4 := ⟨HP.out.under HU4.out, HL3.out.under hU4, row_under HR3.out hU4, by
      cases ho : ((.slice (some ⟨gg, 0, none⟩) 2 cc) : Value).ownBlock with
      | none => exact .inl rfl
      | some g =>
        right
        intro e
        have h1 := (row_lt HP.out.row (g := g) e.symm).2
        have h2 := HV3.out g ho
        omega, by omega, Ch.refl _, fun b _ e => e, fun b _ e => e⟩
    have H0 := Lib.hid h0
    have HB14 := Lib.hid (HB12.out.under HU24.out)
    have HB24 := Lib.hid (HB22.out.under HU24.out)
    have HRb4 := Lib.hid (row_under HRb.out HU24.out)
    have HVr := Lib.hid hvr
    have HZ := Lib.hid hz
    have hbase := HU4.out.size
    have hvl : vs.length = l.length := by have := hvr.1; omega
    obtain ⟨qp, cp, rfl, _, _⟩ := RowArg.of_own hvr
    have HVl := Lib.hid hvl
    have HLb := Lib.hid (show w.heap.size ≤ w2.heap.size + 1 by omega)
    have HLv := Lib.hid (fun i (h : ((.slice (some ⟨gg, 0, none⟩) 2 cc) : Value).ownBlock = some i) => (show w.heap.size ≤ i from Nat.le_trans hz2 (HV3.out i h)))
    have HB34 := Lib.hid (show W0.heap.size ≤ w3.heap.size from (HP.out.und.trans HU3.out).size)
    clear h0 hvr hz hU4 hvl HB12 HB22 HU23 HRb HL3 HR3
    go_wp2
    go_loopw [130] (fun i wr => WdRel W0 w4 pb hq tb (w2.heap.size + 1) ks st av sv (.slice (some ⟨gg, 0, none⟩) 2 cc) l (binds ⟨k, n, m, s⟩) [W, s] i wr) (fun i _ => l.length - (intOf i).toNat)
    case atStart => exact ⟨0, [], sv, (.slice (some ⟨gg, 0, none⟩) 2 cc), Nat.zero_le _, rfl, Nat.zero_le _, rfl, by rw [List.append_nil]; exact H0.out⟩
    case round =>
      obtain ⟨j, os, sv', lv', hj, rfl, hos, hpa, hI⟩ := hrel
      have HI := Lib.hid hI
      have HPa := Lib.hid hpa
      have HOs := Lib.hid hos
      have hj0 : (0 : Int) ≤ (j : Int) := by omega
      have hj8 : l.length ≤ 8 := by rw [HLen.out]; exact HL8.out
      clear hpa hos
      by_cases hjl : j < l.length
      · have hjb : j < (binds ⟨k, n, m, s⟩).length := by rw [← HLen.out]; exact hjl
        have hjl' : (j : Int) < (l.length : Int) := by omega
        have hjv : j < vs.length := by rw [HVl.out]; exact hjl
        have hrv := HI.out.row H0.out HVr.out (by decide) (by decide) (by decide)
        obtain ⟨gp, cp', ep, hgp, _, hgl, _, _⟩ := row_block hrv (by omega)
        obtain ⟨rfl, rfl⟩ : qp = some ⟨gp, 0, none⟩ ∧ cp = cp' := by cases ep; exact ⟨rfl, rfl⟩
        clear ep
        have v0 := row_cell hrv hgp (List.getElem?_eq_getElem hjv)
        have hrb := HI.out.row H0.out HRb4.out (by decide) (by decide) (by decide)
        obtain ⟨gb, cb', eb, hgb, _, hbl, _, _⟩ := row_block hrb (by omega)
        rw [← HLen.out] at eb
        obtain ⟨rfl, rfl⟩ : qb = some ⟨gb, 0, none⟩ ∧ cb = cb' := by cases eb; exact ⟨rfl, rfl⟩
        clear eb
        have hbi := intsN_at (List.getElem?_eq_getElem hjb)
        have hpart := row_base (HI.out.row H0.out (HZ.out.2 j _ _ (List.getElem?_eq_getElem hjv) (List.getElem?_eq_getElem hjl)) (by decide) (by decide) (by decide)) (base' := W0.heap.size) HB34.out
        have HPt := Lib.hid hpart
        have hin := inTs_at hjl hjb HIn.out
        have hb2 := HB22b.out _ (List.getElem_mem hjb)
        have hfp := flat_part (List.getElem_mem hjl)
        have HPl := Lib.hid (partsL_at (av := av) (st := st) hjl hjb)
        have HQ := HUn.out _ (List.getElem_mem hjl) (binds ⟨k, n, m, s⟩)[j]
        generalize hTT : l[j] = T at *
        generalize (binds ⟨k, n, m, s⟩)[j] = bj at *
        generalize vs[j] = xv at *
        obtain ⟨qx, cx, rfl, _, _⟩ := RowArg.of_own hpart
        have hbj0 : (0 : Int) ≤ (bj : Int) := by omega
        obtain ⟨W5, hW5⟩ : ∃ W5, W5 = ((wr.alloc (.cells #[.slice qx (flat T).length cx] 22)).alloc (.cells #[(.func (.func 37) #[] #[.pointer (some ⟨w2.heap.size + 1, 0, none⟩), .pointer (some ⟨w.heap.size, 0, none⟩), .pointer (some ⟨wr.heap.size, 0, none⟩), .pointer (some ⟨wr.heap.size + 1, 0, none⟩)])] 58)).drew := ⟨_, rfl⟩
        have hU5 : Under wr W5 := by rw [hW5]; exact under_drew (under_alloc (under_alloc (Under.refl _) _) _)
        have hUn : UnS W0 ⟨pb, hq, tb, w2.heap.size + 1, w.heap.size, wr.heap.size, wr.heap.size + 1⟩ ks st sv' ([W, s] ++ os) lv' (.slice qx (flat T).length cx) T W5 := by
          refine ⟨HI.out.pr.under hU5, HI.out.lbx.under hU5, row_under HI.out.lrow hU5, HI.out.apart, (HI.out.box H0.out HB14.out (by decide) (by decide) (by decide)).under hU5, ?_, ?_, row_under HPt.out hU5, HI.out.lo⟩
          · rw [hW5]; exact ((box_new wr _ _).alloc _).drew
          · rw [hW5]
            have := box_new (wr.alloc (.cells #[.slice qx (flat T).length cx] 22)) #[(.func (.func 37) #[] #[.pointer (some ⟨w2.heap.size + 1, 0, none⟩), .pointer (some ⟨w.heap.size, 0, none⟩), .pointer (some ⟨wr.heap.size, 0, none⟩), .pointer (some ⟨wr.heap.size + 1, 0, none⟩)])] 58
            rw [World.size_alloc] at this
            exact this.drew
        have HC := Lib.hid (HQ W0 W5 ⟨pb, hq, tb, w2.heap.size + 1, w.heap.size, wr.heap.size, wr.heap.size + 1⟩ ks st av ([W, s] ++ os) sv' lv' _ HW.out HS.out hUn HT0.out HHa.out (by have := HSt.out; have := HFl.out; omega) (by have := HOs.out; simp; omega) HSS.out hin)
        have u0 : W5.cell? ⟨wr.heap.size + 1, 0, none⟩ = some (.func (.func 37) #[] #[.pointer (some ⟨w2.heap.size + 1, 0, none⟩), .pointer (some ⟨w.heap.size, 0, none⟩), .pointer (some ⟨wr.heap.size, 0, none⟩), .pointer (some ⟨wr.heap.size + 1, 0, none⟩)]) := hUn.ubx.cell 0
        have b5 : W5.cell? ⟨gb, j, none⟩ = some (.int .i64 (bj : Int)) := row_cell (row_under hrb hU5) hgb hbi
        have tt := And.intro u0 b5
        have HBi := Lib.hid hbi
        have hb2' := hb2
        have HUn5 := Lib.hid hUn
        have HU5 := Lib.hid hU5
        have HE5 := Lib.hid hW5
        clear u0 b5 hrb hUn hU5 hpart hrv hbi hin HQ hb2 hfp hgb hgp hW5
        subst hTT
        go_wp2_with fail
        rw [HE5.out] at tt
        go_region_held3 (fun w' => w'.cell? ⟨wr.heap.size + 1, 0, none⟩ = some (.func (.func 37) #[] #[.pointer (some ⟨w2.heap.size + 1, 0, none⟩), .pointer (some ⟨w.heap.size, 0, none⟩), .pointer (some ⟨wr.heap.size, 0, none⟩), .pointer (some ⟨wr.heap.size + 1, 0, none⟩)]) ∧ w'.cell? ⟨gb, j, none⟩ = some (.int .i64 (bj : Int)))
          (first
            | exact tt
            | go_keep
            | exact ⟨q0, q1⟩)
          ((go_simp; go_at_call 37; rw [← HE5.out]; refine HC.out.mono ?_; rintro e w6 ⟨⟨v6, rfl⟩, sv6, lv6, hU6, hC6, hO6, hL6⟩
            have q0 : w6.cell? ⟨wr.heap.size + 1, 0, none⟩ = some (.func (.func 37) #[] #[.pointer (some ⟨w2.heap.size + 1, 0, none⟩), .pointer (some ⟨w.heap.size, 0, none⟩), .pointer (some ⟨wr.heap.size, 0, none⟩), .pointer (some ⟨wr.heap.size + 1, 0, none⟩)]) := hU6.ubx.cell 0
            have HW6 := Lib.hid ((HI.out.und HU5.out).step hU6 rfl rfl rfl rfl hC6 hO6 hL6)
            have q1 : w6.cell? ⟨gb, j, none⟩ = some (.int .i64 (bj : Int)) := row_cell (HW6.out.row H0.out HRb4.out (by decide) (by decide) (by decide)) rfl HBi.out))
        rename_i hHeld
        clear hHeld q0 q1 tt hU6 hC6 hO6 hL6
        go_wp2
        go_roundw
        case rel =>
          refine ⟨j + 1, os ++ bindN av st bj ++ [⟨(sayT av l[j] (st ++ bindN av st bj)).toArray⟩], sv6, lv6, by omega, by go_num, ?_, ?_, ?_⟩
          · have := HOs.out
            rw [List.length_append, List.length_append, bindN_len, List.length_singleton]
            omega
          · rw [HPa.out, HPl.out]
            simp
          · have := HW6.out
            simp only [List.append_assoc] at this ⊢
            exact this
        case measure => simp [intOf]; omega
      · obtain rfl : j = l.length := by omega
        have hos : os = partsL av l (binds ⟨k, n, m, s⟩) st := by rw [HPa.out, List.drop_length]; simp [partsL]
        obtain ⟨g9, c9, e9, hg9, _, hl9, hc9, _⟩ := row_block HI.out.lrow (by simp)
        subst e9
        have hJ : ∀ jj u, ([W, s] ++ os)[jj]? = some u → wr.cell? ⟨g9, 0 + jj, none⟩ = some (.string u) := fun jj u hu => by rw [Nat.zero_add]; exact row_cell HI.out.lrow rfl (by rw [List.getElem?_map, hu]; rfl)
        rw [← hos] at HT
        have HTs := HT.out
        obtain ⟨J, hJd⟩ : ∃ J, J = Lib.join (([W, s] ++ os).map (·.data.toList)) (⟨#[32]⟩ : ByteArray).data.toList := ⟨_, rfl⟩
        have hTJ : sayT av (.mk ⟨k, n, m, s⟩ l) st = 40 :: J ++ [41] := by rw [HTs, hJd]; rfl
        have hJl : J.length + 2 ≤ 1000000 := by
          have h1 := HSl.out
          have h2 := HN4.out
          rw [hTJ] at h1
          simp at h1
          omega
        have HJc := Lib.hid (Tryz.strings_Join g9 0 c9 ([W, s] ++ os) ⟨#[32]⟩ wr hJ hl9 (by have := HOs.out; simp; omega) hc9 (by rw [← hJd]; omega))
        rw [← hJd] at HJc
        have HTJ := Lib.hid hTJ
        have z0 : wr.cell? ⟨w2.heap.size + 1, 0, none⟩ = some (.slice (some ⟨g9, 0, none⟩) ([W, s] ++ os).length c9) := HI.out.lbx.cell 0
        have z1 := HI.out.lbx.lt
        have hnb := HI.out.box H0.out HB24.out (by decide) (by decide) (by decide)
        have z4 : wr.cell? ⟨w.heap.size + 1, 0, none⟩ = some (.int .i64 k) := hnb.cell 0
        have z5 := hnb.lt
        have z2 : ¬ 9223372036854775807 < 1 + J.toArray.size := by simp; omega
        have z3 : ¬ 9223372036854775807 < 1 + J.toArray.size + 1 := by simp; omega
        have HCJ := Lib.hid ((Ch.of_under HU4.out).trans HI.out.ch (D := fun b => PrC pb tb sv b ∨ b = w2.heap.size + 1 ∨ ((.slice (some ⟨gg, 0, none⟩) 2 cc) : Value).ownBlock = some b) (C := PrC pb tb sv) (fun i hi h => by
          rcases h with h | h | h
          · exact h
          · have := HLb.out; omega
          · have := HLv.out i h; omega))
        have HPJ := Lib.hid HI.out.pr
        clear hos hJ HTs hJd hTJ hJl HT
        go_wp2_with fail
        clear z0 z1 hnb z4 z5
        refine HJc.out.mono ?_
        rintro e w7 ⟨rfl, hBl⟩
        have HU7 := Lib.hid (under_below hBl)
        clear hBl HJc
        go_wp2
        go_ret
        exact ⟨ret_str (by rw [HTJ.out]; exact ByteArray.ext (by simp)), sv', HPJ.out.under HU7.out, HCJ.out.under HU7.out, fun b hb e => HI.out.own b (by have := HU4.out.size; omega) e⟩
end Go.Proofs.YtiibknlpeodejaaGreatDoor

/- pretty.(*printer).words: constructors. Printed by pwords.py. -/
namespace Go.Proofs.YtiibknlpeodejaaGreatDoor
open Go.Lx Go.RowKit
attribute [local go_sem] store_func

set_option maxRecDepth 100000 in
set_option maxHeartbeats 2000000 in
theorem words_con_true (x : Nd) (l : List Tm) (f0 : (x.k == 0) = false) (f1 : (x.k == 1) = false) (f2 : (x.k == 2) = false) (fp : plainK x = false) (f3 : (x.k == 3) = false) (f6 : (x.k == 6) = false) (f4 : (x.k == 4) = false) (f26 : (x.k == 26) = true) (fs : (x.s.toList == []) = false) (fl : ((l.length : Int) == 0) = true) (ih : ∀ a ∈ l, WordsOk a) : WordsOk (.mk x l) := by
  obtain ⟨i0, hi, hz0, hz1, hz2'⟩ := info_parts Tryz.infoStrZ
  have g0 : x.k ≠ 0 := by simpa using f0
  have g1 : x.k ≠ 1 := by simpa using f1
  have g2 : x.k ≠ 2 := by simpa using f2
  rintro hok hd hn W0 w pb hq tb ks st av sv tv hW hS hP hT hv hA ha hst hss hin
  have hx := hok.1
  have hte : (flat (.mk x l))[(flat (.mk x l)).length - 1]? = some x := by rw [flat]; simp
  have hpos : 1 ≤ (flat (.mk x l)).length := by rw [flat]; simp
  have hsl := sayT_len av (by omega) (.mk x l) hok st hss (by omega)
  have hlen := hok.2.1
  have hl8 := binds_len hx
  have hbr : (if rightB x then binds x else []) = binds x := if_pos hx
  have hb2 : ∀ b ∈ binds x, b ≤ 2 := fun b hb => by have := bindsR_le (x := x); unfold bindsR at this; rw [hbr] at this; exact this b hb
  unfold inT at hin
  rw [if_neg (by omega)] at hin
  obtain ⟨p, c, rfl, hc, hp0, hr⟩ := hv
  obtain ⟨b, off, rfl, hb, c0, c1, c2, c3⟩ := RowArg.node hr hte
  have HAr := Lib.hid (fun w1 (hU : Under w w1) => args_any (w0 := w1) x l (t := flat (.mk x l)) (b := b) (off := off) (c := c) rfl hok hd hn hc (hr.under hU) ((hS.under hP.und).under hU))
  have HBn := Lib.hid (fun w1 (hU : Under w w1) => binds_any (w0 := w1) x (by have := rightB_s hx; simp only [maxLen]; omega) ((hS.under hP.und).under hU))
  have HUn := Lib.hid (fun a (ha' : a ∈ l) => under_any a (okTs_mem.1 hok.2.2 a ha') (Nat.le_trans (deep_part ha') hd) (by have := flat_part ha'; rw [flat, List.length_append] at hn; omega) (ih a ha'))
  have hfl : (flat (.mk x l)).length = (flats l).length + 1 := by rw [flat]; simp
  obtain ⟨M, hM⟩ : ∃ M, (flat (.mk x l)).length = M + 1 := ⟨(flat (.mk x l)).length - 1, by omega⟩
  rw [hM] at c0 c1 c2 c3
  simp only [Nat.add_sub_cancel] at c0 c1 c2 c3
  have hM0 : (0 : Int) ≤ (M : Int) := by omega
  have hM4 : (M : Int) ≤ 4000 := by omega
  have hMi : ((M : Int) + 1 - 1) = (M : Int) := by omega
  have hk := rightB_k hx
  obtain ⟨w1, hw1⟩ : ∃ w1, w1 = (w.alloc (.cells #[.pointer (some ⟨pb, 0, none⟩)] 41)).alloc (.cells #[.int .i64 x.k, .int .i64 x.n, .int .i64 x.m, .string x.s] 38) := ⟨_, rfl⟩
  have hU1 : Under w w1 := by rw [hw1]; exact under_alloc (under_alloc (Under.refl w) _) _
  have hB1 : BoxAt w1 w.heap.size 41 #[.pointer (some ⟨pb, 0, none⟩)] := by rw [hw1]; exact (box_new w _ _).alloc _
  have hB2 : BoxAt w1 (w.heap.size + 1) 38 #[.int .i64 x.k, .int .i64 x.n, .int .i64 x.m, .string x.s] := by
    have := box_new (w.alloc (.cells #[.pointer (some ⟨pb, 0, none⟩)] 41)) #[.int .i64 x.k, .int .i64 x.n, .int .i64 x.m, .string x.s] 38
    rw [World.size_alloc] at this
    rw [hw1]
    exact this
  have hP1 := hP.under hU1
  have d0 : w1.cell? ⟨w.heap.size, 0, none⟩ = some (.pointer (some ⟨pb, 0, none⟩)) := hB1.cell 0
  have d1 : w1.cell? ⟨pb, 0, none⟩ = some (.map (some hq)) := hP1.box.cell 0
  have d2 : w1.cell? ⟨w.heap.size + 1, 0, none⟩ = some (.int .i64 x.k) := hB2.cell 0
  have d3 : MapIAt w1 hq headsL := hP1.heads
  have hsz1 : w1.heap.size = w.heap.size + 2 := by rw [hw1]; simp
  have HFd := head_field
  have HLk := fun (w' : World) (h : MapIAt w' hq headsL) => heads_look h hk.1 hk.2
  rw [hM]
  have HU1 := Lib.hid hU1
  have HB1 := Lib.hid hB1
  have HB2 := Lib.hid hB2
  have HP1 := Lib.hid hP1
  have HP := Lib.hid hP
  have HT0 := Lib.hid hT
  have dd := And.intro d0 (And.intro d1 (And.intro d2 d3))
  have HK := Lib.hid hk
  have HIn := Lib.hid hin
  have HLen := Lib.hid hlen
  have HL8 := Lib.hid hl8
  have HBr := Lib.hid hbr
  have HB22b := Lib.hid hb2
  have HX := Lib.hid hx
  have HSS := Lib.hid hss
  have HW := Lib.hid hW
  have HS := Lib.hid hS
  have HFl := Lib.hid hfl
  have HSt := Lib.hid hst
  have HHa := Lib.hid ha
  have HM := Lib.hid hM
  rw [hM] at hc hsl HAr hn
  have HSl := Lib.hid hsl
  have HN4 := Lib.hid hn
  clear hte hr hok hin hst hss hA hT hS hW hP hU1 hB1 hB2 hP1 hpos hn hM hp0 hx hd d0 d1 d2 d3 hk hsl hlen hl8 hbr hb2 hfl ha ih
  have hn9 := rightB_n HX.out
  obtain ⟨u, hu⟩ : ∃ u : Nat, x.n = u := ⟨x.n.toNat, by omega⟩
  obtain ⟨D, hD⟩ : ∃ D, D = Lib.decDigits u := ⟨_, rfl⟩
  have HI20 := Lib.hid (fun w => Tryz.strconv_Itoa_small u (by omega) w)
  have HT : RowKit.Hid (sayT av (.mk x l) st = 40 :: Lib.join ((wordsB x :: ([x.s, ⟨D.toArray⟩] ++ partsL av l (binds x) st)).map (·.data.toList)) [32] ++ [41]) := Lib.hid (by
    have := say_join (av := av) (st := st) (x := x) (l := l) g0 g1 g2 fp (by simp [firstK, f3, f6, f4])
    have hne : x.k = 26 := by simpa using f26
    rw [show extraL x = [x.s, ⟨D.toArray⟩] by unfold extraL; rw [fs, if_pos hne, hu, Int.toNat_natCast, ← hD]; rfl] at this
    exact this)
  have HWd : RowKit.Hid (headB x.k.toNat = wordsB x) := Lib.hid (by unfold wordsB; rw [if_neg (by have := f3; have := f6; simp at *; omega)])
  rw [HWd.out] at HLk
  generalize wordsB x = W at *
  rw [← hD] at HI20
  subst hw1
  clear g0 g1 g2 fp HWd HX hD
  obtain ⟨k, n, m, s⟩ := x
  simp only at *
  subst hu
  have hu0 : (0 : Int) ≤ (u : Int) := by omega
  go_enter Tryz.func21, Tryz.ntmps21
  go_wp2_with fail
  go_region_held3 (fun w' => w'.cell? ⟨w.heap.size, 0, none⟩ = some (.pointer (some ⟨pb, 0, none⟩)) ∧ w'.cell? ⟨pb, 0, none⟩ = some (.map (some hq)) ∧ w'.cell? ⟨w.heap.size + 1, 0, none⟩ = some (.int .i64 k) ∧ MapIAt w' hq headsL)
    (first
      | exact dd
      | go_keep)
    (fail)
  rename_i hHeld
  clear dd hHeld HLk HFd c0 c1 c2 c3
  go_wp2_with fail
  refine (HBn.out _ (HU1.out.trans (under_drew (Under.refl _)))).mono ?_
  rintro e w2 ⟨vb, rfl, hrb, hU2⟩
  rw [HBr.out] at hrb
  have HU2 := Lib.hid ((HU1.out.trans (under_drew (Under.refl _))).trans hU2)
  have HB12 := Lib.hid (HB1.out.under ((under_drew (Under.refl _)).trans hU2))
  have hB22 := HB2.out.under ((under_drew (Under.refl _)).trans hU2)
  have HB22 := Lib.hid hB22
  have HRb := Lib.hid hrb
  obtain ⟨qb, cb, rfl, _, _⟩ := RowArg.of_own hrb
  rw [← HLen.out]
  have e3 : w2.cell? ⟨w.heap.size + 1, 3, none⟩ = some (.string s) := hB22.cell 3
  have e1 : w2.cell? ⟨w.heap.size + 1, 1, none⟩ = some (.int .i64 (u : Int)) := hB22.cell 1
  have e0 : w2.cell? ⟨w.heap.size + 1, 0, none⟩ = some (.int .i64 k) := hB22.cell 0
  have el := hB22.lt
  have hU3 : Under w2 ((w2.alloc (.cells #[.string W] 9)).alloc (.cells #[.slice (some ⟨w2.heap.size, 0, none⟩) 1 1] 23)) := under_alloc (under_alloc (Under.refl _) _) _
  have hB3 := hB22.under hU3
  have m3 : ((w2.alloc (.cells #[.string W] 9)).alloc (.cells #[.slice (some ⟨w2.heap.size, 0, none⟩) 1 1] 23)).cell? ⟨w.heap.size + 1, 3, none⟩ = some (.string s) := hB3.cell 3
  have m1 : ((w2.alloc (.cells #[.string W] 9)).alloc (.cells #[.slice (some ⟨w2.heap.size, 0, none⟩) 1 1] 23)).cell? ⟨w.heap.size + 1, 1, none⟩ = some (.int .i64 (u : Int)) := hB3.cell 1
  have m0 : ((w2.alloc (.cells #[.string W] 9)).alloc (.cells #[.slice (some ⟨w2.heap.size, 0, none⟩) 1 1] 23)).cell? ⟨w.heap.size + 1, 0, none⟩ = some (.int .i64 k) := hB3.cell 0
  have ml := hB3.lt
  have hL3 := box_new (w2.alloc (.cells #[.string W] 9)) #[.slice (some ⟨w2.heap.size, 0, none⟩) 1 1] 23
  rw [World.size_alloc] at hL3
  have l0 : ((w2.alloc (.cells #[.string W] 9)).alloc (.cells #[.slice (some ⟨w2.heap.size, 0, none⟩) 1 1] 23)).cell? ⟨w2.heap.size + 1, 0, none⟩ = some (.slice (some ⟨w2.heap.size, 0, none⟩) 1 1) := hL3.cell 0
  have ll := hL3.lt
  have hz2 : w.heap.size ≤ w2.heap.size := HU2.out.size
  have hbs : W0.heap.size ≤ w2.heap.size := (HP.out.und.trans HU2.out).size
  have hR3 := row_under (own_one w2 W0.heap.size 9 (.string W) hbs) (under_alloc (Under.refl _) (.cells #[.slice (some ⟨w2.heap.size, 0, none⟩) 1 1] 23))
  have hv3 : ∀ i, (Value.slice (some ⟨w2.heap.size, 0, none⟩) 1 1).ownBlock = some i → w2.heap.size ≤ i := fun i h => by cases h; exact Nat.le_refl _
  have HU23 := Lib.hid hU3
  have HL3 := Lib.hid hL3
  have HR3 := Lib.hid hR3
  have HV3 := Lib.hid hv3
  clear hrb hU2 hB22 hU3 hB3 hL3 hR3 hv3
  go_wp2_with (at_builtin; refine wpList_append_lies _ rfl _ _ 23 rfl W0.heap.size 9 i0 _ 1 16 Tryz.underlying23 hi hz0 hz1 hz2' rfl (by decide) (.slice (some ⟨w2.heap.size, 0, none⟩) 1 1) 1 ([W].map .string) rfl (HR3.out.alloc _) _ 1 1 [.string s] rfl rfl (fun j u hj => by have h := cell_one_new ((w2.alloc (.cells #[.string W] 9)).alloc (.cells #[.slice (some ⟨w2.heap.size, 0, none⟩) 1 1] 23)) (.string s) 9 j u hj; simpa using h) (by simp [Value.oneCell']) (by omega) (by simp only [maxLen]; omega) (by omega) (by simp; omega) ((((w2.alloc (.cells #[.string W] 9)).alloc (.cells #[.slice (some ⟨w2.heap.size, 0, none⟩) 1 1] 23))).heap.size + 1) (by simp) ?_)
  intro gg cc w5 hown hgrow hat hlt
  obtain ⟨p1, p2, p3, p4, p5⟩ := push_l (ls := [W]) (x := s) HU23.out (Nat.le_succ _) HL3.out HR3.out HV3.out hown hgrow (hat.imp id (fun e => by first | omega | (simp at e; omega)))
  have pb5 : w5.cell? ⟨w2.heap.size + 1, 0, none⟩ = some (.slice (some ⟨w2.heap.size, 0, none⟩) 1 1) := p1.cell 0
  have pf5 := p1.free 0
  have pl5 := p1.lt
  have hB5 := HB22.out.under p2
  have r1 : (w5.setCell ⟨w2.heap.size + 1, 0, none⟩ (.slice (some ⟨gg, 0, none⟩) (1 + 1) cc)).cell? ⟨w.heap.size + 1, 1, none⟩ = some (.int .i64 (u : Int)) := hB5.cell 1
  have r0 : (w5.setCell ⟨w2.heap.size + 1, 0, none⟩ (.slice (some ⟨gg, 0, none⟩) (1 + 1) cc)).cell? ⟨w.heap.size + 1, 0, none⟩ = some (.int .i64 k) := hB5.cell 0
  have rl := hB5.lt
  have rb : (w5.setCell ⟨w2.heap.size + 1, 0, none⟩ (.slice (some ⟨gg, 0, none⟩) (1 + 1) cc)).cell? ⟨w2.heap.size + 1, 0, none⟩ = some (.slice (some ⟨gg, 0, none⟩) (1 + 1) cc) := p3.cell 0
  have rbl := p3.lt
  have HU23 := Lib.hid p2
  have HL3 := Lib.hid p3
  have HR3 := Lib.hid p4
  have HV3 := Lib.hid p5
  clear p1 p2 p3 p4 p5 hown hgrow hat hlt hB5 e3 e1 e0 el m3 m1 m0 ml l0 ll
  simp only [List.length_cons, List.length_nil, Nat.zero_add, Nat.reduceAdd, List.cons_append, List.nil_append] at HR3 HL3 HV3 HU23 r1 r0 rl rb rbl
  go_wp2_with fail
  generalize (w5.setCell ⟨w2.heap.size + 1, 0, none⟩ (.slice (some ⟨gg, 0, none⟩) 2 cc)) = w3' at HU23 HL3 HR3 r1 r0 rl rb rbl ⊢
  have HRd := Lib.hid (row_under HR3.out (under_drew (Under.refl w3')))
  have hbz : W0.heap.size ≤ w3'.heap.size := Nat.le_trans hbs HU23.out.size
  have hwz : w2.heap.size ≤ w3'.heap.size := HU23.out.size
  have r3 : (w3'.drew.alloc (.cells #[.string ⟨D.toArray⟩] 9)).cell? ⟨w2.heap.size + 1, 0, none⟩ = some (.slice (some ⟨gg, 0, none⟩) 2 cc) := ((HL3.out.drew).alloc _).cell 0
  refine wp_meet ?A (fun gg2 cc2 w' => RowKit.Hid (Under w2 w' ∧ BoxAt w' (w2.heap.size + 1) 23 #[.slice (some ⟨gg2, 0, none⟩) 3 cc2] ∧ w'.ownsRow W0.heap.size 9 1 (.slice (some ⟨gg2, 0, none⟩) 3 cc2) 3 ([W, s, ⟨D.toArray⟩].map .string) ∧ ∀ i, (Value.slice (some ⟨gg2, 0, none⟩) 3 cc2).ownBlock = some i → w2.heap.size ≤ i)) ?reg ?imp
  case reg =>
    intro KK hKK
    go_region_law
      (first
        | (go_simp; go_at_call 29; refine (HI20.out _).mono ?_; rintro e wI ⟨rfl, rfl⟩)
        | (refine step_append_lies _ (by rfl) _ _ _ (by rfl) W0.heap.size 9 i0 _ 1 16 Tryz.underlying23 hi hz0 hz1 hz2' rfl (by omega) (.slice (some ⟨gg, 0, none⟩) 2 cc) 2 ([W, s].map .string) (by rfl) (HRd.out.alloc _) ⟨w3'.heap.size, 0, none⟩ 1 1 [.string ⟨D.toArray⟩] (by rfl) (by rfl) (cell_one_new w3'.drew _ _) (by simp [Value.oneCell']) (by omega) (by simp only [maxLen]; omega) (by omega) (by simp; omega) (w3'.heap.size + 1) (by simp) ?_
           intro gg2 cc2 w6 hown hgrow hat hlt
           obtain ⟨p1, p2, p3, p4, p5⟩ := push_l (ls := [W, s]) (x := ⟨D.toArray⟩) (HU23.out.trans (under_drew (Under.refl _))) (Nat.le_succ _) (HL3.out.drew) HRd.out HV3.out hown hgrow (hat.imp id (fun e => by omega))
           have pc6 : w6.cell? ⟨w2.heap.size + 1, 0, none⟩ = some (.slice (some ⟨gg, 0, none⟩) 2 cc) := p1.cell 0
           have pf6 := p1.free 0
           have pl6 := p1.lt
           have P2 := Lib.hid p2
           have P3 := Lib.hid p3
           have P4 := Lib.hid p4
           have P5 := Lib.hid p5
           clear p1 p2 p3 p4 p5 hown hgrow hat hlt))
    all_goals exact hKK gg2 cc2 _ (Lib.hid ⟨P2.out, P3.out, P4.out, P5.out⟩)
  case imp =>
    intro gg2 cc2 w6 hG
    have HU23 := Lib.hid hG.out.1
    have HL3 := Lib.hid hG.out.2.1
    have HR3 := Lib.hid hG.out.2.2.1
    have HV3 := Lib.hid hG.out.2.2.2
    clear hG r1 r0 rl rb rbl r3 HRd
    go_wp2_with fail
    refine (HAr.out _ (HU2.out.trans HU23.out)).mono ?_
    clear pb5 pf5 pl5
    generalize w6 = w3 at HU23 HL3 HR3 ⊢
    rintro e w4 ⟨vr, vs, rfl, hU4, hvr, hz⟩
    have HU3 := Lib.hid (HU2.out.trans HU23.out)
    have HU4 := Lib.hid (HU3.out.trans hU4)
    have HU24 := Lib.hid (HU23.out.trans hU4)
    have h0 : WdI W0 w4 pb hq tb (w2.heap.size + 1) ks st sv (.slice (some ⟨gg2, 0, none⟩) 3 cc2) [W, s, ⟨D.toArray⟩] sv (.slice (some ⟨gg2, 0, none⟩) 3 cc2) w4 := ⟨HP.out.under HU4.out, HL3.out.under hU4, row_under HR3.out hU4, by
      cases ho : ((.slice (some ⟨gg2, 0, none⟩) 3 cc2) : Value).ownBlock with
      | none => exact .inl rfl
      | some g =>
        right
        intro e
        have h1 := (row_lt HP.out.row (g := g) e.symm).2
        have h2 := HV3.out g ho
        omega, by omega, Ch.refl _, fun b _ e => e, fun b _ e => e⟩
    have H0 := Lib.hid h0
    have HB14 := Lib.hid (HB12.out.under HU24.out)
    have HB24 := Lib.hid (HB22.out.under HU24.out)
    have HRb4 := Lib.hid (row_under HRb.out HU24.out)
    have HVr := Lib.hid hvr
    have HZ := Lib.hid hz
    have hbase := HU4.out.size
    have hvl : vs.length = l.length := by have := hvr.1; omega
    obtain ⟨qp, cp, rfl, _, _⟩ := RowArg.of_own hvr
    have HVl := Lib.hid hvl
    have HLb := Lib.hid (show w.heap.size ≤ w2.heap.size + 1 by omega)
    have HLv := Lib.hid (fun i (h : ((.slice (some ⟨gg2, 0, none⟩) 3 cc2) : Value).ownBlock = some i) => (show w.heap.size ≤ i from Nat.le_trans hz2 (HV3.out i h)))
    have HB34 := Lib.hid (show W0.heap.size ≤ w3.heap.size from (HP.out.und.trans HU3.out).size)
    clear h0 hvr hz hU4 hvl HB12 HB22 HU23 HRb HL3 HR3
    go_wp2
    go_loopw [130] (fun i wr => WdRel W0 w4 pb hq tb (w2.heap.size + 1) ks st av sv (.slice (some ⟨gg2, 0, none⟩) 3 cc2) l (binds ⟨k, (u : Int), m, s⟩) [W, s, ⟨D.toArray⟩] i wr) (fun i _ => l.length - (intOf i).toNat)
    case atStart => exact ⟨0, [], sv, (.slice (some ⟨gg2, 0, none⟩) 3 cc2), Nat.zero_le _, rfl, Nat.zero_le _, rfl, by rw [List.append_nil]; exact H0.out⟩
    case round =>
      obtain ⟨j, os, sv', lv', hj, rfl, hos, hpa, hI⟩ := hrel
      have HI := Lib.hid hI
      have HPa := Lib.hid hpa
      have HOs := Lib.hid hos
      have hj0 : (0 : Int) ≤ (j : Int) := by omega
      have hj8 : l.length ≤ 8 := by rw [HLen.out]; exact HL8.out
      clear hpa hos
      by_cases hjl : j < l.length
      · have hjb : j < (binds ⟨k, (u : Int), m, s⟩).length := by rw [← HLen.out]; exact hjl
        have hjl' : (j : Int) < (l.length : Int) := by omega
        have hjv : j < vs.length := by rw [HVl.out]; exact hjl
        have hrv := HI.out.row H0.out HVr.out (by decide) (by decide) (by decide)
        obtain ⟨gp, cp', ep, hgp, _, hgl, _, _⟩ := row_block hrv (by omega)
        obtain ⟨rfl, rfl⟩ : qp = some ⟨gp, 0, none⟩ ∧ cp = cp' := by cases ep; exact ⟨rfl, rfl⟩
        clear ep
        have v0 := row_cell hrv hgp (List.getElem?_eq_getElem hjv)
        have hrb := HI.out.row H0.out HRb4.out (by decide) (by decide) (by decide)
        obtain ⟨gb, cb', eb, hgb, _, hbl, _, _⟩ := row_block hrb (by omega)
        rw [← HLen.out] at eb
        obtain ⟨rfl, rfl⟩ : qb = some ⟨gb, 0, none⟩ ∧ cb = cb' := by cases eb; exact ⟨rfl, rfl⟩
        clear eb
        have hbi := intsN_at (List.getElem?_eq_getElem hjb)
        have hpart := row_base (HI.out.row H0.out (HZ.out.2 j _ _ (List.getElem?_eq_getElem hjv) (List.getElem?_eq_getElem hjl)) (by decide) (by decide) (by decide)) (base' := W0.heap.size) HB34.out
        have HPt := Lib.hid hpart
        have hin := inTs_at hjl hjb HIn.out
        have hb2 := HB22b.out _ (List.getElem_mem hjb)
        have hfp := flat_part (List.getElem_mem hjl)
        have HPl := Lib.hid (partsL_at (av := av) (st := st) hjl hjb)
        have HQ := HUn.out _ (List.getElem_mem hjl) (binds ⟨k, (u : Int), m, s⟩)[j]
        generalize hTT : l[j] = T at *
        generalize (binds ⟨k, (u : Int), m, s⟩)[j] = bj at *
        generalize vs[j] = xv at *
        obtain ⟨qx, cx, rfl, _, _⟩ := RowArg.of_own hpart
        have hbj0 : (0 : Int) ≤ (bj : Int) := by omega
        obtain ⟨W5, hW5⟩ : ∃ W5, W5 = ((wr.alloc (.cells #[.slice qx (flat T).length cx] 22)).alloc (.cells #[(.func (.func 37) #[] #[.pointer (some ⟨w2.heap.size + 1, 0, none⟩), .pointer (some ⟨w.heap.size, 0, none⟩), .pointer (some ⟨wr.heap.size, 0, none⟩), .pointer (some ⟨wr.heap.size + 1, 0, none⟩)])] 58)).drew := ⟨_, rfl⟩
        have hU5 : Under wr W5 := by rw [hW5]; exact under_drew (under_alloc (under_alloc (Under.refl _) _) _)
        have hUn : UnS W0 ⟨pb, hq, tb, w2.heap.size + 1, w.heap.size, wr.heap.size, wr.heap.size + 1⟩ ks st sv' ([W, s, ⟨D.toArray⟩] ++ os) lv' (.slice qx (flat T).length cx) T W5 := by
          refine ⟨HI.out.pr.under hU5, HI.out.lbx.under hU5, row_under HI.out.lrow hU5, HI.out.apart, (HI.out.box H0.out HB14.out (by decide) (by decide) (by decide)).under hU5, ?_, ?_, row_under HPt.out hU5, HI.out.lo⟩
          · rw [hW5]; exact ((box_new wr _ _).alloc _).drew
          · rw [hW5]
            have := box_new (wr.alloc (.cells #[.slice qx (flat T).length cx] 22)) #[(.func (.func 37) #[] #[.pointer (some ⟨w2.heap.size + 1, 0, none⟩), .pointer (some ⟨w.heap.size, 0, none⟩), .pointer (some ⟨wr.heap.size, 0, none⟩), .pointer (some ⟨wr.heap.size + 1, 0, none⟩)])] 58
            rw [World.size_alloc] at this
            exact this.drew
        have HC := Lib.hid (HQ W0 W5 ⟨pb, hq, tb, w2.heap.size + 1, w.heap.size, wr.heap.size, wr.heap.size + 1⟩ ks st av ([W, s, ⟨D.toArray⟩] ++ os) sv' lv' _ HW.out HS.out hUn HT0.out HHa.out (by have := HSt.out; have := HFl.out; omega) (by have := HOs.out; simp; omega) HSS.out hin)
        have u0 : W5.cell? ⟨wr.heap.size + 1, 0, none⟩ = some (.func (.func 37) #[] #[.pointer (some ⟨w2.heap.size + 1, 0, none⟩), .pointer (some ⟨w.heap.size, 0, none⟩), .pointer (some ⟨wr.heap.size, 0, none⟩), .pointer (some ⟨wr.heap.size + 1, 0, none⟩)]) := hUn.ubx.cell 0
        have b5 : W5.cell? ⟨gb, j, none⟩ = some (.int .i64 (bj : Int)) := row_cell (row_under hrb hU5) hgb hbi
        have tt := And.intro u0 b5
        have HBi := Lib.hid hbi
        have hb2' := hb2
        have HUn5 := Lib.hid hUn
        have HU5 := Lib.hid hU5
        have HE5 := Lib.hid hW5
        clear u0 b5 hrb hUn hU5 hpart hrv hbi hin HQ hb2 hfp hgb hgp hW5
        subst hTT
        go_wp2_with fail
        rw [HE5.out] at tt
        go_region_held3 (fun w' => w'.cell? ⟨wr.heap.size + 1, 0, none⟩ = some (.func (.func 37) #[] #[.pointer (some ⟨w2.heap.size + 1, 0, none⟩), .pointer (some ⟨w.heap.size, 0, none⟩), .pointer (some ⟨wr.heap.size, 0, none⟩), .pointer (some ⟨wr.heap.size + 1, 0, none⟩)]) ∧ w'.cell? ⟨gb, j, none⟩ = some (.int .i64 (bj : Int)))
          (first
            | exact tt
            | go_keep
            | exact ⟨q0, q1⟩)
          ((go_simp; go_at_call 37; rw [← HE5.out]; refine HC.out.mono ?_; rintro e w6 ⟨⟨v6, rfl⟩, sv6, lv6, hU6, hC6, hO6, hL6⟩
            have q0 : w6.cell? ⟨wr.heap.size + 1, 0, none⟩ = some (.func (.func 37) #[] #[.pointer (some ⟨w2.heap.size + 1, 0, none⟩), .pointer (some ⟨w.heap.size, 0, none⟩), .pointer (some ⟨wr.heap.size, 0, none⟩), .pointer (some ⟨wr.heap.size + 1, 0, none⟩)]) := hU6.ubx.cell 0
            have HW6 := Lib.hid ((HI.out.und HU5.out).step hU6 rfl rfl rfl rfl hC6 hO6 hL6)
            have q1 : w6.cell? ⟨gb, j, none⟩ = some (.int .i64 (bj : Int)) := row_cell (HW6.out.row H0.out HRb4.out (by decide) (by decide) (by decide)) rfl HBi.out))
        rename_i hHeld
        clear hHeld q0 q1 tt hU6 hC6 hO6 hL6
        go_wp2
        go_roundw
        case rel =>
          refine ⟨j + 1, os ++ bindN av st bj ++ [⟨(sayT av l[j] (st ++ bindN av st bj)).toArray⟩], sv6, lv6, by omega, by go_num, ?_, ?_, ?_⟩
          · have := HOs.out
            rw [List.length_append, List.length_append, bindN_len, List.length_singleton]
            omega
          · rw [HPa.out, HPl.out]
            simp
          · have := HW6.out
            simp only [List.append_assoc] at this ⊢
            exact this
        case measure => simp [intOf]; omega
      · obtain rfl : j = l.length := by omega
        have hos : os = partsL av l (binds ⟨k, (u : Int), m, s⟩) st := by rw [HPa.out, List.drop_length]; simp [partsL]
        obtain ⟨g9, c9, e9, hg9, _, hl9, hc9, _⟩ := row_block HI.out.lrow (by simp)
        subst e9
        have hJ : ∀ jj u, ([W, s, ⟨D.toArray⟩] ++ os)[jj]? = some u → wr.cell? ⟨g9, 0 + jj, none⟩ = some (.string u) := fun jj u hu => by rw [Nat.zero_add]; exact row_cell HI.out.lrow rfl (by rw [List.getElem?_map, hu]; rfl)
        rw [← hos] at HT
        have HTs := HT.out
        obtain ⟨J, hJd⟩ : ∃ J, J = Lib.join (([W, s, ⟨D.toArray⟩] ++ os).map (·.data.toList)) (⟨#[32]⟩ : ByteArray).data.toList := ⟨_, rfl⟩
        have hTJ : sayT av (.mk ⟨k, (u : Int), m, s⟩ l) st = 40 :: J ++ [41] := by rw [HTs, hJd]; rfl
        have hJl : J.length + 2 ≤ 1000000 := by
          have h1 := HSl.out
          have h2 := HN4.out
          rw [hTJ] at h1
          simp at h1
          omega
        have HJc := Lib.hid (Tryz.strings_Join g9 0 c9 ([W, s, ⟨D.toArray⟩] ++ os) ⟨#[32]⟩ wr hJ hl9 (by have := HOs.out; simp; omega) hc9 (by rw [← hJd]; omega))
        rw [← hJd] at HJc
        have HTJ := Lib.hid hTJ
        have z0 : wr.cell? ⟨w2.heap.size + 1, 0, none⟩ = some (.slice (some ⟨g9, 0, none⟩) ([W, s, ⟨D.toArray⟩] ++ os).length c9) := HI.out.lbx.cell 0
        have z1 := HI.out.lbx.lt
        have hnb := HI.out.box H0.out HB24.out (by decide) (by decide) (by decide)
        have z4 : wr.cell? ⟨w.heap.size + 1, 0, none⟩ = some (.int .i64 k) := hnb.cell 0
        have z5 := hnb.lt
        have z2 : ¬ 9223372036854775807 < 1 + J.toArray.size := by simp; omega
        have z3 : ¬ 9223372036854775807 < 1 + J.toArray.size + 1 := by simp; omega
        have HCJ := Lib.hid ((Ch.of_under HU4.out).trans HI.out.ch (D := fun b => PrC pb tb sv b ∨ b = w2.heap.size + 1 ∨ ((.slice (some ⟨gg2, 0, none⟩) 3 cc2) : Value).ownBlock = some b) (C := PrC pb tb sv) (fun i hi h => by
          rcases h with h | h | h
          · exact h
          · have := HLb.out; omega
          · have := HLv.out i h; omega))
        have HPJ := Lib.hid HI.out.pr
        clear hos hJ HTs hJd hTJ hJl HT
        go_wp2_with fail
        clear z0 z1 hnb z4 z5
        refine HJc.out.mono ?_
        rintro e w7 ⟨rfl, hBl⟩
        have HU7 := Lib.hid (under_below hBl)
        clear hBl HJc
        go_wp2
        go_ret
        exact ⟨ret_str (by rw [HTJ.out]; exact ByteArray.ext (by simp)), sv', HPJ.out.under HU7.out, HCJ.out.under HU7.out, fun b hb e => HI.out.own b (by have := HU4.out.size; omega) e⟩
end Go.Proofs.YtiibknlpeodejaaGreatDoor

/- pretty.(*printer).words: constructors. Printed by pwords.py. -/
namespace Go.Proofs.YtiibknlpeodejaaGreatDoor
open Go.Lx Go.RowKit
attribute [local go_sem] store_func

set_option maxRecDepth 100000 in
set_option maxHeartbeats 2000000 in
theorem words_con_false (x : Nd) (l : List Tm) (f0 : (x.k == 0) = false) (f1 : (x.k == 1) = false) (f2 : (x.k == 2) = false) (fp : plainK x = false) (f3 : (x.k == 3) = false) (f6 : (x.k == 6) = false) (f4 : (x.k == 4) = false) (f26 : (x.k == 26) = true) (fs : (x.s.toList == []) = false) (fl : ((l.length : Int) == 0) = false) (ih : ∀ a ∈ l, WordsOk a) : WordsOk (.mk x l) := by
  obtain ⟨i0, hi, hz0, hz1, hz2'⟩ := info_parts Tryz.infoStrZ
  have g0 : x.k ≠ 0 := by simpa using f0
  have g1 : x.k ≠ 1 := by simpa using f1
  have g2 : x.k ≠ 2 := by simpa using f2
  rintro hok hd hn W0 w pb hq tb ks st av sv tv hW hS hP hT hv hA ha hst hss hin
  have hx := hok.1
  have hte : (flat (.mk x l))[(flat (.mk x l)).length - 1]? = some x := by rw [flat]; simp
  have hpos : 1 ≤ (flat (.mk x l)).length := by rw [flat]; simp
  have hsl := sayT_len av (by omega) (.mk x l) hok st hss (by omega)
  have hlen := hok.2.1
  have hl8 := binds_len hx
  have hbr : (if rightB x then binds x else []) = binds x := if_pos hx
  have hb2 : ∀ b ∈ binds x, b ≤ 2 := fun b hb => by have := bindsR_le (x := x); unfold bindsR at this; rw [hbr] at this; exact this b hb
  unfold inT at hin
  rw [if_neg (by omega)] at hin
  obtain ⟨p, c, rfl, hc, hp0, hr⟩ := hv
  obtain ⟨b, off, rfl, hb, c0, c1, c2, c3⟩ := RowArg.node hr hte
  have HAr := Lib.hid (fun w1 (hU : Under w w1) => args_any (w0 := w1) x l (t := flat (.mk x l)) (b := b) (off := off) (c := c) rfl hok hd hn hc (hr.under hU) ((hS.under hP.und).under hU))
  have HBn := Lib.hid (fun w1 (hU : Under w w1) => binds_any (w0 := w1) x (by have := rightB_s hx; simp only [maxLen]; omega) ((hS.under hP.und).under hU))
  have HUn := Lib.hid (fun a (ha' : a ∈ l) => under_any a (okTs_mem.1 hok.2.2 a ha') (Nat.le_trans (deep_part ha') hd) (by have := flat_part ha'; rw [flat, List.length_append] at hn; omega) (ih a ha'))
  have hfl : (flat (.mk x l)).length = (flats l).length + 1 := by rw [flat]; simp
  obtain ⟨M, hM⟩ : ∃ M, (flat (.mk x l)).length = M + 1 := ⟨(flat (.mk x l)).length - 1, by omega⟩
  rw [hM] at c0 c1 c2 c3
  simp only [Nat.add_sub_cancel] at c0 c1 c2 c3
  have hM0 : (0 : Int) ≤ (M : Int) := by omega
  have hM4 : (M : Int) ≤ 4000 := by omega
  have hMi : ((M : Int) + 1 - 1) = (M : Int) := by omega
  have hk := rightB_k hx
  obtain ⟨w1, hw1⟩ : ∃ w1, w1 = (w.alloc (.cells #[.pointer (some ⟨pb, 0, none⟩)] 41)).alloc (.cells #[.int .i64 x.k, .int .i64 x.n, .int .i64 x.m, .string x.s] 38) := ⟨_, rfl⟩
  have hU1 : Under w w1 := by rw [hw1]; exact under_alloc (under_alloc (Under.refl w) _) _
  have hB1 : BoxAt w1 w.heap.size 41 #[.pointer (some ⟨pb, 0, none⟩)] := by rw [hw1]; exact (box_new w _ _).alloc _
  have hB2 : BoxAt w1 (w.heap.size + 1) 38 #[.int .i64 x.k, .int .i64 x.n, .int .i64 x.m, .string x.s] := by
    have := box_new (w.alloc (.cells #[.pointer (some ⟨pb, 0, none⟩)] 41)) #[.int .i64 x.k, .int .i64 x.n, .int .i64 x.m, .string x.s] 38
    rw [World.size_alloc] at this
    rw [hw1]
    exact this
  have hP1 := hP.under hU1
  have d0 : w1.cell? ⟨w.heap.size, 0, none⟩ = some (.pointer (some ⟨pb, 0, none⟩)) := hB1.cell 0
  have d1 : w1.cell? ⟨pb, 0, none⟩ = some (.map (some hq)) := hP1.box.cell 0
  have d2 : w1.cell? ⟨w.heap.size + 1, 0, none⟩ = some (.int .i64 x.k) := hB2.cell 0
  have d3 : MapIAt w1 hq headsL := hP1.heads
  have hsz1 : w1.heap.size = w.heap.size + 2 := by rw [hw1]; simp
  have HFd := head_field
  have HLk := fun (w' : World) (h : MapIAt w' hq headsL) => heads_look h hk.1 hk.2
  rw [hM]
  have HU1 := Lib.hid hU1
  have HB1 := Lib.hid hB1
  have HB2 := Lib.hid hB2
  have HP1 := Lib.hid hP1
  have HP := Lib.hid hP
  have HT0 := Lib.hid hT
  have dd := And.intro d0 (And.intro d1 (And.intro d2 d3))
  have HK := Lib.hid hk
  have HIn := Lib.hid hin
  have HLen := Lib.hid hlen
  have HL8 := Lib.hid hl8
  have HBr := Lib.hid hbr
  have HB22b := Lib.hid hb2
  have HX := Lib.hid hx
  have HSS := Lib.hid hss
  have HW := Lib.hid hW
  have HS := Lib.hid hS
  have HFl := Lib.hid hfl
  have HSt := Lib.hid hst
  have HHa := Lib.hid ha
  have HM := Lib.hid hM
  rw [hM] at hc hsl HAr hn
  have HSl := Lib.hid hsl
  have HN4 := Lib.hid hn
  clear hte hr hok hin hst hss hA hT hS hW hP hU1 hB1 hB2 hP1 hpos hn hM hp0 hx hd d0 d1 d2 d3 hk hsl hlen hl8 hbr hb2 hfl ha ih
  have hn9 := rightB_n HX.out
  obtain ⟨u, hu⟩ : ∃ u : Nat, x.n = u := ⟨x.n.toNat, by omega⟩
  obtain ⟨D, hD⟩ : ∃ D, D = Lib.decDigits u := ⟨_, rfl⟩
  have HI20 := Lib.hid (fun w => Tryz.strconv_Itoa_small u (by omega) w)
  have HT : RowKit.Hid (sayT av (.mk x l) st = 40 :: Lib.join ((wordsB x :: ([x.s, ⟨D.toArray⟩] ++ partsL av l (binds x) st)).map (·.data.toList)) [32] ++ [41]) := Lib.hid (by
    have := say_join (av := av) (st := st) (x := x) (l := l) g0 g1 g2 fp (by simp [firstK, f3, f6, f4])
    have hne : x.k = 26 := by simpa using f26
    rw [show extraL x = [x.s, ⟨D.toArray⟩] by unfold extraL; rw [fs, if_pos hne, hu, Int.toNat_natCast, ← hD]; rfl] at this
    exact this)
  have HWd : RowKit.Hid (headB x.k.toNat = wordsB x) := Lib.hid (by unfold wordsB; rw [if_neg (by have := f3; have := f6; simp at *; omega)])
  rw [HWd.out] at HLk
  generalize wordsB x = W at *
  rw [← hD] at HI20
  subst hw1
  clear g0 g1 g2 fp HWd HX hD
  obtain ⟨k, n, m, s⟩ := x
  simp only at *
  subst hu
  have hu0 : (0 : Int) ≤ (u : Int) := by omega
  go_enter Tryz.func21, Tryz.ntmps21
  go_wp2_with fail
  go_region_held3 (fun w' => w'.cell? ⟨w.heap.size, 0, none⟩ = some (.pointer (some ⟨pb, 0, none⟩)) ∧ w'.cell? ⟨pb, 0, none⟩ = some (.map (some hq)) ∧ w'.cell? ⟨w.heap.size + 1, 0, none⟩ = some (.int .i64 k) ∧ MapIAt w' hq headsL)
    (first
      | exact dd
      | go_keep)
    (fail)
  rename_i hHeld
  clear dd hHeld HLk HFd c0 c1 c2 c3
  go_wp2_with fail
  refine (HBn.out _ (HU1.out.trans (under_drew (Under.refl _)))).mono ?_
  rintro e w2 ⟨vb, rfl, hrb, hU2⟩
  rw [HBr.out] at hrb
  have HU2 := Lib.hid ((HU1.out.trans (under_drew (Under.refl _))).trans hU2)
  have HB12 := Lib.hid (HB1.out.under ((under_drew (Under.refl _)).trans hU2))
  have hB22 := HB2.out.under ((under_drew (Under.refl _)).trans hU2)
  have HB22 := Lib.hid hB22
  have HRb := Lib.hid hrb
  obtain ⟨qb, cb, rfl, _, _⟩ := RowArg.of_own hrb
  rw [← HLen.out]
  have e3 : w2.cell? ⟨w.heap.size + 1, 3, none⟩ = some (.string s) := hB22.cell 3
  have e1 : w2.cell? ⟨w.heap.size + 1, 1, none⟩ = some (.int .i64 (u : Int)) := hB22.cell 1
  have e0 : w2.cell? ⟨w.heap.size + 1, 0, none⟩ = some (.int .i64 k) := hB22.cell 0
  have el := hB22.lt
  have hU3 : Under w2 ((w2.alloc (.cells #[.string W] 9)).alloc (.cells #[.slice (some ⟨w2.heap.size, 0, none⟩) 1 1] 23)) := under_alloc (under_alloc (Under.refl _) _) _
  have hB3 := hB22.under hU3
  have m3 : ((w2.alloc (.cells #[.string W] 9)).alloc (.cells #[.slice (some ⟨w2.heap.size, 0, none⟩) 1 1] 23)).cell? ⟨w.heap.size + 1, 3, none⟩ = some (.string s) := hB3.cell 3
  have m1 : ((w2.alloc (.cells #[.string W] 9)).alloc (.cells #[.slice (some ⟨w2.heap.size, 0, none⟩) 1 1] 23)).cell? ⟨w.heap.size + 1, 1, none⟩ = some (.int .i64 (u : Int)) := hB3.cell 1
  have m0 : ((w2.alloc (.cells #[.string W] 9)).alloc (.cells #[.slice (some ⟨w2.heap.size, 0, none⟩) 1 1] 23)).cell? ⟨w.heap.size + 1, 0, none⟩ = some (.int .i64 k) := hB3.cell 0
  have ml := hB3.lt
  have hL3 := box_new (w2.alloc (.cells #[.string W] 9)) #[.slice (some ⟨w2.heap.size, 0, none⟩) 1 1] 23
  rw [World.size_alloc] at hL3
  have l0 : ((w2.alloc (.cells #[.string W] 9)).alloc (.cells #[.slice (some ⟨w2.heap.size, 0, none⟩) 1 1] 23)).cell? ⟨w2.heap.size + 1, 0, none⟩ = some (.slice (some ⟨w2.heap.size, 0, none⟩) 1 1) := hL3.cell 0
  have ll := hL3.lt
  have hz2 : w.heap.size ≤ w2.heap.size := HU2.out.size
  have hbs : W0.heap.size ≤ w2.heap.size := (HP.out.und.trans HU2.out).size
  have hR3 := row_under (own_one w2 W0.heap.size 9 (.string W) hbs) (under_alloc (Under.refl _) (.cells #[.slice (some ⟨w2.heap.size, 0, none⟩) 1 1] 23))
  have hv3 : ∀ i, (Value.slice (some ⟨w2.heap.size, 0, none⟩) 1 1).ownBlock = some i → w2.heap.size ≤ i := fun i h => by cases h; exact Nat.le_refl _
  have HU23 := Lib.hid hU3
  have HL3 := Lib.hid hL3
  have HR3 := Lib.hid hR3
  have HV3 := Lib.hid hv3
  clear hrb hU2 hB22 hU3 hB3 hL3 hR3 hv3
  go_wp2_with (at_builtin; refine wpList_append_lies _ rfl _ _ 23 rfl W0.heap.size 9 i0 _ 1 16 Tryz.underlying23 hi hz0 hz1 hz2' rfl (by decide) (.slice (some ⟨w2.heap.size, 0, none⟩) 1 1) 1 ([W].map .string) rfl (HR3.out.alloc _) _ 1 1 [.string s] rfl rfl (fun j u hj => by have h := cell_one_new ((w2.alloc (.cells #[.string W] 9)).alloc (.cells #[.slice (some ⟨w2.heap.size, 0, none⟩) 1 1] 23)) (.string s) 9 j u hj; simpa using h) (by simp [Value.oneCell']) (by omega) (by simp only [maxLen]; omega) (by omega) (by simp; omega) ((((w2.alloc (.cells #[.string W] 9)).alloc (.cells #[.slice (some ⟨w2.heap.size, 0, none⟩) 1 1] 23))).heap.size + 1) (by simp) ?_)
  intro gg cc w5 hown hgrow hat hlt
  obtain ⟨p1, p2, p3, p4, p5⟩ := push_l (ls := [W]) (x := s) HU23.out (Nat.le_succ _) HL3.out HR3.out HV3.out hown hgrow (hat.imp id (fun e => by first | omega | (simp at e; omega)))
  have pb5 : w5.cell? ⟨w2.heap.size + 1, 0, none⟩ = some (.slice (some ⟨w2.heap.size, 0, none⟩) 1 1) := p1.cell 0
  have pf5 := p1.free 0
  have pl5 := p1.lt
  have hB5 := HB22.out.under p2
  have r1 : (w5.setCell ⟨w2.heap.size + 1, 0, none⟩ (.slice (some ⟨gg, 0, none⟩) (1 + 1) cc)).cell? ⟨w.heap.size + 1, 1, none⟩ = some (.int .i64 (u : Int)) := hB5.cell 1
  have r0 : (w5.setCell ⟨w2.heap.size + 1, 0, none⟩ (.slice (some ⟨gg, 0, none⟩) (1 + 1) cc)).cell? ⟨w.heap.size + 1, 0, none⟩ = some (.int .i64 k) := hB5.cell 0
  have rl := hB5.lt
  have rb : (w5.setCell ⟨w2.heap.size + 1, 0, none⟩ (.slice (some ⟨gg, 0, none⟩) (1 + 1) cc)).cell? ⟨w2.heap.size + 1, 0, none⟩ = some (.slice (some ⟨gg, 0, none⟩) (1 + 1) cc) := p3.cell 0
  have rbl := p3.lt
  have HU23 := Lib.hid p2
  have HL3 := Lib.hid p3
  have HR3 := Lib.hid p4
  have HV3 := Lib.hid p5
  clear p1 p2 p3 p4 p5 hown hgrow hat hlt hB5 e3 e1 e0 el m3 m1 m0 ml l0 ll
  simp only [List.length_cons, List.length_nil, Nat.zero_add, Nat.reduceAdd, List.cons_append, List.nil_append] at HR3 HL3 HV3 HU23 r1 r0 rl rb rbl
  go_wp2_with fail
  generalize (w5.setCell ⟨w2.heap.size + 1, 0, none⟩ (.slice (some ⟨gg, 0, none⟩) 2 cc)) = w3' at HU23 HL3 HR3 r1 r0 rl rb rbl ⊢
  have HRd := Lib.hid (row_under HR3.out (under_drew (Under.refl w3')))
  have hbz : W0.heap.size ≤ w3'.heap.size := Nat.le_trans hbs HU23.out.size
  have hwz : w2.heap.size ≤ w3'.heap.size := HU23.out.size
  have r3 : (w3'.drew.alloc (.cells #[.string ⟨D.toArray⟩] 9)).cell? ⟨w2.heap.size + 1, 0, none⟩ = some (.slice (some ⟨gg, 0, none⟩) 2 cc) := ((HL3.out.drew).alloc _).cell 0
  refine wp_meet ?A (fun gg2 cc2 w' => RowKit.Hid (Under w2 w' ∧ BoxAt w' (w2.heap.size + 1) 23 #[.slice (some ⟨gg2, 0, none⟩) 3 cc2] ∧ w'.ownsRow W0.heap.size 9 1 (.slice (some ⟨gg2, 0, none⟩) 3 cc2) 3 ([W, s, ⟨D.toArray⟩].map .string) ∧ ∀ i, (Value.slice (some ⟨gg2, 0, none⟩) 3 cc2).ownBlock = some i → w2.heap.size ≤ i)) ?reg ?imp
  case reg =>
    intro KK hKK
    go_region_law
      (first
        | (go_simp; go_at_call 29; refine (HI20.out _).mono ?_; rintro e wI ⟨rfl, rfl⟩)
        | (refine step_append_lies _ (by rfl) _ _ _ (by rfl) W0.heap.size 9 i0 _ 1 16 Tryz.underlying23 hi hz0 hz1 hz2' rfl (by omega) (.slice (some ⟨gg, 0, none⟩) 2 cc) 2 ([W, s].map .string) (by rfl) (HRd.out.alloc _) ⟨w3'.heap.size, 0, none⟩ 1 1 [.string ⟨D.toArray⟩] (by rfl) (by rfl) (cell_one_new w3'.drew _ _) (by simp [Value.oneCell']) (by omega) (by simp only [maxLen]; omega) (by omega) (by simp; omega) (w3'.heap.size + 1) (by simp) ?_
           intro gg2 cc2 w6 hown hgrow hat hlt
           obtain ⟨p1, p2, p3, p4, p5⟩ := push_l (ls := [W, s]) (x := ⟨D.toArray⟩) (HU23.out.trans (under_drew (Under.refl _))) (Nat.le_succ _) (HL3.out.drew) HRd.out HV3.out hown hgrow (hat.imp id (fun e => by omega))
           have pc6 : w6.cell? ⟨w2.heap.size + 1, 0, none⟩ = some (.slice (some ⟨gg, 0, none⟩) 2 cc) := p1.cell 0
           have pf6 := p1.free 0
           have pl6 := p1.lt
           have P2 := Lib.hid p2
           have P3 := Lib.hid p3
           have P4 := Lib.hid p4
           have P5 := Lib.hid p5
           clear p1 p2 p3 p4 p5 hown hgrow hat hlt))
    all_goals exact hKK gg2 cc2 _ (Lib.hid ⟨P2.out, P3.out, P4.out, P5.out⟩)
  case imp =>
    intro gg2 cc2 w6 hG
    have HU23 := Lib.hid hG.out.1
    have HL3 := Lib.hid hG.out.2.1
    have HR3 := Lib.hid hG.out.2.2.1
    have HV3 := Lib.hid hG.out.2.2.2
    clear hG r1 r0 rl rb rbl r3 HRd
    go_wp2_with fail
    refine (HAr.out _ (HU2.out.trans HU23.out)).mono ?_
    clear pb5 pf5 pl5
    generalize w6 = w3 at HU23 HL3 HR3 ⊢
    rintro e w4 ⟨vr, vs, rfl, hU4, hvr, hz⟩
    have HU3 := Lib.hid (HU2.out.trans HU23.out)
    have HU4 := Lib.hid (HU3.out.trans hU4)
    have HU24 := Lib.hid (HU23.out.trans hU4)
    have h0 : WdI W0 w4 pb hq tb (w2.heap.size + 1) ks st sv (.slice (some ⟨gg2, 0, none⟩) 3 cc2) [W, s, ⟨D.toArray⟩] sv (.slice (some ⟨gg2, 0, none⟩) 3 cc2) w4 := ⟨HP.out.under HU4.out, HL3.out.under hU4, row_under HR3.out hU4, by
      cases ho : ((.slice (some ⟨gg2, 0, none⟩) 3 cc2) : Value).ownBlock with
      | none => exact .inl rfl
      | some g =>
        right
        intro e
        have h1 := (row_lt HP.out.row (g := g) e.symm).2
        have h2 := HV3.out g ho
        omega, by omega, Ch.refl _, fun b _ e => e, fun b _ e => e⟩
    have H0 := Lib.hid h0
    have HB14 := Lib.hid (HB12.out.under HU24.out)
    have HB24 := Lib.hid (HB22.out.under HU24.out)
    have HRb4 := Lib.hid (row_under HRb.out HU24.out)
    have HVr := Lib.hid hvr
    have HZ := Lib.hid hz
    have hbase := HU4.out.size
    have hvl : vs.length = l.length := by have := hvr.1; omega
    obtain ⟨qp, cp, rfl, _, _⟩ := RowArg.of_own hvr
    have HVl := Lib.hid hvl
    have HLb := Lib.hid (show w.heap.size ≤ w2.heap.size + 1 by omega)
    have HLv := Lib.hid (fun i (h : ((.slice (some ⟨gg2, 0, none⟩) 3 cc2) : Value).ownBlock = some i) => (show w.heap.size ≤ i from Nat.le_trans hz2 (HV3.out i h)))
    have HB34 := Lib.hid (show W0.heap.size ≤ w3.heap.size from (HP.out.und.trans HU3.out).size)
    clear h0 hvr hz hU4 hvl HB12 HB22 HU23 HRb HL3 HR3
    go_wp2
    go_loopw [130] (fun i wr => WdRel W0 w4 pb hq tb (w2.heap.size + 1) ks st av sv (.slice (some ⟨gg2, 0, none⟩) 3 cc2) l (binds ⟨k, (u : Int), m, s⟩) [W, s, ⟨D.toArray⟩] i wr) (fun i _ => l.length - (intOf i).toNat)
    case atStart => exact ⟨0, [], sv, (.slice (some ⟨gg2, 0, none⟩) 3 cc2), Nat.zero_le _, rfl, Nat.zero_le _, rfl, by rw [List.append_nil]; exact H0.out⟩
    case round =>
      obtain ⟨j, os, sv', lv', hj, rfl, hos, hpa, hI⟩ := hrel
      have HI := Lib.hid hI
      have HPa := Lib.hid hpa
      have HOs := Lib.hid hos
      have hj0 : (0 : Int) ≤ (j : Int) := by omega
      have hj8 : l.length ≤ 8 := by rw [HLen.out]; exact HL8.out
      clear hpa hos
      by_cases hjl : j < l.length
      · have hjb : j < (binds ⟨k, (u : Int), m, s⟩).length := by rw [← HLen.out]; exact hjl
        have hjl' : (j : Int) < (l.length : Int) := by omega
        have hjv : j < vs.length := by rw [HVl.out]; exact hjl
        have hrv := HI.out.row H0.out HVr.out (by decide) (by decide) (by decide)
        obtain ⟨gp, cp', ep, hgp, _, hgl, _, _⟩ := row_block hrv (by omega)
        obtain ⟨rfl, rfl⟩ : qp = some ⟨gp, 0, none⟩ ∧ cp = cp' := by cases ep; exact ⟨rfl, rfl⟩
        clear ep
        have v0 := row_cell hrv hgp (List.getElem?_eq_getElem hjv)
        have hrb := HI.out.row H0.out HRb4.out (by decide) (by decide) (by decide)
        obtain ⟨gb, cb', eb, hgb, _, hbl, _, _⟩ := row_block hrb (by omega)
        rw [← HLen.out] at eb
        obtain ⟨rfl, rfl⟩ : qb = some ⟨gb, 0, none⟩ ∧ cb = cb' := by cases eb; exact ⟨rfl, rfl⟩
        clear eb
        have hbi := intsN_at (List.getElem?_eq_getElem hjb)
        have hpart := row_base (HI.out.row H0.out (HZ.out.2 j _ _ (List.getElem?_eq_getElem hjv) (List.getElem?_eq_getElem hjl)) (by decide) (by decide) (by decide)) (base' := W0.heap.size) HB34.out
        have HPt := Lib.hid hpart
        have hin := inTs_at hjl hjb HIn.out
        have hb2 := HB22b.out _ (List.getElem_mem hjb)
        have hfp := flat_part (List.getElem_mem hjl)
        have HPl := Lib.hid (partsL_at (av := av) (st := st) hjl hjb)
        have HQ := HUn.out _ (List.getElem_mem hjl) (binds ⟨k, (u : Int), m, s⟩)[j]
        generalize hTT : l[j] = T at *
        generalize (binds ⟨k, (u : Int), m, s⟩)[j] = bj at *
        generalize vs[j] = xv at *
        obtain ⟨qx, cx, rfl, _, _⟩ := RowArg.of_own hpart
        have hbj0 : (0 : Int) ≤ (bj : Int) := by omega
        obtain ⟨W5, hW5⟩ : ∃ W5, W5 = ((wr.alloc (.cells #[.slice qx (flat T).length cx] 22)).alloc (.cells #[(.func (.func 37) #[] #[.pointer (some ⟨w2.heap.size + 1, 0, none⟩), .pointer (some ⟨w.heap.size, 0, none⟩), .pointer (some ⟨wr.heap.size, 0, none⟩), .pointer (some ⟨wr.heap.size + 1, 0, none⟩)])] 58)).drew := ⟨_, rfl⟩
        have hU5 : Under wr W5 := by rw [hW5]; exact under_drew (under_alloc (under_alloc (Under.refl _) _) _)
        have hUn : UnS W0 ⟨pb, hq, tb, w2.heap.size + 1, w.heap.size, wr.heap.size, wr.heap.size + 1⟩ ks st sv' ([W, s, ⟨D.toArray⟩] ++ os) lv' (.slice qx (flat T).length cx) T W5 := by
          refine ⟨HI.out.pr.under hU5, HI.out.lbx.under hU5, row_under HI.out.lrow hU5, HI.out.apart, (HI.out.box H0.out HB14.out (by decide) (by decide) (by decide)).under hU5, ?_, ?_, row_under HPt.out hU5, HI.out.lo⟩
          · rw [hW5]; exact ((box_new wr _ _).alloc _).drew
          · rw [hW5]
            have := box_new (wr.alloc (.cells #[.slice qx (flat T).length cx] 22)) #[(.func (.func 37) #[] #[.pointer (some ⟨w2.heap.size + 1, 0, none⟩), .pointer (some ⟨w.heap.size, 0, none⟩), .pointer (some ⟨wr.heap.size, 0, none⟩), .pointer (some ⟨wr.heap.size + 1, 0, none⟩)])] 58
            rw [World.size_alloc] at this
            exact this.drew
        have HC := Lib.hid (HQ W0 W5 ⟨pb, hq, tb, w2.heap.size + 1, w.heap.size, wr.heap.size, wr.heap.size + 1⟩ ks st av ([W, s, ⟨D.toArray⟩] ++ os) sv' lv' _ HW.out HS.out hUn HT0.out HHa.out (by have := HSt.out; have := HFl.out; omega) (by have := HOs.out; simp; omega) HSS.out hin)
        have u0 : W5.cell? ⟨wr.heap.size + 1, 0, none⟩ = some (.func (.func 37) #[] #[.pointer (some ⟨w2.heap.size + 1, 0, none⟩), .pointer (some ⟨w.heap.size, 0, none⟩), .pointer (some ⟨wr.heap.size, 0, none⟩), .pointer (some ⟨wr.heap.size + 1, 0, none⟩)]) := hUn.ubx.cell 0
        have b5 : W5.cell? ⟨gb, j, none⟩ = some (.int .i64 (bj : Int)) := row_cell (row_under hrb hU5) hgb hbi
        have tt := And.intro u0 b5
        have HBi := Lib.hid hbi
        have hb2' := hb2
        have HUn5 := Lib.hid hUn
        have HU5 := Lib.hid hU5
        have HE5 := Lib.hid hW5
        clear u0 b5 hrb hUn hU5 hpart hrv hbi hin HQ hb2 hfp hgb hgp hW5
        subst hTT
        go_wp2_with fail
        rw [HE5.out] at tt
        go_region_held3 (fun w' => w'.cell? ⟨wr.heap.size + 1, 0, none⟩ = some (.func (.func 37) #[] #[.pointer (some ⟨w2.heap.size + 1, 0, none⟩), .pointer (some ⟨w.heap.size, 0, none⟩), .pointer (some ⟨wr.heap.size, 0, none⟩), .pointer (some ⟨wr.heap.size + 1, 0, none⟩)]) ∧ w'.cell? ⟨gb, j, none⟩ = some (.int .i64 (bj : Int)))
          (first
            | exact tt
            | go_keep
            | exact ⟨q0, q1⟩)
          ((go_simp; go_at_call 37; rw [← HE5.out]; refine HC.out.mono ?_; rintro e w6 ⟨⟨v6, rfl⟩, sv6, lv6, hU6, hC6, hO6, hL6⟩
            have q0 : w6.cell? ⟨wr.heap.size + 1, 0, none⟩ = some (.func (.func 37) #[] #[.pointer (some ⟨w2.heap.size + 1, 0, none⟩), .pointer (some ⟨w.heap.size, 0, none⟩), .pointer (some ⟨wr.heap.size, 0, none⟩), .pointer (some ⟨wr.heap.size + 1, 0, none⟩)]) := hU6.ubx.cell 0
            have HW6 := Lib.hid ((HI.out.und HU5.out).step hU6 rfl rfl rfl rfl hC6 hO6 hL6)
            have q1 : w6.cell? ⟨gb, j, none⟩ = some (.int .i64 (bj : Int)) := row_cell (HW6.out.row H0.out HRb4.out (by decide) (by decide) (by decide)) rfl HBi.out))
        rename_i hHeld
        clear hHeld q0 q1 tt hU6 hC6 hO6 hL6
        go_wp2
        go_roundw
        case rel =>
          refine ⟨j + 1, os ++ bindN av st bj ++ [⟨(sayT av l[j] (st ++ bindN av st bj)).toArray⟩], sv6, lv6, by omega, by go_num, ?_, ?_, ?_⟩
          · have := HOs.out
            rw [List.length_append, List.length_append, bindN_len, List.length_singleton]
            omega
          · rw [HPa.out, HPl.out]
            simp
          · have := HW6.out
            simp only [List.append_assoc] at this ⊢
            exact this
        case measure => simp [intOf]; omega
      · obtain rfl : j = l.length := by omega
        have hos : os = partsL av l (binds ⟨k, (u : Int), m, s⟩) st := by rw [HPa.out, List.drop_length]; simp [partsL]
        obtain ⟨g9, c9, e9, hg9, _, hl9, hc9, _⟩ := row_block HI.out.lrow (by simp)
        subst e9
        have hJ : ∀ jj u, ([W, s, ⟨D.toArray⟩] ++ os)[jj]? = some u → wr.cell? ⟨g9, 0 + jj, none⟩ = some (.string u) := fun jj u hu => by rw [Nat.zero_add]; exact row_cell HI.out.lrow rfl (by rw [List.getElem?_map, hu]; rfl)
        rw [← hos] at HT
        have HTs := HT.out
        obtain ⟨J, hJd⟩ : ∃ J, J = Lib.join (([W, s, ⟨D.toArray⟩] ++ os).map (·.data.toList)) (⟨#[32]⟩ : ByteArray).data.toList := ⟨_, rfl⟩
        have hTJ : sayT av (.mk ⟨k, (u : Int), m, s⟩ l) st = 40 :: J ++ [41] := by rw [HTs, hJd]; rfl
        have hJl : J.length + 2 ≤ 1000000 := by
          have h1 := HSl.out
          have h2 := HN4.out
          rw [hTJ] at h1
          simp at h1
          omega
        have HJc := Lib.hid (Tryz.strings_Join g9 0 c9 ([W, s, ⟨D.toArray⟩] ++ os) ⟨#[32]⟩ wr hJ hl9 (by have := HOs.out; simp; omega) hc9 (by rw [← hJd]; omega))
        rw [← hJd] at HJc
        have HTJ := Lib.hid hTJ
        have z0 : wr.cell? ⟨w2.heap.size + 1, 0, none⟩ = some (.slice (some ⟨g9, 0, none⟩) ([W, s, ⟨D.toArray⟩] ++ os).length c9) := HI.out.lbx.cell 0
        have z1 := HI.out.lbx.lt
        have hnb := HI.out.box H0.out HB24.out (by decide) (by decide) (by decide)
        have z4 : wr.cell? ⟨w.heap.size + 1, 0, none⟩ = some (.int .i64 k) := hnb.cell 0
        have z5 := hnb.lt
        have z2 : ¬ 9223372036854775807 < 1 + J.toArray.size := by simp; omega
        have z3 : ¬ 9223372036854775807 < 1 + J.toArray.size + 1 := by simp; omega
        have HCJ := Lib.hid ((Ch.of_under HU4.out).trans HI.out.ch (D := fun b => PrC pb tb sv b ∨ b = w2.heap.size + 1 ∨ ((.slice (some ⟨gg2, 0, none⟩) 3 cc2) : Value).ownBlock = some b) (C := PrC pb tb sv) (fun i hi h => by
          rcases h with h | h | h
          · exact h
          · have := HLb.out; omega
          · have := HLv.out i h; omega))
        have HPJ := Lib.hid HI.out.pr
        clear hos hJ HTs hJd hTJ hJl HT
        go_wp2_with fail
        clear z0 z1 hnb z4 z5
        refine HJc.out.mono ?_
        rintro e w7 ⟨rfl, hBl⟩
        have HU7 := Lib.hid (under_below hBl)
        clear hBl HJc
        go_wp2
        go_ret
        exact ⟨ret_str (by rw [HTJ.out]; exact ByteArray.ext (by simp)), sv', HPJ.out.under HU7.out, HCJ.out.under HU7.out, fun b hb e => HI.out.own b (by have := HU4.out.size; omega) e⟩
end Go.Proofs.YtiibknlpeodejaaGreatDoor
