/- Part 4 of what the proof rests on. -/
import Derived.Deep.AppendLies
import Derived.Deep.RegionLaw
import Derived.Lib.SliceRun
import Derived.Shelf.RegionOpen
import Derived.OwnWalkIn
import Derived.RangeFuncCalls
import Derived.Test.YtiibknlpeodejaaGreatDoorQ3
set_option linter.unusedSimpArgs false
set_option linter.unusedVariables false
/- corniceref09.said: the terms that have parts. -/
namespace Go.Proofs.YtiibknlpeodejaaGreatDoor
open Go.Lx Go.RowKit

theorem bytes_of_list {A : ByteArray} {l : List UInt8} (h : A.data.toList = l) : A = ⟨l.toArray⟩ := by subst h; cases A; simp
theorem size_of_list {A : ByteArray} {l : List UInt8} (h : A.data.toList = l) : A.size = l.length := by subst h; rfl
def SdRel (w1 : World) (x : Nd) (l : List Tm) (av st : List ByteArray) (f : Bool) (S0 : List UInt8) (sv i : Value) (wr : World) : Prop := ∃ (j : Nat) (os : List UInt8) (A : ByteArray), j ≤ l.length ∧ sv = .string A ∧ A.data.toList = S0 ++ os ∧ i = .int .i64 (j : Int) ∧ os.length ≤ 200 * (flats (l.take j)).length ∧
  sayTs av l (binds x) st f = os ++ sayTs av (l.drop j) ((binds x).drop j) st f ∧ Under w1 wr
def SnRel (w1 : World) (base : Nat) (av st : List ByteArray) (f : Bool) (S1 : List UInt8) (bj : Nat) (sv inv k : Value) (wr : World) : Prop := ∃ (j : Nat) (p : Option Addr) (c : Nat) (A : ByteArray), j ≤ bj ∧ sv = .string A ∧ A.data.toList = S1 ++ (if f then [] else namesL (bindN av st j)) ∧ k = .int .i64 (j : Int) ∧ inv = .slice p (st.length + j) c ∧
  wr.ownsRow base 9 1 inv (st.length + j) ((st ++ bindN av st j).map .string) ∧ Under w1 wr
theorem node_cases {x : Nd} (hx : rightB x = true) :
    ((x.k == 3) = true ∧ (x.k == 26) = false ∧ (x.s.toList == []) = true) ∨ ((x.k == 3) = false ∧ (x.k == 6) = true ∧ (x.k == 26) = false ∧ (x.s.toList == []) = true) ∨
    ((x.k == 3) = false ∧ (x.k == 6) = false ∧ (x.k == 4) = true ∧ (x.k == 26) = false ∧ (x.s.toList == []) = true) ∨
    ((x.k == 3) = false ∧ (x.k == 6) = false ∧ (x.k == 4) = false ∧ (x.k == 26) = true ∧ (x.s.toList == []) = false) ∨
    ((x.k == 3) = false ∧ (x.k == 6) = false ∧ (x.k == 4) = false ∧ (x.k == 26) = false ∧ (x.s.toList == []) = false) ∨
    ((x.k == 3) = false ∧ (x.k == 6) = false ∧ (x.k == 4) = false ∧ (x.k == 26) = false ∧ (x.s.toList == []) = true) := by
  have hs0 : fS x.k.toNat = false → (x.s.toList == []) = true := fun hf => by
    unfold rightB at hx
    rw [ByteArray.toList_eq]
    have : x.s.size = 0 := by
      repeat' split at hx
      all_goals first | cases hx | skip
      all_goals
        apply Decidable.byContradiction
        intro h
        simp_all
    have e : x.s.data.size = x.s.size := rfl
    simp
    exact Array.eq_empty_of_size_eq_zero (by omega)
  have hs1 : fS x.k.toNat = true → (x.s.toList == []) = false := fun hf => by
    unfold rightB at hx
    rw [ByteArray.toList_eq]
    have : x.s.size ≠ 0 := by
      repeat' split at hx
      all_goals first | cases hx | skip
      all_goals
        intro h
        simp_all [nameB]
    have e : x.s.data.size = x.s.size := rfl
    simp
    intro h
    rw [h] at e
    exact this e.symm
  by_cases h3 : x.k = 3
  · exact .inl ⟨by simp [h3], by simp [h3], hs0 (by rw [h3]; rfl)⟩
  by_cases h6 : x.k = 6
  · exact .inr (.inl ⟨by simp [h6], by simp [h6], by simp [h6], hs0 (by rw [h6]; rfl)⟩)
  by_cases h4 : x.k = 4
  · exact .inr (.inr (.inl ⟨by simp [h4], by simp [h4], by simp [h4], by simp [h4], hs0 (by rw [h4]; rfl)⟩))
  by_cases h26 : x.k = 26
  · exact .inr (.inr (.inr (.inl ⟨by simp [h26], by simp [h26], by simp [h26], by simp [h26], hs1 (by rw [h26]; rfl)⟩)))
  cases hs : (x.s.toList == [])
  · exact .inr (.inr (.inr (.inr (.inl ⟨by simp [h3], by simp [h6], by simp [h4], by simp [h26], rfl⟩))))
  · exact .inr (.inr (.inr (.inr (.inr ⟨by simp [h3], by simp [h6], by simp [h4], by simp [h26], rfl⟩))))
set_option maxRecDepth 100000 in
set_option maxHeartbeats 4000000 in
theorem said_node (x : Nd) (l : List Tm) (hk0 : x.k ≠ 0) (hk1 : x.k ≠ 1) (hk2 : x.k ≠ 2) (hkp : plainK x = false) (ih : ∀ a ∈ l, SaidOk a) : SaidOk (.mk x l) := by
  intro hok w0 v vs va t st av ht hn hv hvs hva ha hst hss hin
  obtain ⟨i0, hi, hz0, hz1, hz2⟩ := info_parts Tryz.infoStrZ
  have HOk := Lib.hid hok
  have hlen := sayT_len av (by omega) (.mk x l) hok st hss (by rw [← ht]; omega)
  obtain ⟨hx, hl, hls⟩ := hok
  have hte : t[t.length - 1]? = some x := by rw [ht, flat]; simp
  have hfl : t.length = (flats l).length + 1 := by rw [ht, flat]; simp
  have HFl := Lib.hid hfl
  have HR := Lib.hid (root_any (by omega) hte hv)
  have HC := Lib.hid (fun w => rbinds_any (w0 := w) x)
  have HW := Lib.hid (fun w => rwords_any (w0 := w) x hx)
  have HI := Lib.hid (fun w => (digits_any x.n.toNat x.n.toNat (Nat.le_refl _) (by have := rightB_n hx; omega) w).mono (R' := fun e w' => e = .returned (.string ⟨(Lib.decDigits x.n.toNat).toArray⟩) ∧ Under w w') fun e w' h => ⟨h.1, by obtain ⟨_, m, rfl⟩ := h; exact under_drewN (Under.refl w) m⟩)
  rw [show ((x.n.toNat : Nat) : Int) = x.n by have := rightB_n hx; omega] at HI
  have HF := Lib.hid (fun w (h : Under w0 w) => fresh_any (w0 := w) st.length (by omega) (by omega) (by omega) (hvs.under h) (hva.under h))
  have HV := Lib.hid hv
  have HPa := Lib.hid (fun w (hU : Under w0 w) => parts_any (w0 := w) x l HOk.out ht (by omega) (TermV.mono _ _ _ _ hU hv))
  have HVA := Lib.hid hva
  have HVS := Lib.hid hvs
  have HX := Lib.hid hx
  have HL := Lib.hid hl
  have HLs := Lib.hid hls
  have HIH := Lib.hid ih
  have HA := Lib.hid ha
  have HSt := Lib.hid hst
  have HSs := Lib.hid hss
  have HN0 := Lib.hid hn
  have hL1 := wordsB_len hx
  have hL2 := rightB_s hx
  have hL3 := dec_len x.n.toNat (by have := rightB_n hx; omega)
  have hL4 : (nameN (freshN (av ++ st) st.length)).size ≤ 22 := nameN_len (by have := (freshN_spec (av ++ st) st.length).2.1; rw [List.length_append] at this; omega)
  have hF0 : ((nameN (freshN (av ++ st) st.length)).toList == []) = false := by rw [nameN_list]; rfl
  have HSay : RowKit.Hid (sayT av (.mk x l) st = headL x ++ (if firstK x then wordL (nameN (freshN (av ++ st) st.length)) else []) ++ sayTs av l (binds x) st (firstK x) ++ [41]) := Lib.hid (by
    conv => lhs; unfold sayT
    rw [if_neg hk0, if_neg hk1, if_neg (by rw [hkp]; decide), if_neg hk2])
  have HHd : RowKit.Hid (headL x = [40] ++ (wordsB x).data.toList ++ (if x.s.toList == [] then [] else wordL x.s) ++ (if x.k = 26 then 32 :: Lib.decDigits x.n.toNat else [])) := Lib.hid rfl
  have hin' : inTs l (binds x) st.length := by unfold inT at hin; rwa [if_neg hk0] at hin
  have HIn := Lib.hid hin'
  have hB8 := binds_len hx
  have hB2 : RowKit.Hid (∀ b ∈ binds x, b ≤ 2) := Lib.hid (by have := bindsR_le (x := x); unfold bindsR at this; rwa [if_pos hx] at this)
  have f0 : (x.k == 0) = false := by simpa using hk0
  have f1 : (x.k == 1) = false := by simpa using hk1
  have f2 : (x.k == 2) = false := by simpa using hk2
  obtain ⟨⟨⟨⟨⟨f10, f11⟩, f14⟩, f16⟩, f17⟩, f29⟩ : (((((x.k == 10) = false ∧ (x.k == 11) = false) ∧ (x.k == 14) = false) ∧ (x.k == 16) = false) ∧ (x.k == 17) = false) ∧ (x.k == 29) = false := by simpa [plainK] using hkp
  have hL0 : (0 : Int) ≤ (l.length : Int) := by omega
  have hL8 : (l.length : Int) ≤ 8 := by omega
  have hS0 : (0 : Int) ≤ (st.length : Int) := by omega
  have hS8 : (st.length : Int) ≤ 100000 := by omega
  obtain ⟨ps, cs, rfl, hcs, hs0, hrs⟩ := hvs
  obtain ⟨pa, ca, rfl, _, _, _⟩ := hva
  have HRs := Lib.hid hrs
  have hcases := node_cases hx
  clear hte ht hls hv hk0 hk1 hk2 hkp ih hB8 hfl hn hin hin' hrs ha hst hss
  unfold ndV at HR HC HW
  generalize hWW : wordsB x = W at *
  generalize hLL : Lib.decDigits x.n.toNat = L at *
  generalize hGG : nameN (freshN (av ++ st) st.length) = F at *
  have z1 : ¬ 9223372036854775807 < 1 + W.size := by omega
  clear hx hl hWW hLL hGG hlen
  rcases hcases with ⟨f3, f26, fs⟩ | ⟨f3, f6, f26, fs⟩ | ⟨f3, f6, f4, f26, fs⟩ | ⟨f3, f6, f4, f26, fs⟩ | ⟨f3, f6, f4, f26, fs⟩ | ⟨f3, f6, f4, f26, fs⟩
  · have G26 : RowKit.Hid (¬ x.k = 26) := Lib.hid (by simpa using f26)
    have z2 : ¬ 9223372036854775807 < 1 + W.size + 1 := by omega
    have z3 : ¬ 9223372036854775807 < 1 + W.size + 1 + F.size := by omega
    obtain ⟨S0, hS0'⟩ : ∃ S0, S0 = [40] ++ W.data.toList ++ wordL F := ⟨_, rfl⟩
    have HS0 := Lib.hid hS0'
    have HSz := Lib.hid (show S0.length ≤ 70 by have : W.data.size = W.size := rfl; have : F.data.size = F.size := rfl; have : x.s.data.size = x.s.size := rfl; rw [hS0']; simp [wordL]; omega)
    clear hS0'
    go_enter Tryz.func23, Tryz.ntmps23
    go_wp2_with fail
    refine HR.out.mono ?_
    rintro e w1 ⟨rfl, hU1⟩
    have HU1 := Lib.hid hU1
    clear hU1 HR
    go_wp2_with fail
    refine (HW.out _).mono ?_
    rintro e w2 ⟨rfl, hU2⟩
    have HU2 := Lib.hid ((under_alloc HU1.out _).trans hU2)
    have HB2 := Lib.hid ((box_new w1 _ _).under hU2 : BoxAt w2 w1.heap.size 38 #[.int .i64 x.k, .int .i64 x.n, .int .i64 x.m, .string x.s])
    have hlt2 := HB2.out.lt
    have c02 : w2.cell? ⟨w1.heap.size, 0, none⟩ = some (.int .i64 x.k) := HB2.out.cell 0
    have c12 : w2.cell? ⟨w1.heap.size, 1, none⟩ = some (.int .i64 x.n) := HB2.out.cell 1
    have c22 : w2.cell? ⟨w1.heap.size, 2, none⟩ = some (.int .i64 x.m) := HB2.out.cell 2
    have c32 : w2.cell? ⟨w1.heap.size, 3, none⟩ = some (.string x.s) := HB2.out.cell 3
    clear hU2
    go_wp2_with fail
    refine (HC.out _).mono ?_
    rintro e w4 ⟨lb, hlb, q, cq, rfl, hlc, hrl, hU4⟩
    obtain rfl := hlb HX.out
    have HU4 := Lib.hid (HU2.out.trans hU4)
    have HB4 := Lib.hid (HB2.out.under hU4 : BoxAt w4 w1.heap.size 38 #[.int .i64 x.k, .int .i64 x.n, .int .i64 x.m, .string x.s])
    have hlt4 := HB4.out.lt
    have c04 : w4.cell? ⟨w1.heap.size, 0, none⟩ = some (.int .i64 x.k) := HB4.out.cell 0
    have c14 : w4.cell? ⟨w1.heap.size, 1, none⟩ = some (.int .i64 x.n) := HB4.out.cell 1
    have c24 : w4.cell? ⟨w1.heap.size, 2, none⟩ = some (.int .i64 x.m) := HB4.out.cell 2
    have c34 : w4.cell? ⟨w1.heap.size, 3, none⟩ = some (.string x.s) := HB4.out.cell 3
    have HQ := Lib.hid hrl
    rw [HX.out, ← HL.out]
    clear hU4 hrl hlc hlb HC
    go_wp2_with fail
    refine (HPa.out _ HU4.out).mono ?_
    rintro e w5 ⟨vr, rfl, ⟨p5, c5, vs5, rfl, h51, _, h52, h53⟩, hU5⟩
    have hlm : (l.map flat).length = l.length := List.length_map ..
    rw [hlm] at h51 ⊢
    have HQ5 := Lib.hid (hrl_under HQ.out hU5)
    have HU5 := Lib.hid (HU4.out.trans hU5)
    have HP5 := Lib.hid h52
    have HZ5 := Lib.hid h53
    have HB5 := Lib.hid (HB4.out.under hU5 : BoxAt w5 w1.heap.size 38 #[.int .i64 x.k, .int .i64 x.n, .int .i64 x.m, .string x.s])
    have hlt5 := HB5.out.lt
    have c05 : w5.cell? ⟨w1.heap.size, 0, none⟩ = some (.int .i64 x.k) := HB5.out.cell 0
    have c15 : w5.cell? ⟨w1.heap.size, 1, none⟩ = some (.int .i64 x.n) := HB5.out.cell 1
    have c25 : w5.cell? ⟨w1.heap.size, 2, none⟩ = some (.int .i64 x.m) := HB5.out.cell 2
    have c35 : w5.cell? ⟨w1.heap.size, 3, none⟩ = some (.string x.s) := HB5.out.cell 3
    clear hU5 h52 h53 hlm HPa
    go_wp2_with fail
    refine (HF.out _ HU5.out).mono ?_
    rintro e w6 ⟨rfl, hU6⟩
    have HU6 := Lib.hid (HU5.out.trans hU6)
    have HQa := Lib.hid (hrl_under HQ5.out hU6)
    have HPa' := Lib.hid (hrl_under HP5.out hU6)
    have HZa := Lib.hid (HZ5.out.mono fun v y h => TermV.mono _ _ _ _ hU6 h)
    go_wp2
    go_loopw [8, 13] (fun sv i wr => SdRel w6 x l av st true S0 sv i wr) (fun _ i _ => l.length - (intOf i).toNat)
    case atStart => exact ⟨0, [], _, Nat.zero_le _, rfl, by rw [HS0.out]; simp [wordL], rfl, Nat.zero_le _, rfl, Under.refl _⟩
    case round =>
      obtain ⟨j, os, A, hj, rfl, hA, rfl, hos, hSy, hU⟩ := hrel
      have HUr := Lib.hid hU
      have HSy := Lib.hid hSy
      have HAA := Lib.hid hA
      have hj0 : (0 : Int) ≤ (j : Int) := by omega
      have hfle : (flats (l.take j)).length ≤ (flats l).length := by
        have := congrArg List.length (flats_app (l.take j) (l.drop j))
        rw [List.take_append_drop, List.length_append] at this
        omega
      have hAs := size_of_list hA
      rw [List.length_append] at hAs
      have hA9 : A.size ≤ 900000 := by have := HFl.out; have := HN0.out; have := HSz.out; omega
      clear hU hSy hA hAs
      by_cases hjl : j < l.length
      · have hjb : j < (binds x).length := by rw [← HL.out]; exact hjl
        obtain ⟨tv, htv, hterm⟩ := HZa.out.at (i := j) (x := flat l[j]) (by rw [List.getElem?_map, List.getElem?_eq_getElem hjl]; rfl)
        have hok := okTs_mem.1 HLs.out _ (List.getElem_mem hjl)
        have hb2 := hB2.out _ (List.getElem_mem hjb)
        have htk : flats (l.take (j + 1)) = flats (l.take j) ++ flat l[j] := by
          rw [List.take_succ_eq_append_getElem hjl, flats_app]
          simp [flats]
        have hfl2 : (flats (l.take (j + 1))).length ≤ (flats l).length := by
          have := congrArg List.length (flats_app (l.take (j + 1)) (l.drop (j + 1)))
          rw [List.take_append_drop, List.length_append] at this
          omega
        rw [htk, List.length_append] at hfl2
        have HTk := Lib.hid (congrArg List.length htk)
        have HSa := Lib.hid (sayTs_at (av := av) (st := st) (f := true) hjl hjb)
        have hbs := bindN_sizes av (binds x)[j] st (by have := HA.out; omega) (by omega)
        have hsz : ∀ s ∈ st ++ bindN av st (binds x)[j], s.size ≤ 22 := fun s h => by
          rcases List.mem_append.1 h with h | h
          · exact HSs.out s h
          · exact hbs s h
        have HTl := Lib.hid (sayT_len av (by have := HA.out; omega) l[j] hok (st ++ bindN av st (binds x)[j]) hsz (by rw [List.length_append, bindN_len]; have := HFl.out; have := HN0.out; have := HSt.out; omega))
        have HQc := Lib.hid (fun w vs' va' (hvs' : TextsV w vs' (st ++ bindN av st (binds x)[j])) (hva' : TextsV w va' av) (hU : Under w6 w) => HIH.out l[j] (List.getElem_mem hjl) hok w tv vs' va' (flat l[j]) _ av rfl (by have := HFl.out; have := HN0.out; omega) (TermV.mono _ _ _ _ hU hterm) hvs' hva' HA.out (by rw [List.length_append, bindN_len]; have := HFl.out; have := HSt.out; omega) hsz (by rw [List.length_append, bindN_len]; exact inTs_at hjl hjb HIn.out))
        obtain ⟨pt, ct, rfl, _⟩ := hterm
        obtain ⟨bt, ot, rfl, hbt, hct⟩ := HPa'.out (fun e => by rw [e] at htv; simp at htv)
        have hcc := hct j _ htv
        have HCc := Lib.hid (fun w (hU : Under w6 w) => (under_cell hU hbt (ot + j)).trans hcc)
        obtain ⟨bb, ob, rfl, hbb, hcb⟩ := HQa.out (fun e => by
          have := congrArg List.length e
          unfold intsN at this
          rw [List.length_map, List.length_nil] at this
          omega)
        have hcb' := hcb j _ (intsN_at (List.getElem?_eq_getElem hjb))
        have HCb := Lib.hid (fun w (hU : Under w6 w) => (under_cell hU hbb (ob + j)).trans hcb')
        have HB4' := Lib.hid (show (flats (l.take j)).length + (flat l[j]).length ≤ 4000 by have := HFl.out; have := HN0.out; omega)
        clear htk hct hcb htv hok hfle hcc hcb' hfl2 hbs hsz
        generalize (binds x)[j] = bj at *
        generalize l[j] = T at *
        have hbj0 : (0 : Int) ≤ (bj : Int) := by omega
        have hbj2 : (bj : Int) ≤ 2 := by omega
        have hjl' : (j : Int) < (l.length : Int) := by omega
        have hwru := HUr.out.size
        go_wp2_with (at_builtin; refine wpList_append_read rfl _ _ 23 rfl w6.heap.size 9 i0 _ 1 16 Tryz.underlying23 hi hz0 hz1 hz2 rfl (by decide) _ _ _ rfl (row_emptyZ wr w6.heap.size _ _ hwru) ps st.length cs (st.map .string) rfl (by simp) hcs hs0 (HRs.out.under (HU6.out.trans (under_alloc HUr.out _))) (by simp [Value.oneCell']) (by simp only [maxLen]; omega) (by omega) (by simp; omega) ?_)
        intro v7 w7 hown hgrow
        replace hown : w7.ownsRow w6.heap.size 9 1 v7 st.length (st.map .string) := by simpa using hown
        obtain ⟨q7, d7, rfl, hd7, hr7⟩ := RowArg.of_own hown
        have HO7 := Lib.hid hown
        have HU7 := Lib.hid (under_grown (under_alloc HUr.out _) hgrow fun z e => by cases e; exact hwru)
        clear hown hgrow hd7 hr7
        go_wp2
        go_loopw [8, 14, 15] (fun sv inv k wr => SnRel w6 w6.heap.size av st true (S0 ++ os) bj sv inv k wr) (fun _ _ k _ => bj - (intOf k).toNat)
        case atStart => exact ⟨0, q7, d7, A, Nat.zero_le _, rfl, by rw [HAA.out]; simp [bindN, namesL], rfl, rfl, by simpa [bindN] using HO7.out, HU7.out⟩
        case round =>
          obtain ⟨k, q, d, B, hk, rfl, hB, rfl, rfl, hO, hU⟩ := hrel
          have HBB := Lib.hid hB
          have HOr := Lib.hid hO
          have HUr := Lib.hid hU
          have hBs := size_of_list hB
          have hbn : (if true then [] else namesL (bindN av st k)).length ≤ 46 := by
            have hbs := bindN_sizes av k st (by have := HA.out; omega) (by omega)
            have := namesL_len _ hbs
            rw [bindN_len] at this
            split
            · simp
            · omega
          rw [List.length_append, ← HAA.out] at hBs
          have hBs' : B.size ≤ 900100 := by
            have e : A.data.toList.length = A.size := rfl
            omega
          have hcb := HCb.out _ HUr.out
          have hcc := HCc.out _ HUr.out
          have hbb' := Nat.lt_of_lt_of_le hbb HUr.out.size
          have hbt' := Nat.lt_of_lt_of_le hbt HUr.out.size
          have hk0 : (0 : Int) ≤ (k : Int) := by omega
          have HTx := Lib.hid (TextsV.of_own (ss := st ++ bindN av st k) (by rw [List.length_append, bindN_len]; exact HOr.out))
          clear hB hO hU hBs
          by_cases hkl : k < bj
          · have hkl' : (k : Int) < (bj : Int) := by omega
            have HFr := Lib.hid (fresh_any (st.length + k) (by omega) (by rw [List.length_append, bindN_len]; omega) (by have := HA.out; omega) HTx.out (HVA.out.under (HU6.out.trans HUr.out)))
            rw [Int.natCast_add] at HFr
            have HBn := Lib.hid (bindN_snoc av k st)
            have hGs : (nameN (freshN (av ++ (st ++ bindN av st k)) (st.length + k))).size ≤ 22 := nameN_len (by have := (freshN_spec (av ++ (st ++ bindN av st k)) (st.length + k)).2.1; rw [List.length_append, List.length_append, bindN_len] at this; have := HA.out; omega)
            generalize nameN (freshN (av ++ (st ++ bindN av st k)) (st.length + k)) = G at *
            have y1 : ¬ 9223372036854775807 < B.size + 1 := by omega
            have y2 : ¬ 9223372036854775807 < B.size + 1 + G.size := by omega
            go_wp2_with fail
            refine HFr.out.mono ?_
            rintro e w8 ⟨rfl, hU8⟩
            have HU8 := Lib.hid (HUr.out.trans hU8)
            have HO8 := Lib.hid (row_under HOr.out hU8)
            have hs8 := HU8.out.size
            clear hU8
            go_wp2_with (at_builtin; refine wpList_append_lies _ rfl _ _ 23 rfl w6.heap.size 9 i0 _ 1 16 Tryz.underlying23 hi hz0 hz1 hz2 rfl (by decide) _ _ _ rfl (HO8.out.alloc _) ⟨w8.heap.size, 0, none⟩ 1 1 [.string G] rfl rfl ?c1 ?c2 (by decide) (by simp only [maxLen]; omega) (by omega) ?c5 (w8.heap.size + 1) (by simp) ?_)
            case c1 => exact cell_one_new _ _ _
            case c2 => simp [Value.oneCell']
            case c5 => simp; omega
            intro g9 d9 w9 hown hgrow hat hlt9
            have HO9 := Lib.hid hown
            have HU9 := Lib.hid (under_grown (under_alloc HU8.out _) hgrow fun z e => (row_lt HO8.out e).1)
            clear hown hgrow hat hlt9
            go_wp2
            go_roundw
            case rel => exact ⟨k + 1, _, d9, _, by omega, rfl, by first | (rw [HBB.out]; rfl) | simp [HBB.out, HBn.out, namesL_app, namesL, wordL], by go_num, rfl, by rw [HBn.out]; simpa [Nat.add_assoc] using HO9.out, HU9.out⟩
            case measure => simp [intOf]; omega
          · obtain rfl : k = bj := by omega
            have y1 : ¬ 9223372036854775807 < B.size + 1 := by omega
            have HQd := Lib.hid (HQc.out _ _ _ HTx.out (HVA.out.under (HU6.out.trans HUr.out)) HUr.out)
            clear HQc
            generalize sayT av T (st ++ bindN av st k) = C at *
            have y3 : ¬ 9223372036854775807 < B.size + 1 + C.toArray.size := by have := HTl.out; have := HB4'.out; simp; omega
            have HBN := Lib.hid hbn
            clear hbn
            go_wp2_with fail
            refine HQd.out.mono ?_
            rintro e w10 ⟨rfl, hU10⟩
            have HU10 := Lib.hid (HUr.out.trans hU10)
            clear hU10 HQd
            go_wp2
            go_roundw
            case rel => exact ⟨j + 1, os ++ ((if true then [] else namesL (bindN av st k)) ++ 32 :: C), _, by omega, rfl, by simp [HBB.out], by go_num, by rw [HTk.out, List.length_append, List.length_append, List.length_append, List.length_cons]; have := HTl.out; have : (if true then [] else namesL (bindN av st k)).length ≤ 46 := (by first | exact HBN.out | simpa using HBN.out | simp); omega, by rw [HSy.out, HSa.out]; simp only [List.append_assoc], HU10.out⟩
            case measure => simp [intOf]; omega
      · obtain rfl : j = l.length := by omega
        have z9 : ¬ 9223372036854775807 < A.size + 1 := by omega
        go_wp2
        go_ret
        refine ⟨ret_str (bytes_of_list ?_), HU6.out.trans HUr.out⟩
        have hff : firstK x = true := by simp [firstK, *]
        rw [HSay.out, hff, HSy.out, List.drop_length]
        simp [HAA.out, HS0.out, HHd.out, sayTs, wordL, fs, G26.out]
  · have G26 : RowKit.Hid (¬ x.k = 26) := Lib.hid (by simpa using f26)
    have z2 : ¬ 9223372036854775807 < 1 + W.size + 1 := by omega
    have z3 : ¬ 9223372036854775807 < 1 + W.size + 1 + F.size := by omega
    obtain ⟨S0, hS0'⟩ : ∃ S0, S0 = [40] ++ W.data.toList ++ wordL F := ⟨_, rfl⟩
    have HS0 := Lib.hid hS0'
    have HSz := Lib.hid (show S0.length ≤ 70 by have : W.data.size = W.size := rfl; have : F.data.size = F.size := rfl; have : x.s.data.size = x.s.size := rfl; rw [hS0']; simp [wordL]; omega)
    clear hS0'
    go_enter Tryz.func23, Tryz.ntmps23
    go_wp2_with fail
    refine HR.out.mono ?_
    rintro e w1 ⟨rfl, hU1⟩
    have HU1 := Lib.hid hU1
    clear hU1 HR
    go_wp2_with fail
    refine (HW.out _).mono ?_
    rintro e w2 ⟨rfl, hU2⟩
    have HU2 := Lib.hid ((under_alloc HU1.out _).trans hU2)
    have HB2 := Lib.hid ((box_new w1 _ _).under hU2 : BoxAt w2 w1.heap.size 38 #[.int .i64 x.k, .int .i64 x.n, .int .i64 x.m, .string x.s])
    have hlt2 := HB2.out.lt
    have c02 : w2.cell? ⟨w1.heap.size, 0, none⟩ = some (.int .i64 x.k) := HB2.out.cell 0
    have c12 : w2.cell? ⟨w1.heap.size, 1, none⟩ = some (.int .i64 x.n) := HB2.out.cell 1
    have c22 : w2.cell? ⟨w1.heap.size, 2, none⟩ = some (.int .i64 x.m) := HB2.out.cell 2
    have c32 : w2.cell? ⟨w1.heap.size, 3, none⟩ = some (.string x.s) := HB2.out.cell 3
    clear hU2
    go_wp2_with fail
    refine (HC.out _).mono ?_
    rintro e w4 ⟨lb, hlb, q, cq, rfl, hlc, hrl, hU4⟩
    obtain rfl := hlb HX.out
    have HU4 := Lib.hid (HU2.out.trans hU4)
    have HB4 := Lib.hid (HB2.out.under hU4 : BoxAt w4 w1.heap.size 38 #[.int .i64 x.k, .int .i64 x.n, .int .i64 x.m, .string x.s])
    have hlt4 := HB4.out.lt
    have c04 : w4.cell? ⟨w1.heap.size, 0, none⟩ = some (.int .i64 x.k) := HB4.out.cell 0
    have c14 : w4.cell? ⟨w1.heap.size, 1, none⟩ = some (.int .i64 x.n) := HB4.out.cell 1
    have c24 : w4.cell? ⟨w1.heap.size, 2, none⟩ = some (.int .i64 x.m) := HB4.out.cell 2
    have c34 : w4.cell? ⟨w1.heap.size, 3, none⟩ = some (.string x.s) := HB4.out.cell 3
    have HQ := Lib.hid hrl
    rw [HX.out, ← HL.out]
    clear hU4 hrl hlc hlb HC
    go_wp2_with fail
    refine (HPa.out _ HU4.out).mono ?_
    rintro e w5 ⟨vr, rfl, ⟨p5, c5, vs5, rfl, h51, _, h52, h53⟩, hU5⟩
    have hlm : (l.map flat).length = l.length := List.length_map ..
    rw [hlm] at h51 ⊢
    have HQ5 := Lib.hid (hrl_under HQ.out hU5)
    have HU5 := Lib.hid (HU4.out.trans hU5)
    have HP5 := Lib.hid h52
    have HZ5 := Lib.hid h53
    have HB5 := Lib.hid (HB4.out.under hU5 : BoxAt w5 w1.heap.size 38 #[.int .i64 x.k, .int .i64 x.n, .int .i64 x.m, .string x.s])
    have hlt5 := HB5.out.lt
    have c05 : w5.cell? ⟨w1.heap.size, 0, none⟩ = some (.int .i64 x.k) := HB5.out.cell 0
    have c15 : w5.cell? ⟨w1.heap.size, 1, none⟩ = some (.int .i64 x.n) := HB5.out.cell 1
    have c25 : w5.cell? ⟨w1.heap.size, 2, none⟩ = some (.int .i64 x.m) := HB5.out.cell 2
    have c35 : w5.cell? ⟨w1.heap.size, 3, none⟩ = some (.string x.s) := HB5.out.cell 3
    clear hU5 h52 h53 hlm HPa
    go_wp2_with fail
    refine (HF.out _ HU5.out).mono ?_
    rintro e w6 ⟨rfl, hU6⟩
    have HU6 := Lib.hid (HU5.out.trans hU6)
    have HQa := Lib.hid (hrl_under HQ5.out hU6)
    have HPa' := Lib.hid (hrl_under HP5.out hU6)
    have HZa := Lib.hid (HZ5.out.mono fun v y h => TermV.mono _ _ _ _ hU6 h)
    go_wp2
    go_loopw [8, 13] (fun sv i wr => SdRel w6 x l av st true S0 sv i wr) (fun _ i _ => l.length - (intOf i).toNat)
    case atStart => exact ⟨0, [], _, Nat.zero_le _, rfl, by rw [HS0.out]; simp [wordL], rfl, Nat.zero_le _, rfl, Under.refl _⟩
    case round =>
      obtain ⟨j, os, A, hj, rfl, hA, rfl, hos, hSy, hU⟩ := hrel
      have HUr := Lib.hid hU
      have HSy := Lib.hid hSy
      have HAA := Lib.hid hA
      have hj0 : (0 : Int) ≤ (j : Int) := by omega
      have hfle : (flats (l.take j)).length ≤ (flats l).length := by
        have := congrArg List.length (flats_app (l.take j) (l.drop j))
        rw [List.take_append_drop, List.length_append] at this
        omega
      have hAs := size_of_list hA
      rw [List.length_append] at hAs
      have hA9 : A.size ≤ 900000 := by have := HFl.out; have := HN0.out; have := HSz.out; omega
      clear hU hSy hA hAs
      by_cases hjl : j < l.length
      · have hjb : j < (binds x).length := by rw [← HL.out]; exact hjl
        obtain ⟨tv, htv, hterm⟩ := HZa.out.at (i := j) (x := flat l[j]) (by rw [List.getElem?_map, List.getElem?_eq_getElem hjl]; rfl)
        have hok := okTs_mem.1 HLs.out _ (List.getElem_mem hjl)
        have hb2 := hB2.out _ (List.getElem_mem hjb)
        have htk : flats (l.take (j + 1)) = flats (l.take j) ++ flat l[j] := by
          rw [List.take_succ_eq_append_getElem hjl, flats_app]
          simp [flats]
        have hfl2 : (flats (l.take (j + 1))).length ≤ (flats l).length := by
          have := congrArg List.length (flats_app (l.take (j + 1)) (l.drop (j + 1)))
          rw [List.take_append_drop, List.length_append] at this
          omega
        rw [htk, List.length_append] at hfl2
        have HTk := Lib.hid (congrArg List.length htk)
        have HSa := Lib.hid (sayTs_at (av := av) (st := st) (f := true) hjl hjb)
        have hbs := bindN_sizes av (binds x)[j] st (by have := HA.out; omega) (by omega)
        have hsz : ∀ s ∈ st ++ bindN av st (binds x)[j], s.size ≤ 22 := fun s h => by
          rcases List.mem_append.1 h with h | h
          · exact HSs.out s h
          · exact hbs s h
        have HTl := Lib.hid (sayT_len av (by have := HA.out; omega) l[j] hok (st ++ bindN av st (binds x)[j]) hsz (by rw [List.length_append, bindN_len]; have := HFl.out; have := HN0.out; have := HSt.out; omega))
        have HQc := Lib.hid (fun w vs' va' (hvs' : TextsV w vs' (st ++ bindN av st (binds x)[j])) (hva' : TextsV w va' av) (hU : Under w6 w) => HIH.out l[j] (List.getElem_mem hjl) hok w tv vs' va' (flat l[j]) _ av rfl (by have := HFl.out; have := HN0.out; omega) (TermV.mono _ _ _ _ hU hterm) hvs' hva' HA.out (by rw [List.length_append, bindN_len]; have := HFl.out; have := HSt.out; omega) hsz (by rw [List.length_append, bindN_len]; exact inTs_at hjl hjb HIn.out))
        obtain ⟨pt, ct, rfl, _⟩ := hterm
        obtain ⟨bt, ot, rfl, hbt, hct⟩ := HPa'.out (fun e => by rw [e] at htv; simp at htv)
        have hcc := hct j _ htv
        have HCc := Lib.hid (fun w (hU : Under w6 w) => (under_cell hU hbt (ot + j)).trans hcc)
        obtain ⟨bb, ob, rfl, hbb, hcb⟩ := HQa.out (fun e => by
          have := congrArg List.length e
          unfold intsN at this
          rw [List.length_map, List.length_nil] at this
          omega)
        have hcb' := hcb j _ (intsN_at (List.getElem?_eq_getElem hjb))
        have HCb := Lib.hid (fun w (hU : Under w6 w) => (under_cell hU hbb (ob + j)).trans hcb')
        have HB4' := Lib.hid (show (flats (l.take j)).length + (flat l[j]).length ≤ 4000 by have := HFl.out; have := HN0.out; omega)
        clear htk hct hcb htv hok hfle hcc hcb' hfl2 hbs hsz
        generalize (binds x)[j] = bj at *
        generalize l[j] = T at *
        have hbj0 : (0 : Int) ≤ (bj : Int) := by omega
        have hbj2 : (bj : Int) ≤ 2 := by omega
        have hjl' : (j : Int) < (l.length : Int) := by omega
        have hwru := HUr.out.size
        go_wp2_with (at_builtin; refine wpList_append_read rfl _ _ 23 rfl w6.heap.size 9 i0 _ 1 16 Tryz.underlying23 hi hz0 hz1 hz2 rfl (by decide) _ _ _ rfl (row_emptyZ wr w6.heap.size _ _ hwru) ps st.length cs (st.map .string) rfl (by simp) hcs hs0 (HRs.out.under (HU6.out.trans (under_alloc HUr.out _))) (by simp [Value.oneCell']) (by simp only [maxLen]; omega) (by omega) (by simp; omega) ?_)
        intro v7 w7 hown hgrow
        replace hown : w7.ownsRow w6.heap.size 9 1 v7 st.length (st.map .string) := by simpa using hown
        obtain ⟨q7, d7, rfl, hd7, hr7⟩ := RowArg.of_own hown
        have HO7 := Lib.hid hown
        have HU7 := Lib.hid (under_grown (under_alloc HUr.out _) hgrow fun z e => by cases e; exact hwru)
        clear hown hgrow hd7 hr7
        go_wp2
        go_loopw [8, 14, 15] (fun sv inv k wr => SnRel w6 w6.heap.size av st true (S0 ++ os) bj sv inv k wr) (fun _ _ k _ => bj - (intOf k).toNat)
        case atStart => exact ⟨0, q7, d7, A, Nat.zero_le _, rfl, by rw [HAA.out]; simp [bindN, namesL], rfl, rfl, by simpa [bindN] using HO7.out, HU7.out⟩
        case round =>
          obtain ⟨k, q, d, B, hk, rfl, hB, rfl, rfl, hO, hU⟩ := hrel
          have HBB := Lib.hid hB
          have HOr := Lib.hid hO
          have HUr := Lib.hid hU
          have hBs := size_of_list hB
          have hbn : (if true then [] else namesL (bindN av st k)).length ≤ 46 := by
            have hbs := bindN_sizes av k st (by have := HA.out; omega) (by omega)
            have := namesL_len _ hbs
            rw [bindN_len] at this
            split
            · simp
            · omega
          rw [List.length_append, ← HAA.out] at hBs
          have hBs' : B.size ≤ 900100 := by
            have e : A.data.toList.length = A.size := rfl
            omega
          have hcb := HCb.out _ HUr.out
          have hcc := HCc.out _ HUr.out
          have hbb' := Nat.lt_of_lt_of_le hbb HUr.out.size
          have hbt' := Nat.lt_of_lt_of_le hbt HUr.out.size
          have hk0 : (0 : Int) ≤ (k : Int) := by omega
          have HTx := Lib.hid (TextsV.of_own (ss := st ++ bindN av st k) (by rw [List.length_append, bindN_len]; exact HOr.out))
          clear hB hO hU hBs
          by_cases hkl : k < bj
          · have hkl' : (k : Int) < (bj : Int) := by omega
            have HFr := Lib.hid (fresh_any (st.length + k) (by omega) (by rw [List.length_append, bindN_len]; omega) (by have := HA.out; omega) HTx.out (HVA.out.under (HU6.out.trans HUr.out)))
            rw [Int.natCast_add] at HFr
            have HBn := Lib.hid (bindN_snoc av k st)
            have hGs : (nameN (freshN (av ++ (st ++ bindN av st k)) (st.length + k))).size ≤ 22 := nameN_len (by have := (freshN_spec (av ++ (st ++ bindN av st k)) (st.length + k)).2.1; rw [List.length_append, List.length_append, bindN_len] at this; have := HA.out; omega)
            generalize nameN (freshN (av ++ (st ++ bindN av st k)) (st.length + k)) = G at *
            have y1 : ¬ 9223372036854775807 < B.size + 1 := by omega
            have y2 : ¬ 9223372036854775807 < B.size + 1 + G.size := by omega
            go_wp2_with fail
            refine HFr.out.mono ?_
            rintro e w8 ⟨rfl, hU8⟩
            have HU8 := Lib.hid (HUr.out.trans hU8)
            have HO8 := Lib.hid (row_under HOr.out hU8)
            have hs8 := HU8.out.size
            clear hU8
            go_wp2_with (at_builtin; refine wpList_append_lies _ rfl _ _ 23 rfl w6.heap.size 9 i0 _ 1 16 Tryz.underlying23 hi hz0 hz1 hz2 rfl (by decide) _ _ _ rfl (HO8.out.alloc _) ⟨w8.heap.size, 0, none⟩ 1 1 [.string G] rfl rfl ?c1 ?c2 (by decide) (by simp only [maxLen]; omega) (by omega) ?c5 (w8.heap.size + 1) (by simp) ?_)
            case c1 => exact cell_one_new _ _ _
            case c2 => simp [Value.oneCell']
            case c5 => simp; omega
            intro g9 d9 w9 hown hgrow hat hlt9
            have HO9 := Lib.hid hown
            have HU9 := Lib.hid (under_grown (under_alloc HU8.out _) hgrow fun z e => (row_lt HO8.out e).1)
            clear hown hgrow hat hlt9
            go_wp2
            go_roundw
            case rel => exact ⟨k + 1, _, d9, _, by omega, rfl, by first | (rw [HBB.out]; rfl) | simp [HBB.out, HBn.out, namesL_app, namesL, wordL], by go_num, rfl, by rw [HBn.out]; simpa [Nat.add_assoc] using HO9.out, HU9.out⟩
            case measure => simp [intOf]; omega
          · obtain rfl : k = bj := by omega
            have y1 : ¬ 9223372036854775807 < B.size + 1 := by omega
            have HQd := Lib.hid (HQc.out _ _ _ HTx.out (HVA.out.under (HU6.out.trans HUr.out)) HUr.out)
            clear HQc
            generalize sayT av T (st ++ bindN av st k) = C at *
            have y3 : ¬ 9223372036854775807 < B.size + 1 + C.toArray.size := by have := HTl.out; have := HB4'.out; simp; omega
            have HBN := Lib.hid hbn
            clear hbn
            go_wp2_with fail
            refine HQd.out.mono ?_
            rintro e w10 ⟨rfl, hU10⟩
            have HU10 := Lib.hid (HUr.out.trans hU10)
            clear hU10 HQd
            go_wp2
            go_roundw
            case rel => exact ⟨j + 1, os ++ ((if true then [] else namesL (bindN av st k)) ++ 32 :: C), _, by omega, rfl, by simp [HBB.out], by go_num, by rw [HTk.out, List.length_append, List.length_append, List.length_append, List.length_cons]; have := HTl.out; have : (if true then [] else namesL (bindN av st k)).length ≤ 46 := (by first | exact HBN.out | simpa using HBN.out | simp); omega, by rw [HSy.out, HSa.out]; simp only [List.append_assoc], HU10.out⟩
            case measure => simp [intOf]; omega
      · obtain rfl : j = l.length := by omega
        have z9 : ¬ 9223372036854775807 < A.size + 1 := by omega
        go_wp2
        go_ret
        refine ⟨ret_str (bytes_of_list ?_), HU6.out.trans HUr.out⟩
        have hff : firstK x = true := by simp [firstK, *]
        rw [HSay.out, hff, HSy.out, List.drop_length]
        simp [HAA.out, HS0.out, HHd.out, sayTs, wordL, fs, G26.out]
  · have G26 : RowKit.Hid (¬ x.k = 26) := Lib.hid (by simpa using f26)
    have z2 : ¬ 9223372036854775807 < 1 + W.size + 1 := by omega
    have z3 : ¬ 9223372036854775807 < 1 + W.size + 1 + F.size := by omega
    obtain ⟨S0, hS0'⟩ : ∃ S0, S0 = [40] ++ W.data.toList ++ wordL F := ⟨_, rfl⟩
    have HS0 := Lib.hid hS0'
    have HSz := Lib.hid (show S0.length ≤ 70 by have : W.data.size = W.size := rfl; have : F.data.size = F.size := rfl; have : x.s.data.size = x.s.size := rfl; rw [hS0']; simp [wordL]; omega)
    clear hS0'
    go_enter Tryz.func23, Tryz.ntmps23
    go_wp2_with fail
    refine HR.out.mono ?_
    rintro e w1 ⟨rfl, hU1⟩
    have HU1 := Lib.hid hU1
    clear hU1 HR
    go_wp2_with fail
    refine (HW.out _).mono ?_
    rintro e w2 ⟨rfl, hU2⟩
    have HU2 := Lib.hid ((under_alloc HU1.out _).trans hU2)
    have HB2 := Lib.hid ((box_new w1 _ _).under hU2 : BoxAt w2 w1.heap.size 38 #[.int .i64 x.k, .int .i64 x.n, .int .i64 x.m, .string x.s])
    have hlt2 := HB2.out.lt
    have c02 : w2.cell? ⟨w1.heap.size, 0, none⟩ = some (.int .i64 x.k) := HB2.out.cell 0
    have c12 : w2.cell? ⟨w1.heap.size, 1, none⟩ = some (.int .i64 x.n) := HB2.out.cell 1
    have c22 : w2.cell? ⟨w1.heap.size, 2, none⟩ = some (.int .i64 x.m) := HB2.out.cell 2
    have c32 : w2.cell? ⟨w1.heap.size, 3, none⟩ = some (.string x.s) := HB2.out.cell 3
    clear hU2
    go_wp2_with fail
    refine (HC.out _).mono ?_
    rintro e w4 ⟨lb, hlb, q, cq, rfl, hlc, hrl, hU4⟩
    obtain rfl := hlb HX.out
    have HU4 := Lib.hid (HU2.out.trans hU4)
    have HB4 := Lib.hid (HB2.out.under hU4 : BoxAt w4 w1.heap.size 38 #[.int .i64 x.k, .int .i64 x.n, .int .i64 x.m, .string x.s])
    have hlt4 := HB4.out.lt
    have c04 : w4.cell? ⟨w1.heap.size, 0, none⟩ = some (.int .i64 x.k) := HB4.out.cell 0
    have c14 : w4.cell? ⟨w1.heap.size, 1, none⟩ = some (.int .i64 x.n) := HB4.out.cell 1
    have c24 : w4.cell? ⟨w1.heap.size, 2, none⟩ = some (.int .i64 x.m) := HB4.out.cell 2
    have c34 : w4.cell? ⟨w1.heap.size, 3, none⟩ = some (.string x.s) := HB4.out.cell 3
    have HQ := Lib.hid hrl
    rw [HX.out, ← HL.out]
    clear hU4 hrl hlc hlb HC
    go_wp2_with fail
    refine (HPa.out _ HU4.out).mono ?_
    rintro e w5 ⟨vr, rfl, ⟨p5, c5, vs5, rfl, h51, _, h52, h53⟩, hU5⟩
    have hlm : (l.map flat).length = l.length := List.length_map ..
    rw [hlm] at h51 ⊢
    have HQ5 := Lib.hid (hrl_under HQ.out hU5)
    have HU5 := Lib.hid (HU4.out.trans hU5)
    have HP5 := Lib.hid h52
    have HZ5 := Lib.hid h53
    have HB5 := Lib.hid (HB4.out.under hU5 : BoxAt w5 w1.heap.size 38 #[.int .i64 x.k, .int .i64 x.n, .int .i64 x.m, .string x.s])
    have hlt5 := HB5.out.lt
    have c05 : w5.cell? ⟨w1.heap.size, 0, none⟩ = some (.int .i64 x.k) := HB5.out.cell 0
    have c15 : w5.cell? ⟨w1.heap.size, 1, none⟩ = some (.int .i64 x.n) := HB5.out.cell 1
    have c25 : w5.cell? ⟨w1.heap.size, 2, none⟩ = some (.int .i64 x.m) := HB5.out.cell 2
    have c35 : w5.cell? ⟨w1.heap.size, 3, none⟩ = some (.string x.s) := HB5.out.cell 3
    clear hU5 h52 h53 hlm HPa
    go_wp2_with fail
    refine (HF.out _ HU5.out).mono ?_
    rintro e w6 ⟨rfl, hU6⟩
    have HU6 := Lib.hid (HU5.out.trans hU6)
    have HQa := Lib.hid (hrl_under HQ5.out hU6)
    have HPa' := Lib.hid (hrl_under HP5.out hU6)
    have HZa := Lib.hid (HZ5.out.mono fun v y h => TermV.mono _ _ _ _ hU6 h)
    go_wp2
    go_loopw [8, 13] (fun sv i wr => SdRel w6 x l av st true S0 sv i wr) (fun _ i _ => l.length - (intOf i).toNat)
    case atStart => exact ⟨0, [], _, Nat.zero_le _, rfl, by rw [HS0.out]; simp [wordL], rfl, Nat.zero_le _, rfl, Under.refl _⟩
    case round =>
      obtain ⟨j, os, A, hj, rfl, hA, rfl, hos, hSy, hU⟩ := hrel
      have HUr := Lib.hid hU
      have HSy := Lib.hid hSy
      have HAA := Lib.hid hA
      have hj0 : (0 : Int) ≤ (j : Int) := by omega
      have hfle : (flats (l.take j)).length ≤ (flats l).length := by
        have := congrArg List.length (flats_app (l.take j) (l.drop j))
        rw [List.take_append_drop, List.length_append] at this
        omega
      have hAs := size_of_list hA
      rw [List.length_append] at hAs
      have hA9 : A.size ≤ 900000 := by have := HFl.out; have := HN0.out; have := HSz.out; omega
      clear hU hSy hA hAs
      by_cases hjl : j < l.length
      · have hjb : j < (binds x).length := by rw [← HL.out]; exact hjl
        obtain ⟨tv, htv, hterm⟩ := HZa.out.at (i := j) (x := flat l[j]) (by rw [List.getElem?_map, List.getElem?_eq_getElem hjl]; rfl)
        have hok := okTs_mem.1 HLs.out _ (List.getElem_mem hjl)
        have hb2 := hB2.out _ (List.getElem_mem hjb)
        have htk : flats (l.take (j + 1)) = flats (l.take j) ++ flat l[j] := by
          rw [List.take_succ_eq_append_getElem hjl, flats_app]
          simp [flats]
        have hfl2 : (flats (l.take (j + 1))).length ≤ (flats l).length := by
          have := congrArg List.length (flats_app (l.take (j + 1)) (l.drop (j + 1)))
          rw [List.take_append_drop, List.length_append] at this
          omega
        rw [htk, List.length_append] at hfl2
        have HTk := Lib.hid (congrArg List.length htk)
        have HSa := Lib.hid (sayTs_at (av := av) (st := st) (f := true) hjl hjb)
        have hbs := bindN_sizes av (binds x)[j] st (by have := HA.out; omega) (by omega)
        have hsz : ∀ s ∈ st ++ bindN av st (binds x)[j], s.size ≤ 22 := fun s h => by
          rcases List.mem_append.1 h with h | h
          · exact HSs.out s h
          · exact hbs s h
        have HTl := Lib.hid (sayT_len av (by have := HA.out; omega) l[j] hok (st ++ bindN av st (binds x)[j]) hsz (by rw [List.length_append, bindN_len]; have := HFl.out; have := HN0.out; have := HSt.out; omega))
        have HQc := Lib.hid (fun w vs' va' (hvs' : TextsV w vs' (st ++ bindN av st (binds x)[j])) (hva' : TextsV w va' av) (hU : Under w6 w) => HIH.out l[j] (List.getElem_mem hjl) hok w tv vs' va' (flat l[j]) _ av rfl (by have := HFl.out; have := HN0.out; omega) (TermV.mono _ _ _ _ hU hterm) hvs' hva' HA.out (by rw [List.length_append, bindN_len]; have := HFl.out; have := HSt.out; omega) hsz (by rw [List.length_append, bindN_len]; exact inTs_at hjl hjb HIn.out))
        obtain ⟨pt, ct, rfl, _⟩ := hterm
        obtain ⟨bt, ot, rfl, hbt, hct⟩ := HPa'.out (fun e => by rw [e] at htv; simp at htv)
        have hcc := hct j _ htv
        have HCc := Lib.hid (fun w (hU : Under w6 w) => (under_cell hU hbt (ot + j)).trans hcc)
        obtain ⟨bb, ob, rfl, hbb, hcb⟩ := HQa.out (fun e => by
          have := congrArg List.length e
          unfold intsN at this
          rw [List.length_map, List.length_nil] at this
          omega)
        have hcb' := hcb j _ (intsN_at (List.getElem?_eq_getElem hjb))
        have HCb := Lib.hid (fun w (hU : Under w6 w) => (under_cell hU hbb (ob + j)).trans hcb')
        have HB4' := Lib.hid (show (flats (l.take j)).length + (flat l[j]).length ≤ 4000 by have := HFl.out; have := HN0.out; omega)
        clear htk hct hcb htv hok hfle hcc hcb' hfl2 hbs hsz
        generalize (binds x)[j] = bj at *
        generalize l[j] = T at *
        have hbj0 : (0 : Int) ≤ (bj : Int) := by omega
        have hbj2 : (bj : Int) ≤ 2 := by omega
        have hjl' : (j : Int) < (l.length : Int) := by omega
        have hwru := HUr.out.size
        go_wp2_with (at_builtin; refine wpList_append_read rfl _ _ 23 rfl w6.heap.size 9 i0 _ 1 16 Tryz.underlying23 hi hz0 hz1 hz2 rfl (by decide) _ _ _ rfl (row_emptyZ wr w6.heap.size _ _ hwru) ps st.length cs (st.map .string) rfl (by simp) hcs hs0 (HRs.out.under (HU6.out.trans (under_alloc HUr.out _))) (by simp [Value.oneCell']) (by simp only [maxLen]; omega) (by omega) (by simp; omega) ?_)
        intro v7 w7 hown hgrow
        replace hown : w7.ownsRow w6.heap.size 9 1 v7 st.length (st.map .string) := by simpa using hown
        obtain ⟨q7, d7, rfl, hd7, hr7⟩ := RowArg.of_own hown
        have HO7 := Lib.hid hown
        have HU7 := Lib.hid (under_grown (under_alloc HUr.out _) hgrow fun z e => by cases e; exact hwru)
        clear hown hgrow hd7 hr7
        go_wp2
        go_loopw [8, 14, 15] (fun sv inv k wr => SnRel w6 w6.heap.size av st true (S0 ++ os) bj sv inv k wr) (fun _ _ k _ => bj - (intOf k).toNat)
        case atStart => exact ⟨0, q7, d7, A, Nat.zero_le _, rfl, by rw [HAA.out]; simp [bindN, namesL], rfl, rfl, by simpa [bindN] using HO7.out, HU7.out⟩
        case round =>
          obtain ⟨k, q, d, B, hk, rfl, hB, rfl, rfl, hO, hU⟩ := hrel
          have HBB := Lib.hid hB
          have HOr := Lib.hid hO
          have HUr := Lib.hid hU
          have hBs := size_of_list hB
          have hbn : (if true then [] else namesL (bindN av st k)).length ≤ 46 := by
            have hbs := bindN_sizes av k st (by have := HA.out; omega) (by omega)
            have := namesL_len _ hbs
            rw [bindN_len] at this
            split
            · simp
            · omega
          rw [List.length_append, ← HAA.out] at hBs
          have hBs' : B.size ≤ 900100 := by
            have e : A.data.toList.length = A.size := rfl
            omega
          have hcb := HCb.out _ HUr.out
          have hcc := HCc.out _ HUr.out
          have hbb' := Nat.lt_of_lt_of_le hbb HUr.out.size
          have hbt' := Nat.lt_of_lt_of_le hbt HUr.out.size
          have hk0 : (0 : Int) ≤ (k : Int) := by omega
          have HTx := Lib.hid (TextsV.of_own (ss := st ++ bindN av st k) (by rw [List.length_append, bindN_len]; exact HOr.out))
          clear hB hO hU hBs
          by_cases hkl : k < bj
          · have hkl' : (k : Int) < (bj : Int) := by omega
            have HFr := Lib.hid (fresh_any (st.length + k) (by omega) (by rw [List.length_append, bindN_len]; omega) (by have := HA.out; omega) HTx.out (HVA.out.under (HU6.out.trans HUr.out)))
            rw [Int.natCast_add] at HFr
            have HBn := Lib.hid (bindN_snoc av k st)
            have hGs : (nameN (freshN (av ++ (st ++ bindN av st k)) (st.length + k))).size ≤ 22 := nameN_len (by have := (freshN_spec (av ++ (st ++ bindN av st k)) (st.length + k)).2.1; rw [List.length_append, List.length_append, bindN_len] at this; have := HA.out; omega)
            generalize nameN (freshN (av ++ (st ++ bindN av st k)) (st.length + k)) = G at *
            have y1 : ¬ 9223372036854775807 < B.size + 1 := by omega
            have y2 : ¬ 9223372036854775807 < B.size + 1 + G.size := by omega
            go_wp2_with fail
            refine HFr.out.mono ?_
            rintro e w8 ⟨rfl, hU8⟩
            have HU8 := Lib.hid (HUr.out.trans hU8)
            have HO8 := Lib.hid (row_under HOr.out hU8)
            have hs8 := HU8.out.size
            clear hU8
            go_wp2_with (at_builtin; refine wpList_append_lies _ rfl _ _ 23 rfl w6.heap.size 9 i0 _ 1 16 Tryz.underlying23 hi hz0 hz1 hz2 rfl (by decide) _ _ _ rfl (HO8.out.alloc _) ⟨w8.heap.size, 0, none⟩ 1 1 [.string G] rfl rfl ?c1 ?c2 (by decide) (by simp only [maxLen]; omega) (by omega) ?c5 (w8.heap.size + 1) (by simp) ?_)
            case c1 => exact cell_one_new _ _ _
            case c2 => simp [Value.oneCell']
            case c5 => simp; omega
            intro g9 d9 w9 hown hgrow hat hlt9
            have HO9 := Lib.hid hown
            have HU9 := Lib.hid (under_grown (under_alloc HU8.out _) hgrow fun z e => (row_lt HO8.out e).1)
            clear hown hgrow hat hlt9
            go_wp2
            go_roundw
            case rel => exact ⟨k + 1, _, d9, _, by omega, rfl, by first | (rw [HBB.out]; rfl) | simp [HBB.out, HBn.out, namesL_app, namesL, wordL], by go_num, rfl, by rw [HBn.out]; simpa [Nat.add_assoc] using HO9.out, HU9.out⟩
            case measure => simp [intOf]; omega
          · obtain rfl : k = bj := by omega
            have y1 : ¬ 9223372036854775807 < B.size + 1 := by omega
            have HQd := Lib.hid (HQc.out _ _ _ HTx.out (HVA.out.under (HU6.out.trans HUr.out)) HUr.out)
            clear HQc
            generalize sayT av T (st ++ bindN av st k) = C at *
            have y3 : ¬ 9223372036854775807 < B.size + 1 + C.toArray.size := by have := HTl.out; have := HB4'.out; simp; omega
            have HBN := Lib.hid hbn
            clear hbn
            go_wp2_with fail
            refine HQd.out.mono ?_
            rintro e w10 ⟨rfl, hU10⟩
            have HU10 := Lib.hid (HUr.out.trans hU10)
            clear hU10 HQd
            go_wp2
            go_roundw
            case rel => exact ⟨j + 1, os ++ ((if true then [] else namesL (bindN av st k)) ++ 32 :: C), _, by omega, rfl, by simp [HBB.out], by go_num, by rw [HTk.out, List.length_append, List.length_append, List.length_append, List.length_cons]; have := HTl.out; have : (if true then [] else namesL (bindN av st k)).length ≤ 46 := (by first | exact HBN.out | simpa using HBN.out | simp); omega, by rw [HSy.out, HSa.out]; simp only [List.append_assoc], HU10.out⟩
            case measure => simp [intOf]; omega
      · obtain rfl : j = l.length := by omega
        have z9 : ¬ 9223372036854775807 < A.size + 1 := by omega
        go_wp2
        go_ret
        refine ⟨ret_str (bytes_of_list ?_), HU6.out.trans HUr.out⟩
        have hff : firstK x = true := by simp [firstK, *]
        rw [HSay.out, hff, HSy.out, List.drop_length]
        simp [HAA.out, HS0.out, HHd.out, sayTs, wordL, fs, G26.out]
  · have G26 : RowKit.Hid (x.k = 26) := Lib.hid (by simpa using f26)
    have z2 : ¬ 9223372036854775807 < 1 + W.size + 1 := by omega
    have z3 : ¬ 9223372036854775807 < 1 + W.size + 1 + x.s.size := by omega
    have z4 : ¬ 9223372036854775807 < 1 + W.size + 1 + x.s.size + 1 := by omega
    have z5 : ¬ 9223372036854775807 < 1 + W.size + 1 + x.s.size + 1 + L.toArray.size := by simp; omega
    obtain ⟨S0, hS0'⟩ : ∃ S0, S0 = [40] ++ W.data.toList ++ wordL x.s ++ 32 :: L := ⟨_, rfl⟩
    have HS0 := Lib.hid hS0'
    have HSz := Lib.hid (show S0.length ≤ 90 by have : W.data.size = W.size := rfl; have : F.data.size = F.size := rfl; have : x.s.data.size = x.s.size := rfl; rw [hS0']; simp [wordL]; omega)
    clear hS0'
    go_enter Tryz.func23, Tryz.ntmps23
    go_wp2_with fail
    refine HR.out.mono ?_
    rintro e w1 ⟨rfl, hU1⟩
    have HU1 := Lib.hid hU1
    clear hU1 HR
    go_wp2_with fail
    refine (HW.out _).mono ?_
    rintro e w2 ⟨rfl, hU2⟩
    have HU2 := Lib.hid ((under_alloc HU1.out _).trans hU2)
    have HB2 := Lib.hid ((box_new w1 _ _).under hU2 : BoxAt w2 w1.heap.size 38 #[.int .i64 x.k, .int .i64 x.n, .int .i64 x.m, .string x.s])
    have hlt2 := HB2.out.lt
    have c02 : w2.cell? ⟨w1.heap.size, 0, none⟩ = some (.int .i64 x.k) := HB2.out.cell 0
    have c12 : w2.cell? ⟨w1.heap.size, 1, none⟩ = some (.int .i64 x.n) := HB2.out.cell 1
    have c22 : w2.cell? ⟨w1.heap.size, 2, none⟩ = some (.int .i64 x.m) := HB2.out.cell 2
    have c32 : w2.cell? ⟨w1.heap.size, 3, none⟩ = some (.string x.s) := HB2.out.cell 3
    clear hU2
    go_wp2_with fail
    refine (HI.out _).mono ?_
    rintro e w3 ⟨rfl, hU3⟩
    have HU3 := Lib.hid (HU2.out.trans hU3)
    have HB3 := Lib.hid (HB2.out.under hU3 : BoxAt w3 w1.heap.size 38 #[.int .i64 x.k, .int .i64 x.n, .int .i64 x.m, .string x.s])
    have hlt3 := HB3.out.lt
    have c03 : w3.cell? ⟨w1.heap.size, 0, none⟩ = some (.int .i64 x.k) := HB3.out.cell 0
    have c13 : w3.cell? ⟨w1.heap.size, 1, none⟩ = some (.int .i64 x.n) := HB3.out.cell 1
    have c23 : w3.cell? ⟨w1.heap.size, 2, none⟩ = some (.int .i64 x.m) := HB3.out.cell 2
    have c33 : w3.cell? ⟨w1.heap.size, 3, none⟩ = some (.string x.s) := HB3.out.cell 3
    clear hU3
    go_wp2_with fail
    refine (HC.out _).mono ?_
    rintro e w4 ⟨lb, hlb, q, cq, rfl, hlc, hrl, hU4⟩
    obtain rfl := hlb HX.out
    have HU4 := Lib.hid (HU3.out.trans hU4)
    have HB4 := Lib.hid (HB3.out.under hU4 : BoxAt w4 w1.heap.size 38 #[.int .i64 x.k, .int .i64 x.n, .int .i64 x.m, .string x.s])
    have hlt4 := HB4.out.lt
    have c04 : w4.cell? ⟨w1.heap.size, 0, none⟩ = some (.int .i64 x.k) := HB4.out.cell 0
    have c14 : w4.cell? ⟨w1.heap.size, 1, none⟩ = some (.int .i64 x.n) := HB4.out.cell 1
    have c24 : w4.cell? ⟨w1.heap.size, 2, none⟩ = some (.int .i64 x.m) := HB4.out.cell 2
    have c34 : w4.cell? ⟨w1.heap.size, 3, none⟩ = some (.string x.s) := HB4.out.cell 3
    have HQ := Lib.hid hrl
    rw [HX.out, ← HL.out]
    clear hU4 hrl hlc hlb HC
    go_wp2_with fail
    refine (HPa.out _ HU4.out).mono ?_
    rintro e w5 ⟨vr, rfl, ⟨p5, c5, vs5, rfl, h51, _, h52, h53⟩, hU5⟩
    have hlm : (l.map flat).length = l.length := List.length_map ..
    rw [hlm] at h51 ⊢
    have HQ5 := Lib.hid (hrl_under HQ.out hU5)
    have HU5 := Lib.hid (HU4.out.trans hU5)
    have HP5 := Lib.hid h52
    have HZ5 := Lib.hid h53
    have HB5 := Lib.hid (HB4.out.under hU5 : BoxAt w5 w1.heap.size 38 #[.int .i64 x.k, .int .i64 x.n, .int .i64 x.m, .string x.s])
    have hlt5 := HB5.out.lt
    have c05 : w5.cell? ⟨w1.heap.size, 0, none⟩ = some (.int .i64 x.k) := HB5.out.cell 0
    have c15 : w5.cell? ⟨w1.heap.size, 1, none⟩ = some (.int .i64 x.n) := HB5.out.cell 1
    have c25 : w5.cell? ⟨w1.heap.size, 2, none⟩ = some (.int .i64 x.m) := HB5.out.cell 2
    have c35 : w5.cell? ⟨w1.heap.size, 3, none⟩ = some (.string x.s) := HB5.out.cell 3
    clear hU5 h52 h53 hlm HPa
    have HQa := Lib.hid (hrl_under HQ5.out (Under.refl _))
    have HPa' := Lib.hid (hrl_under HP5.out (Under.refl _))
    have HZa := Lib.hid (HZ5.out.mono fun v y h => TermV.mono _ _ _ _ (Under.refl _) h)
    go_wp2
    go_loopw [8, 13] (fun sv i wr => SdRel w5 x l av st false S0 sv i wr) (fun _ i _ => l.length - (intOf i).toNat)
    case atStart => exact ⟨0, [], _, Nat.zero_le _, rfl, by rw [HS0.out]; simp [wordL], rfl, Nat.zero_le _, rfl, Under.refl _⟩
    case round =>
      obtain ⟨j, os, A, hj, rfl, hA, rfl, hos, hSy, hU⟩ := hrel
      have HUr := Lib.hid hU
      have HSy := Lib.hid hSy
      have HAA := Lib.hid hA
      have hj0 : (0 : Int) ≤ (j : Int) := by omega
      have hfle : (flats (l.take j)).length ≤ (flats l).length := by
        have := congrArg List.length (flats_app (l.take j) (l.drop j))
        rw [List.take_append_drop, List.length_append] at this
        omega
      have hAs := size_of_list hA
      rw [List.length_append] at hAs
      have hA9 : A.size ≤ 900000 := by have := HFl.out; have := HN0.out; have := HSz.out; omega
      clear hU hSy hA hAs
      by_cases hjl : j < l.length
      · have hjb : j < (binds x).length := by rw [← HL.out]; exact hjl
        obtain ⟨tv, htv, hterm⟩ := HZa.out.at (i := j) (x := flat l[j]) (by rw [List.getElem?_map, List.getElem?_eq_getElem hjl]; rfl)
        have hok := okTs_mem.1 HLs.out _ (List.getElem_mem hjl)
        have hb2 := hB2.out _ (List.getElem_mem hjb)
        have htk : flats (l.take (j + 1)) = flats (l.take j) ++ flat l[j] := by
          rw [List.take_succ_eq_append_getElem hjl, flats_app]
          simp [flats]
        have hfl2 : (flats (l.take (j + 1))).length ≤ (flats l).length := by
          have := congrArg List.length (flats_app (l.take (j + 1)) (l.drop (j + 1)))
          rw [List.take_append_drop, List.length_append] at this
          omega
        rw [htk, List.length_append] at hfl2
        have HTk := Lib.hid (congrArg List.length htk)
        have HSa := Lib.hid (sayTs_at (av := av) (st := st) (f := false) hjl hjb)
        have hbs := bindN_sizes av (binds x)[j] st (by have := HA.out; omega) (by omega)
        have hsz : ∀ s ∈ st ++ bindN av st (binds x)[j], s.size ≤ 22 := fun s h => by
          rcases List.mem_append.1 h with h | h
          · exact HSs.out s h
          · exact hbs s h
        have HTl := Lib.hid (sayT_len av (by have := HA.out; omega) l[j] hok (st ++ bindN av st (binds x)[j]) hsz (by rw [List.length_append, bindN_len]; have := HFl.out; have := HN0.out; have := HSt.out; omega))
        have HQc := Lib.hid (fun w vs' va' (hvs' : TextsV w vs' (st ++ bindN av st (binds x)[j])) (hva' : TextsV w va' av) (hU : Under w5 w) => HIH.out l[j] (List.getElem_mem hjl) hok w tv vs' va' (flat l[j]) _ av rfl (by have := HFl.out; have := HN0.out; omega) (TermV.mono _ _ _ _ hU hterm) hvs' hva' HA.out (by rw [List.length_append, bindN_len]; have := HFl.out; have := HSt.out; omega) hsz (by rw [List.length_append, bindN_len]; exact inTs_at hjl hjb HIn.out))
        obtain ⟨pt, ct, rfl, _⟩ := hterm
        obtain ⟨bt, ot, rfl, hbt, hct⟩ := HPa'.out (fun e => by rw [e] at htv; simp at htv)
        have hcc := hct j _ htv
        have HCc := Lib.hid (fun w (hU : Under w5 w) => (under_cell hU hbt (ot + j)).trans hcc)
        obtain ⟨bb, ob, rfl, hbb, hcb⟩ := HQa.out (fun e => by
          have := congrArg List.length e
          unfold intsN at this
          rw [List.length_map, List.length_nil] at this
          omega)
        have hcb' := hcb j _ (intsN_at (List.getElem?_eq_getElem hjb))
        have HCb := Lib.hid (fun w (hU : Under w5 w) => (under_cell hU hbb (ob + j)).trans hcb')
        have HB4' := Lib.hid (show (flats (l.take j)).length + (flat l[j]).length ≤ 4000 by have := HFl.out; have := HN0.out; omega)
        clear htk hct hcb htv hok hfle hcc hcb' hfl2 hbs hsz
        generalize (binds x)[j] = bj at *
        generalize l[j] = T at *
        have hbj0 : (0 : Int) ≤ (bj : Int) := by omega
        have hbj2 : (bj : Int) ≤ 2 := by omega
        have hjl' : (j : Int) < (l.length : Int) := by omega
        have hwru := HUr.out.size
        go_wp2_with (at_builtin; refine wpList_append_read rfl _ _ 23 rfl w5.heap.size 9 i0 _ 1 16 Tryz.underlying23 hi hz0 hz1 hz2 rfl (by decide) _ _ _ rfl (row_emptyZ wr w5.heap.size _ _ hwru) ps st.length cs (st.map .string) rfl (by simp) hcs hs0 (HRs.out.under (HU5.out.trans (under_alloc HUr.out _))) (by simp [Value.oneCell']) (by simp only [maxLen]; omega) (by omega) (by simp; omega) ?_)
        intro v7 w7 hown hgrow
        replace hown : w7.ownsRow w5.heap.size 9 1 v7 st.length (st.map .string) := by simpa using hown
        obtain ⟨q7, d7, rfl, hd7, hr7⟩ := RowArg.of_own hown
        have HO7 := Lib.hid hown
        have HU7 := Lib.hid (under_grown (under_alloc HUr.out _) hgrow fun z e => by cases e; exact hwru)
        clear hown hgrow hd7 hr7
        go_wp2
        go_loopw [8, 14, 15] (fun sv inv k wr => SnRel w5 w5.heap.size av st false (S0 ++ os) bj sv inv k wr) (fun _ _ k _ => bj - (intOf k).toNat)
        case atStart => exact ⟨0, q7, d7, A, Nat.zero_le _, rfl, by rw [HAA.out]; simp [bindN, namesL], rfl, rfl, by simpa [bindN] using HO7.out, HU7.out⟩
        case round =>
          obtain ⟨k, q, d, B, hk, rfl, hB, rfl, rfl, hO, hU⟩ := hrel
          have HBB := Lib.hid hB
          have HOr := Lib.hid hO
          have HUr := Lib.hid hU
          have hBs := size_of_list hB
          have hbn : (if false then [] else namesL (bindN av st k)).length ≤ 46 := by
            have hbs := bindN_sizes av k st (by have := HA.out; omega) (by omega)
            have := namesL_len _ hbs
            rw [bindN_len] at this
            split
            · simp
            · omega
          rw [List.length_append, ← HAA.out] at hBs
          have hBs' : B.size ≤ 900100 := by
            have e : A.data.toList.length = A.size := rfl
            omega
          have hcb := HCb.out _ HUr.out
          have hcc := HCc.out _ HUr.out
          have hbb' := Nat.lt_of_lt_of_le hbb HUr.out.size
          have hbt' := Nat.lt_of_lt_of_le hbt HUr.out.size
          have hk0 : (0 : Int) ≤ (k : Int) := by omega
          have HTx := Lib.hid (TextsV.of_own (ss := st ++ bindN av st k) (by rw [List.length_append, bindN_len]; exact HOr.out))
          clear hB hO hU hBs
          by_cases hkl : k < bj
          · have hkl' : (k : Int) < (bj : Int) := by omega
            have HFr := Lib.hid (fresh_any (st.length + k) (by omega) (by rw [List.length_append, bindN_len]; omega) (by have := HA.out; omega) HTx.out (HVA.out.under (HU5.out.trans HUr.out)))
            rw [Int.natCast_add] at HFr
            have HBn := Lib.hid (bindN_snoc av k st)
            have hGs : (nameN (freshN (av ++ (st ++ bindN av st k)) (st.length + k))).size ≤ 22 := nameN_len (by have := (freshN_spec (av ++ (st ++ bindN av st k)) (st.length + k)).2.1; rw [List.length_append, List.length_append, bindN_len] at this; have := HA.out; omega)
            generalize nameN (freshN (av ++ (st ++ bindN av st k)) (st.length + k)) = G at *
            have y1 : ¬ 9223372036854775807 < B.size + 1 := by omega
            have y2 : ¬ 9223372036854775807 < B.size + 1 + G.size := by omega
            go_wp2_with fail
            refine HFr.out.mono ?_
            rintro e w8 ⟨rfl, hU8⟩
            have HU8 := Lib.hid (HUr.out.trans hU8)
            have HO8 := Lib.hid (row_under HOr.out hU8)
            have hs8 := HU8.out.size
            clear hU8
            go_wp2_with (at_builtin; refine wpList_append_lies _ rfl _ _ 23 rfl w5.heap.size 9 i0 _ 1 16 Tryz.underlying23 hi hz0 hz1 hz2 rfl (by decide) _ _ _ rfl (HO8.out.alloc _) ⟨w8.heap.size, 0, none⟩ 1 1 [.string G] rfl rfl ?c1 ?c2 (by decide) (by simp only [maxLen]; omega) (by omega) ?c5 (w8.heap.size + 1) (by simp) ?_)
            case c1 => exact cell_one_new _ _ _
            case c2 => simp [Value.oneCell']
            case c5 => simp; omega
            intro g9 d9 w9 hown hgrow hat hlt9
            have HO9 := Lib.hid hown
            have HU9 := Lib.hid (under_grown (under_alloc HU8.out _) hgrow fun z e => (row_lt HO8.out e).1)
            clear hown hgrow hat hlt9
            go_wp2
            go_roundw
            case rel => exact ⟨k + 1, _, d9, _, by omega, rfl, by first | (rw [HBB.out]; rfl) | simp [HBB.out, HBn.out, namesL_app, namesL, wordL], by go_num, rfl, by rw [HBn.out]; simpa [Nat.add_assoc] using HO9.out, HU9.out⟩
            case measure => simp [intOf]; omega
          · obtain rfl : k = bj := by omega
            have y1 : ¬ 9223372036854775807 < B.size + 1 := by omega
            have HQd := Lib.hid (HQc.out _ _ _ HTx.out (HVA.out.under (HU5.out.trans HUr.out)) HUr.out)
            clear HQc
            generalize sayT av T (st ++ bindN av st k) = C at *
            have y3 : ¬ 9223372036854775807 < B.size + 1 + C.toArray.size := by have := HTl.out; have := HB4'.out; simp; omega
            have HBN := Lib.hid hbn
            clear hbn
            go_wp2_with fail
            refine HQd.out.mono ?_
            rintro e w10 ⟨rfl, hU10⟩
            have HU10 := Lib.hid (HUr.out.trans hU10)
            clear hU10 HQd
            go_wp2
            go_roundw
            case rel => exact ⟨j + 1, os ++ ((if false then [] else namesL (bindN av st k)) ++ 32 :: C), _, by omega, rfl, by simp [HBB.out], by go_num, by rw [HTk.out, List.length_append, List.length_append, List.length_append, List.length_cons]; have := HTl.out; have : (if false then [] else namesL (bindN av st k)).length ≤ 46 := (by first | exact HBN.out | simpa using HBN.out | simp); omega, by rw [HSy.out, HSa.out]; simp only [List.append_assoc], HU10.out⟩
            case measure => simp [intOf]; omega
      · obtain rfl : j = l.length := by omega
        have z9 : ¬ 9223372036854775807 < A.size + 1 := by omega
        go_wp2
        go_ret
        refine ⟨ret_str (bytes_of_list ?_), HU5.out.trans HUr.out⟩
        have hff : firstK x = false := by simp [firstK, *]
        rw [HSay.out, hff, HSy.out, List.drop_length]
        simp [HAA.out, HS0.out, HHd.out, sayTs, wordL, fs, G26.out]
  · have G26 : RowKit.Hid (¬ x.k = 26) := Lib.hid (by simpa using f26)
    have z2 : ¬ 9223372036854775807 < 1 + W.size + 1 := by omega
    have z3 : ¬ 9223372036854775807 < 1 + W.size + 1 + x.s.size := by omega
    obtain ⟨S0, hS0'⟩ : ∃ S0, S0 = [40] ++ W.data.toList ++ wordL x.s := ⟨_, rfl⟩
    have HS0 := Lib.hid hS0'
    have HSz := Lib.hid (show S0.length ≤ 70 by have : W.data.size = W.size := rfl; have : F.data.size = F.size := rfl; have : x.s.data.size = x.s.size := rfl; rw [hS0']; simp [wordL]; omega)
    clear hS0'
    go_enter Tryz.func23, Tryz.ntmps23
    go_wp2_with fail
    refine HR.out.mono ?_
    rintro e w1 ⟨rfl, hU1⟩
    have HU1 := Lib.hid hU1
    clear hU1 HR
    go_wp2_with fail
    refine (HW.out _).mono ?_
    rintro e w2 ⟨rfl, hU2⟩
    have HU2 := Lib.hid ((under_alloc HU1.out _).trans hU2)
    have HB2 := Lib.hid ((box_new w1 _ _).under hU2 : BoxAt w2 w1.heap.size 38 #[.int .i64 x.k, .int .i64 x.n, .int .i64 x.m, .string x.s])
    have hlt2 := HB2.out.lt
    have c02 : w2.cell? ⟨w1.heap.size, 0, none⟩ = some (.int .i64 x.k) := HB2.out.cell 0
    have c12 : w2.cell? ⟨w1.heap.size, 1, none⟩ = some (.int .i64 x.n) := HB2.out.cell 1
    have c22 : w2.cell? ⟨w1.heap.size, 2, none⟩ = some (.int .i64 x.m) := HB2.out.cell 2
    have c32 : w2.cell? ⟨w1.heap.size, 3, none⟩ = some (.string x.s) := HB2.out.cell 3
    clear hU2
    go_wp2_with fail
    refine (HC.out _).mono ?_
    rintro e w4 ⟨lb, hlb, q, cq, rfl, hlc, hrl, hU4⟩
    obtain rfl := hlb HX.out
    have HU4 := Lib.hid (HU2.out.trans hU4)
    have HB4 := Lib.hid (HB2.out.under hU4 : BoxAt w4 w1.heap.size 38 #[.int .i64 x.k, .int .i64 x.n, .int .i64 x.m, .string x.s])
    have hlt4 := HB4.out.lt
    have c04 : w4.cell? ⟨w1.heap.size, 0, none⟩ = some (.int .i64 x.k) := HB4.out.cell 0
    have c14 : w4.cell? ⟨w1.heap.size, 1, none⟩ = some (.int .i64 x.n) := HB4.out.cell 1
    have c24 : w4.cell? ⟨w1.heap.size, 2, none⟩ = some (.int .i64 x.m) := HB4.out.cell 2
    have c34 : w4.cell? ⟨w1.heap.size, 3, none⟩ = some (.string x.s) := HB4.out.cell 3
    have HQ := Lib.hid hrl
    rw [HX.out, ← HL.out]
    clear hU4 hrl hlc hlb HC
    go_wp2_with fail
    refine (HPa.out _ HU4.out).mono ?_
    rintro e w5 ⟨vr, rfl, ⟨p5, c5, vs5, rfl, h51, _, h52, h53⟩, hU5⟩
    have hlm : (l.map flat).length = l.length := List.length_map ..
    rw [hlm] at h51 ⊢
    have HQ5 := Lib.hid (hrl_under HQ.out hU5)
    have HU5 := Lib.hid (HU4.out.trans hU5)
    have HP5 := Lib.hid h52
    have HZ5 := Lib.hid h53
    have HB5 := Lib.hid (HB4.out.under hU5 : BoxAt w5 w1.heap.size 38 #[.int .i64 x.k, .int .i64 x.n, .int .i64 x.m, .string x.s])
    have hlt5 := HB5.out.lt
    have c05 : w5.cell? ⟨w1.heap.size, 0, none⟩ = some (.int .i64 x.k) := HB5.out.cell 0
    have c15 : w5.cell? ⟨w1.heap.size, 1, none⟩ = some (.int .i64 x.n) := HB5.out.cell 1
    have c25 : w5.cell? ⟨w1.heap.size, 2, none⟩ = some (.int .i64 x.m) := HB5.out.cell 2
    have c35 : w5.cell? ⟨w1.heap.size, 3, none⟩ = some (.string x.s) := HB5.out.cell 3
    clear hU5 h52 h53 hlm HPa
    have HQa := Lib.hid (hrl_under HQ5.out (Under.refl _))
    have HPa' := Lib.hid (hrl_under HP5.out (Under.refl _))
    have HZa := Lib.hid (HZ5.out.mono fun v y h => TermV.mono _ _ _ _ (Under.refl _) h)
    go_wp2
    go_loopw [8, 13] (fun sv i wr => SdRel w5 x l av st false S0 sv i wr) (fun _ i _ => l.length - (intOf i).toNat)
    case atStart => exact ⟨0, [], _, Nat.zero_le _, rfl, by rw [HS0.out]; simp [wordL], rfl, Nat.zero_le _, rfl, Under.refl _⟩
    case round =>
      obtain ⟨j, os, A, hj, rfl, hA, rfl, hos, hSy, hU⟩ := hrel
      have HUr := Lib.hid hU
      have HSy := Lib.hid hSy
      have HAA := Lib.hid hA
      have hj0 : (0 : Int) ≤ (j : Int) := by omega
      have hfle : (flats (l.take j)).length ≤ (flats l).length := by
        have := congrArg List.length (flats_app (l.take j) (l.drop j))
        rw [List.take_append_drop, List.length_append] at this
        omega
      have hAs := size_of_list hA
      rw [List.length_append] at hAs
      have hA9 : A.size ≤ 900000 := by have := HFl.out; have := HN0.out; have := HSz.out; omega
      clear hU hSy hA hAs
      by_cases hjl : j < l.length
      · have hjb : j < (binds x).length := by rw [← HL.out]; exact hjl
        obtain ⟨tv, htv, hterm⟩ := HZa.out.at (i := j) (x := flat l[j]) (by rw [List.getElem?_map, List.getElem?_eq_getElem hjl]; rfl)
        have hok := okTs_mem.1 HLs.out _ (List.getElem_mem hjl)
        have hb2 := hB2.out _ (List.getElem_mem hjb)
        have htk : flats (l.take (j + 1)) = flats (l.take j) ++ flat l[j] := by
          rw [List.take_succ_eq_append_getElem hjl, flats_app]
          simp [flats]
        have hfl2 : (flats (l.take (j + 1))).length ≤ (flats l).length := by
          have := congrArg List.length (flats_app (l.take (j + 1)) (l.drop (j + 1)))
          rw [List.take_append_drop, List.length_append] at this
          omega
        rw [htk, List.length_append] at hfl2
        have HTk := Lib.hid (congrArg List.length htk)
        have HSa := Lib.hid (sayTs_at (av := av) (st := st) (f := false) hjl hjb)
        have hbs := bindN_sizes av (binds x)[j] st (by have := HA.out; omega) (by omega)
        have hsz : ∀ s ∈ st ++ bindN av st (binds x)[j], s.size ≤ 22 := fun s h => by
          rcases List.mem_append.1 h with h | h
          · exact HSs.out s h
          · exact hbs s h
        have HTl := Lib.hid (sayT_len av (by have := HA.out; omega) l[j] hok (st ++ bindN av st (binds x)[j]) hsz (by rw [List.length_append, bindN_len]; have := HFl.out; have := HN0.out; have := HSt.out; omega))
        have HQc := Lib.hid (fun w vs' va' (hvs' : TextsV w vs' (st ++ bindN av st (binds x)[j])) (hva' : TextsV w va' av) (hU : Under w5 w) => HIH.out l[j] (List.getElem_mem hjl) hok w tv vs' va' (flat l[j]) _ av rfl (by have := HFl.out; have := HN0.out; omega) (TermV.mono _ _ _ _ hU hterm) hvs' hva' HA.out (by rw [List.length_append, bindN_len]; have := HFl.out; have := HSt.out; omega) hsz (by rw [List.length_append, bindN_len]; exact inTs_at hjl hjb HIn.out))
        obtain ⟨pt, ct, rfl, _⟩ := hterm
        obtain ⟨bt, ot, rfl, hbt, hct⟩ := HPa'.out (fun e => by rw [e] at htv; simp at htv)
        have hcc := hct j _ htv
        have HCc := Lib.hid (fun w (hU : Under w5 w) => (under_cell hU hbt (ot + j)).trans hcc)
        obtain ⟨bb, ob, rfl, hbb, hcb⟩ := HQa.out (fun e => by
          have := congrArg List.length e
          unfold intsN at this
          rw [List.length_map, List.length_nil] at this
          omega)
        have hcb' := hcb j _ (intsN_at (List.getElem?_eq_getElem hjb))
        have HCb := Lib.hid (fun w (hU : Under w5 w) => (under_cell hU hbb (ob + j)).trans hcb')
        have HB4' := Lib.hid (show (flats (l.take j)).length + (flat l[j]).length ≤ 4000 by have := HFl.out; have := HN0.out; omega)
        clear htk hct hcb htv hok hfle hcc hcb' hfl2 hbs hsz
        generalize (binds x)[j] = bj at *
        generalize l[j] = T at *
        have hbj0 : (0 : Int) ≤ (bj : Int) := by omega
        have hbj2 : (bj : Int) ≤ 2 := by omega
        have hjl' : (j : Int) < (l.length : Int) := by omega
        have hwru := HUr.out.size
        go_wp2_with (at_builtin; refine wpList_append_read rfl _ _ 23 rfl w5.heap.size 9 i0 _ 1 16 Tryz.underlying23 hi hz0 hz1 hz2 rfl (by decide) _ _ _ rfl (row_emptyZ wr w5.heap.size _ _ hwru) ps st.length cs (st.map .string) rfl (by simp) hcs hs0 (HRs.out.under (HU5.out.trans (under_alloc HUr.out _))) (by simp [Value.oneCell']) (by simp only [maxLen]; omega) (by omega) (by simp; omega) ?_)
        intro v7 w7 hown hgrow
        replace hown : w7.ownsRow w5.heap.size 9 1 v7 st.length (st.map .string) := by simpa using hown
        obtain ⟨q7, d7, rfl, hd7, hr7⟩ := RowArg.of_own hown
        have HO7 := Lib.hid hown
        have HU7 := Lib.hid (under_grown (under_alloc HUr.out _) hgrow fun z e => by cases e; exact hwru)
        clear hown hgrow hd7 hr7
        go_wp2
        go_loopw [8, 14, 15] (fun sv inv k wr => SnRel w5 w5.heap.size av st false (S0 ++ os) bj sv inv k wr) (fun _ _ k _ => bj - (intOf k).toNat)
        case atStart => exact ⟨0, q7, d7, A, Nat.zero_le _, rfl, by rw [HAA.out]; simp [bindN, namesL], rfl, rfl, by simpa [bindN] using HO7.out, HU7.out⟩
        case round =>
          obtain ⟨k, q, d, B, hk, rfl, hB, rfl, rfl, hO, hU⟩ := hrel
          have HBB := Lib.hid hB
          have HOr := Lib.hid hO
          have HUr := Lib.hid hU
          have hBs := size_of_list hB
          have hbn : (if false then [] else namesL (bindN av st k)).length ≤ 46 := by
            have hbs := bindN_sizes av k st (by have := HA.out; omega) (by omega)
            have := namesL_len _ hbs
            rw [bindN_len] at this
            split
            · simp
            · omega
          rw [List.length_append, ← HAA.out] at hBs
          have hBs' : B.size ≤ 900100 := by
            have e : A.data.toList.length = A.size := rfl
            omega
          have hcb := HCb.out _ HUr.out
          have hcc := HCc.out _ HUr.out
          have hbb' := Nat.lt_of_lt_of_le hbb HUr.out.size
          have hbt' := Nat.lt_of_lt_of_le hbt HUr.out.size
          have hk0 : (0 : Int) ≤ (k : Int) := by omega
          have HTx := Lib.hid (TextsV.of_own (ss := st ++ bindN av st k) (by rw [List.length_append, bindN_len]; exact HOr.out))
          clear hB hO hU hBs
          by_cases hkl : k < bj
          · have hkl' : (k : Int) < (bj : Int) := by omega
            have HFr := Lib.hid (fresh_any (st.length + k) (by omega) (by rw [List.length_append, bindN_len]; omega) (by have := HA.out; omega) HTx.out (HVA.out.under (HU5.out.trans HUr.out)))
            rw [Int.natCast_add] at HFr
            have HBn := Lib.hid (bindN_snoc av k st)
            have hGs : (nameN (freshN (av ++ (st ++ bindN av st k)) (st.length + k))).size ≤ 22 := nameN_len (by have := (freshN_spec (av ++ (st ++ bindN av st k)) (st.length + k)).2.1; rw [List.length_append, List.length_append, bindN_len] at this; have := HA.out; omega)
            generalize nameN (freshN (av ++ (st ++ bindN av st k)) (st.length + k)) = G at *
            have y1 : ¬ 9223372036854775807 < B.size + 1 := by omega
            have y2 : ¬ 9223372036854775807 < B.size + 1 + G.size := by omega
            go_wp2_with fail
            refine HFr.out.mono ?_
            rintro e w8 ⟨rfl, hU8⟩
            have HU8 := Lib.hid (HUr.out.trans hU8)
            have HO8 := Lib.hid (row_under HOr.out hU8)
            have hs8 := HU8.out.size
            clear hU8
            go_wp2_with (at_builtin; refine wpList_append_lies _ rfl _ _ 23 rfl w5.heap.size 9 i0 _ 1 16 Tryz.underlying23 hi hz0 hz1 hz2 rfl (by decide) _ _ _ rfl (HO8.out.alloc _) ⟨w8.heap.size, 0, none⟩ 1 1 [.string G] rfl rfl ?c1 ?c2 (by decide) (by simp only [maxLen]; omega) (by omega) ?c5 (w8.heap.size + 1) (by simp) ?_)
            case c1 => exact cell_one_new _ _ _
            case c2 => simp [Value.oneCell']
            case c5 => simp; omega
            intro g9 d9 w9 hown hgrow hat hlt9
            have HO9 := Lib.hid hown
            have HU9 := Lib.hid (under_grown (under_alloc HU8.out _) hgrow fun z e => (row_lt HO8.out e).1)
            clear hown hgrow hat hlt9
            go_wp2
            go_roundw
            case rel => exact ⟨k + 1, _, d9, _, by omega, rfl, by first | (rw [HBB.out]; rfl) | simp [HBB.out, HBn.out, namesL_app, namesL, wordL], by go_num, rfl, by rw [HBn.out]; simpa [Nat.add_assoc] using HO9.out, HU9.out⟩
            case measure => simp [intOf]; omega
          · obtain rfl : k = bj := by omega
            have y1 : ¬ 9223372036854775807 < B.size + 1 := by omega
            have HQd := Lib.hid (HQc.out _ _ _ HTx.out (HVA.out.under (HU5.out.trans HUr.out)) HUr.out)
            clear HQc
            generalize sayT av T (st ++ bindN av st k) = C at *
            have y3 : ¬ 9223372036854775807 < B.size + 1 + C.toArray.size := by have := HTl.out; have := HB4'.out; simp; omega
            have HBN := Lib.hid hbn
            clear hbn
            go_wp2_with fail
            refine HQd.out.mono ?_
            rintro e w10 ⟨rfl, hU10⟩
            have HU10 := Lib.hid (HUr.out.trans hU10)
            clear hU10 HQd
            go_wp2
            go_roundw
            case rel => exact ⟨j + 1, os ++ ((if false then [] else namesL (bindN av st k)) ++ 32 :: C), _, by omega, rfl, by simp [HBB.out], by go_num, by rw [HTk.out, List.length_append, List.length_append, List.length_append, List.length_cons]; have := HTl.out; have : (if false then [] else namesL (bindN av st k)).length ≤ 46 := (by first | exact HBN.out | simpa using HBN.out | simp); omega, by rw [HSy.out, HSa.out]; simp only [List.append_assoc], HU10.out⟩
            case measure => simp [intOf]; omega
      · obtain rfl : j = l.length := by omega
        have z9 : ¬ 9223372036854775807 < A.size + 1 := by omega
        go_wp2
        go_ret
        refine ⟨ret_str (bytes_of_list ?_), HU5.out.trans HUr.out⟩
        have hff : firstK x = false := by simp [firstK, *]
        rw [HSay.out, hff, HSy.out, List.drop_length]
        simp [HAA.out, HS0.out, HHd.out, sayTs, wordL, fs, G26.out]
  · have G26 : RowKit.Hid (¬ x.k = 26) := Lib.hid (by simpa using f26)
    obtain ⟨S0, hS0'⟩ : ∃ S0, S0 = [40] ++ W.data.toList := ⟨_, rfl⟩
    have HS0 := Lib.hid hS0'
    have HSz := Lib.hid (show S0.length ≤ 70 by have : W.data.size = W.size := rfl; have : F.data.size = F.size := rfl; have : x.s.data.size = x.s.size := rfl; rw [hS0']; simp [wordL]; omega)
    clear hS0'
    go_enter Tryz.func23, Tryz.ntmps23
    go_wp2_with fail
    refine HR.out.mono ?_
    rintro e w1 ⟨rfl, hU1⟩
    have HU1 := Lib.hid hU1
    clear hU1 HR
    go_wp2_with fail
    refine (HW.out _).mono ?_
    rintro e w2 ⟨rfl, hU2⟩
    have HU2 := Lib.hid ((under_alloc HU1.out _).trans hU2)
    have HB2 := Lib.hid ((box_new w1 _ _).under hU2 : BoxAt w2 w1.heap.size 38 #[.int .i64 x.k, .int .i64 x.n, .int .i64 x.m, .string x.s])
    have hlt2 := HB2.out.lt
    have c02 : w2.cell? ⟨w1.heap.size, 0, none⟩ = some (.int .i64 x.k) := HB2.out.cell 0
    have c12 : w2.cell? ⟨w1.heap.size, 1, none⟩ = some (.int .i64 x.n) := HB2.out.cell 1
    have c22 : w2.cell? ⟨w1.heap.size, 2, none⟩ = some (.int .i64 x.m) := HB2.out.cell 2
    have c32 : w2.cell? ⟨w1.heap.size, 3, none⟩ = some (.string x.s) := HB2.out.cell 3
    clear hU2
    go_wp2_with fail
    refine (HC.out _).mono ?_
    rintro e w4 ⟨lb, hlb, q, cq, rfl, hlc, hrl, hU4⟩
    obtain rfl := hlb HX.out
    have HU4 := Lib.hid (HU2.out.trans hU4)
    have HB4 := Lib.hid (HB2.out.under hU4 : BoxAt w4 w1.heap.size 38 #[.int .i64 x.k, .int .i64 x.n, .int .i64 x.m, .string x.s])
    have hlt4 := HB4.out.lt
    have c04 : w4.cell? ⟨w1.heap.size, 0, none⟩ = some (.int .i64 x.k) := HB4.out.cell 0
    have c14 : w4.cell? ⟨w1.heap.size, 1, none⟩ = some (.int .i64 x.n) := HB4.out.cell 1
    have c24 : w4.cell? ⟨w1.heap.size, 2, none⟩ = some (.int .i64 x.m) := HB4.out.cell 2
    have c34 : w4.cell? ⟨w1.heap.size, 3, none⟩ = some (.string x.s) := HB4.out.cell 3
    have HQ := Lib.hid hrl
    rw [HX.out, ← HL.out]
    clear hU4 hrl hlc hlb HC
    go_wp2_with fail
    refine (HPa.out _ HU4.out).mono ?_
    rintro e w5 ⟨vr, rfl, ⟨p5, c5, vs5, rfl, h51, _, h52, h53⟩, hU5⟩
    have hlm : (l.map flat).length = l.length := List.length_map ..
    rw [hlm] at h51 ⊢
    have HQ5 := Lib.hid (hrl_under HQ.out hU5)
    have HU5 := Lib.hid (HU4.out.trans hU5)
    have HP5 := Lib.hid h52
    have HZ5 := Lib.hid h53
    have HB5 := Lib.hid (HB4.out.under hU5 : BoxAt w5 w1.heap.size 38 #[.int .i64 x.k, .int .i64 x.n, .int .i64 x.m, .string x.s])
    have hlt5 := HB5.out.lt
    have c05 : w5.cell? ⟨w1.heap.size, 0, none⟩ = some (.int .i64 x.k) := HB5.out.cell 0
    have c15 : w5.cell? ⟨w1.heap.size, 1, none⟩ = some (.int .i64 x.n) := HB5.out.cell 1
    have c25 : w5.cell? ⟨w1.heap.size, 2, none⟩ = some (.int .i64 x.m) := HB5.out.cell 2
    have c35 : w5.cell? ⟨w1.heap.size, 3, none⟩ = some (.string x.s) := HB5.out.cell 3
    clear hU5 h52 h53 hlm HPa
    have HQa := Lib.hid (hrl_under HQ5.out (Under.refl _))
    have HPa' := Lib.hid (hrl_under HP5.out (Under.refl _))
    have HZa := Lib.hid (HZ5.out.mono fun v y h => TermV.mono _ _ _ _ (Under.refl _) h)
    go_wp2
    go_loopw [8, 13] (fun sv i wr => SdRel w5 x l av st false S0 sv i wr) (fun _ i _ => l.length - (intOf i).toNat)
    case atStart => exact ⟨0, [], _, Nat.zero_le _, rfl, by rw [HS0.out]; simp [wordL], rfl, Nat.zero_le _, rfl, Under.refl _⟩
    case round =>
      obtain ⟨j, os, A, hj, rfl, hA, rfl, hos, hSy, hU⟩ := hrel
      have HUr := Lib.hid hU
      have HSy := Lib.hid hSy
      have HAA := Lib.hid hA
      have hj0 : (0 : Int) ≤ (j : Int) := by omega
      have hfle : (flats (l.take j)).length ≤ (flats l).length := by
        have := congrArg List.length (flats_app (l.take j) (l.drop j))
        rw [List.take_append_drop, List.length_append] at this
        omega
      have hAs := size_of_list hA
      rw [List.length_append] at hAs
      have hA9 : A.size ≤ 900000 := by have := HFl.out; have := HN0.out; have := HSz.out; omega
      clear hU hSy hA hAs
      by_cases hjl : j < l.length
      · have hjb : j < (binds x).length := by rw [← HL.out]; exact hjl
        obtain ⟨tv, htv, hterm⟩ := HZa.out.at (i := j) (x := flat l[j]) (by rw [List.getElem?_map, List.getElem?_eq_getElem hjl]; rfl)
        have hok := okTs_mem.1 HLs.out _ (List.getElem_mem hjl)
        have hb2 := hB2.out _ (List.getElem_mem hjb)
        have htk : flats (l.take (j + 1)) = flats (l.take j) ++ flat l[j] := by
          rw [List.take_succ_eq_append_getElem hjl, flats_app]
          simp [flats]
        have hfl2 : (flats (l.take (j + 1))).length ≤ (flats l).length := by
          have := congrArg List.length (flats_app (l.take (j + 1)) (l.drop (j + 1)))
          rw [List.take_append_drop, List.length_append] at this
          omega
        rw [htk, List.length_append] at hfl2
        have HTk := Lib.hid (congrArg List.length htk)
        have HSa := Lib.hid (sayTs_at (av := av) (st := st) (f := false) hjl hjb)
        have hbs := bindN_sizes av (binds x)[j] st (by have := HA.out; omega) (by omega)
        have hsz : ∀ s ∈ st ++ bindN av st (binds x)[j], s.size ≤ 22 := fun s h => by
          rcases List.mem_append.1 h with h | h
          · exact HSs.out s h
          · exact hbs s h
        have HTl := Lib.hid (sayT_len av (by have := HA.out; omega) l[j] hok (st ++ bindN av st (binds x)[j]) hsz (by rw [List.length_append, bindN_len]; have := HFl.out; have := HN0.out; have := HSt.out; omega))
        have HQc := Lib.hid (fun w vs' va' (hvs' : TextsV w vs' (st ++ bindN av st (binds x)[j])) (hva' : TextsV w va' av) (hU : Under w5 w) => HIH.out l[j] (List.getElem_mem hjl) hok w tv vs' va' (flat l[j]) _ av rfl (by have := HFl.out; have := HN0.out; omega) (TermV.mono _ _ _ _ hU hterm) hvs' hva' HA.out (by rw [List.length_append, bindN_len]; have := HFl.out; have := HSt.out; omega) hsz (by rw [List.length_append, bindN_len]; exact inTs_at hjl hjb HIn.out))
        obtain ⟨pt, ct, rfl, _⟩ := hterm
        obtain ⟨bt, ot, rfl, hbt, hct⟩ := HPa'.out (fun e => by rw [e] at htv; simp at htv)
        have hcc := hct j _ htv
        have HCc := Lib.hid (fun w (hU : Under w5 w) => (under_cell hU hbt (ot + j)).trans hcc)
        obtain ⟨bb, ob, rfl, hbb, hcb⟩ := HQa.out (fun e => by
          have := congrArg List.length e
          unfold intsN at this
          rw [List.length_map, List.length_nil] at this
          omega)
        have hcb' := hcb j _ (intsN_at (List.getElem?_eq_getElem hjb))
        have HCb := Lib.hid (fun w (hU : Under w5 w) => (under_cell hU hbb (ob + j)).trans hcb')
        have HB4' := Lib.hid (show (flats (l.take j)).length + (flat l[j]).length ≤ 4000 by have := HFl.out; have := HN0.out; omega)
        clear htk hct hcb htv hok hfle hcc hcb' hfl2 hbs hsz
        generalize (binds x)[j] = bj at *
        generalize l[j] = T at *
        have hbj0 : (0 : Int) ≤ (bj : Int) := by omega
        have hbj2 : (bj : Int) ≤ 2 := by omega
        have hjl' : (j : Int) < (l.length : Int) := by omega
        have hwru := HUr.out.size
        go_wp2_with (at_builtin; refine wpList_append_read rfl _ _ 23 rfl w5.heap.size 9 i0 _ 1 16 Tryz.underlying23 hi hz0 hz1 hz2 rfl (by decide) _ _ _ rfl (row_emptyZ wr w5.heap.size _ _ hwru) ps st.length cs (st.map .string) rfl (by simp) hcs hs0 (HRs.out.under (HU5.out.trans (under_alloc HUr.out _))) (by simp [Value.oneCell']) (by simp only [maxLen]; omega) (by omega) (by simp; omega) ?_)
        intro v7 w7 hown hgrow
        replace hown : w7.ownsRow w5.heap.size 9 1 v7 st.length (st.map .string) := by simpa using hown
        obtain ⟨q7, d7, rfl, hd7, hr7⟩ := RowArg.of_own hown
        have HO7 := Lib.hid hown
        have HU7 := Lib.hid (under_grown (under_alloc HUr.out _) hgrow fun z e => by cases e; exact hwru)
        clear hown hgrow hd7 hr7
        go_wp2
        go_loopw [8, 14, 15] (fun sv inv k wr => SnRel w5 w5.heap.size av st false (S0 ++ os) bj sv inv k wr) (fun _ _ k _ => bj - (intOf k).toNat)
        case atStart => exact ⟨0, q7, d7, A, Nat.zero_le _, rfl, by rw [HAA.out]; simp [bindN, namesL], rfl, rfl, by simpa [bindN] using HO7.out, HU7.out⟩
        case round =>
          obtain ⟨k, q, d, B, hk, rfl, hB, rfl, rfl, hO, hU⟩ := hrel
          have HBB := Lib.hid hB
          have HOr := Lib.hid hO
          have HUr := Lib.hid hU
          have hBs := size_of_list hB
          have hbn : (if false then [] else namesL (bindN av st k)).length ≤ 46 := by
            have hbs := bindN_sizes av k st (by have := HA.out; omega) (by omega)
            have := namesL_len _ hbs
            rw [bindN_len] at this
            split
            · simp
            · omega
          rw [List.length_append, ← HAA.out] at hBs
          have hBs' : B.size ≤ 900100 := by
            have e : A.data.toList.length = A.size := rfl
            omega
          have hcb := HCb.out _ HUr.out
          have hcc := HCc.out _ HUr.out
          have hbb' := Nat.lt_of_lt_of_le hbb HUr.out.size
          have hbt' := Nat.lt_of_lt_of_le hbt HUr.out.size
          have hk0 : (0 : Int) ≤ (k : Int) := by omega
          have HTx := Lib.hid (TextsV.of_own (ss := st ++ bindN av st k) (by rw [List.length_append, bindN_len]; exact HOr.out))
          clear hB hO hU hBs
          by_cases hkl : k < bj
          · have hkl' : (k : Int) < (bj : Int) := by omega
            have HFr := Lib.hid (fresh_any (st.length + k) (by omega) (by rw [List.length_append, bindN_len]; omega) (by have := HA.out; omega) HTx.out (HVA.out.under (HU5.out.trans HUr.out)))
            rw [Int.natCast_add] at HFr
            have HBn := Lib.hid (bindN_snoc av k st)
            have hGs : (nameN (freshN (av ++ (st ++ bindN av st k)) (st.length + k))).size ≤ 22 := nameN_len (by have := (freshN_spec (av ++ (st ++ bindN av st k)) (st.length + k)).2.1; rw [List.length_append, List.length_append, bindN_len] at this; have := HA.out; omega)
            generalize nameN (freshN (av ++ (st ++ bindN av st k)) (st.length + k)) = G at *
            have y1 : ¬ 9223372036854775807 < B.size + 1 := by omega
            have y2 : ¬ 9223372036854775807 < B.size + 1 + G.size := by omega
            go_wp2_with fail
            refine HFr.out.mono ?_
            rintro e w8 ⟨rfl, hU8⟩
            have HU8 := Lib.hid (HUr.out.trans hU8)
            have HO8 := Lib.hid (row_under HOr.out hU8)
            have hs8 := HU8.out.size
            clear hU8
            go_wp2_with (at_builtin; refine wpList_append_lies _ rfl _ _ 23 rfl w5.heap.size 9 i0 _ 1 16 Tryz.underlying23 hi hz0 hz1 hz2 rfl (by decide) _ _ _ rfl (HO8.out.alloc _) ⟨w8.heap.size, 0, none⟩ 1 1 [.string G] rfl rfl ?c1 ?c2 (by decide) (by simp only [maxLen]; omega) (by omega) ?c5 (w8.heap.size + 1) (by simp) ?_)
            case c1 => exact cell_one_new _ _ _
            case c2 => simp [Value.oneCell']
            case c5 => simp; omega
            intro g9 d9 w9 hown hgrow hat hlt9
            have HO9 := Lib.hid hown
            have HU9 := Lib.hid (under_grown (under_alloc HU8.out _) hgrow fun z e => (row_lt HO8.out e).1)
            clear hown hgrow hat hlt9
            go_wp2
            go_roundw
            case rel => exact ⟨k + 1, _, d9, _, by omega, rfl, by first | (rw [HBB.out]; rfl) | simp [HBB.out, HBn.out, namesL_app, namesL, wordL], by go_num, rfl, by rw [HBn.out]; simpa [Nat.add_assoc] using HO9.out, HU9.out⟩
            case measure => simp [intOf]; omega
          · obtain rfl : k = bj := by omega
            have y1 : ¬ 9223372036854775807 < B.size + 1 := by omega
            have HQd := Lib.hid (HQc.out _ _ _ HTx.out (HVA.out.under (HU5.out.trans HUr.out)) HUr.out)
            clear HQc
            generalize sayT av T (st ++ bindN av st k) = C at *
            have y3 : ¬ 9223372036854775807 < B.size + 1 + C.toArray.size := by have := HTl.out; have := HB4'.out; simp; omega
            have HBN := Lib.hid hbn
            clear hbn
            go_wp2_with fail
            refine HQd.out.mono ?_
            rintro e w10 ⟨rfl, hU10⟩
            have HU10 := Lib.hid (HUr.out.trans hU10)
            clear hU10 HQd
            go_wp2
            go_roundw
            case rel => exact ⟨j + 1, os ++ ((if false then [] else namesL (bindN av st k)) ++ 32 :: C), _, by omega, rfl, by simp [HBB.out], by go_num, by rw [HTk.out, List.length_append, List.length_append, List.length_append, List.length_cons]; have := HTl.out; have : (if false then [] else namesL (bindN av st k)).length ≤ 46 := (by first | exact HBN.out | simpa using HBN.out | simp); omega, by rw [HSy.out, HSa.out]; simp only [List.append_assoc], HU10.out⟩
            case measure => simp [intOf]; omega
      · obtain rfl : j = l.length := by omega
        have z9 : ¬ 9223372036854775807 < A.size + 1 := by omega
        go_wp2
        go_ret
        refine ⟨ret_str (bytes_of_list ?_), HU5.out.trans HUr.out⟩
        have hff : firstK x = false := by simp [firstK, *]
        rw [HSay.out, hff, HSy.out, List.drop_length]
        simp [HAA.out, HS0.out, HHd.out, sayTs, wordL, fs, G26.out]
theorem said_all (T : Tm) : SaidOk T := by
  induction T using Tm.rec (motive_2 := fun l => ∀ a ∈ l, SaidOk a) with
  | mk x l ih =>
    by_cases h0 : x.k = 0
    · exact said_var x l h0
    by_cases h1 : x.k = 1
    · exact said_const x l h1
    by_cases h2 : x.k = 2
    · exact said_sort x l h2
    cases hp : plainK x
    · exact said_node x l h0 h1 h2 hp ih
    · exact said_plain x l hp
  | nil => rename_i a ha; cases ha
  | cons a l iha ihl =>
    rename_i b hb
    rcases List.mem_cons.1 hb with rfl | hb
    · exact iha
    · exact ihl b hb
end Go.Proofs.YtiibknlpeodejaaGreatDoor

/- corniceref09.Print: its contract. -/
namespace Go.Proofs.YtiibknlpeodejaaGreatDoor
open Go.Lx Go.RowKit

theorem topT_in (T : Tm) : okT T → ∀ u, (inT T u → topT T u = -1) ∧ (¬ inT T u → 0 ≤ topT T u) := by
  induction T using Tm.rec (motive_2 := fun l => okTs l → ∀ bs u, (inTs l bs u → topTs l bs u = -1) ∧ (¬ inTs l bs u → 0 ≤ topTs l bs u)) with
  | mk x l ih =>
    rintro ⟨hx, _, hls⟩ u
    unfold topT inT
    by_cases hk : x.k = 0
    · rw [if_pos hk, if_pos hk]
      by_cases h : (u : Int) ≤ x.n
      · rw [if_pos h]; omega
      · rw [if_neg h]; omega
    · rw [if_neg hk, if_neg hk]
      exact ih hls _ u
  | nil => rename_i hh bs u; exact ⟨fun _ => rfl, fun h => absurd trivial h⟩
  | cons a l iha ihl =>
    rename_i hh bs u
    have h1 := iha hh.1 (u + bs.headD 0)
    have h2 := ihl hh.2 bs.tail u
    have h3 := (topT_range a hh.1 (u + bs.headD 0)).1
    have h4 : ∀ (l : List Tm) (bs : List Nat), okTs l → -1 ≤ topTs l bs u := fun l => by
      induction l with
      | nil => intro bs _; exact Int.le_refl _
      | cons a l ih => intro bs h; have := ih bs.tail h.2; show -1 ≤ max _ _; omega
    have h5 := h4 l bs.tail hh.2
    show (inT a (u + bs.headD 0) ∧ inTs l bs.tail u → max (topT a (u + bs.headD 0)) (topTs l bs.tail u) = -1) ∧ (¬ (inT a (u + bs.headD 0) ∧ inTs l bs.tail u) → 0 ≤ max (topT a (u + bs.headD 0)) (topTs l bs.tail u))
    refine ⟨fun h => ?_, fun h => ?_⟩
    · rw [h1.1 h.1, h2.1 h.2]; rfl
    · by_cases ha : inT a (u + bs.headD 0)
      · have := h2.2 fun hl => h ⟨ha, hl⟩
        omega
      · have := h1.2 ha
        omega
theorem namesB_len (p : Nd → Bool) : ∀ (t : List Nd) (l : List ByteArray), (namesB p l t).length ≤ l.length + t.length
  | [], l => Nat.le_refl _
  | x :: t, l => by
    have h := namesB_len p t (if p x then insB l x.s else l)
    have h2 : (if p x then insB l x.s else l).length ≤ l.length + 1 := by
      split
      · exact insB_len l x.s
      · omega
    rw [namesB, List.length_cons]
    omega
section
variable {w0 : World}
set_option maxRecDepth 100000 in
set_option maxHeartbeats 1000000 in
theorem rprint_bad (t : List Nd) {v va : Value} (hn : t.length ≤ maxLen) (hv : TermV w0 v t) (h : checkE t ≠ 0) : Calls Tryz.prog 9 #[v, va] w0 fun e w => e = .returned (.tuple #[.string ⟨#[]⟩, .int .i64 (checkE t)]) ∧ Under w0 w := by
  have HC := Lib.hid (rfree_bad t hn hv h)
  have h' : (checkE t == 0) = false := by simpa using h
  clear hn hv h
  generalize checkE t = ce at *
  go_enter Tryz.func9, Tryz.ntmps9
  go_wp2_with fail
  refine HC.out.mono ?_
  rintro e w1 ⟨rfl, hU1⟩
  have HU1 := Lib.hid hU1
  clear hU1
  go_wp2
  go_ret2
  exact ⟨rfl, HU1.out⟩
set_option maxRecDepth 100000 in
set_option maxHeartbeats 1000000 in
theorem rprint_open (T : Tm) {v va : Value} (hok : okT T) (hd : deepT T ≤ 60) (hl : (flat T).length ≤ 4000) (hv : TermV w0 v (flat T)) (h : ¬ inT T 0) : Calls Tryz.prog 9 #[v, va] w0 fun e w => e = .returned (.tuple #[.string ⟨#[]⟩, .int .i64 30]) ∧ Under w0 w := by
  have HC := Lib.hid (rfree_ok T hok hd hl hv)
  have h' := (topT_in T hok 0).2 h
  have h'' := (topT_range T hok 0).2
  clear hok hd hl hv h
  generalize topT T 0 = ce at *
  have h3 : (0 : Int) < ce + 1 := by omega
  go_enter Tryz.func9, Tryz.ntmps9
  go_wp2_with fail
  refine HC.out.mono ?_
  rintro e w1 ⟨rfl, hU1⟩
  have HU1 := Lib.hid hU1
  clear hU1
  go_wp2
  go_ret2
  exact ⟨rfl, HU1.out⟩
set_option maxRecDepth 100000 in
set_option maxHeartbeats 1000000 in
theorem rprint_ok (T : Tm) (av : List ByteArray) {v va : Value} (hok : okT T) (hd : deepT T ≤ 60) (hl : (flat T).length ≤ 4000) (ha : av.length ≤ 90000) (hv : TermV w0 v (flat T)) (hva : TextsV w0 va av) (h : inT T 0) :
    Calls Tryz.prog 9 #[v, va] w0 fun e w => e = .returned (.tuple #[.string ⟨(sayT (namesB conB [] (flat T) ++ av) T []).toArray⟩, .int .i64 0]) ∧ Under w0 w := by
  obtain ⟨i0, hi, hz0, hz1, hz2⟩ := info_parts Tryz.infoStrZ
  have HC := Lib.hid (rfree_ok T hok hd hl hv)
  rw [(topT_in T hok 0).1 h] at HC
  have HN := Lib.hid (fun w (hU : Under w0 w) => rnames_ok (w0 := w) (flat T) (by omega) (TermV.mono _ _ _ _ hU hv) (check_of_tree hok hd hl))
  have hnl := namesB_len conB (flat T) []
  rw [List.length_nil, Nat.zero_add] at hnl
  generalize hNN : namesB conB [] (flat T) = N at *
  have HQ := Lib.hid (fun w vs va (hU : Under w0 w) (h1 : TextsV w vs []) (h2 : TextsV w va (N ++ av)) => said_all T hok w v vs va (flat T) [] (N ++ av) rfl hl (TermV.mono _ _ _ _ hU hv) h1 h2 (by rw [List.length_append]; omega) (by simp; omega) (fun s hs => by simp at hs) h)
  generalize sayT (N ++ av) T [] = R at *
  obtain ⟨pa, ca, rfl, hca, ha0, hra⟩ := hva
  have HRa := Lib.hid hra
  clear hok hd hv h hra hNN
  go_enter Tryz.func9, Tryz.ntmps9
  go_wp2_with fail
  refine HC.out.mono ?_
  rintro e w1 ⟨rfl, hU1⟩
  have HU1 := Lib.hid hU1
  clear hU1
  go_wp2_with fail
  refine (HN.out _ HU1.out).mono ?_
  rintro e w2 ⟨a, b, rfl, hA, hB, hU2⟩
  have HU2 := Lib.hid (HU1.out.trans hU2)
  have HA := Lib.hid hA
  have hbase := HU1.out.size
  have hbase2 := HU2.out.size
  have hb12 := hU2.size
  obtain ⟨qa, da, rfl, _, _⟩ := RowArg.of_own hA
  clear hA hB hU2
  go_wp2_with (at_builtin; refine wpList_append_read rfl _ _ 23 rfl w1.heap.size 9 i0 _ 1 16 Tryz.underlying23 hi hz0 hz1 hz2 rfl (by decide) _ _ _ rfl HA.out pa av.length ca (av.map .string) rfl (by simp) hca ha0 (HRa.out.under HU2.out) (by simp [Value.oneCell']) (by simp only [maxLen]; omega) (by omega) hb12 ?_)
  intro v3 w3 hown hgrow
  have HU3 := Lib.hid (under_grown HU2.out hgrow fun z e => by have := (row_lt HA.out e).1; omega)
  have HT3 := Lib.hid (TextsV.of_own (ss := N ++ av) (by rw [List.length_append, List.map_append]; exact hown))
  clear hown hgrow
  go_wp2_with fail
  refine (HQ.out _ _ _ HU3.out (TextsV.nil _) HT3.out).mono ?_
  rintro e w4 ⟨rfl, hU4⟩
  have HU4 := Lib.hid (HU3.out.trans hU4)
  clear hU4
  go_wp2
  go_ret2
  exact ⟨rfl, HU4.out⟩
end
end Go.Proofs.YtiibknlpeodejaaGreatDoor

/- pretty.(*printer).bind: its contract. -/
namespace Go.Proofs.YtiibknlpeodejaaGreatDoor
open Go.Lx Go.RowKit

/-- What lay in memory is as it was, but for some blocks. -/
structure Ch (C : Nat → Prop) (w w' : World) : Prop where
  os : w'.os = w.os
  output : w'.output = w.output
  size : w.heap.size ≤ w'.heap.size
  block : ∀ b, b < w.heap.size → ¬ C b → w'.heap[b]? = w.heap[b]?
theorem Ch.refl {C : Nat → Prop} (w : World) : Ch C w w := ⟨rfl, rfl, Nat.le_refl _, fun _ _ _ => rfl⟩
theorem Ch.of_under {C : Nat → Prop} {w w' : World} (h : Under w w') : Ch C w w' := ⟨h.os, h.output, h.size, fun b hb _ => h.low b hb⟩
theorem Ch.trans {C D : Nat → Prop} {a b c : World} (h : Ch C a b) (k : Ch D b c) (hD : ∀ i, i < a.heap.size → D i → C i) : Ch C a c :=
  ⟨k.os.trans h.os, k.output.trans h.output, Nat.le_trans h.size k.size, fun i hi hc => (k.block i (Nat.lt_of_lt_of_le hi h.size) (fun hd => hc (hD i hi hd))).trans (h.block i hi hc)⟩
theorem Ch.under {C : Nat → Prop} {a b c : World} (h : Ch C a b) (k : Under b c) : Ch C a c := h.trans (Ch.of_under (C := fun _ => False) k) fun _ _ h => h.elim
theorem Ch.weak {C D : Nat → Prop} {a b : World} (h : Ch C a b) (k : ∀ i, i < a.heap.size → C i → D i) : Ch D a b := ⟨h.os, h.output, h.size, fun i hi hc => h.block i hi fun hd => hc (k i hi hd)⟩
theorem Ch.set {C : Nat → Prop} {a b : World} (h : Ch C a b) {g : Nat} (hg : g < a.heap.size → C g) (j : Nat) (u : Value) : Ch C a (b.setCell ⟨g, j, none⟩ u) :=
  ⟨h.os, h.output, by rw [set_size]; exact h.size, fun i hi hc => (heap_set b _ u i (by show i ≠ g; intro e; subst e; exact hc (hg hi))).trans (h.block i hi hc)⟩
theorem Ch.turned {C : Nat → Prop} {a b c : World} (h : Ch C a b) {r : Option Nat} (k : Turned r b c) (hr : ∀ g, r = some g → g < a.heap.size → C g) : Ch C a c :=
  ⟨k.os.trans h.os, k.output.trans h.output, Nat.le_trans h.size k.size, fun i hi hc => (k.block i (Nat.lt_of_lt_of_le hi h.size) (fun e => hc (hr i e.symm hi))).trans (h.block i hi hc)⟩
theorem Ch.grown {C : Nat → Prop} {a b c : World} (h : Ch C a b) {r : Option Nat} (k : b.grownBy c r) (hr : ∀ g, r = some g → g < a.heap.size → C g) : Ch C a c :=
  ⟨k.os.trans h.os, k.output.trans h.output, Nat.le_trans h.size k.size, fun i hi hc => (k.block i (Nat.lt_of_lt_of_le hi h.size) (fun e => hc (hr i e.symm hi))).trans (h.block i hi hc)⟩
theorem box_ch {C : Nat → Prop} {w w' : World} {b : Nat} {t : TypeId} {cs : Array Value} (h : BoxAt w b t cs) (k : Ch C w w') (hc : ¬ C b) : BoxAt w' b t cs := (k.block b h.lt hc).trans h
theorem row_ch {C : Nat → Prop} {w w' : World} {base : Nat} {e : TypeId} {s n : Nat} {v : Value} {xs : List Value} (h : w.ownsRow base e s v n xs) (k : Ch C w w') (hc : ∀ g, v.ownBlock = some g → ¬ C g) : w'.ownsRow base e s v n xs := by
  refine ⟨h.1, ?_⟩
  rcases h.2 with hn | ⟨g, cap, cur, rfl, hb, hgg, rest⟩
  · exact .inl hn
  · exact .inr ⟨g, cap, cur, rfl, hb, by rw [k.block g (Array.getElem?_eq_some_iff.1 hgg).1 (hc g rfl)]; exact hgg, rest⟩
theorem box_own_ne {w : World} {b : Nat} {t e : TypeId} {cs : Array Value} {base s n : Nat} {v : Value} {xs : List Value} (h : BoxAt w b t cs) (k : w.ownsRow base e s v n xs) (hne : e ≠ t) : v.ownBlock ≠ some b := by
  rcases k.2 with ⟨rfl, _⟩ | ⟨g, cap, cur, rfl, _, hg, _⟩
  · simp [Value.ownBlock]
  · intro e0
    obtain rfl : g = b := by simpa [Value.ownBlock] using e0
    unfold BoxAt at h
    rw [h] at hg
    cases hg
    exact hne rfl
theorem map_own_ne {w : World} {b : Nat} {e : TypeId} {ks : Assoc} {base s n : Nat} {v : Value} {xs : List Value} (h : MapAt w b ks) (k : w.ownsRow base e s v n xs) : v.ownBlock ≠ some b := by
  obtain ⟨es, cl, hb, _⟩ := h
  rcases k.2 with ⟨rfl, _⟩ | ⟨g, cap, cur, rfl, _, hg, _⟩
  · simp [Value.ownBlock]
  · intro e0
    obtain rfl : g = b := by simpa [Value.ownBlock] using e0
    rw [hb] at hg
    cases hg
/-- The names that are taken. -/
def TakenIs (ks : Assoc) (L : List ByteArray) : Prop := ∀ s, mget ks s = if amongB L s then some (.int .i64 1) else none
theorem mget_snoc {ks : Assoc} {k : ByteArray} {v : Value} (s : ByteArray) (h : mget ks k = none) : mget (ks ++ [(k, v)]) s = if s = k then some v else mget ks s := by
  induction ks with
  | nil => simp [mget]
  | cons p r ih =>
    obtain ⟨a, y⟩ := p
    simp only [mget, List.cons_append] at h ⊢
    split at h
    · cases h
    · rename_i hk
      rw [ih h]
      by_cases h1 : s = k
      · subst h1; rw [if_neg hk]; simp
      · rw [if_neg h1, if_neg h1]
theorem mfind_of_get {ks : Assoc} {k : ByteArray} (h : mget ks k = none) (i : Nat) : mfind ks k i = none := by
  have := mfind_get ks k i
  rw [h] at this
  cases hm : mfind ks k i with
  | none => rfl
  | some r => rw [hm] at this; cases this
theorem TakenIs.snoc {ks : Assoc} {L : List ByteArray} {k : ByteArray} (h : TakenIs ks L) (hn : amongB L k = false) : TakenIs (ks ++ [(k, .int .i64 1)]) (L ++ [k]) := by
  intro s
  have h0 : mget ks k = none := by rw [h k, hn]; rfl
  rw [mget_snoc s h0, h s, amongB_app]
  by_cases e : s = k
  · subst e
    simp [amongB]
  · have : amongB [k] s = false := by
      unfold amongB
      simp only [List.any_cons, List.any_nil, Bool.or_false]
      simp
      intro e'
      rw [ByteArray.toList_eq, ByteArray.toList_eq] at e'
      apply e
      obtain ⟨⟨a⟩⟩ := s
      obtain ⟨⟨b⟩⟩ := k
      simp only at e'
      rw [e']
    rw [if_neg e, this]
    simp
/-- The printer. -/
structure PrS (W0 : World) (pb hb tb : Nat) (ks : Assoc) (st : List ByteArray) (sv : Value) (w : World) : Prop where
  box : BoxAt w pb 46 #[.map (some hb), .map (some tb), sv]
  heads : MapIAt w hb headsL
  taken : MapAt w tb ks
  row : w.ownsRow W0.heap.size 9 1 sv st.length (st.map .string)
  und : Under W0 w
  lo : W0.heap.size ≤ pb ∧ W0.heap.size ≤ tb ∧ W0.heap.size ≤ hb
/-- What the printer changes. -/
def PrC (pb tb : Nat) (sv : Value) (b : Nat) : Prop := b = pb ∨ b = tb ∨ sv.ownBlock = some b
theorem mapI_map_ne {w : World} {hb tb : Nat} {ks : Assoc} (h : MapIAt w hb headsL) (k : MapAt w tb ks) : hb ≠ tb := by
  rintro rfl
  obtain ⟨es, c, h1, h2⟩ := h
  obtain ⟨es', c', k1, k2⟩ := k
  rw [h1] at k1
  cases k1
  rw [h2] at k2
  cases ks with
  | nil => simp [headsL] at k2
  | cons p r => simp [headsL] at k2
theorem mapI_box_ne {w : World} {hb b : Nat} {l : AssocI} {t : TypeId} {cs : Array Value} (h : MapIAt w hb l) (k : BoxAt w b t cs) : hb ≠ b := by
  rintro rfl
  obtain ⟨es, c, h1, h2⟩ := h
  unfold BoxAt at k
  rw [h1] at k
  cases k
theorem mapI_own_ne {w : World} {b : Nat} {e : TypeId} {l : AssocI} {base s n : Nat} {v : Value} {xs : List Value} (h : MapIAt w b l) (k : w.ownsRow base e s v n xs) : v.ownBlock ≠ some b := by
  obtain ⟨es, cl, hb, _⟩ := h
  rcases k.2 with ⟨rfl, _⟩ | ⟨g, cap, cur, rfl, _, hg, _⟩
  · simp [Value.ownBlock]
  · intro e0
    obtain rfl : g = b := by simpa [Value.ownBlock] using e0
    rw [hb] at hg
    cases hg
section
variable {W0 w0 w : World} {pb hb tb : Nat} {ks : Assoc} {st av : List ByteArray} {sv : Value}
theorem PrS.pb_tb (h : PrS W0 pb hb tb ks st sv w) : pb ≠ tb := by
  intro e
  obtain ⟨es, cl, hb, _⟩ := h.taken
  have := h.box
  unfold BoxAt at this
  rw [e, hb] at this
  cases this
theorem PrS.hb_tb (h : PrS W0 pb hb tb ks st sv w) : hb ≠ tb := mapI_map_ne h.heads h.taken
theorem PrS.hb_pb (h : PrS W0 pb hb tb ks st sv w) : hb ≠ pb := mapI_box_ne h.heads h.box
theorem PrS.sv_pb (h : PrS W0 pb hb tb ks st sv w) : sv.ownBlock ≠ some pb := box_own_ne h.box h.row (by decide)
theorem PrS.sv_tb (h : PrS W0 pb hb tb ks st sv w) : sv.ownBlock ≠ some tb := map_own_ne h.taken h.row
theorem PrS.sv_hb (h : PrS W0 pb hb tb ks st sv w) : sv.ownBlock ≠ some hb := mapI_own_ne h.heads h.row
theorem PrS.low (h : PrS W0 pb hb tb ks st sv w) : ∀ b, PrC pb tb sv b → W0.heap.size ≤ b := fun b hb => by
  rcases hb with rfl | rfl | hb
  · exact h.lo.1
  · exact h.lo.2.1
  · exact (row_lt h.row hb).1
theorem PrS.under {w' : World} (h : PrS W0 pb hb tb ks st sv w) (hU : Under w w') : PrS W0 pb hb tb ks st sv w' :=
  ⟨h.box.under hU, h.heads.same (hU.low _ h.heads.lt), h.taken.under hU, row_under h.row hU, h.und.trans hU, h.lo⟩
theorem under_ch {C : Nat → Prop} {w' : World} (h : Under W0 w) (k : Ch C w w') (hC : ∀ b, C b → W0.heap.size ≤ b) : Under W0 w' :=
  ⟨k.os.trans h.os, k.output.trans h.output, Nat.le_trans h.size k.size, fun b hb => (k.block b (Nat.lt_of_lt_of_le hb h.size) fun hc => by have := hC b hc; omega).trans (h.low b hb)⟩
def BdRel (w0 : World) (d0 top : Nat) (v : Value) (wr : World) : Prop := ∃ k : Nat, d0 ≤ k ∧ k ≤ top ∧ v = .int .i64 (k : Int) ∧ Under w0 wr
set_option maxRecDepth 100000 in
set_option maxHeartbeats 1000000 in
theorem bind_any {f : Nat} {lb : Array Value} {C : Nat → Prop} {R : Option Nat → World → Prop} (hW : Pow10 W0) (hP : PrS W0 pb hb tb ks st sv w0) (hT : TakenIs ks (av ++ st)) (hs : st.length ≤ 100000) (ha : av.length ≤ 100000)
    (hf : ∀ args w, (callFunc f args).run Tryz.prog w = .ok (.enter f args) w) (hRs : ∀ o a b, R o a → Ch (fun i => i = pb ∨ i = tb) a b → R o b)
    (hdo : ∀ nm, nm = nameN (freshN (av ++ st) st.length) → ∀ w1 sv1, Ch (PrC pb tb sv) w0 w1 → (∀ b, b < w0.heap.size → sv1.ownBlock = some b → sv.ownBlock = some b) → PrS W0 pb hb tb (ks ++ [(nm, .int .i64 1)]) (st ++ [nm]) sv1 w1 →
      Calls Tryz.prog f (#[.string nm] ++ lb) w1 fun e w2 => (∃ v, e = .returned v) ∧ ∃ sv2, PrS W0 pb hb tb (ks ++ [(nm, .int .i64 1)]) (st ++ [nm]) sv2 w2 ∧ Ch (fun b => PrC pb tb sv1 b ∨ C b) w1 w2 ∧ (∀ b, b < w1.heap.size → sv2.ownBlock = some b → sv1.ownBlock = some b) ∧ R sv2.ownBlock w2) :
    Calls Tryz.prog 38 #[.pointer (some ⟨pb, 0, none⟩), .func (.func f) #[] lb] w0 fun e w => (∃ v, e = .returned v) ∧ ∃ sv3, PrS W0 pb hb tb ks st sv3 w ∧ Ch (fun b => PrC pb tb sv b ∨ C b) w0 w ∧ (∀ b, b < w0.heap.size → sv3.ownBlock = some b → sv.ownBlock = some b) ∧ R sv3.ownBlock w := by
  obtain ⟨i0, hi, hz0, hz1, hz2⟩ := info_parts Tryz.infoStrZ
  have HN := Lib.hid (fun (w : World) (k : Nat) (hk : k ≤ 10000000) (h : Under w0 w) => pname_any (w0 := w) (k : Int) (by omega) (by omega) ((hW.under hP.und).under h))
  simp only [nameZ_nat] at HN
  obtain ⟨g1, g2, g3, g4⟩ := freshN_spec (av ++ st) st.length
  have hlen : (av ++ st).length = av.length + st.length := by simp
  have HE := Lib.hid (fun k (h1 : st.length ≤ k) h2 h3 => freshN_eq (ss := av ++ st) (d := st.length) (k := k) h1 h2 h3)
  have G3 := Lib.hid g3
  have G4 := Lib.hid g4
  have htop : freshN (av ++ st) st.length ≤ 400000 := by omega
  have HD := Lib.hid (hdo _ rfl)
  clear g2 g3 g4 hlen ha hdo
  generalize hF : freshN (av ++ st) st.length = F at *
  clear hF
  have HP := Lib.hid hP
  have HT := Lib.hid hT
  have HRs := Lib.hid hRs
  have hd := hP.box.lt
  have c2 := hP.box.cell 2
  obtain ⟨qs, ds, rfl, _, _⟩ := RowArg.of_own hP.row
  have hz : (zeroValue 3).run Tryz.prog = fun w => .ok (.int .i64 0) w := by funext w; kernel_rfl
  clear hP hT hRs hW
  go_enter Tryz.func38, Tryz.ntmps38
  go_wp2
  go_loopw [4] (fun v wr => BdRel w0 st.length F v wr) (fun v _ => F - (intOf v).toNat)
  case atStart => exact ⟨st.length, Nat.le_refl _, g1, rfl, Under.refl _⟩
  case round =>
    obtain ⟨k, hk1, hk2, rfl, hU⟩ := hrel
    have hk0 : (0 : Int) ≤ k := Int.natCast_nonneg _
    have HU := Lib.hid hU
    have HPk := Lib.hid (HP.out.under hU)
    have HNk := Lib.hid (fun w h => HN.out w k (by omega) h)
    have d1 : wr.cell? ⟨pb, 1, none⟩ = some (.map (some tb)) := HPk.out.box.cell 1
    have dl := HPk.out.box.lt
    have dm := HPk.out.taken
    have HLk : ∀ w', MapAt w' tb ks → (Instr.lookup 44 (.map (some tb)) (.string (nameN k)) false).run Tryz.prog w' = .ok ((mget ks (nameN k)).getD (.int .i64 0)) w' := fun w' h => (h.lookup Tryz.underlying44 Tryz.underlying9 (by rw [hz])).2
    clear hU
    have tt : wr.drew.cell? ⟨pb, 1, none⟩ = some (.map (some tb)) ∧ MapAt wr.drew tb ks := ⟨d1, dm⟩
    cases hk : amongB (av ++ st) (nameN k)
    · rw [HT.out, hk] at HLk
      simp only [Bool.false_eq_true, if_false, Option.getD_none] at HLk
      obtain rfl : k = F := by
        rcases Nat.lt_or_ge k F with h | h
        · have := G4.out k hk1 h
          rw [hk] at this
          cases this
        · omega
      have HK := Lib.hid hk
      clear hk
      go_wp2_with fail
      go_region_held3 (fun w' => w'.cell? ⟨pb, 1, none⟩ = some (.map (some tb)) ∧ MapAt w' tb ks)
        (first
          | go_keep
          | exact tt
          | (refine ⟨?_, ?_⟩
             · (rw [under_cell hU4 dl]; assumption)
             · exact MapAt.under (by assumption) hU4))
        ((go_simp; go_at_call 13; refine (HNk.out _ (under_drew HU.out)).mono ?_; rintro e w4 ⟨rfl, hU4⟩))
      have HU4 := Lib.hid (HU.out.trans ((under_drew (Under.refl wr)).trans hU4))
      rename_i hHeld
      clear hU4 hHeld tt HLk d1 dl dm HNk
      have HP4 := Lib.hid (HP.out.under HU4.out)
      go_wp2_with fail
      refine (HN.out _ k (by omega) HU4.out).mono ?_
      rintro e w5 ⟨rfl, hU5⟩
      have HU5 := Lib.hid (HU4.out.trans hU5)
      have HP5 := Lib.hid (HP.out.under HU5.out)
      clear hU5 HP4
      have e1 : w5.cell? ⟨pb, 1, none⟩ = some (.map (some tb)) := HP5.out.box.cell 1
      have e2 : w5.cell? ⟨pb, 2, none⟩ = some (.slice qs st.length ds) := HP5.out.box.cell 2
      have el := HP5.out.box.lt
      generalize hnm : nameN k = nm at *
      have hmg : mget ks nm = none := by rw [HT.out, HK.out]; rfl
      have HMg := Lib.hid hmg
      have HMf := Lib.hid (mfind_of_get hmg 0)
      have HHd := Lib.hid (HP5.out.heads)
      have HPt := Lib.hid HP5.out.pb_tb
      have HSp := Lib.hid HP5.out.sv_pb
      have HSt := Lib.hid HP5.out.sv_tb
      have HSh := Lib.hid HP5.out.sv_hb
      have HLo := Lib.hid HP5.out.lo
      have HHt := Lib.hid HP5.out.hb_tb
      have HHp := Lib.hid HP5.out.hb_pb
      have hz5 := HU5.out.size
      clear hmg hnm G4 HN HE c2
      go_wp2_with (refine wpList_insert_map rfl _ _ _ (Or.inr rfl) Tryz.underlying44 Tryz.underlying9 rfl HP5.out.taken rfl rfl ?_)
      intro w6 hM6 hT6
      rw [mfind_none HMf.out] at hM6
      have hc6 : Ch (fun i => i = tb) w5 w6 := (Ch.refl w5).turned hT6 (fun g e _ => by cases e; rfl)
      have hB6 := box_ch HP5.out.box hc6 HPt.out
      have hR6 := row_ch HP5.out.row hc6 (fun g hg e => by subst e; exact HSt.out hg)
      have hH6 : MapIAt w6 hb headsL := HP5.out.heads.same (hc6.block _ HP5.out.heads.lt HHt.out)
      have HM6 := Lib.hid hM6
      have HC6 := Lib.hid hc6
      have HB6 := Lib.hid hB6
      have HR6 := Lib.hid hR6
      have HH6 := Lib.hid hH6
      have e3 : w6.cell? ⟨pb, 2, none⟩ = some (.slice qs st.length ds) := hB6.cell 2
      have el6 := hB6.lt
      have hz6 := hT6.size
      clear hM6 hT6 hc6 hB6 hR6 hH6
      go_wp2_with (at_builtin; refine wpList_append_own_at _ rfl _ _ 23 rfl W0.heap.size 9 i0 _ 1 16 Tryz.underlying23 hi hz0 hz1 hz2 rfl (by decide) _ _ _ rfl (HR6.out.alloc _) ⟨w6.heap.size, 0, none⟩ 1 1 [.string nm] rfl rfl (cell_one_new _ _ _) (by intro u hu; rw [List.mem_singleton.1 hu]; rfl) (by simp only [maxLen]; omega) (by omega) (by have := HP.out.und.size; simp; omega) ?_)
      intro sv7 w7 hown7 hgr7 _ hat7
      have hc7 : Ch (fun i => (Value.slice qs st.length ds).ownBlock = some i) w6 w7 := (Ch.of_under (under_alloc (Under.refl w6) _)).grown hgr7 (fun g e _ => e)
      have hB7 := box_ch HB6.out hc7 HSp.out
      have hM7 : MapAt w7 tb (ks ++ [(nm, .int .i64 1)]) := HM6.out.same (hc7.block _ HM6.out.lt HSt.out)
      have hH7 : MapIAt w7 hb headsL := HH6.out.same (hc7.block _ HH6.out.lt HSh.out)
      have hne7 := box_own_ne hB7 hown7 (by decide)
      have hz7 := hc7.size
      have e4 := hB7.lt
      have e5 := hB7.free 2
      have e7 : w7.cell? ⟨pb, 2, none⟩ = some (.slice qs st.length ds) := hB7.cell 2
      have hOw : ∀ b, b < w0.heap.size → sv7.ownBlock = some b → (Value.slice qs st.length ds).ownBlock = some b := fun b hb0 e => by
        rcases hat7 with h | h
        · rw [← h]; exact e
        · rw [h] at e
          have : (w6.alloc (.cells #[.string nm] 9)).heap.size = w6.heap.size + 1 := by simp
          cases e
          simp at *
          omega
      have HOw := Lib.hid hOw
      have HC7 := Lib.hid hc7
      have HB7 := Lib.hid hB7
      have HM7 := Lib.hid hM7
      have HH7 := Lib.hid hH7
      have HN7 := Lib.hid hne7
      have HR7 := Lib.hid hown7
      obtain ⟨q7, d7, rfl, _, _⟩ := RowArg.of_own hown7
      clear hc7 hB7 hM7 hH7 hne7 hown7 hgr7 hat7 hOw
      go_wp2_with fail
      have hS8 := Ch.set (C := fun i => i = pb) (Ch.refl w7) (g := pb) (fun _ => rfl) 2 (.slice q7 (st.length + 1) d7)
      have hB8 := HB7.out.set 2 (.slice q7 (st.length + 1) d7)
      have hR8 := row_other HR7.out HN7.out 2 (.slice q7 (st.length + 1) d7)
      have hM8 : MapAt (w7.setCell ⟨pb, 2, none⟩ (.slice q7 (st.length + 1) d7)) tb (ks ++ [(nm, .int .i64 1)]) := HM7.out.same (hS8.block _ HM7.out.lt (fun e => HPt.out e.symm))
      have hH8 : MapIAt (w7.setCell ⟨pb, 2, none⟩ (.slice q7 (st.length + 1) d7)) hb headsL := HH7.out.same (hS8.block _ HH7.out.lt HHp.out)
      have hC8 : Ch (PrC pb tb (.slice qs st.length ds)) w0 (w7.setCell ⟨pb, 2, none⟩ (.slice q7 (st.length + 1) d7)) :=
        ((((Ch.of_under HU5.out).trans HC6.out (fun i _ h => .inr (.inl h))).trans HC7.out (fun i _ h => .inr (.inr h)))).trans hS8 (fun i _ h => .inl h)
      have hP8 : PrS W0 pb hb tb (ks ++ [(nm, .int .i64 1)]) (st ++ [nm]) (.slice q7 (st.length + 1) d7) (w7.setCell ⟨pb, 2, none⟩ (.slice q7 (st.length + 1) d7)) :=
        ⟨hB8, hH8, hM8, by rw [List.length_append, List.map_append]; exact hR8, under_ch HP.out.und hC8 HP.out.low, HLo.out⟩
      have hD := HD.out _ _ hC8 HOw.out hP8
      have HC8 := Lib.hid hC8
      have HRe := Lib.hid (Ch.refl (C := fun i => i = pb) (w7.setCell ⟨pb, 2, none⟩ (.slice q7 (st.length + 1) d7)))
      generalize w7.setCell ⟨pb, 2, none⟩ (.slice q7 (st.length + 1) d7) = w8 at *
      clear hS8 hB8 hR8 hM8 hH8 hC8 hP8 e1 e2 e3 e4 e5 e7 el el6 HB6 HB7 HM6 HM7 HH6 HH7 HR6 HR7 HC6 HC7 HN7 HSp HSt HSh HHt HHp HHd HP5 HPk
      refine hD.mono ?_
      clear hD HD
      rintro e w9 ⟨⟨v9, rfl⟩, sv9, hP9, hC9, hO9, hR9⟩
      obtain ⟨g9, d9, rfl, _, _, _, hd9, _⟩ := row_block hP9.row (by simp)
      have HP9 := Lib.hid hP9
      have HC9 := Lib.hid hC9
      have HO9 := Lib.hid hO9
      have HR9 := Lib.hid hR9
      have hl9 : (st ++ [nm]).length = st.length + 1 := by simp
      rw [hl9] at hd9
      have b2 : w9.cell? ⟨pb, 2, none⟩ = some (.slice (some ⟨g9, 0, none⟩) (st.length + 1) d9) := by rw [← hl9]; exact hP9.box.cell 2
      have bl := hP9.box.lt
      have bf := hP9.box.free 2
      have hS9 := hP9.sv_pb
      clear hP9 hC9 hO9 hR9 hl9
      go_wp2_with fail
      go_region
      all_goals
        have hS10 := (Ch.set (C := fun i => i = pb) (Ch.refl w9) (g := pb) (fun _ => rfl) 2 (.slice (some ⟨g9, 0, none⟩) st.length d9)).under (under_drew (Under.refl _))
        have hB10 : BoxAt ((w9.setCell ⟨pb, 2, none⟩ (.slice (some ⟨g9, 0, none⟩) st.length d9)).drew) pb 46 #[.map (some hb), .map (some tb), .slice (some ⟨g9, 0, none⟩) st.length d9] := (HP9.out.box.set 2 (.slice (some ⟨g9, 0, none⟩) st.length d9)).drew
        have hM10 : MapAt ((w9.setCell ⟨pb, 2, none⟩ (.slice (some ⟨g9, 0, none⟩) st.length d9)).drew) tb (ks ++ [(nm, .int .i64 1)]) := HP9.out.taken.same (hS10.block _ HP9.out.taken.lt (fun e => HPt.out e.symm))
        have hH10 : MapIAt ((w9.setCell ⟨pb, 2, none⟩ (.slice (some ⟨g9, 0, none⟩) st.length d9)).drew) hb headsL := HP9.out.heads.same (hS10.block _ HP9.out.heads.lt HP9.out.hb_pb)
        have hrow9 : w9.ownsRow W0.heap.size 9 1 (.slice (some ⟨g9, 0, none⟩) st.length d9) st.length (st.map .string) := by
          have h := row_cut (m := st.length) (by have := HP9.out.row; rw [List.length_append] at this; exact this) (Nat.le_succ _)
          rw [List.map_append, Nat.mul_one, List.take_left' (by simp)] at h
          exact h
        have hR10 := row_under (row_other hrow9 hS9 2 (.slice (some ⟨g9, 0, none⟩) st.length d9)) (under_drew (Under.refl _))
        have f1 : ((w9.setCell ⟨pb, 2, none⟩ (.slice (some ⟨g9, 0, none⟩) st.length d9)).drew).cell? ⟨pb, 1, none⟩ = some (.map (some tb)) := hB10.cell 1
        have fl := hB10.lt
        have HS10 := Lib.hid hS10
        have HB10 := Lib.hid hB10
        have HM10 := Lib.hid hM10
        have HH10 := Lib.hid hH10
        have HR10 := Lib.hid hR10
        generalize (w9.setCell ⟨pb, 2, none⟩ (.slice (some ⟨g9, 0, none⟩) st.length d9)).drew = w10 at *
        clear hS10 hB10 hM10 hH10 hrow9 hR10 b2 bl bf
        go_wp2_with (refine wpList_delete_map rfl _ _ _ rfl Tryz.underlying44 Tryz.underlying9 rfl HM10.out HMf.out rfl ?_)
        clear f1 fl
        intro w11 hM11 hT11
        have hc11 : Ch (fun i => i = pb ∨ i = tb) w9 w11 := (HS10.out.weak (fun i _ h => .inl h)).turned hT11 (fun g e _ => by cases e; exact .inr rfl)
        have hd11 : Ch (fun i => i = tb) w10 w11 := (Ch.refl w10).turned hT11 (fun g e _ => by cases e; rfl)
        have HC11 := Lib.hid hc11
        have HD11 := Lib.hid hd11
        have HM11 := Lib.hid hM11
        clear hM11 hT11 hc11 hd11
        go_wp2
        go_end0
        have hz8 := HC8.out.size
        have hC := ((HC8.out.weak (D := fun b => PrC pb tb (.slice qs st.length ds) b ∨ C b) (fun i _ h => .inl h)).trans HC9.out (fun i hi h => by
          rcases h with (h | h | h) | h
          · exact .inl (.inl h)
          · exact .inl (.inr (.inl h))
          · exact .inl (.inr (.inr (HOw.out i hi h)))
          · exact .inr h)).trans HC11.out (fun i _ h => by
          rcases h with h | h
          · exact .inl (.inl h)
          · exact .inl (.inr (.inl h)))
        refine ⟨⟨_, rfl⟩, _, ⟨box_ch HB10.out HD11.out HPt.out, HH10.out.same (HD11.out.block _ HH10.out.lt HP9.out.hb_tb), HM11.out, row_ch HR10.out HD11.out (fun g hg e => by subst e; exact HP9.out.sv_tb hg), ?_, HLo.out⟩, hC, fun b hb0 e => HOw.out b hb0 (HO9.out b (by omega) e), HRs.out _ _ _ HR9.out HC11.out⟩
        exact under_ch HP9.out.und HC11.out (fun b h => by rcases h with rfl | rfl <;> first | exact HLo.out.1 | exact HLo.out.2.1)
    · rw [HT.out, hk] at HLk
      simp only [if_true, Option.getD_some] at HLk
      have hkF : k < F := by
        rcases Nat.lt_or_ge k F with h | h
        · exact h
        · obtain rfl : k = F := by omega
          have := G3.out
          rw [hk] at this
          cases this
      go_wp2_with fail
      go_region_held3 (fun w' => w'.cell? ⟨pb, 1, none⟩ = some (.map (some tb)) ∧ MapAt w' tb ks)
        (first
          | go_keep
          | exact tt
          | (refine ⟨?_, ?_⟩
             · (rw [under_cell hU4 dl]; assumption)
             · exact MapAt.under (by assumption) hU4))
        ((go_simp; go_at_call 13; refine (HNk.out _ (under_drew HU.out)).mono ?_; rintro e w4 ⟨rfl, hU4⟩))
      have HU4 := Lib.hid (HU.out.trans ((under_drew (Under.refl wr)).trans hU4))
      rename_i hHeld
      clear hU4 hHeld tt HLk d1 dl dm HNk hk
      go_wp2
      go_roundw
      case rel => exact ⟨k + 1, by omega, by omega, by go_num, HU4.out⟩
      case measure => simp [intOf]; omega
end
end Go.Proofs.YtiibknlpeodejaaGreatDoor

/- pretty.(*printer).words: what a part says, its names ahead: the closures. -/
namespace Go.Proofs.YtiibknlpeodejaaGreatDoor
open Go.Lx Go.RowKit

/-- A term that the printer does not write to. -/
def Away (pb tb : Nat) (sv tv : Value) : Prop := ∀ b off x n c, tv = .slice (some ⟨b, off, x⟩) n c → ¬ PrC pb tb sv b
/-- words gives a term's text. -/
def WordsOk (T : Tm) : Prop := okT T → deepT T ≤ 60 → (flat T).length ≤ 4000 → ∀ (W0 w : World) (pb hb tb : Nat) (ks : Assoc) (st av : List ByteArray) (sv tv : Value), Pow10 W0 → ShapesAt 0 W0 → PrS W0 pb hb tb ks st sv w → TakenIs ks (av ++ st) →
  TermV w tv (flat T) → Away pb tb sv tv → av.length ≤ 90000 → st.length + 2 * (flat T).length ≤ 90000 → (∀ s ∈ st, s.size ≤ 22) → inT T st.length →
  Calls Tryz.prog 21 #[.pointer (some ⟨pb, 0, none⟩), tv] w fun e w' => e = .returned (.string ⟨(sayT av T st).toArray⟩) ∧ ∃ sv', PrS W0 pb hb tb ks st sv' w' ∧ Ch (PrC pb tb sv) w w' ∧ ∀ b, b < w.heap.size → sv'.ownBlock = some b → sv.ownBlock = some b
theorem box_box_ne {w : World} {a b : Nat} {t t' : TypeId} {cs ds : Array Value} (h : BoxAt w a t cs) (k : BoxAt w b t' ds) (hne : t ≠ t') : a ≠ b := by
  rintro rfl
  unfold BoxAt at h k
  rw [h] at k
  cases k
  exact hne rfl
theorem box_map_ne {w : World} {a b : Nat} {t : TypeId} {cs : Array Value} {ks : Assoc} (h : BoxAt w a t cs) (k : MapAt w b ks) : a ≠ b := by
  rintro rfl
  obtain ⟨es, cl, hb, _⟩ := k
  unfold BoxAt at h
  rw [h] at hb
  cases hb
/-- Where the closures' variables lie. -/
structure Lay where
  pb : Nat
  hb : Nat
  tb : Nat
  lb : Nat
  p2 : Nat
  xb : Nat
  ub : Nat
def ptr (b : Nat) : Value := .pointer (some ⟨b, 0, none⟩)
/-- What the closures find. -/
structure UnS (W0 : World) (L : Lay) (ks : Assoc) (st : List ByteArray) (sv : Value) (ls : List ByteArray) (lv xv : Value) (T : Tm) (w : World) : Prop where
  pr : PrS W0 L.pb L.hb L.tb ks st sv w
  lbx : BoxAt w L.lb 23 #[lv]
  lrow : w.ownsRow W0.heap.size 9 1 lv ls.length (ls.map .string)
  apart : lv.ownBlock = none ∨ lv.ownBlock ≠ sv.ownBlock
  p2x : BoxAt w L.p2 41 #[ptr L.pb]
  xbx : BoxAt w L.xb 22 #[xv]
  ubx : BoxAt w L.ub 58 #[.func (.func 37) #[] #[ptr L.lb, ptr L.p2, ptr L.xb, ptr L.ub]]
  part : w.ownsRow W0.heap.size 38 4 xv (flat T).length (ndCells (flat T))
  lo : W0.heap.size ≤ L.lb
/-- What they change. -/
def UnC (L : Lay) (sv lv : Value) (b : Nat) : Prop := PrC L.pb L.tb sv b ∨ b = L.lb ∨ lv.ownBlock = some b
section
variable {W0 w w' : World} {L : Lay} {ks ks' : Assoc} {st st' ls : List ByteArray} {sv sv' lv xv : Value} {T : Tm}
theorem UnS.box_out (h : UnS W0 L ks st sv ls lv xv T w) {b : Nat} {t : TypeId} {cs : Array Value} (hb : BoxAt w b t cs) (h1 : t ≠ 46) (h2 : t ≠ 9) : ¬ PrC L.pb L.tb sv b := by
  rintro (rfl | rfl | e)
  · exact box_box_ne hb h.pr.box h1 rfl
  · exact box_map_ne hb h.pr.taken rfl
  · exact box_own_ne hb h.pr.row (fun e => h2 e.symm) e
theorem UnS.box_outU (h : UnS W0 L ks st sv ls lv xv T w) {b : Nat} {t : TypeId} {cs : Array Value} (hb : BoxAt w b t cs) (h1 : t ≠ 46) (h2 : t ≠ 9) (h3 : t ≠ 23) : ¬ UnC L sv lv b := by
  rintro (e | rfl | e)
  · exact h.box_out hb h1 h2 e
  · exact box_box_ne hb h.lbx h3 rfl
  · exact box_own_ne hb h.lrow (fun e => h2 e.symm) e
theorem UnS.l_out (h : UnS W0 L ks st sv ls lv xv T w) : ∀ g, lv.ownBlock = some g → ¬ PrC L.pb L.tb sv g := by
  rintro g hg (rfl | rfl | e)
  · exact box_own_ne h.pr.box h.lrow (by decide) hg
  · exact map_own_ne h.pr.taken h.lrow hg
  · rcases h.apart with h | h
    · rw [h] at hg; cases hg
    · exact h (hg.trans e.symm)
theorem UnS.x_out (h : UnS W0 L ks st sv ls lv xv T w) : ∀ g, xv.ownBlock = some g → ¬ UnC L sv lv g := by
  rintro g hg ((rfl | rfl | e) | rfl | e)
  · exact box_own_ne h.pr.box h.part (by decide) hg
  · exact map_own_ne h.pr.taken h.part hg
  · rcases own_ne h.part h.pr.row (by decide) with h' | h'
    · rw [h'] at hg; cases hg
    · exact h' (hg.trans e.symm)
  · exact box_own_ne h.lbx h.part (by decide) hg
  · rcases own_ne h.part h.lrow (by decide) with h' | h'
    · rw [h'] at hg; cases hg
    · exact h' (hg.trans e.symm)
theorem UnS.ch (h : UnS W0 L ks st sv ls lv xv T w) (hc : Ch (PrC L.pb L.tb sv) w w') (hP : PrS W0 L.pb L.hb L.tb ks' st' sv' w') (ho : ∀ b, b < w.heap.size → sv'.ownBlock = some b → sv.ownBlock = some b) : UnS W0 L ks' st' sv' ls lv xv T w' := by
  refine ⟨hP, box_ch h.lbx hc (h.box_out h.lbx (by decide) (by decide)), row_ch h.lrow hc h.l_out, ?_, box_ch h.p2x hc (h.box_out h.p2x (by decide) (by decide)), box_ch h.xbx hc (h.box_out h.xbx (by decide) (by decide)), box_ch h.ubx hc (h.box_out h.ubx (by decide) (by decide)), row_ch h.part hc (fun g hg e => h.x_out g hg (.inl e)), h.lo⟩
  cases hl : lv.ownBlock with
  | none => exact .inl rfl
  | some g =>
    right
    intro e
    have := ho g (row_lt h.lrow hl).2 e.symm
    rcases h.apart with h' | h'
    · rw [h'] at hl; cases hl
    · exact h' (hl.trans this.symm)
theorem UnS.und (h : UnS W0 L ks st sv ls lv xv T w) (hU : Under w w') : UnS W0 L ks st sv ls lv xv T w' := h.ch (Ch.of_under hU) (h.pr.under hU) fun b _ e => e
/-- A text more. -/
theorem UnS.push (h : UnS W0 L ks st sv ls lv xv T w) {x : ByteArray} {g cap : Nat} {w5 : World} (hown : w5.ownsRow W0.heap.size 9 1 (.slice (some ⟨g, 0, none⟩) (ls.length + 1) cap) (ls.length + 1) (ls.map .string ++ [.string x]))
    (hgr : (w.alloc (.cells #[.string x] 9)).grownBy w5 lv.ownBlock) (hat : lv.ownBlock = some g ∨ g = w.heap.size + 1) :
    UnS W0 L ks st sv (ls ++ [x]) (.slice (some ⟨g, 0, none⟩) (ls.length + 1) cap) xv T (w5.setCell ⟨L.lb, 0, none⟩ (.slice (some ⟨g, 0, none⟩) (ls.length + 1) cap)) ∧
      Ch (fun i => i = L.lb ∨ lv.ownBlock = some i) w (w5.setCell ⟨L.lb, 0, none⟩ (.slice (some ⟨g, 0, none⟩) (ls.length + 1) cap)) ∧ ∀ b, b < w.heap.size → (Value.slice (some ⟨g, 0, none⟩) (ls.length + 1) cap).ownBlock = some b → lv.ownBlock = some b := by
  have hc5 : Ch (fun i => lv.ownBlock = some i) w w5 := (Ch.of_under (under_alloc (Under.refl w) _)).grown hgr (fun g e _ => e)
  have hc : Ch (fun i => i = L.lb ∨ lv.ownBlock = some i) w (w5.setCell ⟨L.lb, 0, none⟩ (.slice (some ⟨g, 0, none⟩) (ls.length + 1) cap)) := (hc5.weak (fun i _ h => .inr h)).set (fun _ => .inl rfl) _ _
  have out : ∀ {b : Nat} {t : TypeId} {cs : Array Value}, BoxAt w b t cs → t ≠ 9 → t ≠ 23 → ¬ (b = L.lb ∨ lv.ownBlock = some b) := by
    rintro b t cs hb h2 h3 (rfl | e)
    · exact box_box_ne hb h.lbx h3 rfl
    · exact box_own_ne hb h.lrow (fun e => h2 e.symm) e
  have hlb5 : BoxAt w5 L.lb 23 #[lv] := box_ch h.lbx hc5 (fun e => box_own_ne h.lbx h.lrow (by decide) e)
  have svn : ∀ g, sv.ownBlock = some g → ¬ (g = L.lb ∨ lv.ownBlock = some g) := by
    rintro g hg (rfl | e)
    · exact box_own_ne h.lbx h.pr.row (by decide) hg
    · rcases h.apart with h' | h'
      · rw [h'] at e; cases e
      · exact h' (e.trans hg.symm)
  have tbn : ¬ (L.tb = L.lb ∨ lv.ownBlock = some L.tb) := by
    rintro (e | e)
    · exact box_map_ne h.lbx h.pr.taken e.symm
    · exact map_own_ne h.pr.taken h.lrow e
  have hbn : ¬ (L.hb = L.lb ∨ lv.ownBlock = some L.hb) := by
    rintro (e | e)
    · exact mapI_box_ne h.pr.heads h.lbx e
    · exact mapI_own_ne h.pr.heads h.lrow e
  refine ⟨⟨⟨box_ch h.pr.box hc (out h.pr.box (by decide) (by decide)), h.pr.heads.same (hc.block _ h.pr.heads.lt hbn), h.pr.taken.same (hc.block _ h.pr.taken.lt tbn), row_ch h.pr.row hc svn, under_ch h.pr.und hc ?_, h.pr.lo⟩,
    hlb5.set 0 _, ?_, ?_, box_ch h.p2x hc (out h.p2x (by decide) (by decide)), box_ch h.xbx hc (out h.xbx (by decide) (by decide)), box_ch h.ubx hc (out h.ubx (by decide) (by decide)), row_ch h.part hc (fun g hg e => h.x_out g hg (.inr e)), h.lo⟩, hc, ?_⟩
  · rintro b (rfl | e)
    · exact h.lo
    · exact (row_lt h.lrow e).1
  · rw [List.length_append, List.map_append]
    exact row_other hown (box_own_ne hlb5 hown (by decide)) 0 _
  · right
    intro e
    have hs := (row_lt h.pr.row e.symm).2
    rcases hat with h' | rfl
    · rcases h.apart with h'' | h''
      · rw [h''] at h'; cases h'
      · exact h'' (h'.trans e)
    · simp at hs
      omega
  · rintro b hb e
    rcases hat with h' | rfl
    · rw [h']; exact e
    · have : w.heap.size + 1 = b := by simpa [Value.ownBlock] using e
      omega
end
end Go.Proofs.YtiibknlpeodejaaGreatDoor

/- pretty.(*printer).words: the closures' contracts. -/
namespace Go.Proofs.YtiibknlpeodejaaGreatDoor
open Go.Lx Go.RowKit

/-- under gives the names of so many binders, and the part's text. -/
def UnderOk (T : Tm) (k : Nat) : Prop := ∀ (W0 w : World) (L : Lay) (ks : Assoc) (st av ls : List ByteArray) (sv lv xv : Value), Pow10 W0 → ShapesAt 0 W0 → UnS W0 L ks st sv ls lv xv T w → TakenIs ks (av ++ st) →
  av.length ≤ 90000 → st.length + k + 2 * (flat T).length ≤ 90000 → ls.length + k ≤ 90000 → (∀ s ∈ st, s.size ≤ 22) → inT T (st.length + k) →
  Calls Tryz.prog 37 #[.int .i64 (k : Int), ptr L.lb, ptr L.p2, ptr L.xb, ptr L.ub] w fun e w' => (∃ v, e = .returned v) ∧ ∃ sv' lv', UnS W0 L ks st sv' (ls ++ bindN av st k ++ [⟨(sayT av T (st ++ bindN av st k)).toArray⟩]) lv' xv T w' ∧ Ch (UnC L sv lv) w w' ∧
    (∀ b, b < w.heap.size → sv'.ownBlock = some b → sv.ownBlock = some b) ∧ ∀ b, b < w.heap.size → lv'.ownBlock = some b → lv.ownBlock = some b
theorem away_part {W0 w : World} {L : Lay} {ks : Assoc} {st ls : List ByteArray} {sv lv xv : Value} {T : Tm} (h : UnS W0 L ks st sv ls lv xv T w) : Away L.pb L.tb sv xv := by
  rintro b off x n c rfl hc
  have h' : (Value.slice (some ⟨b, off, x⟩) n c).ownBlock = some b := rfl
  exact h.x_out b h' (.inl hc)
theorem termV_own {w : World} {base : Nat} {e : TypeId} {v : Value} {t : List Nd} (h : w.ownsRow base e 4 v t.length (ndCells t)) : TermV w v t := by
  have hc : ∀ q n c, v = .slice q n c → q = none → c = 0 := by
    intro q n c e hq
    subst hq
    rcases h.2 with ⟨rfl, _⟩ | ⟨g, cap, cur, e', _⟩
    · cases e; rfl
    · rw [e'] at e; cases e
  obtain ⟨q, c, rfl, h1, h2⟩ := RowArg.of_own h
  exact ⟨q, c, rfl, h1, hc q _ c rfl, h2⟩
theorem lb_grown {W0 w w5 : World} {L : Lay} {ks : Assoc} {st ls : List ByteArray} {sv lv xv : Value} {T : Tm} (h : UnS W0 L ks st sv ls lv xv T w) {x : ByteArray} (hgr : (w.alloc (.cells #[.string x] 9)).grownBy w5 lv.ownBlock) : BoxAt w5 L.lb 23 #[lv] := by
  have hc5 : Ch (fun i => lv.ownBlock = some i) w w5 := (Ch.of_under (under_alloc (Under.refl w) _)).grown hgr (fun g e _ => e)
  exact box_ch h.lbx hc5 (fun e => box_own_ne h.lbx h.lrow (by decide) e)
set_option maxRecDepth 100000 in
set_option maxHeartbeats 1000000 in
theorem under_zero (T : Tm) (hok : okT T) (hd : deepT T ≤ 60) (hn : (flat T).length ≤ 4000) (hW : WordsOk T) : UnderOk T 0 := by
  intro W0 w L ks st av ls sv lv xv hP hS hU hT ha hst hls hss hin
  obtain ⟨i0, hi, hz0, hz1, hz2⟩ := info_parts Tryz.infoStrZ
  have HC := Lib.hid (fun w (hU : UnS W0 L ks st sv ls lv xv T w) => hW hok hd hn W0 w L.pb L.hb L.tb ks st av sv xv hP hS hU.pr hT (termV_own hU.part) (away_part hU) ha (by omega) hss (by simpa using hin))
  have HSay : RowKit.Hid (bindN av st 0 = []) := Lib.hid rfl
  have hU1 : UnS W0 L ks st sv ls lv xv T ((w.alloc (.cells #[.int .i64 0] 3)).drew) := hU.und (under_drew (under_alloc (Under.refl w) _))
  obtain ⟨qx, cx, rfl, _, _⟩ := RowArg.of_own hU.part
  obtain ⟨ql, cl, rfl, _, _⟩ := RowArg.of_own hU.lrow
  have HU := Lib.hid hU
  have HU1 := Lib.hid hU1
  show Calls Tryz.prog 37 #[.int .i64 0, .pointer (some ⟨L.lb, 0, none⟩), .pointer (some ⟨L.p2, 0, none⟩), .pointer (some ⟨L.xb, 0, none⟩), .pointer (some ⟨L.ub, 0, none⟩)] w _
  obtain ⟨X, hX⟩ : ∃ X : ByteArray, X = ⟨(sayT av T st).toArray⟩ := ⟨_, rfl⟩
  have HX := Lib.hid hX
  have HBd : RowKit.Hid (bindN av st 0 = []) := Lib.hid rfl
  rw [← hX] at HC
  rw [HBd.out]
  simp only [List.append_nil]
  rw [← hX]
  have l0 : (w.alloc (.cells #[.int .i64 0] 3)).drew.cell? ⟨L.lb, 0, none⟩ = some (.slice ql ls.length cl) := hU1.lbx.cell 0
  have l1 : (w.alloc (.cells #[.int .i64 0] 3)).drew.cell? ⟨L.p2, 0, none⟩ = some (.pointer (some ⟨L.pb, 0, none⟩)) := hU1.p2x.cell 0
  have l2 : (w.alloc (.cells #[.int .i64 0] 3)).drew.cell? ⟨L.xb, 0, none⟩ = some (.slice qx (flat T).length cx) := hU1.xbx.cell 0
  have b0 := hU1.lbx.lt
  have b1 := hU1.p2x.lt
  have b2 := hU1.xbx.lt
  clear hX hU hU1 hW hP hS hin hss
  go_enter Tryz.func37, Tryz.ntmps37
  go_wp2_with fail
  go_region_law
    (first
      | (go_simp; go_at_call 21; refine (HC.out _ HU1.out).mono ?_; rintro e w4 ⟨rfl, sv4, hP4, hC4, hO4⟩
         have hU4 := HU1.out.ch hC4 hP4 hO4
         have HU4 := Lib.hid hU4
         have HC4 := Lib.hid hC4
         have HO4 := Lib.hid hO4
         have l3 : w4.cell? ⟨L.p2, 0, none⟩ = some (.pointer (some ⟨L.pb, 0, none⟩)) := hU4.p2x.cell 0
         have l4 : w4.cell? ⟨L.xb, 0, none⟩ = some (.slice qx (flat T).length cx) := hU4.xbx.cell 0
         have l5 : w4.cell? ⟨L.lb, 0, none⟩ = some (.slice ql ls.length cl) := hU4.lbx.cell 0
         have l6 : (w4.alloc (.cells #[.string X] 9)).cell? ⟨L.lb, 0, none⟩ = some (.slice ql ls.length cl) := (hU4.lbx.alloc _).cell 0
         have b3 := hU4.lbx.lt
         have b4 := hU4.p2x.lt
         have b5 := hU4.xbx.lt
         clear hU4 hP4 hC4 hO4)
      | (refine step_append_lies _ (by rfl) _ _ _ (by rfl) W0.heap.size 9 i0 _ 1 16 Tryz.underlying23 hi hz0 hz1 hz2 rfl (by omega) (.slice ql ls.length cl) ls.length (ls.map .string) (by rfl) (HU4.out.lrow.alloc _)
          ⟨w4.heap.size, 0, none⟩ 1 1 [.string X] (by rfl) (by rfl) (World.news_of_block (cs := #[.string X]) (t := 9) (fr := (0, 0)) (heap_alloc_new w4 _)) (by simp [Value.oneCell'])
          (by omega) (by simp only [maxLen]; omega) (by omega) (by have := HU4.out.pr.und.size; simp; omega) (w4.heap.size + 1) (by simp) ?_; intro gg cc w5 hown hgrow hat hlt
         have hb5 := lb_grown HU4.out hgrow
         have l7 : w5.cell? ⟨L.lb, 0, none⟩ = some (.slice ql ls.length cl) := hb5.cell 0
         have l8 := hb5.free 0
         have b6 := hb5.lt))
  all_goals
    obtain ⟨h1, h2, h3⟩ := HU4.out.push hown hgrow hat
    have HF := Lib.hid h1
    have HC6 := Lib.hid h2
    have HO6 := Lib.hid h3
    clear h1 h2 h3 hown hgrow hat hlt hb5 l0 l1 l2 l3 l4 l5 l6 l7 l8 b0 b1 b2 b3 b4 b5 b6
    go_wp2
    refine bodyPost_ret (results_none rfl _ _ _) rfl ?_
    have hz1 := HU1.out.pr.und
    have hz2 : w.heap.size ≤ (w.alloc (.cells #[.int .i64 0] 3)).drew.heap.size := (under_drew (under_alloc (Under.refl w) _)).size
    refine ⟨⟨_, rfl⟩, sv4, _, HF.out, ?_, fun b hb e => HO4.out b (by omega) e, fun b hb e => HO6.out b (by have := HC4.out.size; omega) e⟩
    exact ((Ch.of_under (C := UnC L sv (.slice ql ls.length cl)) (under_drew (under_alloc (Under.refl w) _))).trans HC4.out (fun i _ h => .inl h)).trans HC6.out (fun i _ h => .inr h)
set_option maxRecDepth 100000 in
set_option maxHeartbeats 1000000 in
theorem clo_any (T : Tm) (k : Nat) (hI : UnderOk T k) {W0 w : World} {L : Lay} {ks : Assoc} {st av ls : List ByteArray} {sv lv xv : Value} {nm : ByteArray} {kb : Nat} (hP : Pow10 W0) (hS : ShapesAt 0 W0) (hU : UnS W0 L ks st sv ls lv xv T w)
    (hk : BoxAt w kb 3 #[.int .i64 ((k + 1 : Nat) : Int)]) (hT : TakenIs ks (av ++ st)) (ha : av.length ≤ 90000) (hst : st.length + k + 2 * (flat T).length ≤ 90000) (hls : ls.length + 1 + k ≤ 90000) (hss : ∀ s ∈ st, s.size ≤ 22) (hin : inT T (st.length + k)) :
    Calls Tryz.prog 39 #[.string nm, .pointer (some ⟨L.lb, 0, none⟩), .pointer (some ⟨L.ub, 0, none⟩), .pointer (some ⟨kb, 0, none⟩)] w fun e w' => (∃ v, e = .returned v) ∧ ∃ sv' lv', UnS W0 L ks st sv' (ls ++ [nm] ++ bindN av st k ++ [⟨(sayT av T (st ++ bindN av st k)).toArray⟩]) lv' xv T w' ∧ Ch (UnC L sv lv) w w' ∧
      (∀ b, b < w.heap.size → sv'.ownBlock = some b → sv.ownBlock = some b) ∧ ∀ b, b < w.heap.size → lv'.ownBlock = some b → lv.ownBlock = some b := by
  obtain ⟨i0, hi, hz0, hz1, hz2⟩ := info_parts Tryz.infoStrZ
  have HI := Lib.hid (fun w lv (hU : UnS W0 L ks st sv (ls ++ [nm]) lv xv T w) => hI W0 w L ks st av (ls ++ [nm]) sv lv xv hP hS hU hT ha hst (by rw [List.length_append, List.length_singleton]; omega) hss hin)
  obtain ⟨ql, cl, rfl, _, _⟩ := RowArg.of_own hU.lrow
  have HU := Lib.hid hU
  have HK := Lib.hid hk
  have l0 : w.cell? ⟨L.lb, 0, none⟩ = some (.slice ql ls.length cl) := hU.lbx.cell 0
  have b0 := hU.lbx.lt
  have hk0 : (0 : Int) ≤ (k : Int) := Int.natCast_nonneg _
  have hk9 : (k : Int) ≤ 90000 := by omega
  clear hI hU hk hT hP hS hin hss
  go_enter Tryz.func39, Tryz.ntmps39
  go_wp2_with (at_builtin; refine wpList_append_lies _ rfl _ _ 23 rfl W0.heap.size 9 i0 _ 1 16 Tryz.underlying23 hi hz0 hz1 hz2 rfl (by decide) (.slice ql ls.length cl) ls.length (ls.map .string) rfl (HU.out.lrow.alloc _) ⟨w.heap.size, 0, none⟩ 1 1 [.string nm] rfl rfl (cell_one_new _ _ _) (by simp [Value.oneCell']) (by omega) (by simp only [maxLen]; omega) (by omega) (by have := HU.out.pr.und.size; simp; omega) (w.heap.size + 1) (by simp) ?_)
  intro gg cc w5 hown hgrow hat hlt
  have hb5 := lb_grown HU.out hgrow
  have l7 : w5.cell? ⟨L.lb, 0, none⟩ = some (.slice ql ls.length cl) := hb5.cell 0
  have l8 := hb5.free 0
  have b6 := hb5.lt
  obtain ⟨h1, h2, h3⟩ := HU.out.push hown hgrow hat
  have HF := Lib.hid h1
  have HC6 := Lib.hid h2
  have HO6 := Lib.hid h3
  have hk6 := box_ch HK.out h2 (by
    rintro (e | e)
    · exact box_box_ne HK.out HU.out.lbx (by decide) e
    · exact box_own_ne HK.out HU.out.lrow (by decide) e)
  have m0 := h1.ubx.cell 0
  have m1 := h1.ubx.lt
  have m2 := hk6.cell 0
  have m3 := hk6.lt
  simp only [ptr] at m0
  clear h1 h2 h3 hown hgrow hat hlt hb5 l0 b0
  go_wp2_with fail
  refine (HI.out _ _ HF.out).mono ?_
  rintro e w7 ⟨⟨v7, rfl⟩, sv7, lv7, hU7, hC7, hO7, hL7⟩
  have HU7 := Lib.hid hU7
  have HC7 := Lib.hid hC7
  have HO7 := Lib.hid hO7
  have HL7 := Lib.hid hL7
  clear hU7 hC7 hO7 hL7 m0 m1 m2 m3 hk6 l7 l8 b6
  go_wp2
  go_end0
  have hz := HC6.out.size
  refine ⟨⟨_, rfl⟩, sv7, lv7, HU7.out, (HC6.out.weak (D := UnC L sv (.slice ql ls.length cl)) (fun i _ h => .inr h)).trans HC7.out (fun i hi h => ?_), fun b hb e => HO7.out b (by omega) e, fun b hb e => HO6.out b hb (HL7.out b (by omega) e)⟩
  rcases h with h | h | h
  · exact .inl h
  · exact .inr (.inl h)
  · exact .inr (.inr (HO6.out i hi h))
end Go.Proofs.YtiibknlpeodejaaGreatDoor

/- pretty.(*printer).words: under, for any number of binders. -/
namespace Go.Proofs.YtiibknlpeodejaaGreatDoor
open Go.Lx Go.RowKit

/-- What stays between the closure's end and bind's. -/
def UnR (W0 : World) (L : Lay) (w : World) (lv : Value) (ls' : List ByteArray) (o : Option Nat) (w' : World) : Prop :=
  ∃ lv', BoxAt w' L.lb 23 #[lv'] ∧ w'.ownsRow W0.heap.size 9 1 lv' ls'.length (ls'.map .string) ∧ (lv'.ownBlock = none ∨ lv'.ownBlock ≠ o) ∧ (∀ b, b < w.heap.size → lv'.ownBlock = some b → lv.ownBlock = some b) ∧ lv'.ownBlock ≠ some L.pb ∧ lv'.ownBlock ≠ some L.tb ∧ L.lb ≠ L.pb ∧ L.lb ≠ L.tb
theorem UnR.ch {W0 w a b : World} {L : Lay} {lv : Value} {ls' : List ByteArray} {o : Option Nat} (h : UnR W0 L w lv ls' o a) (hc : Ch (fun i => i = L.pb ∨ i = L.tb) a b) : UnR W0 L w lv ls' o b := by
  obtain ⟨lv', h1, h2, h3, h4, h5, h6, h7, h8⟩ := h
  refine ⟨lv', box_ch h1 hc (by rintro (e | e); exact h7 e; exact h8 e), row_ch h2 hc (fun g hg => by rintro (rfl | rfl); exact h5 hg; exact h6 hg), h3, h4, h5, h6, h7, h8⟩
theorem UnS.at_un {W0 w w' : World} {L : Lay} {ks ks' : Assoc} {st st' ls ls' : List ByteArray} {sv sv' lv xv : Value} {T : Tm} (h : UnS W0 L ks st sv ls lv xv T w) (hc : Ch (fun b => PrC L.pb L.tb sv b ∨ (b = L.lb ∨ lv.ownBlock = some b)) w w') (hP : PrS W0 L.pb L.hb L.tb ks' st' sv' w') (hR : UnR W0 L w lv ls' sv'.ownBlock w') :
    ∃ lv', UnS W0 L ks' st' sv' ls' lv' xv T w' ∧ ∀ b, b < w.heap.size → lv'.ownBlock = some b → lv.ownBlock = some b := by
  obtain ⟨lv', h1, h2, h3, h4, _⟩ := hR
  exact ⟨lv', ⟨hP, h1, h2, h3, box_ch h.p2x hc (h.box_outU h.p2x (by decide) (by decide) (by decide)), box_ch h.xbx hc (h.box_outU h.xbx (by decide) (by decide) (by decide)), box_ch h.ubx hc (h.box_outU h.ubx (by decide) (by decide) (by decide)), row_ch h.part hc (fun g hg => h.x_out g hg), h.lo⟩, h4⟩
theorem UnS.un {W0 w w' : World} {L : Lay} {ks : Assoc} {st ls : List ByteArray} {sv lv lv' xv : Value} {T : Tm} (h : UnS W0 L ks st sv ls lv xv T w') (ho : ∀ b, b < w.heap.size → lv.ownBlock = some b → lv'.ownBlock = some b) : UnR W0 L w lv' ls sv.ownBlock w' :=
  ⟨lv, h.lbx, h.lrow, h.apart, ho, fun e => h.l_out _ e (.inl rfl), fun e => h.l_out _ e (.inr (.inl rfl)), box_box_ne h.lbx h.pr.box (by decide), box_map_ne h.lbx h.pr.taken⟩
set_option maxRecDepth 100000 in
set_option maxHeartbeats 1000000 in
theorem under_succ (T : Tm) (k : Nat) (hI : UnderOk T k) : UnderOk T (k + 1) := by
  intro W0 w L ks st av ls sv lv xv hP hS hU hT ha hst hls hss hin
  obtain ⟨nm, hnm⟩ : ∃ nm, nm = nameN (freshN (av ++ st) st.length) := ⟨_, rfl⟩
  have hsp := freshN_spec (av ++ st) st.length
  rw [List.length_append] at hsp
  have hnn : amongB (av ++ st) nm = false := by rw [hnm]; exact hsp.2.2.1
  have hns : nm.size ≤ 22 := by rw [hnm]; exact nameN_len (by omega)
  have hB : bindN av st (k + 1) = nm :: bindN av (st ++ [nm]) k := by rw [hnm]; rfl
  have hl1 : (st ++ [nm]).length = st.length + 1 := by simp
  obtain ⟨w', hw'⟩ : ∃ w', w' = w.alloc (.cells #[.int .i64 ((k : Int) + 1)] 3) := ⟨_, rfl⟩
  have hUw : Under w w' := by rw [hw']; exact under_alloc (Under.refl w) _
  have hU' := hU.und hUw
  have hK' : BoxAt w' w.heap.size 3 #[.int .i64 ((k + 1 : Nat) : Int)] := by rw [hw']; exact box_new w _ _
  have hz' := hUw.size
  have hbd := bind_any (f := 39) (lb := #[.pointer (some ⟨L.lb, 0, none⟩), .pointer (some ⟨L.ub, 0, none⟩), .pointer (some ⟨w.heap.size, 0, none⟩)]) (C := fun b => b = L.lb ∨ lv.ownBlock = some b)
    (R := UnR W0 L w' lv (ls ++ [nm] ++ bindN av (st ++ [nm]) k ++ [⟨(sayT av T ((st ++ [nm]) ++ bindN av (st ++ [nm]) k)).toArray⟩])) hP hU'.pr hT (by omega) (by omega) (enters_of Tryz.func39 (by kernel_rfl) rfl) (fun o a b h hc => h.ch hc) ?hdo
  case hdo =>
    intro nm' hnm' w1 sv1 hc1 ho1 hP1
    obtain rfl : nm = nm' := hnm.trans hnm'.symm
    have hU1 := hU'.ch hc1 hP1 ho1
    have hk1 := box_ch hK' hc1 (hU'.box_out hK' (by decide) (by decide))
    have hT1 : TakenIs (ks ++ [(nm, .int .i64 1)]) (av ++ (st ++ [nm])) := by rw [← List.append_assoc]; exact hT.snoc hnn
    refine (clo_any T k hI hP hS hU1 hk1 hT1 ha (by omega) (by omega) (fun s hs => ?_) (by rw [hl1, Nat.add_assoc, Nat.add_comm 1 k]; exact hin)).mono ?_
    · rcases List.mem_append.1 hs with hs | hs
      · exact hss s hs
      · rw [List.mem_singleton.1 hs]; exact hns
    · rintro e w2 ⟨hv, sv2, lv2, hU2, hC2, hO2, hL2⟩
      have := hc1.size
      exact ⟨hv, sv2, hU2.pr, hC2, hO2, hU2.un (fun b hb e => hL2 b (by omega) e)⟩
  have HBd := Lib.hid hbd
  have HU' := Lib.hid hU'
  have HUw := Lib.hid hUw
  have HB := Lib.hid hB
  have l1 : w'.cell? ⟨L.p2, 0, none⟩ = some (.pointer (some ⟨L.pb, 0, none⟩)) := hU'.p2x.cell 0
  have b1 := hU'.p2x.lt
  have hk0 : (0 : Int) ≤ (k : Int) := Int.natCast_nonneg _
  have hk9 : (k : Int) ≤ 90000 := by omega
  have hk1 : ((k : Int) + 1 == 0) = false := by simp; omega
  have HE := Lib.hid hw'
  have hcast : ((k + 1 : Nat) : Int) = (k : Int) + 1 := by omega
  rw [hcast]
  unfold ptr
  clear hI hP hS hU hT hss hin hsp hbd hU' hUw hB hnm hnn hns hl1 hK' hw'
  rw [HB.out]
  have hap : ls ++ nm :: bindN av (st ++ [nm]) k = ls ++ [nm] ++ bindN av (st ++ [nm]) k := by simp
  have hap2 : st ++ nm :: bindN av (st ++ [nm]) k = (st ++ [nm]) ++ bindN av (st ++ [nm]) k := by simp
  rw [hap, hap2]
  have c1 : (w.alloc (.cells #[.int .i64 ((k : Int) + 1)] 3)).cell? ⟨L.p2, 0, none⟩ = some (.pointer (some ⟨L.pb, 0, none⟩)) := by rw [← HE.out]; exact l1
  have c2 : L.p2 < (w.alloc (.cells #[.int .i64 ((k : Int) + 1)] 3)).heap.size := by rw [← HE.out]; exact b1
  clear l1 b1 hap hap2
  rw [HE.out] at HBd
  go_enter Tryz.func37, Tryz.ntmps37
  go_wp2_with fail
  refine HBd.out.mono ?_
  rintro e w3 ⟨⟨v3, rfl⟩, sv3, hP3, hC3, hO3, hR3⟩
  have HP3 := Lib.hid hP3
  have HC3 := Lib.hid hC3
  have HO3 := Lib.hid hO3
  have HR3 := Lib.hid hR3
  clear hP3 hC3 hO3 hR3 c1 c2 HBd
  go_wp2
  go_end0
  have he := HE.out
  subst he
  obtain ⟨lv3, hU3, hL3⟩ := HU'.out.at_un HC3.out HP3.out HR3.out
  refine ⟨⟨_, rfl⟩, sv3, lv3, hU3, (Ch.of_under HUw.out).trans HC3.out (fun i _ h => h), fun b hb e => HO3.out b (by omega) e, fun b hb e => hL3 b (by omega) e⟩
theorem under_any (T : Tm) (hok : okT T) (hd : deepT T ≤ 60) (hn : (flat T).length ≤ 4000) (hW : WordsOk T) : ∀ k, UnderOk T k
  | 0 => under_zero T hok hd hn hW
  | k + 1 => under_succ T k (under_any T hok hd hn hW k)
end Go.Proofs.YtiibknlpeodejaaGreatDoor

/- A range over a function whose iterator turns no cell: the iterator's word, and the caller's law. -/
namespace Go.Lx
open Go.RowKit

variable {F : Fence} {n : Nat} {P : Program}
/-- The blocks of R are as they were. -/
abbrev KeptR (R : Nat → Prop) (W W' : World) : Prop := Kept R none W W'
/-- The iterator's word, where it turns no cell: it hands out these things, one by one. -/
def IterU {α : Type} (F : Fence) (n : Nat) (P : Program) (gf : Nat) (lb : Array Value) (encs : α → Array Value) (R : Nat → Prop) (xs : List α) (w : World) : Prop :=
  ∀ (l : Nat) (J : List α → World → Prop) (Jx : List α → World → Prop) (W : World), Under w W →
    (∀ pre A A', J pre A → Under A A' → J pre A') →
    (∀ pre x A, J pre A → pre ++ [x] <+: xs → YieldAt F (n - 1) P l (encs x) A fun e A' =>
      (e = .returned (.bool true) ∧ J (pre ++ [x]) A' ∧ KeptR R A A') ∨ (e = .returned (.bool false) ∧ Jx (pre ++ [x]) A')) →
    J [] W →
    CallsIn F n P gf (#[.func (.yield l) #[] #[]] ++ lb) W fun e W' => (∃ v, e = .returned v) ∧ (J xs W' ∨ ∃ pre, Jx pre W')

/-- How a round may be left. -/
def iterPostU {α : Type} (B : Nat) (R : Nat → Prop) (I : List α → World → Prop) (Ix : Code → List α → World → Prop) (xs : List α) (W : World) : Exit → Act → World → Prop
  | .normal, _, W' => KeepsFrom B W W' ∧ KeptR R W W' ∧ I xs W'
  | .ret, _, W' => KeepsFrom B W W' ∧ Ix .ret xs W'
  | .exit id, _, W' => KeepsFrom B W W' ∧ Ix (.exit id) xs W'
  | .goto t, _, W' => KeepsFrom B W W' ∧ Ix (.goto t) xs W'
  | .panic _, _, _ => False
  | .outgrown, _, _ => False

/-- The statement 'for .. := range g': what the caller owes is an invariant and one walk of its own body. -/
theorem wpIn_rangeFunc_iterU {α : Type} {g : Operand} {ps : Array Tmp} {assign body : Code} {Q : Exit → Act → World → Prop} {a : Act} {w w0 : World}
    (hro : F.round = none) (h1 : 1 ≤ n) {gf : Nat} {lb : Array Value} (hg : a.eval g = .func (.func gf) #[] lb) (hFg : F.fn gf) (eg : ∀ args w, (callFunc gf args).run P w = .ok (.enter gf args) w)
    {encs : α → Array Value} {R : Nat → Prop} {xs : List α} (hit : IterU F (n - 1) P gf lb encs R xs w0) (hU : Under w0 w) (hps : ∀ x, (encs x).size = ps.size) (hR : ∀ k, R k → k < w.heap.size)
    (I : List α → World → Prop) (Ix : Code → List α → World → Prop)
    (hI : ∀ pre A A', I pre A → Under A A' → w.heap.size ≤ A.heap.size → I pre A')
    (hIo : ∀ pre A l o o', I pre A → w.heap.size ≤ l → A.heap[l]? = some o → o.isCells = false → I pre (A.putObj l o'))
    (hIx : ∀ c pre A l o o', Ix c pre A → w.heap.size ≤ l → A.heap[l]? = some o → o.isCells = false → Ix c pre (A.putObj l o'))
    (h0 : I [] w) (a₁ : α → Act)
    (hassign : ∀ (l : Nat) (x : α) (W : World) (K : Act → World → Prop), K (a₁ x) W →
      assign.wpIn (F.inRound l) (n - 1 - 1) P (Exit.then K (fun _ _ _ => False)) { tmps := (ps.zip (encs x)).foldl (fun t (p, v) => t.setIfInBounds p v) a.tmps, defers := [] } W)
    (hbody : ∀ (l : Nat) (pre : List α) (x : α) (W : World), w.heap.size ≤ W.heap.size → I pre W → pre ++ [x] <+: xs → body.wpIn (F.inRound l) (n - 1 - 1) P (iterPostU w.heap.size R I Ix (pre ++ [x]) W) (a₁ x) W)
    (hdone : ∀ (D : Nat) (W : World), w.heap.size ≤ D → I xs W → W.heap[D]? = some (.deferred (some [])) → Q .normal { a with defers := { target := .collected D, args := #[] } :: a.defers } W)
    (hstop : ∀ (D : Nat) (c : Code) (pre : List α) (W : World), w.heap.size ≤ D → Ix c pre W → W.heap[D]? = some (.deferred (some [])) → c.wpIn F n P Q { a with defers := { target := .collected D, args := #[] } :: a.defers } W) :
    (Code.rangeFunc g ps assign body).wpIn F n P Q a w := by
  refine wpIn_rangeFunc fun fn hfn => ?_
  rw [hro]
  obtain ⟨L, hL⟩ : ∃ L : LoopState → Option Code → Loop, L = fun st pe => { state := st, pending := pe, fn, tmps := a.tmps, params := ps, assign, body, defers := w.heap.size } := ⟨_, rfl⟩
  obtain ⟨W1, hW1⟩ : ∃ W1, W1 = (w.alloc (.deferred (some []))).alloc (.loop (L .ready none)) := ⟨_, rfl⟩
  have hz1 : W1.heap.size = w.heap.size + 2 := by rw [hW1]; simp
  have hU1 : Under w W1 := by rw [hW1]; exact under_alloc (under_alloc (Under.refl _) _) _
  have hl1 : W1.heap[w.heap.size + 1]? = some (.loop (L .ready none)) := by
    rw [hW1, alloc_heap]
    have : (w.alloc (.deferred (some []))).heap.size = w.heap.size + 1 := by simp
    rw [← this, Array.getElem?_push_size]
  have hd1 : W1.heap[w.heap.size]? = some (.deferred (some [])) := by
    rw [hW1, alloc_heap, Array.getElem?_push_lt (by simp), ← Array.getElem?_eq_getElem]
    show (w.heap.push _)[w.heap.size]? = _
    rw [Array.getElem?_push_size]
  have hI1 : I [] W1 := hI _ _ _ h0 hU1 (Nat.le_refl _)
  refine ⟨w.heap.size + 1, [{ target := .collected w.heap.size, args := #[] }], W1, { target := .fn (.func gf) lb, args := #[.func (.yield (w.heap.size + 1)) #[] #[]] }, W1, gf,
    #[.func (.yield (w.heap.size + 1)) #[] #[]] ++ lb, W1, ?_, ?_, ?_, ?_, fun _ => h1, ?_⟩
  · rw [hW1, hL]; exact run_enterLoop_outer _ _ _ _ _
  · simp only [resolve, hg]
    simp [go_sem]
  · intro f' hf'; simp [Target.leads] at hf'; subst hf'; exact hFg
  · simp [invoke, go_sem, eg]
  · refine (hit (w.heap.size + 1)
      (fun pre W => I pre W ∧ W.heap[w.heap.size + 1]? = some (.loop (L .ready none)) ∧ W.heap[w.heap.size]? = some (.deferred (some [])))
      (fun pre W => ∃ c, Ix c pre W ∧ W.heap[w.heap.size + 1]? = some (.loop (L .done (some c))) ∧ W.heap[w.heap.size]? = some (.deferred (some [])))
      W1 (hU.trans hU1) ?_ ?_ ⟨hI1, hl1, hd1⟩).mono ?_
    · rintro pre A A' ⟨hi, hl, hd⟩ hs
      have hlt := (Array.getElem?_eq_some_iff.1 hl).1
      exact ⟨hI pre A A' hi hs (by omega), (hs.low _ hlt).trans hl, (hs.low _ (by omega)).trans hd⟩
    · rintro pre x W ⟨hi, hl, hd⟩ hpre
      have hlt := (Array.getElem?_eq_some_iff.1 hl).1
      have hy := run_yield (P := P) (args := encs x) hl (by rw [hL]; exact hps x)
      rw [hL] at hy
      refine ⟨fn, _, assign, body, hy, roundIn_of_wpIn hfn (hassign _ x W _ ⟨_, run_beginRound hl (by rw [hL]), ?_⟩)⟩
      have hl2 : (W.putObj (w.heap.size + 1) (.loop { L .ready none with state := .busy })).heap[w.heap.size + 1]? = some (.loop { L .ready none with state := .busy }) := World.putObj_heap_same hlt
      have hd2 : (W.putObj (w.heap.size + 1) (.loop { L .ready none with state := .busy })).heap[w.heap.size]? = some (.deferred (some [])) := (World.putObj_heap_other (by omega)).trans hd
      have hnR : ¬ R (w.heap.size + 1) := fun h => by have := hR _ h; omega
      have hnb : (none : Option Nat) ≠ some (w.heap.size + 1) := fun e => by cases e
      refine wpIn_mono (hbody _ pre x _ (by simp; omega) (hIo _ _ _ _ _ hi (by omega) hl rfl) hpre) ?_
      have fin : ∀ (jump : Option Code) (W3 : World), KeepsFrom w.heap.size (W.putObj (w.heap.size + 1) (.loop { L .ready none with state := .busy })) W3 →
          (Instr.endRound (w.heap.size + 1) jump).run P W3 = .ok (.bool jump.isNone) (W3.putObj (w.heap.size + 1) (.loop (L (if jump.isNone then .ready else .done) jump))) ∧
          W3.heap[w.heap.size + 1]? = some (.loop { L .ready none with state := .busy }) ∧
          (W3.putObj (w.heap.size + 1) (.loop (L (if jump.isNone then .ready else .done) jump))).heap[w.heap.size + 1]? = some (.loop (L (if jump.isNone then .ready else .done) jump)) ∧
          (W3.putObj (w.heap.size + 1) (.loop (L (if jump.isNone then .ready else .done) jump))).heap[w.heap.size]? = some (.deferred (some [])) := fun jump W3 hk3 => by
        have hl3 := hk3.same _ _ (by omega) hl2 rfl
        have := run_endRound (P := P) jump hl3
        rw [hL] at this ⊢
        exact ⟨this, by rw [hL] at hl3; exact hl3, World.putObj_heap_same (Array.getElem?_eq_some_iff.1 hl3).1, (World.putObj_heap_other (by omega)).trans (hk3.same _ _ (by omega) hd2 rfl)⟩
      rintro e a3 W3 hp
      cases e with
      | normal =>
        obtain ⟨hk3, hkp3, hi3⟩ := hp
        obtain ⟨hr, hl3, hl4, hk4⟩ := fin none W3 hk3
        exact ⟨_, _, hr, .inl ⟨rfl, ⟨hIo _ _ _ _ _ hi3 (by omega) hl3 rfl, hl4, hk4⟩, ((Kept.putObj _ hnR hnb).trans hkp3).trans (Kept.putObj _ hnR hnb)⟩⟩
      | ret =>
        obtain ⟨hk3, hi3⟩ := hp
        obtain ⟨hr, hl3, hl4, hk4⟩ := fin (some .ret) W3 hk3
        exact ⟨_, _, hr, .inr ⟨rfl, .ret, hIx _ _ _ _ _ _ hi3 (by omega) hl3 rfl, hl4, hk4⟩⟩
      | exit id =>
        obtain ⟨hk3, hi3⟩ := hp
        obtain ⟨hr, hl3, hl4, hk4⟩ := fin (some (.exit id)) W3 hk3
        exact ⟨_, _, hr, .inr ⟨rfl, .exit id, hIx _ _ _ _ _ _ hi3 (by omega) hl3 rfl, hl4, hk4⟩⟩
      | goto t =>
        obtain ⟨hk3, hi3⟩ := hp
        obtain ⟨hr, hl3, hl4, hk4⟩ := fin (some (.goto t)) W3 hk3
        exact ⟨_, _, hr, .inr ⟨rfl, .goto t, hIx _ _ _ _ _ _ hi3 (by omega) hl3 rfl, hl4, hk4⟩⟩
      | panic ch => exact hp.elim
      | outgrown => exact hp.elim
    · rintro e W2 ⟨⟨v, rfl⟩, (⟨hi, hl, hk⟩ | ⟨pre, c, hi, hl, hk⟩)⟩
      · exact ⟨none, _, by have := run_endLoop (P := P) hl (by rw [hL]; simp); rw [hL] at this; exact this, hdone _ _ (Nat.le_refl _) (hIo _ _ _ _ _ hi (by omega) hl rfl) ((World.putObj_heap_other (by omega)).trans hk)⟩
      · exact ⟨some c, _, by have := run_endLoop (P := P) hl (by rw [hL]; simp); rw [hL] at this; exact this, hstop _ c pre _ (Nat.le_refl _) (hIx _ _ _ _ _ _ hi (by omega) hl rfl) ((World.putObj_heap_other (by omega)).trans hk)⟩
end Go.Lx

/- term.Args: where the parts of a term begin; slices.Clone of nodes; term.backward, an iterator: its word. -/
namespace Go.Proofs.YtiibknlpeodejaaGreatDoor
open Go.Lx Go.RowKit
attribute [local go_sem] Oper.semAt_some

theorem measGo_trees : ∀ (l : List Tm), okTs l → ∀ (all : List (Nat × Nat)) (Fs : List Tm), ∃ all', measGo (flats l) (flats Fs).length all (measF 0 Fs) = some (all ++ all', measF 0 (Fs ++ l)) ∧ all'.length = (flats l).length
  | [], _, all, Fs => ⟨[], by simp [flats, measGo], rfl⟩
  | a :: l, h, all, Fs => by
    obtain ⟨a1, h1, h2, _⟩ := measGo_tree a h.1 all Fs
    obtain ⟨a2, h3, h4⟩ := measGo_trees l h.2 (all ++ a1) (Fs ++ [a])
    refine ⟨a1 ++ a2, ?_, by simp [flats, h2, h4]⟩
    rw [flats, measGo_app, h1]
    simp only [Option.bind_some]
    have : (flats Fs).length + (flat a).length = (flats (Fs ++ [a])).length := by rw [flats_app]; simp [flats]
    rw [this, h3, List.append_assoc, List.append_assoc]
    rfl
theorem take_flats {l : List Tm} {M : Nat} (hM : M < l.length) : flats (l.take (M + 1)) = flats (l.take M) ++ flat l[M] := by
  rw [List.take_succ_eq_append_getElem hM, flats_app]
  simp [flats]
/-- A part begins where its root's measure says. -/
theorem from_at {x : Nd} {l : List Tm} (hok : okTs l) {all op : List (Nat × Nat)} (hm : measGo (flat (.mk x l)) 0 [] [] = some (all, op)) {M : Nat} (hM : M < l.length) : ∃ d, all[(flats (l.take (M + 1))).length - 1]? = some ((flats (l.take M)).length, d) := by
  have h0 := hok
  rw [← List.take_append_drop M l] at h0
  obtain ⟨hT, hD⟩ := okTs_app.1 h0
  rw [List.drop_eq_getElem_cons hM] at hD
  obtain ⟨a1, p1, p2⟩ := measGo_trees (l.take M) hT [] []
  obtain ⟨a2, q1, q2, q3⟩ := measGo_tree l[M] hD.1 a1 (l.take M)
  have hf : flat (.mk x l) = flats (l.take M) ++ (flat l[M] ++ (flats (l.drop (M + 1)) ++ [x])) := by
    rw [flat]
    conv => lhs; rw [← List.take_append_drop M l]
    rw [flats_app, List.drop_eq_getElem_cons hM, flats]
    simp only [List.append_assoc]
  rw [hf, measGo_app] at hm
  simp only [flats, List.length_nil, measF, List.nil_append] at p1
  rw [p1] at hm
  simp only [Option.bind_some, Nat.zero_add] at hm
  rw [measGo_app, q1] at hm
  simp only [Option.bind_some] at hm
  refine ⟨deepT l[M], ?_⟩
  have hpos := flat_len l[M]
  have hall : ∃ r, all = (a1 ++ a2) ++ r := by
    generalize flats (l.drop (M + 1)) ++ [x] = t at hm
    revert hm
    generalize (flats (l.take M)).length + (flat l[M]).length = k
    generalize measF 0 (l.take M ++ [l[M]]) = o
    generalize a1 ++ a2 = A
    induction t generalizing k A o with
    | nil => intro hm; cases hm; exact ⟨[], by simp⟩
    | cons y t ih =>
      intro hm
      unfold measGo at hm
      split at hm
      · cases hm
      · obtain ⟨r, hr⟩ := ih _ _ _ hm
        exact ⟨_, by rw [hr, List.append_assoc]⟩
  obtain ⟨r, rfl⟩ := hall
  rw [take_flats hM, List.length_append]
  rw [List.getElem?_append_left (by rw [List.length_append]; omega), List.getElem?_append_right (by omega)]
  rw [List.getLast?_eq_getElem?] at q3
  rw [← q3]
  congr 1
  omega
section
variable {w0 : World}
theorem Tryz.infoNdZ : (Tryz.prog.info? 38).map (fun i => (i.zero, i.size, i.bytes)) = some (some (.agg #[.int .i64 0, .int .i64 0, .int .i64 0, .string ⟨#[]⟩]), 4, 40) := by kernel_rfl
theorem ndCells_one (t : List Nd) : ∀ u ∈ ndCells t, u.oneCell' = true := by
  induction t with
  | nil => intro u hu; simp [ndCells] at hu
  | cons x t ih =>
    intro u hu
    simp only [ndCells, List.mem_cons] at hu
    rcases hu with rfl | rfl | rfl | rfl | hu
    · rfl
    · rfl
    · rfl
    · rfl
    · exact ih u hu
set_option maxRecDepth 100000 in
theorem cloneNd_any (t : List Nd) {b off c : Nat} (hn : t.length ≤ 100000) (hc : t.length ≤ c) (hr : RowArg w0 (some ⟨b, off, none⟩) (ndCells t)) : Calls Tryz.prog 62 #[.slice (some ⟨b, off, none⟩) t.length c] w0 fun e w => ∃ v, e = .returned v ∧ w.ownsRow w0.heap.size 38 4 v t.length (ndCells t) ∧ Under w0 w := by
  obtain ⟨i0, hi, hz0, hz1, hz2⟩ := info_parts Tryz.infoNdZ
  have eqn := Lib.run_eql_slice_nil (P := Tryz.prog) w0 22 38 (some ⟨b, off, none⟩) t.length c 0 0 Tryz.underlying22
  have HR := Lib.hid hr
  clear hr
  go_enter Tryz.func62, Tryz.ntmps62
  go_wp2_with (at_builtin; refine wpList_append_read rfl _ _ 22 rfl w0.heap.size 38 i0 _ 4 40 Tryz.underlying22 hi hz0 hz1 hz2 rfl (by decide) _ _ _ rfl (row_emptyZ w0 w0.heap.size _ _ (Nat.le_refl _)) (some ⟨b, off, none⟩) t.length c (ndCells t) rfl (ndCells_len t) hc (fun h => by cases h) (HR.out.under (under_alloc (Under.refl _) _)) (ndCells_one t) (by simp only [maxLen]; omega) (by omega) (by simp) ?_)
  intro v1 w1 hown hgrow
  replace hown : w1.ownsRow w0.heap.size 38 4 v1 t.length (ndCells t) := by simpa using hown
  have HO := Lib.hid hown
  have HU := Lib.hid (under_grown (under_alloc (Under.refl w0) _) hgrow fun z e => by cases e; exact Nat.le_refl _)
  obtain ⟨q, d, rfl, _, _⟩ := RowArg.of_own hown
  clear hown hgrow
  go_wp2
  go_ret
  exact ⟨_, rfl, HO.out, HU.out⟩
end
set_option maxRecDepth 100000 in
theorem backwardCall (p q : Option Addr) (n c n2 c2 : Nat) (w : World) : Calls Tryz.prog 61 #[.slice p n c, .slice q n2 c2] w fun e w' => e = .returned (.func (.func 79) #[] #[.pointer (some ⟨w.heap.size, 0, none⟩), .pointer (some ⟨w.heap.size + 1, 0, none⟩)]) ∧ w' = (w.alloc (.cells #[.slice p n c] 22)).alloc (.cells #[.slice q n2 c2] 78) := by
  go_enter Tryz.func61, Tryz.ntmps61
  go_wp2
  go_ret
  exact ⟨rfl, rfl⟩
/-- Where the parts begin, from the last one on. -/
def starts (l : List Tm) (M : Nat) : Nat := (flats (l.take M)).length
def itemsGo (l : List Tm) : Nat → List (Nat × Nat × Nat)
  | 0 => []
  | M + 1 => (M, starts l M, starts l (M + 1) - starts l M) :: itemsGo l M
def encA (b off c : Nat) (x : Nat × Nat × Nat) : Array Value := #[.int .i64 (x.1 : Int), .slice (some ⟨b, off + x.2.1 * 4, none⟩) x.2.2 (c - x.2.1)]
noncomputable def bkText : Code := Tryz.f79.body.getD .skip
noncomputable def bkRound : Code := inOf (inOf (sndOf (sndOf bkText)))
def bkFrame (yf : Value) (tb mb E : Nat) (i : Int) (J : Nat → Value) : Array Value := #[yf, .pointer (some ⟨tb, 0, none⟩), .pointer (some ⟨mb, 0, none⟩), J 3, .int .i64 (E : Int), .int .i64 i, J 6, J 7, J 8, J 9, J 10, J 11, J 12, J 13, J 14, J 15, J 16, J 17, J 18, J 19, J 20, J 21, J 22, J 23, J 24, J 25, J 26, J 27, J 28, J 29, J 30, J 31, J 32, J 33, J 34]
section
variable {W0 : World} {tb mb n : Nat} {Jd : World → Prop} {Jx : World → Prop} {R : Nat → Prop}
/-- The iterator's boxes. -/
def BBox (tb mb : Nat) (vt vm : Value) (A : World) : Prop := BoxAt A tb 22 #[vt] ∧ BoxAt A mb 78 #[vm]
theorem BBox.under {tb mb : Nat} {vt vm : Value} {A B : World} (h : BBox tb mb vt vm A) (hU : Under A B) : BBox tb mb vt vm B := ⟨h.1.under hU, h.2.under hU⟩
theorem BBox.kept {tb mb : Nat} {vt vm : Value} {A B : World} {R : Nat → Prop} (h : BBox tb mb vt vm A) (hk : KeptR R A B) (h1 : R tb) (h2 : R mb) : BBox tb mb vt vm B := ⟨(hk.same _ h.1.lt (.inl h1)).trans h.1, (hk.same _ h.2.lt (.inl h2)).trans h.2⟩
def BNext (W0 : World) (vt vm : Value) (tb mb E : Nat) (i : Int) (Jd : World → Prop) (yf : Value) (a : Act) (A : World) : Prop := ∃ J, a = ⟨bkFrame yf tb mb E i J, []⟩ ∧ Jd A ∧ Under W0 A ∧ BBox tb mb vt vm A
def BStop (Jx : World → Prop) (e : Exit) (a : Act) (A : World) : Prop := e = .ret ∧ a.defers = [] ∧ Jx A
set_option maxRecDepth 100000 in
set_option maxHeartbeats 1000000 in
theorem bk_one {l b off c N M E s g mc mn : Nat} {vt vm : Value} (hR : ∀ k, k < W0.heap.size → R k) (hRt : R tb) (hRm : R mb) (hvt : vt = .slice (some ⟨b, off, none⟩) N c) (hvm : vm = .slice (some ⟨g, 0, none⟩) mn mc) (hM : M ≤ 8) (hE : E ≤ N) (hsE : s < E) (hN : N ≤ c) (hN4 : N ≤ 4000) (hb : b < W0.heap.size)
    (hmn : E ≤ mn) (hg : g < W0.heap.size) (hc : W0.cell? ⟨g, (E - 1) * 2, none⟩ = some (.int .i64 (s : Int)))
    (J : Nat → Value) (A : World) (hA : Under W0 A) (hBx : BBox tb mb vt vm A)
    (hY : ∀ A2, Under A A2 → YieldAt Fence.wide (n - 1) Tryz.prog l (encA b off c (M, s, E - s)) A2 fun e A' => (e = .returned (.bool true) ∧ Jd A' ∧ KeptR R A2 A') ∨ (e = .returned (.bool false) ∧ Jx A')) :
    bkRound.wpIn Fence.wide n Tryz.prog (Exit.then (BNext W0 vt vm tb mb s ((M : Int) - 1) Jd (.func (.yield l) #[] #[])) (BStop Jx)) ⟨bkFrame (.func (.yield l) #[] #[]) tb mb E (M : Int) J, []⟩ A := by
  subst hvt hvm
  have HBx := Lib.hid hBx
  have HTb := Lib.hid hBx.1
  have HMb := Lib.hid hBx.2
  have HRt := Lib.hid (And.intro hRt hRm)
  have t0 := HTb.out.cell 0
  have tl := HTb.out.lt
  have m0 := HMb.out.cell 0
  have ml := HMb.out.lt
  obtain ⟨y, rfl⟩ : ∃ y, E = y + 1 := ⟨E - 1, by omega⟩
  rw [Nat.add_sub_cancel, ← under_cell hA hg] at hc
  have hgA := Nat.lt_of_lt_of_le hg hA.size
  obtain ⟨fn, tmps, assign, body, hy, hRd⟩ := hY A (Under.refl A)
  have HA := Lib.hid hA
  have HRr := Lib.hid hR
  have HRd := Lib.hid hRd
  have hy0 : (0 : Int) ≤ (y : Int) := by omega
  have hy1 : (y : Int) ≤ 4000 := by omega
  have hM0 : (0 : Int) ≤ (M : Int) := by omega
  have hM8 : (M : Int) ≤ 8 := by omega
  have hs0 : (0 : Int) ≤ (s : Int) := by omega
  have hsy : (s : Int) ≤ (y : Int) + 1 := by omega
  have hym : (y : Int) < (mn : Int) := by omega
  have hyc : (y : Int) + 1 ≤ (c : Int) := by omega
  have hsc : ¬ c = s := by omega
  have hye : ((y : Int) + 1 - 1) = (y : Int) := by omega
  clear hY hRd hA hBx hRt hRm hR hN4
  unfold encA at HRd hy
  simp only at HRd hy
  unfold bkRound bkText
  simp only [Tryz.f79, Option.getD_some, sndOf, inOf]
  unfold bkFrame
  gi_wp2
  refine ⟨fun h => absurd h (by decide), ?_⟩
  refine HRd.out.mono ?_
  rintro e A3 (⟨rfl, hj1, hk1'⟩ | ⟨rfl, hx1⟩)
  · have HJ1 := Lib.hid hj1
    have HU3 := Lib.hid (HA.out.kept hk1' HRr.out)
    have HB3 := Lib.hid (HBx.out.kept hk1' HRt.out.1 HRt.out.2)
    clear hj1 hk1'
    gi_wp2
    exact frame_ex (F := bkFrame (.func (.yield l) #[] #[]) tb mb s ((M : Int) - 1)) (by rfl) ⟨HJ1.out, HU3.out, HB3.out⟩
  · have HX1 := Lib.hid hx1
    clear hx1
    gi_wp2
    exact ⟨rfl, rfl, HX1.out⟩
end
section
variable {W0 w : World} {tb mb b off c N g mn mc n : Nat} {L : List Tm}
/-- At the loop's head. -/
def BkI (W0 : World) (vt vm : Value) (tb mb : Nat) (L : List Tm) (J : List (Nat × Nat × Nat) → World → Prop) (l M : Nat) (a : Act) (A : World) : Prop :=
  ∃ pre, pre ++ itemsGo L M = itemsGo L L.length ∧ M ≤ L.length ∧ BNext W0 vt vm tb mb (starts L M) ((M : Int) - 1) (J pre) (.func (.yield l) #[] #[]) a A
/-- What the iterator's loop comes to. -/
def BkD (J : List (Nat × Nat × Nat) → World → Prop) (Jx : List (Nat × Nat × Nat) → World → Prop) (L : List Tm) (e : Exit) (a : Act) (A : World) : Prop :=
  a.defers = [] ∧ ((e = .exit 0 ∧ J (itemsGo L L.length) A) ∨ (e = .ret ∧ ∃ pre, Jx pre A))
theorem starts_lt {L : List Tm} {M : Nat} (hM : M < L.length) : starts L M < starts L (M + 1) := by
  unfold starts
  rw [take_flats hM, List.length_append]
  have := flat_len L[M]
  omega
theorem starts_le {L : List Tm} {M : Nat} (hM : M ≤ L.length) : starts L M ≤ (flats L).length := by
  unfold starts
  have := congrArg List.length (flats_app (L.take M) (L.drop M))
  rw [List.take_append_drop, List.length_append] at this
  omega
set_option maxRecDepth 100000 in
theorem bk_rounds {l : Nat} {vt vm : Value} {J : List (Nat × Nat × Nat) → World → Prop} {Jx : List (Nat × Nat × Nat) → World → Prop} (hL : L.length ≤ 8) (hN : (flats L).length + 1 ≤ N) (hNc : N ≤ c) (hN4 : N ≤ 4000) (hb : b < W0.heap.size)
    (hvt : vt = .slice (some ⟨b, off, none⟩) N c) (hvm : vm = .slice (some ⟨g, 0, none⟩) mn mc) (hmn : N ≤ mn) (hg : g < W0.heap.size)
    (hc : ∀ M, M < L.length → W0.cell? ⟨g, (starts L (M + 1) - 1) * 2, none⟩ = some (.int .i64 (starts L M : Int)))
    (hJ : ∀ pre A A', J pre A → Under A A' → J pre A')
    (hY : ∀ pre x A, J pre A → pre ++ [x] <+: itemsGo L L.length → YieldAt Fence.wide (n - 1) Tryz.prog l (encA b off c x) A fun e A' =>
      (e = .returned (.bool true) ∧ J (pre ++ [x]) A' ∧ KeptR (fun k => k < W0.heap.size ∨ k = tb ∨ k = mb) A A') ∨ (e = .returned (.bool false) ∧ Jx (pre ++ [x]) A'))
    (m : Nat) (a : Act) (A : World) (h0 : BkI W0 vt vm tb mb L J l m a A) :
    (Code.loop bkRound).wpIn Fence.wide n Tryz.prog (BkD J Jx L) a A := by
  refine wpIn_wide.2 (wp_loop_ghost (BkI W0 vt vm tb mb L J l) m h0 ?_)
  clear h0
  rintro m a A ⟨pre, hpre, hm, Jn, rfl, hj, hU, hBx⟩
  refine (wpIn_wide (n := n)).1 ?_
  cases m with
  | zero =>
    rw [itemsGo, List.append_nil] at hpre
    subst hpre
    have HJ := Lib.hid hj
    clear hj hY hJ hU hc hBx
    unfold bkRound bkText
    simp only [Tryz.f79, Option.getD_some, sndOf, inOf]
    unfold bkFrame
    rw [show (((0 : Nat) : Int) - 1) = -1 by rfl]
    gi_wp2
    exact ⟨rfl, .inl ⟨rfl, HJ.out⟩⟩
  | succ m =>
    have hs := starts_lt hm
    have hle := starts_le hm
    have hpr : pre ++ [(m, starts L m, starts L (m + 1) - starts L m)] <+: itemsGo L L.length := ⟨itemsGo L m, by rw [← hpre, itemsGo, List.append_assoc]; rfl⟩
    rw [show (((m + 1 : Nat) : Int) - 1) = (m : Int) by omega]
    refine wpIn_mono (bk_one (Jd := J (pre ++ [(m, starts L m, starts L (m + 1) - starts L m)])) (Jx := Jx (pre ++ [(m, starts L m, starts L (m + 1) - starts L m)])) (R := fun k => k < W0.heap.size ∨ k = tb ∨ k = mb) (l := l) (n := n) (N := N) (fun k hk => .inl hk) (.inr (.inl rfl)) (.inr (.inr rfl)) hvt hvm (by omega) (by omega) hs hNc hN4 hb (by omega) hg (hc m hm) Jn A hU hBx
      (fun A2 h2 => hY _ _ A2 (hJ _ _ _ hj h2) hpr)) ?_
    rintro e a' A' h
    cases e with
    | normal => exact ⟨m, by omega, _, by rw [← hpre, itemsGo, List.append_assoc]; rfl, by omega, h⟩
    | _ => exact ⟨h.2.1, .inr ⟨h.1, _, h.2.2⟩⟩
set_option maxRecDepth 100000 in
set_option maxHeartbeats 1000000 in
theorem backward_iter {W0 : World} {x : Nd} (hx : rightB x = true) (hlx : L.length = (binds x).length) (hN : (flats L).length + 1 = N) (hNc : N ≤ c) (hN4 : N ≤ 4000) (hU0 : Under W0 w) (hb : b < W0.heap.size)
    (x0 : W0.cell? ⟨b, off + (flats L).length * 4, none⟩ = some (.int .i64 x.k)) (x1 : W0.cell? ⟨b, off + (flats L).length * 4 + 1, none⟩ = some (.int .i64 x.n)) (x2 : W0.cell? ⟨b, off + (flats L).length * 4 + 2, none⟩ = some (.int .i64 x.m)) (x3 : W0.cell? ⟨b, off + (flats L).length * 4 + 3, none⟩ = some (.string x.s))
    (hS : ShapesAt 0 W0)
    (hT : BoxAt w tb 22 #[.slice (some ⟨b, off, none⟩) N c]) (hMb : BoxAt w mb 78 #[.slice (some ⟨g, 0, none⟩) mn mc]) (hmn : N ≤ mn) (hg : g < W0.heap.size)
    (hc : ∀ M, M < L.length → W0.cell? ⟨g, (starts L (M + 1) - 1) * 2, none⟩ = some (.int .i64 (starts L M : Int))) :
    IterU Fence.wide n Tryz.prog 79 #[.pointer (some ⟨tb, 0, none⟩), .pointer (some ⟨mb, 0, none⟩)] (encA b off c) (fun k => k < W0.heap.size ∨ k = tb ∨ k = mb) (itemsGo L L.length) w := by
  intro l J Jx W hW' hJ hY h0
  have hW := hU0.trans hW'
  have hL := binds_len hx
  rw [← hlx] at hL
  have HM := Lib.hid (many_any x W (hS.under hW) hx)
  rw [← hlx] at HM
  have HL := Lib.hid (bk_rounds (n := n) (l := l) (tb := tb) (mb := mb) (c := c) (b := b) (off := off) (N := N) (g := g) (mn := mn) (mc := mc) (L := L) (W0 := W0) (vt := .slice (some ⟨b, off, none⟩) N c) (vm := .slice (some ⟨g, 0, none⟩) mn mc) (J := J) (Jx := Jx) hL (by omega) hNc hN4 hb rfl rfl hmn hg hc hJ hY L.length)
  have HBx := Lib.hid (show BBox tb mb (.slice (some ⟨b, off, none⟩) N c) (.slice (some ⟨g, 0, none⟩) mn mc) W from ⟨hT.under hW', hMb.under hW'⟩)
  have HB := Lib.hid (hT.under hW')
  have eb := HB.out.cell 0
  have elt := HB.out.lt
  rw [← under_cell hW hb] at x0 x1 x2 x3
  have hbW := Nat.lt_of_lt_of_le hb hW.size
  have HU := Lib.hid hW
  have H0 := Lib.hid h0
  have HJ := Lib.hid hJ
  have HSt := Lib.hid (show starts L L.length = (flats L).length by unfold starts; rw [List.take_length])
  obtain ⟨z, hz⟩ : ∃ z, z = (flats L).length := ⟨_, rfl⟩
  have HZ := Lib.hid hz
  rw [← hz] at x0 x1 x2 x3
  obtain rfl : N = z + 1 := by omega
  have hz1 : (z : Int) ≤ 4000 := by omega
  have hz0 : (0 : Int) ≤ z := Int.natCast_nonneg _
  have hze : ((z : Int) + 1 - 1) = (z : Int) := by omega
  have hL0 : (0 : Int) ≤ (L.length : Int) := Int.natCast_nonneg _
  have hL8 : (L.length : Int) ≤ 8 := by omega
  clear hJ hY h0 hS hT hMb hc hz hN hlx hL hW hW'
  unfold ndV at HM
  refine callsIn_of_wp Tryz.func79 rfl trivial ?_ rfl
  simp only [Tryz.ntmps79, List.size_toArray, List.length_cons, List.length_nil, Nat.reduceAdd, Nat.reduceSub, Array.replicate_succ, Array.replicate_zero, List.push_toArray, List.append_toArray, List.nil_append, List.cons_append]
  gi_wp2
  refine ⟨trivial, fun h => absurd h (by decide), ?_⟩
  refine (callsIn_wide.2 HM.out).mono ?_
  rintro e W2 ⟨rfl, hU2⟩
  have HU2 := Lib.hid hU2
  clear hU2
  gi_wp2
  refine wpIn_mono (HL.out _ _ ⟨[], by simp, Nat.le_refl _, by rw [HSt.out, ← HZ.out]; exact frame_ex (F := bkFrame _ tb mb z ((L.length : Int) - 1)) (by rfl) ⟨HJ.out _ _ _ H0.out HU2.out, HU.out.trans HU2.out, HBx.out.under HU2.out⟩⟩) ?_
  rintro e a' A' ⟨hd, (⟨rfl, hb⟩ | ⟨rfl, pre, hpre⟩)⟩
  · simp only [Exit.inBlock, if_pos]
    exact bodyPost_end (P := Tryz.prog) (fn := Tryz.f79) (R := fun e W' => (∃ v, e = Ending.returned v) ∧ (J (itemsGo L L.length) W' ∨ ∃ pre, Jx pre W')) (results_none rfl _ _ _) hd ⟨⟨_, rfl⟩, .inl hb⟩
  · simp only [Exit.inBlock]
    exact bodyPost_ret (P := Tryz.prog) (fn := Tryz.f79) (R := fun e W' => (∃ v, e = Ending.returned v) ∧ (J (itemsGo L L.length) W' ∨ ∃ pre, Jx pre W')) (results_none rfl _ _ _) hd ⟨⟨_, rfl⟩, .inr ⟨pre, hpre⟩⟩
end
end Go.Proofs.YtiibknlpeodejaaGreatDoor

/- term.Args: its contract. -/
namespace Go.Proofs.YtiibknlpeodejaaGreatDoor
open Go.Lx Go.RowKit
attribute [local go_sem] Oper.semAt_some

theorem under_putO {W w : World} (h : Under W w) {l : Nat} (o : Obj) (hl : W.heap.size ≤ l) : Under W (w.putObj l o) :=
  ⟨h.os, h.output, by simpa using h.size, fun b hb => (World.putObj_heap_other (by omega)).trans (h.low b hb)⟩
theorem box_putO {w : World} {b l : Nat} {t : TypeId} {cs : Array Value} (h : BoxAt w b t cs) {o : Obj} (ho : w.heap[l]? = some o) (hc : o.isCells = false) (o' : Obj) : BoxAt (w.putObj l o') b t cs :=
  (World.putObj_heap_other (fun e => by subst e; have h' := h; unfold BoxAt at h'; rw [h'] at ho; cases ho; cases hc)).trans h
theorem row_putO {w : World} {l base n s : Nat} {e : TypeId} {v : Value} {xs : List Value} (h : w.ownsRow base e s v n xs) {o : Obj} (ho : w.heap[l]? = some o) (hc : o.isCells = false) (o' : Obj) : (w.putObj l o').ownsRow base e s v n xs :=
  row_same h fun g hg => World.putObj_heap_other (fun e => by
    subst e
    rcases h.2 with ⟨rfl, _⟩ | ⟨g', cap, cur, rfl, _, hgg, _⟩
    · cases hg
    · cases hg; rw [hgg] at ho; cases ho; cases hc)
theorem wpListIn_make_full {F : Fence} {n : Nat} {P : Program} (w : World) {ops : Array Oper} {rest : List Oper} {o : Oper} {a : Act} {Q : Exit → Act → World → Prop}
    (hg : o.guard = none) (l c : Operand) (t : TypeId) (hop : o.op = Op.makeSlice t l c)
    (base : Nat) (e : TypeId) (i : TypeInfo) (z : Value) (size : Nat) (h1 : P.underlying t = some (.slice e)) (h2 : P.info? e = some i) (h3 : i.zero = some z) (h4 : i.size = size)
    (kl kc : IntKind) (L C : Int) (m : Nat) (hl : a.eval l = .int kl L) (hc : a.eval c = .int kc C) (hL : L = (m : Int)) (hC : C = (m : Int)) (b2 : i.bytes * m ≤ 281474976710656) (b3 : m ≤ maxLen) (b4 : base ≤ w.heap.size)
    (hK : ∀ w', w'.ownsRow base e size (.slice (some ⟨w.heap.size, 0, none⟩) m m) m (madeCells z.cells (m * size)).toList → w.grownBy w' none → wpListIn F n P ops Q rest (a.put o.dst (.slice (some ⟨w.heap.size, 0, none⟩) m m)) w') :
    wpListIn F n P ops Q (o :: rest) a w := by
  refine wpListIn_plain hg fun K hK' => ?_
  obtain ⟨w', hrun, r1, r2⟩ := run_make_full (P := P) w base t e i z size h1 h2 h3 h4 kl kc m b2 b3 b4
  subst hL
  subst hC
  unfold Oper.wpIn
  refine ⟨?_, ?_⟩
  · simp [Oper.about, hop]
  · rw [Oper.semAt_plain F _ _ (by rw [hop]; intro c hc'; cases hc')]
    simp [execOp, hop, hl, hc, hrun, Result.andThen]
    exact hK' _ _ (hK w' r1 r2)
/-- A part, copied. -/
abbrev PartV (B : Nat) (w : World) (v : Value) (T : Tm) : Prop := w.ownsRow B 38 4 v (flat T).length (ndCells (flat T))
/-- What is held between two parts. -/
structure ArI (w0 : World) (l : List Tm) (bl gl cap M : Nat) (vs : List Value) (A : World) : Prop where
  low : Under w0 A
  box : BoxAt A bl 66 #[.slice (some ⟨gl, 0, none⟩) l.length cap]
  row : A.ownsRow w0.heap.size 22 1 (.slice (some ⟨gl, 0, none⟩) l.length cap) l.length vs
  got : ∀ i (hi : i < l.length), M ≤ i → ∃ v, vs[i]? = some v ∧ PartV w0.heap.size A v l[i]
def ArJ (w0 : World) (l : List Tm) (bl gl cap : Nat) (pre : List (Nat × Nat × Nat)) (A : World) : Prop := ∃ M vs, pre ++ itemsGo l M = itemsGo l l.length ∧ M ≤ l.length ∧ ArI w0 l bl gl cap M vs A
theorem ArI.under {w0 A A' : World} {l : List Tm} {bl gl cap M : Nat} {vs : List Value} (h : ArI w0 l bl gl cap M vs A) (hU : Under A A') : ArI w0 l bl gl cap M vs A' :=
  ⟨h.low.trans hU, h.box.under hU, row_under h.row hU, fun i hi hM => by obtain ⟨v, h1, h2⟩ := h.got i hi hM; exact ⟨v, h1, row_under h2 hU⟩⟩
theorem ArI.putO {w0 A : World} {l : List Tm} {bl gl cap M k : Nat} {vs : List Value} {o : Obj} (h : ArI w0 l bl gl cap M vs A) (hl : w0.heap.size ≤ k) (ho : A.heap[k]? = some o) (hc : o.isCells = false) (o' : Obj) : ArI w0 l bl gl cap M vs (A.putObj k o') :=
  ⟨under_putO h.low _ hl, box_putO h.box ho hc _, row_putO h.row ho hc _, fun i hi hM => by obtain ⟨v, h1, h2⟩ := h.got i hi hM; exact ⟨v, h1, row_putO h2 ho hc _⟩⟩
theorem itemsGo_inj {l : List Tm} : ∀ {M N : Nat}, (itemsGo l M).length = (itemsGo l N).length → M = N := by
  have h : ∀ M, (itemsGo l M).length = M := fun M => by
    induction M with
    | zero => rfl
    | succ M ih => simp [itemsGo, ih]
  intro M N e
  rwa [h, h] at e
/-- What Args gives: a row of the parts, copied. -/
def ArgsOut (w0 : World) (l : List Tm) (e : Ending) (w : World) : Prop := ∃ vr vs, e = .returned (.tuple #[vr, .int .i64 0]) ∧ Under w0 w ∧ w.ownsRow w0.heap.size 22 1 vr l.length vs ∧ Zip (PartV w0.heap.size w) vs l
section
variable {w0 : World}
set_option maxRecDepth 100000 in
set_option maxHeartbeats 2000000 in
theorem args_any (x : Nd) (l : List Tm) {t : List Nd} {b off c : Nat} (ht : t = flat (.mk x l)) (hok : okT (.mk x l)) (hd : deepT (.mk x l) ≤ 60) (hn : t.length ≤ 4000) (hc : t.length ≤ c) (hr : RowArg w0 (some ⟨b, off, none⟩) (ndCells t)) (hS : ShapesAt 0 w0) :
    Calls Tryz.prog 36 #[.slice (some ⟨b, off, none⟩) t.length c] w0 (ArgsOut w0 l) := by
  obtain ⟨hx, hl, hls⟩ := hok
  have hck : checkE t = 0 := by rw [ht]; exact check_of_tree ⟨hx, hl, hls⟩ hd (by rw [← ht]; exact hn)
  have hfl : t.length = (flats l).length + 1 := by rw [ht, flat]; simp
  have hte : t[(flats l).length]? = some x := by
    rw [ht, flat, List.getElem?_append_right (Nat.le_refl _), Nat.sub_self]
    rfl
  have hs16 : ∀ y ∈ t, y.s.size ≤ maxLen := fun y hy => by have := rightB_s (check_right hck y hy); simp only [maxLen]; omega
  have HK := Lib.hid (look_any (c := c) t (by simp only [maxLen]; omega) hs16 hr hS)
  obtain ⟨b1, off1, e1, hb, c0, c1, c2, c3⟩ := RowArg.node hr hte
  cases e1
  have HM := Lib.hid (fun w (hU : Under w0 w) => many_any x w (hS.under hU) hx)
  obtain ⟨i0, hi, hz0, hz1, hz2⟩ := info_parts Tryz.infoNds
  have HSh := Lib.hid hS
  have HT := Lib.hid ht
  have HLx := Lib.hid hl
  have HX := Lib.hid hx
  have HLs := Lib.hid hls
  have HCk := Lib.hid hck
  have HR := Lib.hid hr
  rw [← hl] at HM
  have hB8 := binds_len hx
  obtain ⟨z, hz⟩ : ∃ z, z = (flats l).length := ⟨_, rfl⟩
  have HZ := Lib.hid hz
  rw [← hz] at c0 c1 c2 c3 hfl
  have HC0 := Lib.hid c0
  have HC1 := Lib.hid c1
  have HC2 := Lib.hid c2
  have HC3 := Lib.hid c3
  have HFl := Lib.hid hfl
  rw [hfl] at hn hc HK ⊢
  have hz0' : (0 : Int) ≤ (z : Int) := by omega
  have hz1' : (z : Int) ≤ 4000 := by omega
  have hze : ((z : Int) + 1 - 1) = (z : Int) := by omega
  have hL0 : (0 : Int) ≤ (l.length : Int) := by omega
  have hL8 : l.length ≤ 8 := by omega
  clear ht hck hr hte hs16 hS hx hl hls hd hB8 hz hfl c0 c1 c2 c3
  unfold ndV at HM
  refine (callsIn_wide (n := 10)).1 ?_
  refine callsIn_of_wp_marks Tryz.func36 rfl trivial ?_ rfl
  simp only [Tryz.ntmps36, List.size_toArray, List.length_cons, List.length_nil, Nat.reduceAdd, Nat.reduceSub, Array.replicate_succ, Array.replicate_zero, List.push_toArray, List.append_toArray, List.nil_append, List.cons_append]
  gi_wp2
  refine ⟨trivial, ?_⟩
  refine (callsIn_wide.2 HK.out).mono ?_
  rintro e w1 ⟨hU1, hLO⟩
  rw [if_pos HCk.out] at hLO
  obtain ⟨vm, all, op, hm, rfl, hmr⟩ := hLO
  have HU1 := Lib.hid hU1
  have HMe := Lib.hid hm
  have HMr := Lib.hid hmr
  have halen : all.length = z + 1 := by rw [← HFl.out]; have := (measGo_len t 0 [] [] rfl (Nat.le_refl _) hm).1; simpa using this
  obtain ⟨gm, cm, rfl, _, _, hgm0, hgm1, _⟩ := row_block hmr (by omega)
  have HGm := Lib.hid hgm0
  have c0 := (under_cell hU1 hb (off + z * 4)).trans HC0.out
  have c1 := (under_cell hU1 hb (off + z * 4 + 1)).trans HC1.out
  have c2 := (under_cell hU1 hb (off + z * 4 + 2)).trans HC2.out
  have c3 := (under_cell hU1 hb (off + z * 4 + 3)).trans HC3.out
  have hb1 := Nat.lt_of_lt_of_le hb hU1.size
  clear hU1 hm hmr hgm0
  gi_wp2
  refine ⟨trivial, ?_⟩
  refine (callsIn_wide.2 (HM.out _ HU1.out)).mono ?_
  rintro e w2 ⟨rfl, hU2⟩
  have HU2 := Lib.hid hU2
  have hs2 := hU2.size
  have hs1 := HU1.out.size
  clear hU2 c0 c1 c2 c3
  gi_wp2_with (gi_at_make; refine wpListIn_make_full _ rfl _ _ _ rfl w0.heap.size 22 i0 _ 1 Tryz.underlying66 hi hz0 hz1 .i64 .i64 _ _ l.length rfl rfl rfl rfl ?c1 ?c2 ?c3 ?_)
  case c1 => rw [hz2]; omega
  case c2 => simp only [maxLen]; omega
  case c3 => omega
  intro w3 hown hgrow
  have HO3 := Lib.hid hown
  have hU3 := under_grown (Under.refl w2) hgrow fun g e => by cases e
  have HU13 := Lib.hid (HU2.out.trans hU3)
  have hgl : w0.heap.size ≤ w2.heap.size := by omega
  have HGl3 := Lib.hid (row_lt hown rfl).2
  have HGl1 := Lib.hid hs2
  have hgl3 := hU3.size
  generalize w2.heap.size = gl at *
  clear hown hgrow hU3
  obtain ⟨W3, hW3⟩ : ∃ W, W = w3.alloc (.cells #[.slice (some ⟨gl, 0, none⟩) l.length l.length] 66) := ⟨_, rfl⟩
  have hU3' : Under w1 W3 := by rw [hW3]; exact under_alloc HU13.out _
  have hBl : BoxAt W3 w3.heap.size 66 #[.slice (some ⟨gl, 0, none⟩) l.length l.length] := by rw [hW3]; exact box_new _ _ _
  have hOl : W3.ownsRow w0.heap.size 22 1 (.slice (some ⟨gl, 0, none⟩) l.length l.length) l.length (madeCells #[.slice none 0 0] l.length).toList := by rw [hW3]; exact HO3.out.alloc _
  have HN := Lib.hid (backwardCall (some ⟨b, off, none⟩) (some ⟨gm, 0, none⟩) (z + 1) c (z + 1) cm W3)
  obtain ⟨W4, hW4⟩ : ∃ W, W = (W3.alloc (.cells #[.slice (some ⟨b, off, none⟩) (z + 1) c] 22)).alloc (.cells #[.slice (some ⟨gm, 0, none⟩) (z + 1) cm] 78) := ⟨_, rfl⟩
  have hU34 : Under W3 W4 := by rw [hW4]; exact under_alloc (under_alloc (Under.refl _) _) _
  have hz4 : W4.heap.size = W3.heap.size + 2 := by rw [hW4]; simp
  have hU04 := HU1.out.trans (hU3'.trans hU34)
  have hTb : BoxAt W4 W3.heap.size 22 #[.slice (some ⟨b, off, none⟩) (z + 1) c] := by rw [hW4]; exact (box_new _ _ _).alloc _
  have hMb : BoxAt W4 (W3.heap.size + 1) 78 #[.slice (some ⟨gm, 0, none⟩) (z + 1) cm] := by
    rw [hW4]
    have := box_new (W3.alloc (.cells #[.slice (some ⟨b, off, none⟩) (z + 1) c] 22)) #[.slice (some ⟨gm, 0, none⟩) (z + 1) cm] 78
    simpa using this
  have hcM : ∀ M, M < l.length → w1.cell? ⟨gm, (starts l (M + 1) - 1) * 2, none⟩ = some (.int .i64 (starts l M : Int)) := fun M hM => by
    obtain ⟨dd, hdd⟩ := from_at HLs.out (by rw [← HT.out]; exact HMe.out) hM
    exact row_cell HMr.out rfl (measCells_at hdd).1
  have HIt := Lib.hid (backward_iter (n := 9) (W0 := w1) (w := W4) (L := l) (tb := W3.heap.size) (mb := W3.heap.size + 1) (off := off) (c := c) (N := z + 1) (mn := z + 1) (mc := cm) HX.out HLx.out (by rw [HZ.out]) hc (by omega) (hU3'.trans hU34) hb1
    (by rw [under_cell HU1.out hb, ← HZ.out]; exact HC0.out) (by rw [under_cell HU1.out hb, ← HZ.out]; exact HC1.out) (by rw [under_cell HU1.out hb, ← HZ.out]; exact HC2.out) (by rw [under_cell HU1.out hb, ← HZ.out]; exact HC3.out) (HSh.out.under HU1.out) hTb hMb (Nat.le_refl _) HGm.out hcM)
  have hsz14 := (hU3'.trans hU34).size
  have hI4 : ArJ w0 l w3.heap.size gl l.length [] W4 := ⟨l.length, _, rfl, Nat.le_refl _, hU04, hBl.under hU34, row_under hOl hU34, fun i hi hM => by omega⟩
  have HI4 := Lib.hid hI4
  have HZ4 := Lib.hid hz4
  have HW3 := Lib.hid hW3
  have HW4 := Lib.hid hW4
  have HSc := Lib.hid (show W4.heap.size ≤ W4.heap.size ∧ w0.heap.size ≤ W4.heap.size from ⟨Nat.le_refl _, hU04.size⟩)
  have HTt := Lib.hid (show Under w0 W4 from hU04)
  clear hU3' hBl hOl hU34 hU04 hTb hMb hcM hI4
  gi_wp2
  rw [← hW3]
  refine ⟨trivial, ?_⟩
  refine (callsIn_wide.2 HN.out).mono ?_
  rintro e w4 ⟨rfl, hw4⟩
  rw [← hW4] at hw4
  subst hw4
  clear hW3 hW4
  gi_wp2
  refine wpIn_rangeFunc_iterU rfl (by decide) (gf := 79) (lb := #[.pointer (some ⟨W3.heap.size, 0, none⟩), .pointer (some ⟨W3.heap.size + 1, 0, none⟩)]) rfl trivial (enters_of Tryz.func79 (by kernel_rfl) rfl)
    HIt.out (Under.refl _) (fun _ => rfl) (fun k hk => by
      have := HZ4.out
      rcases hk with hk | rfl | rfl <;> omega)
    (fun pre A => ArJ w0 l w3.heap.size gl l.length pre A) (fun c pre A => False)
    ?hI ?hIo ?hIx HI4.out ?a1 ?assign ?body ?done ?stop
  case hI => exact fun pre A A' ⟨M, vs, h1, h2, h3⟩ hU _ => ⟨M, vs, h1, h2, h3.under hU⟩
  case hIo => exact fun pre A k o o' ⟨M, vs, h1, h2, h3⟩ hl ho hc => ⟨M, vs, h1, h2, h3.putO (Nat.le_trans HSc.out.2 hl) ho hc o'⟩
  case hIx => exact fun c pre A l o o' h hl ho hc => h
  case assign =>
    intro k y W K hK
    unfold encA
    gi_wp2
    exact hK
  case body =>
    rintro k pre y A hsz ⟨M, vs, hM1, hM2, hI⟩ hpre
    obtain ⟨r, hr⟩ := hpre
    have hM3 : [y] ++ r = itemsGo l M := by
      have := hr.trans hM1.symm
      rw [List.append_assoc] at this
      exact List.append_cancel_left this
    cases M with
    | zero => simp [itemsGo] at hM3
    | succ M =>
      rw [itemsGo, List.singleton_append, List.cons.injEq] at hM3
      obtain ⟨rfl, hr2⟩ := hM3
      have hMl : M < l.length := hM2
      have hn2 : starts l (M + 1) - starts l M = (flat l[M]).length := by unfold starts; rw [take_flats hMl, List.length_append]; omega
      have hI9 : pre ++ [(M, starts l M, starts l (M + 1) - starts l M)] ++ itemsGo l M = itemsGo l l.length := by rw [← hM1, itemsGo, List.append_assoc]; rfl
      rw [hn2] at hI9 ⊢
      have hsplit : t = flats (l.take M) ++ flat l[M] ++ (flats (l.drop (M + 1)) ++ [x]) := by
        rw [HT.out, flat]
        conv => lhs; rw [← List.take_append_drop M l]
        rw [flats_app, List.drop_eq_getElem_cons hMl, flats]
        simp only [List.append_assoc]
      have hpart : RowArg w0 (some ⟨b, off + starts l M * 4, none⟩) (ndCells (flat l[M])) := by
        have := HR.out
        rw [hsplit, ndCells_app, ndCells_app] at this
        have h2 := row_sub this
        rwa [ndCells_len] at h2
      have hpl : (flat l[M]).length + starts l M ≤ z := by
        have := starts_le hM2
        have := HZ.out
        have := starts_lt hMl
        omega
      have hfp := flat_len l[M]
      have HCl := Lib.hid (fun W' (hU : Under w0 W') => cloneNd_any (w0 := W') (flat l[M]) (b := b) (off := off + starts l M * 4) (c := c - starts l M) (by omega) (by omega) (hpart.under hU))
      have HI := Lib.hid hI
      have HI9 := Lib.hid hI9
      have hvl : vs.length = l.length := by have := hI.row.1; omega
      have hvM : vs[M]? = some vs[M] := List.getElem?_eq_getElem (by omega)
      have hM8 : (M : Int) < (l.length : Int) := by omega
      have hM0 : (0 : Int) ≤ (M : Int) := by omega
      have HGt := Lib.hid (fun i (hi : i < l.length) (hM : M + 1 ≤ i) => hI.got i hi hM)
      have HMl := Lib.hid hMl
      clear hM1 hr hr2 hn2 hI9 hsplit hpart hpl
      have HB0 := Lib.hid (hI.box)
      have HR0 := Lib.hid (hI.row)
      have HL0 := Lib.hid (hI.low)
      have b0 : A.cell? ⟨w3.heap.size, 0, none⟩ = some (.slice (some ⟨gl, 0, none⟩) l.length l.length) := hI.box.cell 0
      have b1 := hI.box.lt
      clear hI
      have HSA := Lib.hid (show w0.heap.size ≤ A.heap.size from HL0.out.size)
      generalize hTT : l[M] = T at *
      have HTT := Lib.hid hTT
      clear hTT
      generalize starts l M = s at *
      generalize vs[M] = u at *
      have HvM := Lib.hid hvM
      clear hvM
      have hmix : Tryz.prog.follows .mixedOrders = true := by kernel_rfl
      have hfn : Fence.wide.fn 62 := trivial
      gi_wp2
      gi_region_with_o (
        gi_at_call 62
        refine (CallsIn.inRound k (callsIn_wide.2 (HCl.out _ (under_drew HL0.out)))).mono ?_
        rintro e w5 ⟨v, rfl, hv, hU5'⟩
        have hU5 := (under_drew (Under.refl A)).trans hU5'
        have HV5 := Lib.hid hv
        have HU5 := Lib.hid hU5
        have d0 : w5.cell? ⟨w3.heap.size, 0, none⟩ = some (.slice (some ⟨gl, 0, none⟩) l.length l.length) := (HB0.out.under hU5).cell 0
        have d1 := (HB0.out.under hU5).lt
        have d2 : w5.cell? ⟨gl, M, none⟩ = some u := row_cell (row_under HR0.out hU5) rfl HvM.out
        have d3 : w5.frozen? ⟨gl, M, none⟩ = false := row_free (row_under HR0.out hU5) rfl M
        have d4 := (row_lt (row_under HR0.out hU5) rfl).2
        obtain ⟨qv, cv, rfl, _, _⟩ := RowArg.of_own hv
        clear hv hU5 hU5')
      all_goals
        gi_wp2
        have hg5 := HGl3.out
        have hg1 := HGl1.out
        have hgA := (row_lt HR0.out rfl).2
        have hz4 := HZ4.out
        have hz3 : W3.heap.size = w3.heap.size + 1 := by rw [HW3.out]; simp
        refine ⟨((⟨HU5.out.size, fun j o hj ho => (HU5.out.low j (Array.getElem?_eq_some_iff.1 hj).1).trans hj⟩ : KeepsOthers A w5).trans (KeepsOthers.setCell _ _ _)).from _, ⟨HU5.out.os, HU5.out.output, by rw [set_size]; exact HU5.out.size, fun k hk hr => ?_⟩, M, vs.set M (.slice qv (flat T).length cv), HI9.out, by omega, ?_⟩
        · rcases hr with hr | hr
          · exact (heap_set w5 _ _ k (by show k ≠ gl; rcases hr with hr | rfl | rfl <;> omega)).trans (HU5.out.low k hk)
          · cases hr
        · refine ⟨under_set (HL0.out.trans HU5.out) (by omega) _ _, BoxAt.other (HB0.out.under HU5.out) (by omega) _ _, row_set (row_under HR0.out HU5.out) rfl (by omega) _, fun i hi hM => ?_⟩
          by_cases hiM : i = M
          · subst hiM
            refine ⟨_, List.getElem?_set_self (by omega), ?_⟩
            have eT : l[i]'hi = T := HTT.out
            rw [show PartV w0.heap.size (w5.setCell ⟨gl, i, none⟩ (.slice qv (flat T).length cv)) (.slice qv (flat T).length cv) (l[i]'hi) = PartV w0.heap.size (w5.setCell ⟨gl, i, none⟩ (.slice qv (flat T).length cv)) (.slice qv (flat T).length cv) T by rw [eT]]
            exact row_other (row_base HV5.out HSA.out) (fun e => by have := (row_lt HV5.out e).1; have : A.drew.heap.size = A.heap.size := rfl; omega) i _
          · obtain ⟨v', hv1, hv2⟩ := HGt.out i hi (by omega)
            refine ⟨v', by rw [List.getElem?_set_ne (by omega)]; exact hv1, ?_⟩
            refine row_other (row_under hv2 HU5.out) (fun e => ?_) M _
            rcases own_ne hv2 HR0.out (by decide) with h | h
            · rw [h] at e; cases e
            · exact h (by rw [e]; rfl)
  case done =>
    rintro D W hD ⟨M, vs, h1, h2, hI⟩ hK
    have hM0 : M = 0 := by
      have := congrArg List.length h1
      rw [List.length_append] at this
      cases M with
      | zero => rfl
      | succ M => simp [itemsGo] at this
    subst hM0
    have HI := Lib.hid hI
    have HK' := Lib.hid hK
    have HD := Lib.hid hD
    have b0 : W.cell? ⟨w3.heap.size, 0, none⟩ = some (.slice (some ⟨gl, 0, none⟩) l.length l.length) := hI.box.cell 0
    have b1 := hI.box.lt
    clear hI hK hD h1 h2
    gi_wp2
    refine ⟨by simp, .inl ⟨_, _, rfl, run_takeDeferred HK'.out, ?_⟩⟩
    refine ⟨.tuple #[.slice (some ⟨gl, 0, none⟩) l.length l.length, .int .i64 0], by simp [results, Tryz.f36, go_sem], ?_⟩
    have hI2 := HI.out.putO (Nat.le_trans HSc.out.2 HD.out) HK'.out rfl (.deferred none)
    refine ⟨_, vs, rfl, hI2.low, hI2.row, by have := hI2.row.1; omega, fun i v T hv hT => ?_⟩
    obtain ⟨hil, rfl⟩ := List.getElem?_eq_some_iff.1 hT
    obtain ⟨v', e1, e2⟩ := hI2.got i hil (Nat.zero_le _)
    rw [hv] at e1
    cases e1
    exact e2
  case stop => exact fun D c pre W hD h hK => h.elim
end
end Go.Proofs.YtiibknlpeodejaaGreatDoor
