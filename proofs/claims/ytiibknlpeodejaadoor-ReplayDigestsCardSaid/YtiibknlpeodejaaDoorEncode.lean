/- wire.Encode: its contract. -/
import Derived.Test.YtiibknlpeodejaaDoorPack
import Derived.Test.YtiibknlpeodejaaDoorShelfK
import Derived.Test.YtiibknlpeodejaaDoorTCheck
import Derived.Test.YtiibknlpeodejaaDoorLxM
set_option linter.unusedSimpArgs false
set_option linter.unusedVariables false
namespace Go.Proofs.YtiibknlpeodejaaDoor
open Go.Lx Go.RowKit

/-- Which of a node's fields are written, as bits. -/
def fieldsN (k : Nat) : Nat := (if fN k then 1 else 0) + (if fM k then 2 else 0) + (if fS k then 4 else 0)
/-- The table of fields, as it lies in the variable. -/
structure FieldsAt (g : Nat) (w : World) : Prop where
  lt : g < w.heap.size
  cell : ∀ k, k < 30 → w.cell? ⟨g, k, none⟩ = some (.int .u8 (fieldsN k : Nat))
theorem FieldsAt.under {g : Nat} {W w : World} (h : FieldsAt g W) (hU : Under W w) : FieldsAt g w :=
  ⟨Nat.lt_of_lt_of_le h.lt hU.size, fun k hk => (under_cell hU h.lt _).trans (h.cell k hk)⟩
/-- The low byte of a number that may be negative. -/
def lowZ (n : Int) : UInt8 := UInt8.ofNat (n % 256).toNat
/-- A node's bytes. -/
def nodeB (x : Nd) : List UInt8 := [lowZ x.k] ++ (if fN x.k.toNat then [lowZ x.n] else []) ++ (if fM x.k.toNat then [lowZ x.m] else []) ++ (if fS x.k.toNat then lowB x.s.size :: x.s.data.toList else [])
/-- A term's bytes. -/
def termB (t : List Nd) : List UInt8 := twoB t.length ++ (t.map nodeB).flatten
theorem lowZ_val (n : Int) : ((lowZ n).toNat : Int) = IntKind.u8.wrap n := by
  have h : 0 ≤ n % 256 ∧ n % 256 < 256 := ⟨Int.emod_nonneg _ (by decide), Int.emod_lt_of_pos _ (by decide)⟩
  simp [lowZ, IntKind.wrap, IntKind.bits, IntKind.signed]
  omega
def encOut (t : List Nd) : Ending := if checkE t = 0 then .returned (.tuple #[.string ⟨(termB t).toArray⟩, .int .i64 0]) else .returned (.tuple #[.string ⟨#[]⟩, .int .i64 (checkE t)])
theorem node_len {t : List Nd} {x : Nd} (h : checkE t = 0) (hx : x ∈ t) : (0 ≤ x.k ∧ x.k < 30) := rightB_k (check_right h x hx)
theorem lowZ_one (s : ByteArray) : ((lowB s.size).toNat : Int) = IntKind.u8.wrap (s.size : Int) := by
  rw [lowB_val]; simp [IntKind.wrap, IntKind.bits, IntKind.signed]
theorem nodeB_len {x : Nd} (h : x.s.size ≤ 16 ∨ fS x.k.toNat = false) : (nodeB x).length ≤ 20 := by
  unfold nodeB
  have e : x.s.data.toList.length = x.s.size := by rw [Array.length_toList]; rfl
  rcases h with h | h
  · split <;> split <;> split <;> simp [e] <;> omega
  · rw [h]; split <;> split <;> simp
theorem name_size {s : ByteArray} (h : nameB s = true) : s.size ≤ 16 := by
  unfold nameB at h
  simp at h
  exact h.2.2
theorem rightB_s {x : Nd} (h : rightB x = true) : x.s.size ≤ 16 ∨ fS x.k.toNat = false := by
  unfold rightB at h
  split at h
  · cases h
  · split at h
    · cases h
    · split at h
      · cases h
      · split at h
        · cases h
        · split at h
          · cases h
          · rename_i hh
            cases hf : fS x.k.toNat
            · exact .inr rfl
            · left
              cases hb : nameB x.s
              · exact absurd ⟨hf, hb⟩ hh
              · exact name_size hb
/-- The kinds, by the fields that they have. -/
theorem fieldsN_cases (k : Nat) (hk : k < 30) : (fN k = false ∧ fM k = false ∧ fS k = false ∧ fieldsN k = 0) ∨ (fN k = true ∧ fM k = false ∧ fS k = false ∧ fieldsN k = 1) ∨ (fN k = false ∧ fM k = false ∧ fS k = true ∧ fieldsN k = 4) ∨
    (fN k = true ∧ fM k = true ∧ fS k = true ∧ fieldsN k = 7) ∨ (fN k = false ∧ fM k = true ∧ fS k = true ∧ fieldsN k = 6) := by
  revert hk; revert k; decide
/-- A builder, and a node in a box above it. -/
structure AtNode (W : World) (b : Nat) (l : List UInt8) (xb : Nat) (x : Nd) (w : World) : Prop where
  bld : BldK W b l w
  box : BoxAt w xb 51 #[.int .i64 x.k, .int .i64 x.n, .int .i64 x.m, .string x.s]
  ne : xb ≠ b
section
variable {W w : World} {b xb : Nat} {l : List UInt8} {x : Nd}
theorem AtNode.cells (h : AtNode W b l xb x w) : w.cell? ⟨xb, 0, none⟩ = some (.int .i64 x.k) ∧ w.cell? ⟨xb, 1, none⟩ = some (.int .i64 x.n) ∧ w.cell? ⟨xb, 2, none⟩ = some (.int .i64 x.m) ∧ w.cell? ⟨xb, 3, none⟩ = some (.string x.s) :=
  ⟨h.box.cell 0, h.box.cell 1, h.box.cell 2, h.box.cell 3⟩
theorem AtNode.byte (y : UInt8) (h : AtNode W b l xb x w) (hl : l.length ≤ 100000000) :
    Calls Tryd.prog 16 #[.pointer (some ⟨b, 0, none⟩), .int .u8 y.toNat] w fun e w' => e = .returned .nilIface ∧ AtNode W b (l ++ [y]) xb x w' := by
  refine (writeByte_k y h.bld hl).mono ?_
  rintro e w' ⟨rfl, hb, hk, _⟩
  exact ⟨rfl, hb, hk _ _ _ (by decide) h.ne h.box, h.ne⟩
theorem AtNode.text (s : ByteArray) (h : AtNode W b l xb x w) (hl : l.length ≤ 100000000) (hs : s.size ≤ 10000000) :
    Calls Tryd.prog 18 #[.pointer (some ⟨b, 0, none⟩), .string s] w fun e w' => e = .returned (.tuple #[.int .i64 s.size, .nilIface]) ∧ AtNode W b (l ++ s.data.toList) xb x w' := by
  refine (writeString_k s h.bld (by omega) hs).mono ?_
  rintro e w' ⟨rfl, hb, hk, _⟩
  exact ⟨rfl, hb, hk _ _ _ (by decide) h.ne h.box, h.ne⟩
end
theorem enc_len {acc : List UInt8} {k : Nat} {x : Nd} (h : acc.length ≤ 2 + k * 20) (hx : rightB x = true) : (acc ++ nodeB x).length ≤ 2 + (k + 1) * 20 := by
  rw [List.length_append]
  have := nodeB_len (rightB_s hx)
  omega
section
variable {w0 : World}
set_option maxRecDepth 100000 in
set_option maxHeartbeats 2000000 in
theorem encode_any (t : List Nd) {p : Option Addr} {c : Nat} (hn : t.length ≤ 1000000) (hs : ∀ x ∈ t, x.s.size ≤ maxLen) (hp : RowArg w0 p (ndCells t)) (hS : ShapesAt 1 w0) (hF : FieldsAt 0 w0) :
    Calls Tryd.prog 30 #[.slice p t.length c] w0 fun e w => e = encOut t ∧ Under w0 w := by
  have HC := Lib.hid (check_any (w0 := w0) (c := c) t (by unfold maxLen; omega) hs hp hS)
  have HP := Lib.hid hp
  have HF := Lib.hid hF
  have HS := Lib.hid hs
  have hO : encOut t = if checkE t = 0 then .returned (.tuple #[.string ⟨(termB t).toArray⟩, .int .i64 0]) else .returned (.tuple #[.string ⟨#[]⟩, .int .i64 (checkE t)]) := rfl
  have HO := Lib.hid hO
  clear hp hS hF hO hs
  by_cases hc : checkE t = 0
  · have HO : RowKit.Hid (encOut t = .returned (.tuple #[.string ⟨(termB t).toArray⟩, .int .i64 0])) := Lib.hid (by rw [HO.out, if_pos hc])
    have HR := Lib.hid (check_right hc)
    have HT := Lib.hid (nodes_len hc).2
    rw [hc] at HC
    clear hc
    go_enter Tryd.func30, Tryd.ntmps30
    go_wp2_with fail
    refine HC.out.mono ?_
    rintro e w1 ⟨rfl, hU1⟩
    have HU1 := Lib.hid hU1
    clear hU1
    have h0 : (0 : Int) ≤ (t.length : Int) := by omega
    go_wp2_with fail
    refine (two_any t.length hn (Bld.new w1) (by simp)).mono ?_
    rintro e w2 ⟨rfl, h2⟩
    have HB0 := Lib.hid (BldK.of h2)
    clear h2
    go_wp2
    go_loopw [18] (fun i wr => ∃ k acc, k ≤ t.length ∧ i = .int .i64 (k : Nat) ∧ acc.length ≤ 2 + k * 20 ∧ termB t = acc ++ ((t.drop k).map nodeB).flatten ∧ BldK w1 w1.heap.size acc wr) (fun i _ => t.length - (intOf i).toNat)
    case atStart => exact ⟨0, twoB t.length, Nat.zero_le _, rfl, by simp [twoB], by simp [termB], by simpa using HB0.out⟩
    case round =>
      obtain ⟨k, acc, hk, rfl, hacc, hN, hB⟩ := hrel
      have HN := Lib.hid hN
      have HBk := Lib.hid hB
      clear hN hB
      by_cases hlt : k < t.length
      · have HA : RowKit.Hid (acc.length ≤ 100000) := Lib.hid (by have := HT.out; omega)
        have HX : RowKit.Hid (t[k].s.size ≤ maxLen) := Lib.hid (HS.out _ (List.getElem_mem hlt))
        have HRx : RowKit.Hid (rightB t[k] = true) := Lib.hid (HR.out _ (List.getElem_mem hlt))
        have HJ : RowKit.Hid (∀ l, l = acc ++ nodeB t[k] → acc ++ ((t.drop k).map nodeB).flatten = l ++ ((t.drop (k + 1)).map nodeB).flatten) := Lib.hid (by
          rintro l rfl; rw [List.drop_eq_getElem_cons hlt, List.map_cons, List.flatten_cons, List.append_assoc])
        obtain ⟨bb, off, rfl, hb, cc0, cc1, cc2, cc3⟩ := RowArg.node HP.out (List.getElem?_eq_getElem hlt)
        have hUr := HU1.out.trans HBk.out.under
        rw [← under_cell hUr hb] at cc0 cc1 cc2 cc3
        have hb' := Nat.lt_of_lt_of_le hb hUr.size
        have HKx := rightB_k HRx.out
        have HK : RowKit.Hid (t[k].k.toNat < 30) := Lib.hid (by omega)
        have hk0 := HKx.1
        have hk1 : t[k].k < 256 := by omega
        have HG : RowKit.Hid (0 < wr.heap.size) := Lib.hid (Nat.lt_of_lt_of_le HF.out.lt hUr.size)
        have ek : IntKind.u8.wrap t[k].k = ((lowZ t[k].k).toNat : Int) := (lowZ_val _).symm
        have en : IntKind.u8.wrap t[k].n = ((lowZ t[k].n).toNat : Int) := (lowZ_val _).symm
        have em : IntKind.u8.wrap t[k].m = ((lowZ t[k].m).toNat : Int) := (lowZ_val _).symm
        have es : IntKind.u8.wrap (t[k].s.size : Int) = ((lowB t[k].s.size).toNat : Int) := (lowZ_one _).symm
        have H1 : RowKit.Hid (AtNode w1 w1.heap.size acc wr.heap.size t[k] (wr.alloc (.cells #[.int .i64 t[k].k, .int .i64 t[k].n, .int .i64 t[k].m, .string t[k].s] 51))) :=
          Lib.hid ⟨HBk.out.alloc _, box_new _ _ _, Nat.ne_of_gt HBk.out.lt⟩
        have hlow : ∀ z : Int, RowKit.Hid (lowZ z = lowZ z) := fun _ => Lib.hid rfl
        clear HKx hlow hUr
        have HA' := Lib.hid hacc
        generalize t[k] = x at *
        rcases fieldsN_cases x.k.toNat HK.out with hV | hV | hV | hV | hV
        all_goals
          have hff := hV.2.2.2
          have HV := Lib.hid hV
          clear hV
        · skip
          go_wp2_with fail
          refine (H1.out.byte (lowZ x.k) (by have := HA.out; simp; omega)).mono ?_
          rintro e w2 ⟨rfl, h2⟩
          obtain ⟨c0, c1, c2, c3⟩ := h2.cells
          have cf := ((HF.out.under HU1.out).under h2.bld.under).cell x.k.toNat HK.out
          rw [hff] at cf
          have H2 := Lib.hid h2
          clear h2
          go_wp2
          go_roundw
          case rel => exact ⟨k + 1, _, by omega, by go_num, enc_len HA'.out HRx.out, by rw [HN.out]; exact HJ.out _ rfl, (by have hb := H2.out.bld; simpa [nodeB, HV.out.1, HV.out.2.1, HV.out.2.2.1] using hb)⟩
          case measure => simp [intOf]; omega
        · skip
          go_wp2_with fail
          refine (H1.out.byte (lowZ x.k) (by have := HA.out; simp; omega)).mono ?_
          rintro e w2 ⟨rfl, h2⟩
          obtain ⟨c0, c1, c2, c3⟩ := h2.cells
          have cf := ((HF.out.under HU1.out).under h2.bld.under).cell x.k.toNat HK.out
          rw [hff] at cf
          have H2 := Lib.hid h2
          clear h2
          go_wp2_with fail
          refine (H2.out.byte (lowZ x.n) (by have := HA.out; simp; omega)).mono ?_
          rintro e w2 ⟨rfl, h2⟩
          obtain ⟨c0, c1, c2, c3⟩ := h2.cells
          have cf := ((HF.out.under HU1.out).under h2.bld.under).cell x.k.toNat HK.out
          rw [hff] at cf
          have H3 := Lib.hid h2
          clear h2
          go_wp2
          go_roundw
          case rel => exact ⟨k + 1, _, by omega, by go_num, enc_len HA'.out HRx.out, by rw [HN.out]; exact HJ.out _ rfl, (by have hb := H3.out.bld; simpa [nodeB, HV.out.1, HV.out.2.1, HV.out.2.2.1] using hb)⟩
          case measure => simp [intOf]; omega
        · skip
          go_wp2_with fail
          refine (H1.out.byte (lowZ x.k) (by have := HA.out; simp; omega)).mono ?_
          rintro e w2 ⟨rfl, h2⟩
          obtain ⟨c0, c1, c2, c3⟩ := h2.cells
          have cf := ((HF.out.under HU1.out).under h2.bld.under).cell x.k.toNat HK.out
          rw [hff] at cf
          have H2 := Lib.hid h2
          clear h2
          go_wp2_with fail
          refine (H2.out.byte (lowB x.s.size) (by have := HA.out; simp; omega)).mono ?_
          rintro e w2 ⟨rfl, h2⟩
          obtain ⟨c0, c1, c2, c3⟩ := h2.cells
          have cf := ((HF.out.under HU1.out).under h2.bld.under).cell x.k.toNat HK.out
          rw [hff] at cf
          have H3 := Lib.hid h2
          clear h2
          go_wp2_with fail
          refine (H3.out.text x.s (by have := HA.out; simp; omega) (by have := (rightB_s HRx.out).resolve_right (by rw [HV.out.2.2.1]; decide); omega)).mono ?_
          rintro e w2 ⟨rfl, h2⟩
          have H4 := Lib.hid h2
          clear h2
          go_wp2
          go_roundw
          case rel => exact ⟨k + 1, _, by omega, by go_num, enc_len HA'.out HRx.out, by rw [HN.out]; exact HJ.out _ rfl, (by have hb := H4.out.bld; simpa [nodeB, HV.out.1, HV.out.2.1, HV.out.2.2.1] using hb)⟩
          case measure => simp [intOf]; omega
        · skip
          go_wp2_with fail
          refine (H1.out.byte (lowZ x.k) (by have := HA.out; simp; omega)).mono ?_
          rintro e w2 ⟨rfl, h2⟩
          obtain ⟨c0, c1, c2, c3⟩ := h2.cells
          have cf := ((HF.out.under HU1.out).under h2.bld.under).cell x.k.toNat HK.out
          rw [hff] at cf
          have H2 := Lib.hid h2
          clear h2
          go_wp2_with fail
          refine (H2.out.byte (lowZ x.n) (by have := HA.out; simp; omega)).mono ?_
          rintro e w2 ⟨rfl, h2⟩
          obtain ⟨c0, c1, c2, c3⟩ := h2.cells
          have cf := ((HF.out.under HU1.out).under h2.bld.under).cell x.k.toNat HK.out
          rw [hff] at cf
          have H3 := Lib.hid h2
          clear h2
          go_wp2_with fail
          refine (H3.out.byte (lowZ x.m) (by have := HA.out; simp; omega)).mono ?_
          rintro e w2 ⟨rfl, h2⟩
          obtain ⟨c0, c1, c2, c3⟩ := h2.cells
          have cf := ((HF.out.under HU1.out).under h2.bld.under).cell x.k.toNat HK.out
          rw [hff] at cf
          have H4 := Lib.hid h2
          clear h2
          go_wp2_with fail
          refine (H4.out.byte (lowB x.s.size) (by have := HA.out; simp; omega)).mono ?_
          rintro e w2 ⟨rfl, h2⟩
          obtain ⟨c0, c1, c2, c3⟩ := h2.cells
          have cf := ((HF.out.under HU1.out).under h2.bld.under).cell x.k.toNat HK.out
          rw [hff] at cf
          have H5 := Lib.hid h2
          clear h2
          go_wp2_with fail
          refine (H5.out.text x.s (by have := HA.out; simp; omega) (by have := (rightB_s HRx.out).resolve_right (by rw [HV.out.2.2.1]; decide); omega)).mono ?_
          rintro e w2 ⟨rfl, h2⟩
          have H6 := Lib.hid h2
          clear h2
          go_wp2
          go_roundw
          case rel => exact ⟨k + 1, _, by omega, by go_num, enc_len HA'.out HRx.out, by rw [HN.out]; exact HJ.out _ rfl, (by have hb := H6.out.bld; simpa [nodeB, HV.out.1, HV.out.2.1, HV.out.2.2.1] using hb)⟩
          case measure => simp [intOf]; omega
        · skip
          go_wp2_with fail
          refine (H1.out.byte (lowZ x.k) (by have := HA.out; simp; omega)).mono ?_
          rintro e w2 ⟨rfl, h2⟩
          obtain ⟨c0, c1, c2, c3⟩ := h2.cells
          have cf := ((HF.out.under HU1.out).under h2.bld.under).cell x.k.toNat HK.out
          rw [hff] at cf
          have H2 := Lib.hid h2
          clear h2
          go_wp2_with fail
          refine (H2.out.byte (lowZ x.m) (by have := HA.out; simp; omega)).mono ?_
          rintro e w2 ⟨rfl, h2⟩
          obtain ⟨c0, c1, c2, c3⟩ := h2.cells
          have cf := ((HF.out.under HU1.out).under h2.bld.under).cell x.k.toNat HK.out
          rw [hff] at cf
          have H3 := Lib.hid h2
          clear h2
          go_wp2_with fail
          refine (H3.out.byte (lowB x.s.size) (by have := HA.out; simp; omega)).mono ?_
          rintro e w2 ⟨rfl, h2⟩
          obtain ⟨c0, c1, c2, c3⟩ := h2.cells
          have cf := ((HF.out.under HU1.out).under h2.bld.under).cell x.k.toNat HK.out
          rw [hff] at cf
          have H4 := Lib.hid h2
          clear h2
          go_wp2_with fail
          refine (H4.out.text x.s (by have := HA.out; simp; omega) (by have := (rightB_s HRx.out).resolve_right (by rw [HV.out.2.2.1]; decide); omega)).mono ?_
          rintro e w2 ⟨rfl, h2⟩
          have H5 := Lib.hid h2
          clear h2
          go_wp2
          go_roundw
          case rel => exact ⟨k + 1, _, by omega, by go_num, enc_len HA'.out HRx.out, by rw [HN.out]; exact HJ.out _ rfl, (by have hb := H5.out.bld; simpa [nodeB, HV.out.1, HV.out.2.1, HV.out.2.2.1] using hb)⟩
          case measure => simp [intOf]; omega
      · obtain rfl : k = t.length := by omega
        have H4 := Lib.hid (string_k HBk.out (by
          have e := HN.out
          rw [List.drop_length] at e
          intro h; rw [h] at e; simp [termB, twoB] at e))
        go_wp2_with fail
        refine H4.out.mono ?_
        rintro e w4 ⟨rfl, hU4⟩
        have HU4 := Lib.hid (hU4)
        clear hU4
        go_wp2
        go_ret2
        exact ⟨by rw [HO.out, HN.out, List.drop_length]; simp, HU1.out.trans HU4.out⟩
  · have HCc := Lib.hid hc
    generalize checkE t = ce at *
    have hce : (ce == 0) = false := by simpa using HCc.out
    clear hc
    go_enter Tryd.func30, Tryd.ntmps30
    go_wp2_with fail
    refine HC.out.mono ?_
    rintro e w1 ⟨rfl, hU1⟩
    have HU1 := Lib.hid hU1
    clear hU1
    go_wp2
    go_ret2
    exact ⟨by rw [HO.out, if_neg HCc.out]; rfl, HU1.out⟩
end
end Go.Proofs.YtiibknlpeodejaaDoor
