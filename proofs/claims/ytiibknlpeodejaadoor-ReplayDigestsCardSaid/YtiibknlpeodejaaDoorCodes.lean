/- decls.codes: its contract. -/
import Derived.Test.YtiibknlpeodejaaDoorEncode
import Derived.Test.YtiibknlpeodejaaDoorLxM
set_option linter.unusedSimpArgs false
set_option linter.unusedVariables false
namespace Go.Proofs.YtiibknlpeodejaaDoor
open Go.Lx Go.RowKit

/-- A term's bytes, as a text; nothing where it is none. -/
def codeT (t : List Nd) : ByteArray := if checkE t = 0 then ⟨(termB t).toArray⟩ else ⟨#[]⟩
theorem encOut_eq (t : List Nd) : encOut t = .returned (.tuple #[.string (codeT t), .int .i64 (checkE t)]) := by
  unfold encOut codeT
  split
  · rename_i h; rw [h]
  · rfl
/-- A slice of texts. -/
def StrsV (w : World) (v : Value) (ss : List ByteArray) : Prop := ∃ p c, v = .slice p ss.length c ∧ ss.length ≤ c ∧ (p = none → c = 0) ∧ RowArg w p (ss.map .string)
theorem StrsV.under {w w' : World} {v : Value} {ss : List ByteArray} (h : StrsV w v ss) (hU : Under w w') : StrsV w' v ss := by
  obtain ⟨p, c, rfl, h1, h2, h3⟩ := h
  exact ⟨p, c, rfl, h1, h2, h3.under hU⟩
theorem StrsV.of_own {w : World} {base : Nat} {e : TypeId} {v : Value} {ss : List ByteArray} (h : w.ownsRow base e 1 v ss.length (ss.map .string)) : StrsV w v ss := by
  have hc : ∀ q n c, v = .slice q n c → q = none → c = 0 := by
    intro q n c e hq
    subst hq
    rcases h.2 with ⟨rfl, _⟩ | ⟨g, cap, cur, e', _⟩
    · cases e; rfl
    · rw [e'] at e; cases e
  obtain ⟨q, c, rfl, h1, h2⟩ := RowArg.of_own h
  exact ⟨q, c, rfl, h1, hc q _ c rfl, h2⟩
theorem Tryd.infoStr : (Tryd.prog.info? 9).map (fun i => (i.zero, i.size, i.bytes)) = some (some (.string ⟨#[]⟩), 1, 16) := by kernel_rfl
/-- Terms that are not great. -/
def Fair (ts : List (List Nd)) : Prop := ∀ t ∈ ts, t.length ≤ 1000000 ∧ ∀ x ∈ t, x.s.size ≤ maxLen
/-- What is held between two terms. -/
def CdRel (w0 : World) (ts : List (List Nd)) (v i : Value) (w : World) : Prop := ∃ k : Nat, k ≤ ts.length ∧ i = .int .i64 (k : Int) ∧ w.ownsRow w0.heap.size 9 1 v ((ts.take k).map codeT).length (((ts.take k).map codeT).map .string) ∧ Under w0 w
section
variable {w0 : World}
set_option maxRecDepth 100000 in
set_option maxHeartbeats 2000000 in
theorem codes_any (ts : List (List Nd)) {v : Value} (hl : ts.length ≤ 100000) (hv : TermsV w0 v ts) (ht : Fair ts) (hS : ShapesAt 1 w0) (hF : FieldsAt 0 w0) :
    Calls Tryd.prog 21 #[v] w0 fun e w => ∃ u, e = .returned u ∧ StrsV w u (ts.map codeT) ∧ Under w0 w := by
  obtain ⟨p, c, vs, rfl, hc, h0, hr, hz⟩ := hv
  obtain ⟨i0, hi, hz0, hz1, hz2⟩ := info_parts Tryd.infoStr
  have HR := Lib.hid hr
  have HZ := Lib.hid hz
  have HT := Lib.hid ht
  have HS := Lib.hid hS
  have HF := Lib.hid hF
  clear hr hz ht hS hF hc h0
  have hl0 : (0 : Int) ≤ (ts.length : Int) := by omega
  go_enter Tryd.func21, Tryd.ntmps21
  go_wp2
  go_loopw [3, 10] (fun v i wr => CdRel w0 ts v i wr) (fun _ i _ => ts.length - (intOf i).toNat)
  case atStart => exact ⟨0, Nat.zero_le _, rfl, ⟨rfl, .inl ⟨rfl, rfl⟩⟩, Under.refl _⟩
  case round =>
    obtain ⟨k, hk, rfl, hown, hU⟩ := hrel
    by_cases hlt : k < ts.length
    · obtain ⟨u, hu, q, c', rfl, hc', h0', hr'⟩ := HZ.out.at (List.getElem?_eq_getElem hlt)
      obtain ⟨b, off, rfl, hb, hcs⟩ := HR.out (fun e => by rw [e] at hu; simp at hu)
      have cc := hcs k _ hu
      rw [← under_cell hU hb] at cc
      have hb' := Nat.lt_of_lt_of_le hb hU.size
      have hlen : ((ts.take k).map codeT).length = k := by simp; omega
      have htk : ((ts.take (k + 1)).map codeT) = ((ts.take k).map codeT) ++ [codeT ts[k]] := by rw [List.take_succ_eq_append_getElem hlt, List.map_append]; rfl
      have HTK := Lib.hid htk
      have HL := Lib.hid hlen
      have HO := Lib.hid hown
      have HU := Lib.hid hU
      have HE := Lib.hid (encode_any (w0 := wr) (c := c') ts[k] (HT.out _ (List.getElem_mem hlt)).1 (HT.out _ (List.getElem_mem hlt)).2 (hr'.under hU) (HS.out.under hU) (HF.out.under hU))
      rw [encOut_eq] at HE
      have hmx : ((ts.take k).map codeT).length + 1 ≤ maxLen := by rw [hlen]; simp only [maxLen]; omega
      have hby : (((ts.take k).map codeT).length + 1) * 16 ≤ 140737488355328 := by rw [hlen]; omega
      clear hcs hu hr' h0' hc' hlen htk hown hU
      generalize checkE ts[k] = ce at *
      generalize codeT ts[k] = cd at *
      generalize ts[k].length = m at *
      generalize (ts.take k).map codeT = done at *
      go_wp2_with fail
      refine HE.out.mono ?_
      rintro e w1 ⟨rfl, hU1⟩
      have HU1 := Lib.hid hU1
      clear hU1
      go_wp2_with (at_builtin; refine wpList_append_own_at _ rfl _ _ 44 rfl w0.heap.size 9 i0 _ 1 16 Tryd.underlying44 hi hz0 hz1 hz2 rfl (by decide) _ _ _ rfl ((row_under HO.out HU1.out).alloc _) ⟨w1.heap.size, 0, none⟩ 1 1 [.string cd] rfl rfl ?c1 ?c2 hmx hby ?c5 ?_)
      case c1 =>
        intro j u hj
        match j, hj with
        | 0, hj => cases hj; simp [Addr.add]
      case c2 => intro u hu; simp at hu; rcases hu with rfl; rfl
      case c5 => have := HU.out.size; have := HU1.out.size; simp; omega
      intro v' w' hown hgrow hnil hat
      have HW := Lib.hid hown
      have HU2 := Lib.hid (under_grown (under_alloc (HU.out.trans HU1.out) _) hgrow fun g e => (row_lt HO.out e).1)
      clear hown hgrow hnil hat
      go_wp2
      go_roundw
      case rel => exact ⟨k + 1, by omega, by go_num, by rw [HTK.out, List.map_append, List.length_append]; exact HW.out, HU2.out⟩
      case measure => simp [intOf]; omega
    · obtain rfl : k = ts.length := by omega
      have hS' : StrsV wr u3 (ts.map codeT) := by
        rw [List.take_length] at hown
        exact .of_own hown
      obtain ⟨q, c2, rfl, hc2, hn2, hr2⟩ := hS'
      have HX := Lib.hid (show StrsV wr (.slice q (ts.map codeT).length c2) (ts.map codeT) from ⟨q, c2, rfl, hc2, hn2, hr2⟩)
      have HU := Lib.hid hU
      clear hown hU hc2 hn2 hr2
      generalize (ts.map codeT).length = m at *
      go_wp2
      go_ret
      exact ⟨_, rfl, HX.out, HU.out⟩
end
end Go.Proofs.YtiibknlpeodejaaDoor
