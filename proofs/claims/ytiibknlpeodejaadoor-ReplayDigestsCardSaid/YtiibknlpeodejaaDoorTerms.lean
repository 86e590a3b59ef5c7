/- decls.terms: its contract. -/
import Derived.Test.YtiibknlpeodejaaDoorConcat
import Derived.Test.YtiibknlpeodejaaDoorLxM
set_option linter.unusedSimpArgs false
set_option linter.unusedVariables false
namespace Go.Proofs.YtiibknlpeodejaaDoor
open Go.Lx Go.RowKit

section
variable {w0 : World} {d : Dc} {v : Value}
theorem two_terms {w : World} {u v : Value} {t s : List Nd} (hu : TermV w u t) (hv : TermV w v s) (T : TypeId) : TermsV (w.alloc (.cells #[u, v] T)) (.slice (some ⟨w.heap.size, 0, none⟩) 2 2) [t, s] :=
  ⟨_, 2, [u, v], rfl, Nat.le_refl _, fun h => by (cases h), arg_new w [u, v] T (0, 0), (Zip.one (TermV.mono _ _ _ _ (under_alloc (Under.refl w) _) hu)).app (Zip.one (TermV.mono _ _ _ _ (under_alloc (Under.refl w) _) hv))⟩
theorem one_term {w : World} {u : Value} {t : List Nd} (hu : TermV w u t) (T : TypeId) : TermsV (w.alloc (.cells #[u] T)) (.slice (some ⟨w.heap.size, 0, none⟩) 1 1) [t] :=
  ⟨_, 1, [u], rfl, Nat.le_refl _, fun h => by (cases h), arg_new w [u] T (0, 0), Zip.one (TermV.mono _ _ _ _ (under_alloc (Under.refl w) _) hu)⟩
set_option maxRecDepth 100000 in
set_option maxHeartbeats 1000000 in
theorem terms_any (hd : Small d) (hv : DcV w0 v d) : Calls Tryd.prog 22 #[v] w0 fun e w => ∃ u, e = .returned u ∧ TermsV w u (termsOf d) ∧ Under w0 w := by
  obtain ⟨vt, vb, vc, rfl, ht, hb, hc⟩ := hv
  have hU := under_alloc (Under.refl w0) (.cells #[.int .i64 d.kind, .int .i64 d.level, .string d.name, vt, vb, vc] 29)
  have HT := Lib.hid (TermV.mono _ _ _ _ hU ht)
  have HB := Lib.hid (TermV.mono _ _ _ _ hU hb)
  have HC := Lib.hid (concatTerms_any d.cons hd.cons hd.flat (ConsV.mono _ _ _ _ hU hc))
  have hT : termsOf d = if d.kind = 1 then [d.type, d.body] else if d.kind = 2 then [d.type] else if d.kind = 3 then d.cons.flatten else [] := rfl
  have HU := Lib.hid hU
  obtain ⟨pt, ct, rfl, _⟩ := ht
  obtain ⟨pb, cb, rfl, _⟩ := hb
  obtain ⟨pc, cc, us, rfl, _⟩ := hc
  clear hd hU
  by_cases h1 : d.kind = 1
  · rw [if_pos h1] at hT
    have HTm := Lib.hid hT
    have b1 : (d.kind == 1) = true := by simpa using h1
    clear hT h1
    go_enter Tryd.func22, Tryd.ntmps22
    go_wp2
    go_ret
    refine ⟨_, rfl, ?_, HU.out.trans (under_alloc (Under.refl _) _)⟩
    rw [HTm.out]
    simpa using two_terms HT.out HB.out 26
  rw [if_neg h1] at hT
  have b1 : (d.kind == 1) = false := by simpa using h1
  by_cases h2 : d.kind = 2
  · rw [if_pos h2] at hT
    have HTm := Lib.hid hT
    have b2 : (d.kind == 2) = true := by simpa using h2
    clear hT h1 h2
    go_enter Tryd.func22, Tryd.ntmps22
    go_wp2
    go_ret
    refine ⟨_, rfl, ?_, HU.out.trans (under_alloc (Under.refl _) _)⟩
    rw [HTm.out]
    simpa using one_term HT.out 26
  rw [if_neg h2] at hT
  have b2 : (d.kind == 2) = false := by simpa using h2
  by_cases h3 : d.kind = 3
  · rw [if_pos h3] at hT
    have HTm := Lib.hid hT
    have b3 : (d.kind == 3) = true := by simpa using h3
    clear hT h1 h2 h3
    go_enter Tryd.func22, Tryd.ntmps22
    go_wp2_with fail
    refine HC.out.mono ?_
    rintro e w1 ⟨u, vs, rfl, hown, hz, hU1⟩
    have HV := Lib.hid (ListV.of_own hown hz)
    have HU1 := Lib.hid hU1
    clear hown hz hU1
    go_wp2
    go_ret
    exact ⟨_, rfl, by rw [HTm.out]; exact HV.out, HU.out.trans HU1.out⟩
  · rw [if_neg h3] at hT
    have HTm := Lib.hid hT
    have b3 : (d.kind == 3) = false := by simpa using h3
    clear hT h1 h2 h3
    go_enter Tryd.func22, Tryd.ntmps22
    go_wp2
    go_ret
    exact ⟨_, rfl, by rw [HTm.out]; exact ⟨none, 0, [], rfl, Nat.le_refl _, fun _ => rfl, fun h => absurd rfl h, Zip.nil _⟩, HU.out⟩
end
end Go.Proofs.YtiibknlpeodejaaDoor
