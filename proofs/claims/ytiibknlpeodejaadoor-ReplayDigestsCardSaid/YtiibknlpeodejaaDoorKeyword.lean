/- scope.newResolver, keyword, Keyword. -/
import Derived.Test.YtiibknlpeodejaaDoorForms2
import Derived.Deep.RegionHeld3
set_option linter.unusedSimpArgs false
set_option linter.unusedVariables false
namespace Go.Proofs.YtiibknlpeodejaaDoor
open Go.Lx Go.RowKit

theorem mget_mem : ∀ {ks : Assoc} {k : ByteArray} {v : Value}, mget ks k = some v → (k, v) ∈ ks
  | (a, u) :: r, k, v, h => by
    simp only [mget] at h
    split at h
    · rename_i e
      cases h; subst e; exact List.mem_cons_self ..
    · exact List.mem_cons_of_mem _ (mget_mem h)
/-- Is a word a keyword? -/
def kwB (s : ByteArray) : Bool := (mget formsL s).isSome || (mget aloneL s).isSome
def isForm : Value → Bool
  | .agg ⟨[.int .i64 _, .int .i64 _, .int .i64 _, .string _, .string _]⟩ => true
  | _ => false
def isNode : Value → Bool
  | .agg ⟨[.int .i64 _, .int .i64 _, .int .i64 _, .string _]⟩ => true
  | _ => false
theorem forms_all : formsL.all (fun p => isForm p.2) = true := by kernel_rfl
theorem alone_all : aloneL.all (fun p => isNode p.2) = true := by kernel_rfl
theorem form_some {s : ByteArray} {v : Value} (h : mget formsL s = some v) : ∃ k n m x y, v = .agg #[.int .i64 k, .int .i64 n, .int .i64 m, .string x, .string y] := by
  have := List.all_eq_true.1 forms_all _ (mget_mem h)
  simp only at this
  unfold isForm at this
  split at this
  · exact ⟨_, _, _, _, _, rfl⟩
  · cases this
theorem alone_some {s : ByteArray} {v : Value} (h : mget aloneL s = some v) : ∃ k n m x, v = .agg #[.int .i64 k, .int .i64 n, .int .i64 m, .string x] := by
  have := List.all_eq_true.1 alone_all _ (mget_mem h)
  simp only at this
  unfold isNode at this
  split at this
  · exact ⟨_, _, _, _, rfl⟩
  · cases this
theorem zeroForm (w : World) : (zeroValue 105).run Tryd.prog w = .ok (.agg #[.int .i64 0, .int .i64 0, .int .i64 0, .string ⟨#[]⟩, .string ⟨#[]⟩]) w := by kernel_rfl
theorem zeroNode (w : World) : (zeroValue 51).run Tryd.prog w = .ok (.agg #[.int .i64 0, .int .i64 0, .int .i64 0, .string ⟨#[]⟩]) w := by kernel_rfl
section
variable {w0 : World}
/-- A resolver's tables. -/
structure Tables (w : World) (rb m1 m2 : Nat) : Prop where
  lt : rb < w.heap.size
  c1 : w.cell? ⟨rb, 2, none⟩ = some (.map (some m1))
  c2 : w.cell? ⟨rb, 3, none⟩ = some (.map (some m2))
  f : MapAt w m1 formsL
  a : MapAt w m2 aloneL
set_option maxRecDepth 100000 in
set_option maxHeartbeats 1000000 in
theorem keyword_any (s : ByteArray) {rb m1 m2 : Nat} (hT : Tables w0 rb m1 m2) : Calls Tryd.prog 42 #[.pointer (some ⟨rb, 0, none⟩), .string s] w0 fun e w => e = .returned (.bool (kwB s)) ∧ Under w0 w := by
  obtain ⟨hlt, c1, c2, h1, h2⟩ := hT
  have hk : kwB s = ((mget formsL s).isSome || (mget aloneL s).isSome) := rfl
  have HK := Lib.hid hk
  have HM1 := Lib.hid h1
  have HM2 := Lib.hid h2
  clear hk h1 h2
  cases hf : mget formsL s with
  | none =>
    cases ha : mget aloneL s with
    | none =>
      rw [hf, ha] at HK
      go_enter Tryd.func42, Tryd.ntmps42
      go_wp2_with (first
        | (refine wpList_lookup_map rfl _ _ true rfl Tryd.underlying98 Tryd.underlying9 (zeroForm _) rfl HM1.out rfl ?_; rw [hf]; simp only [Option.getD_some, Option.getD_none, Option.isSome_some, Option.isSome_none, if_true])
        | (refine wpList_lookup_map rfl _ _ true rfl Tryd.underlying100 Tryd.underlying9 (zeroNode _) rfl (HM2.out.under (under_alloc (Under.refl _) _)) rfl ?_; rw [ha]; simp only [Option.getD_some, Option.getD_none, Option.isSome_some, Option.isSome_none, if_true]))
      go_ret
      exact ⟨ret_bool HK.out.symm, under_alloc (under_alloc (Under.refl _) _) _⟩
    | some v =>
      obtain ⟨k, n, m, x, rfl⟩ := alone_some ha
      rw [hf, ha] at HK
      go_enter Tryd.func42, Tryd.ntmps42
      go_wp2_with (first
        | (refine wpList_lookup_map rfl _ _ true rfl Tryd.underlying98 Tryd.underlying9 (zeroForm _) rfl HM1.out rfl ?_; rw [hf]; simp only [Option.getD_some, Option.getD_none, Option.isSome_some, Option.isSome_none, if_true])
        | (refine wpList_lookup_map rfl _ _ true rfl Tryd.underlying100 Tryd.underlying9 (zeroNode _) rfl (HM2.out.under (under_alloc (Under.refl _) _)) rfl ?_; rw [ha]; simp only [Option.getD_some, Option.getD_none, Option.isSome_some, Option.isSome_none, if_true]))
      go_ret
      exact ⟨ret_bool HK.out.symm, under_alloc (under_alloc (Under.refl _) _) _⟩
  | some u =>
    obtain ⟨k1, n1, m1', x1, y1, rfl⟩ := form_some hf
    cases ha : mget aloneL s with
    | none =>
      rw [hf, ha] at HK
      go_enter Tryd.func42, Tryd.ntmps42
      go_wp2_with (first
        | (refine wpList_lookup_map rfl _ _ true rfl Tryd.underlying98 Tryd.underlying9 (zeroForm _) rfl HM1.out rfl ?_; rw [hf]; simp only [Option.getD_some, Option.getD_none, Option.isSome_some, Option.isSome_none, if_true])
        | (refine wpList_lookup_map rfl _ _ true rfl Tryd.underlying100 Tryd.underlying9 (zeroNode _) rfl (HM2.out.under (under_alloc (Under.refl _) _)) rfl ?_; rw [ha]; simp only [Option.getD_some, Option.getD_none, Option.isSome_some, Option.isSome_none, if_true]))
      go_ret
      exact ⟨ret_bool HK.out.symm, under_alloc (under_alloc (Under.refl _) _) _⟩
    | some v =>
      obtain ⟨k, n, m, x, rfl⟩ := alone_some ha
      rw [hf, ha] at HK
      go_enter Tryd.func42, Tryd.ntmps42
      go_wp2_with (first
        | (refine wpList_lookup_map rfl _ _ true rfl Tryd.underlying98 Tryd.underlying9 (zeroForm _) rfl HM1.out rfl ?_; rw [hf]; simp only [Option.getD_some, Option.getD_none, Option.isSome_some, Option.isSome_none, if_true])
        | (refine wpList_lookup_map rfl _ _ true rfl Tryd.underlying100 Tryd.underlying9 (zeroNode _) rfl (HM2.out.under (under_alloc (Under.refl _) _)) rfl ?_; rw [ha]; simp only [Option.getD_some, Option.getD_none, Option.isSome_some, Option.isSome_none, if_true]))
      go_ret
      exact ⟨ret_bool HK.out.symm, under_alloc (under_alloc (Under.refl _) _) _⟩
set_option maxRecDepth 100000 in
set_option maxHeartbeats 1000000 in
theorem newResolver_any (p1 p2 : Option Addr) (n1 n2 d1 d2 : Nat) : Calls Tryd.prog 41 #[.agg #[.slice p1 n1 d1, .slice p2 n2 d2]] w0 fun e w => ∃ rb m1 m2, e = .returned (.pointer (some ⟨rb, 0, none⟩)) ∧ Tables w rb m1 m2 ∧ Under w0 w := by
  have HU0 := Lib.hid (under_alloc (Under.refl w0) (.cells #[.slice p1 n1 d1, .slice p2 n2 d2] 92))
  go_enter Tryd.func41, Tryd.ntmps41
  go_wp2_with fail
  go_region_held3 (fun w' => w'.cell? ⟨w0.heap.size, 0, none⟩ = some (.slice p1 n1 d1) ∧ w'.cell? ⟨w0.heap.size, 1, none⟩ = some (.slice p2 n2 d2))
    (first
      | go_keep
      | (go_split_ands
         refine ⟨?_, ?_⟩
         · (rw [under_cell hU2 (by have := hU1.size; simp at this ⊢; omega)]; assumption)
         · (rw [under_cell hU2 (by have := hU1.size; simp at this ⊢; omega)]; assumption))
      | (go_split_ands
         refine ⟨?_, ?_⟩
         · (rw [under_cell hU1 (by simp)]; assumption)
         · (rw [under_cell hU1 (by simp)]; assumption)))
    (first
      | (go_simp; go_at_call 46; refine (forms_any (w0 := _)).mono ?_; rintro e w1 ⟨rfl, hM1, hU1⟩)
      | (go_simp; go_at_call 47; refine (alone_any (w0 := _)).mono ?_; rintro e w2 ⟨rfl, hM2, hU2⟩))
  have hM1' : MapAt w1 (w0.heap.size + 1) formsL := by simpa using hM1
  have hB := box_new w2 #[.slice p1 n1 d1, .slice p2 n2 d2, .map (some (w0.heap.size + 1)), .map (some w1.heap.size), .slice none 0 0, .int .i64 0, .int .i64 0] 103
  have hU3 := under_alloc (Under.refl w2) (.cells #[.slice p1 n1 d1, .slice p2 n2 d2, .map (some (w0.heap.size + 1)), .map (some w1.heap.size), .slice none 0 0, .int .i64 0, .int .i64 0] 103)
  have hT : Tables _ w2.heap.size (w0.heap.size + 1) w1.heap.size := ⟨hB.lt, hB.cell 2, hB.cell 3, (hM1'.under hU2).under hU3, hM2.under hU3⟩
  have hUa := (((under_drew HU0.out).trans hU1).trans hU2).trans hU3
  have HT := Lib.hid hT
  have HUa := Lib.hid hUa
  clear hM1 hM1' hM2 hU1 hU2 hU3 hB hT hUa
  go_wp2
  go_ret
  exact ⟨_, _, _, rfl, HT.out, HUa.out⟩
set_option maxRecDepth 100000 in
theorem Keyword_any (s : ByteArray) : Calls Tryd.prog 36 #[.string s] w0 fun e w => e = .returned (.bool (kwB s)) ∧ Under w0 w := by
  have HN := Lib.hid (newResolver_any (w0 := w0) none none 0 0 0 0)
  go_enter Tryd.func36, Tryd.ntmps36
  go_wp2_with fail
  refine HN.out.mono ?_
  rintro e w1 ⟨rb, m1, m2, rfl, hT, hU⟩
  have HK := Lib.hid (keyword_any s hT)
  have HU := Lib.hid hU
  clear hT hU
  go_wp2_with fail
  refine HK.out.mono ?_
  rintro e w2 ⟨rfl, hU2⟩
  have HU2 := Lib.hid hU2
  clear hU2
  go_wp2
  go_ret
  exact ⟨rfl, HU.out.trans HU2.out⟩
end
end Go.Proofs.YtiibknlpeodejaaDoor
