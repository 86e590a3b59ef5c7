/- corniceref10.Terms: its contract. -/
import Derived.Test.YtiibknlpeodejaaDoorNamed
set_option linter.unusedSimpArgs false
set_option linter.unusedVariables false
namespace Go.Proofs.YtiibknlpeodejaaDoor
open Go.Lx Go.RowKit

theorem row_empty (w : World) (base : Nat) (e : TypeId) (size : Nat) (hb : base ≤ w.heap.size) : (w.alloc (.cells #[] e)).ownsRow base e size (.slice (some ⟨w.heap.size, 0, none⟩) 0 0) 0 [] :=
  ⟨by simp, .inr ⟨w.heap.size, 0, #[], rfl, hb, box_new w _ _, Nat.le_refl _, by unfold maxLen; omega, by simp, by simp⟩⟩
/-- What is held: the declaration in its box, a row of terms of one's own. -/
structure RtH (w0 : World) (cs : Array Value) (v : Value) (ts : List (List Nd)) (us : List Value) (w : World) : Prop where
  low : Under w0 w
  box : BoxAt w w0.heap.size 53 cs
  row : w.ownsRow (w0.heap.size + 1) 26 1 v us.length us
  zip : Zip (TermV w0) us ts
def RtRel (w0 : World) (cs : Array Value) (css : List (List (List Nd))) (v i : Value) (wr : World) : Prop := ∃ (k : Nat) (us : List Value), k ≤ css.length ∧ i = .int .i64 (k : Int) ∧ RtH w0 cs v (css.take k).flatten us wr
theorem RtH.grown {w0 w w' : World} {cs : Array Value} {v v' : Value} {ts : List (List Nd)} {us : List Value} {rs : List (List Nd)} {xs : List Value} (h : RtH w0 cs v ts us w) (hown : w'.ownsRow (w0.heap.size + 1) 26 1 v' (us.length + xs.length) (us ++ xs))
    (hgrow : w.grownBy w' v.ownBlock) (hz : Zip (TermV w0) xs rs) : RtH w0 cs v' (ts ++ rs) (us ++ xs) w' :=
  ⟨under_grown h.low hgrow fun g e => by have := (row_lt h.row e).1; omega, h.box.grown hgrow fun e => by have := (row_lt h.row e.symm).1; omega, by rw [List.length_append]; exact hown, h.zip.app hz⟩
theorem RtH.alloc {w0 w : World} {cs : Array Value} {v : Value} {ts : List (List Nd)} {us : List Value} (h : RtH w0 cs v ts us w) (o : Obj) : RtH w0 cs v ts us (w.alloc o) :=
  ⟨under_alloc h.low o, h.box.alloc o, h.row.alloc o, h.zip⟩
theorem RtH.terms {w0 w : World} {cs : Array Value} {v : Value} {ts : List (List Nd)} {us : List Value} (h : RtH w0 cs v ts us w) : TermsV w v ts := by
  have hr := h.row
  rw [h.zip.1] at hr
  exact ListV.of_own hr (h.zip.mono fun v x hx => TermV.mono _ _ _ _ h.low hx)
section
variable {w0 : World} {d : Dc} {v : Value}
set_option maxRecDepth 100000 in
set_option maxHeartbeats 2000000 in
theorem rterms_any (hd : d.cons.length ≤ 1000) (hd2 : ∀ c ∈ d.cons, c.length ≤ 1000) (hv : DcV w0 v d) : Calls Tryd.prog 13 #[v] w0 fun e w => ∃ u, e = .returned u ∧ TermsV w u (termsOf d) ∧ Under w0 w := by
  obtain ⟨vt, vb, vc, rfl, ht, hb, hc⟩ := hv
  obtain ⟨i0, hi, hz0, hz1, hz2⟩ := info_parts Tryd.info26
  have hT : termsOf d = if d.kind = 1 then [d.type, d.body] else if d.kind = 2 then [d.type] else if d.kind = 3 then d.cons.flatten else [] := rfl
  have HT := Lib.hid ht
  have HB := Lib.hid hb
  have HC := Lib.hid hc
  have hR0 : RtH w0 #[.int .i64 d.kind, .int .i64 d.level, .string d.name, vt, vb, vc] (.slice (some ⟨w0.heap.size + 1, 0, none⟩) 0 0) [] [] ((w0.alloc (.cells #[.int .i64 d.kind, .int .i64 d.level, .string d.name, vt, vb, vc] 53)).alloc (.cells #[] 26)) := by
    refine ⟨under_alloc (under_alloc (Under.refl _) _) _, (box_new _ _ _).alloc _, ?_, Zip.nil _⟩
    have := row_empty (w0.alloc (.cells #[.int .i64 d.kind, .int .i64 d.level, .string d.name, vt, vb, vc] 53)) (w0.heap.size + 1) 26 1 (by simp)
    simpa using this
  have HR0 := Lib.hid hR0
  obtain ⟨pt, ct, rfl, _⟩ := ht
  obtain ⟨pb, cb, rfl, _⟩ := hb
  obtain ⟨pc, cc, us, rfl, hcl, hc0, hrow, hzip⟩ := hc
  have HRow := Lib.hid hrow
  have HZip := Lib.hid hzip
  clear hR0 hrow hzip hcl hc0
  by_cases h1 : d.kind = 1
  · rw [if_pos h1] at hT
    have HTm := Lib.hid hT
    have b1 : (d.kind == 1) = true := by simpa using h1
    have b3 : (d.kind == 3) = false := by simp [h1]
    clear hT h1
    go_enter Tryd.func13, Tryd.ntmps13
    go_wp2_with (at_builtin; refine wpList_append_read rfl _ _ 40 rfl (w0.heap.size + 1) 26 i0 _ 1 24 Tryd.underlying40 hi hz0 hz1 hz2 rfl (by decide) _ _ _ rfl (HR0.out.alloc (.cells #[(.slice pt d.type.length ct)] 26)).row _ 1 1 [(.slice pt d.type.length ct)] rfl rfl (Nat.le_refl _) (fun h => by cases h) (arg_at _ ((.slice pt d.type.length ct)) 26 (by simp)) (fun u hu => by simp at hu; subst hu; rfl) (by simp [maxLen]) (by simp) (by have := HR0.out.box.lt; rw [alloc_heap, Array.size_push]; omega) ?_)
    intro v' w' hown hgrow
    have hR := (HR0.out.alloc (.cells #[(.slice pt d.type.length ct)] 26)).grown hown hgrow (Zip.one HT.out)
    obtain ⟨q', c', rfl, hc', hr'⟩ := RowArg.of_own hown
    have c0 : w'.cell? ⟨w0.heap.size, 0, none⟩ = some (.int .i64 d.kind) := hR.box.cell 0
    have c1 : w'.cell? ⟨w0.heap.size, 1, none⟩ = some (.int .i64 d.level) := hR.box.cell 1
    have c2 : w'.cell? ⟨w0.heap.size, 2, none⟩ = some (.string d.name) := hR.box.cell 2
    have c3 : w'.cell? ⟨w0.heap.size, 3, none⟩ = some (.slice pt d.type.length ct) := hR.box.cell 3
    have c4 : w'.cell? ⟨w0.heap.size, 4, none⟩ = some (.slice pb d.body.length cb) := hR.box.cell 4
    have c5 : w'.cell? ⟨w0.heap.size, 5, none⟩ = some (.slice pc d.cons.length cc) := hR.box.cell 5
    have lb := hR.box.lt
    have HR1 := Lib.hid hR
    clear hown hgrow hc' hr' hR
    go_wp2_with (at_builtin; refine wpList_append_read rfl _ _ 40 rfl (w0.heap.size + 1) 26 i0 _ 1 24 Tryd.underlying40 hi hz0 hz1 hz2 rfl (by decide) _ _ _ rfl (HR1.out.alloc (.cells #[(.slice pb d.body.length cb)] 26)).row _ 1 1 [(.slice pb d.body.length cb)] rfl rfl (Nat.le_refl _) (fun h => by cases h) (arg_at _ ((.slice pb d.body.length cb)) 26 (by simp)) (fun u hu => by simp at hu; subst hu; rfl) (by simp [maxLen]) (by simp) (by have := HR1.out.box.lt; rw [alloc_heap, Array.size_push]; omega) ?_)
    intro v' w' hown hgrow
    have hR := (HR1.out.alloc (.cells #[(.slice pb d.body.length cb)] 26)).grown hown hgrow (Zip.one HB.out)
    obtain ⟨q', c', rfl, hc', hr'⟩ := RowArg.of_own hown
    have c0 : w'.cell? ⟨w0.heap.size, 0, none⟩ = some (.int .i64 d.kind) := hR.box.cell 0
    have c1 : w'.cell? ⟨w0.heap.size, 1, none⟩ = some (.int .i64 d.level) := hR.box.cell 1
    have c2 : w'.cell? ⟨w0.heap.size, 2, none⟩ = some (.string d.name) := hR.box.cell 2
    have c3 : w'.cell? ⟨w0.heap.size, 3, none⟩ = some (.slice pt d.type.length ct) := hR.box.cell 3
    have c4 : w'.cell? ⟨w0.heap.size, 4, none⟩ = some (.slice pb d.body.length cb) := hR.box.cell 4
    have c5 : w'.cell? ⟨w0.heap.size, 5, none⟩ = some (.slice pc d.cons.length cc) := hR.box.cell 5
    have lb := hR.box.lt
    have HR2 := Lib.hid hR
    clear hown hgrow hc' hr' hR
    go_wp2
    go_ret
    exact ⟨_, rfl, by rw [HTm.out]; exact HR2.out.terms, HR2.out.low⟩
  rw [if_neg h1] at hT
  have b1 : (d.kind == 1) = false := by simpa using h1
  by_cases h2 : d.kind = 2
  · rw [if_pos h2] at hT
    have HTm := Lib.hid hT
    have b2 : (d.kind == 2) = true := by simpa using h2
    have b3 : (d.kind == 3) = false := by simp [h2]
    clear hT h1 h2
    go_enter Tryd.func13, Tryd.ntmps13
    go_wp2_with (at_builtin; refine wpList_append_read rfl _ _ 40 rfl (w0.heap.size + 1) 26 i0 _ 1 24 Tryd.underlying40 hi hz0 hz1 hz2 rfl (by decide) _ _ _ rfl (HR0.out.alloc (.cells #[(.slice pt d.type.length ct)] 26)).row _ 1 1 [(.slice pt d.type.length ct)] rfl rfl (Nat.le_refl _) (fun h => by cases h) (arg_at _ ((.slice pt d.type.length ct)) 26 (by simp)) (fun u hu => by simp at hu; subst hu; rfl) (by simp [maxLen]) (by simp) (by have := HR0.out.box.lt; rw [alloc_heap, Array.size_push]; omega) ?_)
    intro v' w' hown hgrow
    have hR := (HR0.out.alloc (.cells #[(.slice pt d.type.length ct)] 26)).grown hown hgrow (Zip.one HT.out)
    obtain ⟨q', c', rfl, hc', hr'⟩ := RowArg.of_own hown
    have c0 : w'.cell? ⟨w0.heap.size, 0, none⟩ = some (.int .i64 d.kind) := hR.box.cell 0
    have c1 : w'.cell? ⟨w0.heap.size, 1, none⟩ = some (.int .i64 d.level) := hR.box.cell 1
    have c2 : w'.cell? ⟨w0.heap.size, 2, none⟩ = some (.string d.name) := hR.box.cell 2
    have c3 : w'.cell? ⟨w0.heap.size, 3, none⟩ = some (.slice pt d.type.length ct) := hR.box.cell 3
    have c4 : w'.cell? ⟨w0.heap.size, 4, none⟩ = some (.slice pb d.body.length cb) := hR.box.cell 4
    have c5 : w'.cell? ⟨w0.heap.size, 5, none⟩ = some (.slice pc d.cons.length cc) := hR.box.cell 5
    have lb := hR.box.lt
    have HR1 := Lib.hid hR
    clear hown hgrow hc' hr' hR
    go_wp2
    go_ret
    exact ⟨_, rfl, by rw [HTm.out]; exact HR1.out.terms, HR1.out.low⟩
  rw [if_neg h2] at hT
  have b2 : (d.kind == 2) = false := by simpa using h2
  by_cases h3 : d.kind = 3
  · rw [if_pos h3] at hT
    have HTm := Lib.hid hT
    have b3 : (d.kind == 3) = true := by simpa using h3
    clear hT h1 h2 h3
    have hn0 : (0 : Int) ≤ (d.cons.length : Int) := by omega
    go_enter Tryd.func13, Tryd.ntmps13
    go_wp2
    go_loopw [3, 4] (fun v i wr => RtRel w0 #[.int .i64 d.kind, .int .i64 d.level, .string d.name, .slice pt d.type.length ct, .slice pb d.body.length cb, .slice pc d.cons.length cc] d.cons v i wr) (fun _ i _ => d.cons.length - (intOf i).toNat)
    case atStart => exact ⟨0, [], Nat.zero_le _, rfl, HR0.out⟩
    case round =>
      obtain ⟨k, us', hk, rfl, hR⟩ := hrel
      have lb := hR.box.lt
      have c0 : wr.cell? ⟨w0.heap.size, 0, none⟩ = some (.int .i64 d.kind) := hR.box.cell 0
      have c5 : wr.cell? ⟨w0.heap.size, 5, none⟩ = some (.slice pc d.cons.length cc) := hR.box.cell 5
      by_cases hlt : k < d.cons.length
      · obtain ⟨u, hu, hterms⟩ := HZip.out.at (List.getElem?_eq_getElem hlt)
        obtain ⟨q, cq, vs', rfl, hq1, hq2, hq3, hq4⟩ := hterms
        obtain ⟨b, off, rfl, hb, hcs⟩ := HRow.out (fun e => by rw [e] at hu; simp at hu)
        have cc' := hcs k _ hu
        rw [← under_cell hR.low hb] at cc'
        have hb' := Nat.lt_of_lt_of_le hb hR.low.size
        have hflat : (d.cons.take (k + 1)).flatten = (d.cons.take k).flatten ++ d.cons[k] := by rw [List.take_succ_eq_append_getElem hlt, List.flatten_append]; simp
        have hm := hd2 _ (List.getElem_mem hlt)
        have hus : us'.length ≤ k * 1000 := by
          rw [hR.zip.1, List.length_flatten]
          have : ∀ (l : List (List (List Nd))), (∀ c ∈ l, c.length ≤ 1000) → (l.map List.length).sum ≤ l.length * 1000 := by
            intro l hl
            induction l with
            | nil => simp
            | cons x l ih =>
              have h1 := hl x (List.mem_cons_self ..)
              have h2 := ih fun c hc => hl c (List.mem_cons_of_mem _ hc)
              simp only [List.map_cons, List.sum_cons, List.length_cons, Nat.add_mul]
              omega
          have h := this (d.cons.take k) fun c hc => hd2 c (List.mem_of_mem_take hc)
          rw [List.length_take] at h
          have hmin : min k d.cons.length = k := by omega
          rw [hmin] at h
          exact h
        have hk1 : k * 1000 ≤ 1000000 := by omega
        have HR := Lib.hid hR
        have HF := Lib.hid hflat
        have HQ3 := Lib.hid (hq3.under hR.low)
        have HQ4 := Lib.hid hq4
        have hq4l := hq4.1
        have HQL := Lib.hid hq4l
        clear hR hflat hcs hu hq3 hq4 hq4l
        generalize hcl : d.cons[k] = cl at *
        have HCL := Lib.hid hcl
        clear hcl
        generalize hml : cl.length = m at *
        have HML := Lib.hid hml
        clear hml
        go_wp2_with (at_builtin; refine wpList_append_read rfl _ _ 40 rfl (w0.heap.size + 1) 26 i0 _ 1 24 Tryd.underlying40 hi hz0 hz1 hz2 rfl (by decide) _ _ _ rfl HR.out.row q m cq vs' rfl (by rw [HQL.out]; omega) hq1 hq2 HQ3.out (fun u hu => ?c3) (by simp only [maxLen]; omega) (by omega) (by omega) ?_)
        case c3 =>
          obtain ⟨i, hi⟩ := List.getElem?_of_mem hu
          have hil : i < cl.length := by rw [HML.out, ← HQL.out]; exact (List.getElem?_eq_some_iff.1 hi).1
          exact (HQ4.out.2 i u _ hi (List.getElem?_eq_getElem hil)).one
        intro v' w' hown hgrow
        have hR2 : RtH w0 _ v' ((d.cons.take k).flatten ++ cl) (us' ++ vs') w' := HR.out.grown (xs := vs') (rs := cl) (by rw [HQL.out]; exact hown) hgrow HQ4.out
        have HR2 := Lib.hid hR2
        clear hR2 hown hgrow
        go_wp2
        go_roundw
        case rel => exact ⟨k + 1, us' ++ vs', by omega, by go_num, by rw [HF.out]; exact HR2.out⟩
        case measure => simp [intOf]; omega
      · obtain rfl : k = d.cons.length := by omega
        rw [List.take_length] at hR
        have hr := hR.row
        obtain ⟨q', c', rfl, hc', hr'⟩ := RowArg.of_own hr
        have HR := Lib.hid hR
        clear hR hr hc' hr'
        go_wp2
        go_ret
        exact ⟨_, rfl, by rw [HTm.out]; exact HR.out.terms, HR.out.low⟩
  · rw [if_neg h3] at hT
    have HTm := Lib.hid hT
    have b3 : (d.kind == 3) = false := by simpa using h3
    clear hT h1 h2 h3
    go_enter Tryd.func13, Tryd.ntmps13
    go_wp2
    go_ret
    exact ⟨_, rfl, by rw [HTm.out]; exact HR0.out.terms, HR0.out.low⟩
end
end Go.Proofs.YtiibknlpeodejaaDoor
