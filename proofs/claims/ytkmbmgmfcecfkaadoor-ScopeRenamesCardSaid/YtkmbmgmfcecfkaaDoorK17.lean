/- Part 17 of what the proof rests on. -/
import Derived.Conc.AtomicLaws
import Derived.Lib.Hide
import Derived.IntWalk
import Derived.Test.YtkmbmgmfcecfkaaDoorK09
import Derived.Test.YtkmbmgmfcecfkaaDoorK16
set_option linter.unusedSimpArgs false
set_option linter.unusedVariables false
namespace Go.Proofs.YtkmbmgmfcecfkaaDoor
open Go.Conc Go.Lx
section
variable {main : Bool} {d : Deal} {T : TypeId → Prop} {o : Option Nat} {L : List (Nat × Obj)}
theorem run_ibs (s : ByteArray) (c : UInt8) (w : World) : (callFunc 74 #[.string s, .int .u8 c.toNat]).run Tryd.prog w = .ok (.value (.int .i64 (Lib.indexByte s.data.toList c))) w := by
  rw [run_callFunc_extern Tryd.func74 (by kernel_rfl) (by kernel_rfl) (by kernel_rfl) (e := Extern.BytealgIndexByte.indexByte) (by kernel_rfl), Lib.run_indexByteString]
  simp [Result.andThen]
theorem ev_ibs (s : ByteArray) (c : UInt8) (w : World) (es : Array Event) : (callFunc 74 #[.string s, .int .u8 c.toNat]).events Tryd.prog w es = es.push ⟨.mark (.extern 74), false, true⟩ := by
  rw [events_callFunc_extern Tryd.func74 (by kernel_rfl) (by kernel_rfl) (by kernel_rfl) (e := Extern.BytealgIndexByte.indexByte) (by kernel_rfl)]
  have e : Extern.BytealgIndexByte.indexByte #[.string s, .int .u8 c.toNat] = (match (List.range s.size).find? (fun i => s[i]! == (c.toNat : Int).toNat.toUInt8) with | some i => pure (goInt i) | none => pure (goInt (-1))) := rfl
  rw [e]
  split <;> rfl
set_option maxRecDepth 100000 in
theorem slib_c (s : ByteArray) (c : UInt8) (w : World) (hF : Holds d T o L w) : CallsC Tryd.prog main (Rely d T o) (Lx.Does d T o) 65 #[.string s, .int .u8 c.toNat] 20 w fun v w' => v = .int .i64 (Lib.indexByte s.data.toList c) ∧ Holds d T o L w' := by
  have hr := run_ibs s c
  have hv := ev_ibs s c
  co_apply Go.Lx.CallsC.more
  · co_apply callsC_of_wpC Tryd.func65 (by rfl) rfl
    simp only [Tryd.ntmps65, List.size_toArray, List.length_cons, List.length_nil, Nat.reduceAdd, Nat.reduceSub, Array.replicate_succ, Array.replicate_zero, List.push_toArray, List.append_toArray, List.nil_append, List.cons_append]
    co_stmt terms Holds.rely hF (co_quiet terms)
    co_apply wpC_seq terms
    co_reg terms
    co_op Holds.rely hF (co_quiet terms)
    co_op Holds.rely hF (co_quiet terms)
    co_opw Holds.rely hF (skip) (refine Does.reads fun e he => ?_; have hm := mem_listed he; simp [go_sem, hv] at hm; subst hm; exact evOk_extern _ _ _)
    repeat (first | co_reg terms | co_op Holds.rely hF (co_quiet terms) | (co_apply opsC_unwanted terms rfl (by rfl); try walk_nrm) | (co_ctl terms; try co_then))
    exact ⟨rfl, _, resultsC_tmp (by rfl) _, by simp, hF⟩
  · decide
set_option maxRecDepth 100000 in
theorem sib_c (s : ByteArray) (c : UInt8) (w : World) (hF : Holds d T o L w) : CallsC Tryd.prog main (Rely d T o) (Lx.Does d T o) 55 #[.string s, .int .u8 c.toNat] 50 w fun v w' => v = .int .i64 (Lib.indexByte s.data.toList c) ∧ Holds d T o L w' := by
  co_apply Go.Lx.CallsC.more
  · co_apply callsC_of_wpC Tryd.func55 (by rfl) rfl
    simp only [Tryd.ntmps55, List.size_toArray, List.length_cons, List.length_nil, Nat.reduceAdd, Nat.reduceSub, Array.replicate_succ, Array.replicate_zero, List.push_toArray, List.append_toArray, List.nil_append, List.cons_append]
    co_stmt terms Holds.rely hF (co_quiet terms)
    co_apply wpC_seq terms
    co_reg terms
    co_op Holds.rely hF (co_quiet terms)
    co_op Holds.rely hF (co_quiet terms)
    co_apply opsC_callA terms rfl (by rfl) rfl (slib_c s c _ hF) (by simp [Act.eval])
    clear hF
    rintro v w ⟨rfl, hF⟩
    try walk_nrm
    repeat (first | co_reg terms | co_op Holds.rely hF (co_quiet terms) | (co_apply opsC_unwanted terms rfl (by rfl); try walk_nrm) | (co_ctl terms; try co_then))
    exact ⟨rfl, _, resultsC_tmp (by rfl) _, by simp, hF⟩
  · decide
set_option maxRecDepth 100000 in
theorem is1_c {b : Nat} {s : ByteArray} (hb : (b, Obj.cells #[.string s] 9 (0, 0)) ∈ L) (c : UInt8) (w : World) (hF : Holds d T o L w) :
    CallsC Tryd.prog main (Rely d T o) (Lx.Does d T o) 54 #[.int .u8 c.toNat, .pointer (some ⟨b, 0, none⟩)] 100 w fun v w' => v = .bool (decide (0 ≤ Lib.indexByte s.data.toList c)) ∧ Holds d T o L w' := by
  co_apply Go.Lx.CallsC.more
  · co_apply callsC_of_wpC Tryd.func54 (by rfl) rfl
    simp only [Tryd.ntmps54, List.size_toArray, List.length_cons, List.length_nil, Nat.reduceAdd, Nat.reduceSub, Array.replicate_succ, Array.replicate_zero, List.push_toArray, List.append_toArray, List.nil_append, List.cons_append]
    co_stmt terms Holds.rely hF (co_quiet terms)
    co_apply wpC_seq terms
    co_reg terms
    co_opw Holds.rely hF (have hc : _ = some (Value.string s) := hF.cell hb 0) (refine Does.reads ?_; co_evs (exact hF.read hb _ _))
    clear hc
    co_op Holds.rely hF (co_quiet terms)
    co_apply opsC_callA terms rfl (by rfl) rfl (sib_c s c _ hF) (by simp [Act.eval])
    clear hF
    rintro v w ⟨rfl, hF⟩
    try walk_nrm
    repeat (first | co_reg terms | co_op Holds.rely hF (co_quiet terms) | (co_apply opsC_unwanted terms rfl (by rfl); try walk_nrm) | (co_ctl terms; try co_then))
    exact ⟨rfl, _, resultsC_tmp (by rfl) _, by simp, hF⟩
  · decide
end
end Go.Proofs.YtkmbmgmfcecfkaaDoor
namespace Go.Proofs.YtkmbmgmfcecfkaaDoor
open Go.Conc Go.Lx
section
variable {main : Bool} {d : Deal} {T : TypeId → Prop} {o : Option Nat} {L : List (Nat × Obj)}
def Wish (main : Bool) (d : Deal) (T : TypeId → Prop) (o : Option Nat) (L : List (Nat × Obj)) (f : FuncId) (caps : Array Value) (p : UInt8 → Bool) : Prop :=
  ∀ (c : UInt8) (w : World), Holds d T o L w → CallsC Tryd.prog main (Rely d T o) (Lx.Does d T o) f (#[.int .u8 c.toNat] ++ caps) 100 w fun v w' => v = .bool (p c) ∧ Holds d T o L w'
def many (p : UInt8 → Bool) (l : List UInt8) : Nat := (l.takeWhile p).length
theorem many_le (p : UInt8 → Bool) (l : List UInt8) : many p l ≤ l.length := (List.takeWhile_sublist p).length_le
theorem many_at (p : UInt8 → Bool) : ∀ (l : List UInt8) (k : Nat), k ≤ many p l → ∀ (h : k < l.length), (p l[k] = true → k + 1 ≤ many p l) ∧ (p l[k] = false → k = many p l)
  | [], _, _, h => by simp at h
  | x :: l, 0, hk, h => by
    simp only [many, List.takeWhile_cons, List.getElem_cons_zero]
    constructor <;> intro hp <;> simp [hp]
  | x :: l, k + 1, hk, h => by
    simp only [many, List.takeWhile_cons] at hk ⊢
    cases hx : p x with
    | false => simp [hx] at hk
    | true =>
      simp only [hx, if_true, List.length_cons, List.getElem_cons_succ] at hk ⊢
      have := many_at p l k (by unfold many; omega) (by simpa using h)
      unfold many at this
      exact ⟨fun h => by have := this.1 h; omega, fun h => by have := this.2 h; omega⟩
def WAt (d : Deal) (T : TypeId → Prop) (o : Option Nat) (L : List (Nat × Obj)) (s : ByteArray) (b : Nat) (k : Nat) (a : Act) (w : World) : Prop :=
  ∃ (u5 u6 u7 u8 u9 u10 u11 u12 u13 u14 u15 u16 u17 u18 : Value), Holds d T o L w ∧
    a = ⟨#[.string s, .pointer (some ⟨b, 0, none⟩), undef, .int .i64 0, .int .i64 (k : Int), u5, u6, u7, u8, u9, u10, u11, u12, u13, u14, u15, u16, u17, u18], []⟩
def slot4 (a : Act) : Nat := match a.tmps.getD 4 undef with | .int _ n => n.toNat | _ => 0
set_option maxRecDepth 100000 in
set_option maxHeartbeats 2000000 in
theorem while1_c {b : Nat} {f : FuncId} {caps : Array Value} {p : UInt8 → Bool} (hW : Wish main d T o L f caps p) (hb : (b, Obj.cells #[.func (.func f) #[] caps] 36 (0, 0)) ∈ L) (s : ByteArray) (hs : s.size ≤ 1000000) (w : World) (hF : Holds d T o L w) :
    CallsC Tryd.prog main (Rely d T o) (Lx.Does d T o) 56 #[.string s, .pointer (some ⟨b, 0, none⟩)] ((s.size + 1) * 6001 + 100) w fun v w' => v = .int .i64 (many p s.data.toList) ∧ Holds d T o L w' := by
  co_apply Go.Lx.CallsC.more
  · co_apply callsC_of_wpC Tryd.func56 (by rfl) rfl
    simp only [Tryd.ntmps56, List.size_toArray, List.length_cons, List.length_nil, Nat.reduceAdd, Nat.reduceSub, Array.replicate_succ, Array.replicate_zero, List.push_toArray, List.append_toArray, List.nil_append, List.cons_append]
    co_stmt terms Holds.rely hF (co_quiet terms)
    co_stmt terms Holds.rely hF (co_quiet terms)
    co_apply wpC_seq_mid terms (fun a w => ∃ k : Nat, k = many p s.data.toList ∧ WAt d T o L s b k a w)
    · co_apply wpC_block terms
      co_apply wpC_loop terms (fun a w => ∃ k : Nat, k ≤ many p s.data.toList ∧ WAt d T o L s b k a w) (fun a _ => s.size - slot4 a) 6000 s.size
      · exact ⟨0, Nat.zero_le _, _, _, _, _, _, _, _, _, _, _, _, _, _, _, hF, rfl⟩
      · omega
      · clear hF
        rintro a w ⟨k, hk, u5, u6, u7, u8, u9, u10, u11, u12, u13, u14, u15, u16, u17, u18, hF, rfl⟩
        have hml := many_le p s.data.toList
        have hsz : s.data.toList.length = s.size := rfl
        by_cases hlt : k < s.size
        · have hat := many_at p s.data.toList k hk (by rw [hsz]; exact hlt)
          have hpk : s.data.toList[k] = s[k] := rfl
          rw [hpk] at hat
          clear hpk
          have hin : 0 ≤ (k : Int) ∧ (k : Int) < s.size := by omega
          have HSZ := Lib.hid hsz
          clear hsz
          cases hp : p (s[k]'hlt)
          · rw [hp] at hat
            have HAT := Lib.hid hat
            clear hat
            co_apply wpC_more
            · co_apply wpC_seq (n₂ := 50) terms
              co_apply wpC_seq terms
              co_apply wpC_region_x terms draws 500 (by omega) (S := Holds d T o L) (by first | kernel_rfl | rfl)
              intro _ hR
              replace hF := Holds.rely (Holds.rely hF hR) (own_draw _)
              clear hR
              simp only [List.size_toArray, List.length_cons, List.length_nil, Nat.reduceAdd, Nat.zero_add]
              co_applyP anyX_take terms (fun _ _ h r => Holds.rely h r) (fun _ _ _ h r => wpC_rely terms h r) (i := 0) rfl (by first | kernel_rfl | decide +kernel) (by first | kernel_rfl | decide +kernel) (by first | kernel_rfl | decide +kernel) (.inl ⟨by rfl, fun _ hw => ⟨run_eq_of ?_, ?_⟩⟩) hF ?_
              rotate_left
              · intro K hK
                (skip)
                go_simp
                exact hK
              · (skip)
                (co_quiet terms)
              try walk_nrm
              co_applyP anyX_take terms (fun _ _ h r => Holds.rely h r) (fun _ _ _ h r => wpC_rely terms h r) (i := 1) rfl (by first | kernel_rfl | decide +kernel) (by first | kernel_rfl | decide +kernel) (by first | kernel_rfl | decide +kernel) (.inl ⟨by rfl, fun _ hw => ⟨run_eq_of ?_, ?_⟩⟩) hF ?_
              rotate_left
              · intro K hK
                (skip)
                go_simp
                exact hK
              · (skip)
                (co_quiet terms)
              try walk_nrm
              co_applyP anyX_take terms (fun _ _ h r => Holds.rely h r) (fun _ _ _ h r => wpC_rely terms h r) (i := 2) rfl (by first | kernel_rfl | decide +kernel) (by first | kernel_rfl | decide +kernel) (by first | kernel_rfl | decide +kernel) (.inl ⟨by rfl, fun _ hw => ⟨run_eq_of ?_, ?_⟩⟩) hF ?_
              rotate_left
              · intro K hK
                (skip)
                go_simp
                exact hK
              · (skip)
                (rw [listed_nil (by simp [go_sem, ev_len_string _ _ _ Tryd.underlying9])]; exact Terms.idle terms _)
              try walk_nrm
              co_applyP anyX_take terms (fun _ _ h r => Holds.rely h r) (fun _ _ _ h r => wpC_rely terms h r) (i := 3) rfl (by first | kernel_rfl | decide +kernel) (by first | kernel_rfl | decide +kernel) (by first | kernel_rfl | decide +kernel) (.inl ⟨by rfl, fun _ hw => ⟨run_eq_of ?_, ?_⟩⟩) hF ?_
              rotate_left
              · intro K hK
                (skip)
                go_simp
                exact hK
              · (skip)
                (co_quiet terms)
              try walk_nrm
              co_applyP anyX_take terms (fun _ _ h r => Holds.rely h r) (fun _ _ _ h r => wpC_rely terms h r) (i := 4) rfl (by first | kernel_rfl | decide +kernel) (by first | kernel_rfl | decide +kernel) (by first | kernel_rfl | decide +kernel) (.inl ⟨by rfl, fun _ hw => ⟨run_eq_of ?_, ?_⟩⟩) hF ?_
              rotate_left
              · intro K hK
                (skip)
                go_simp
                exact hK
              · (skip)
                (co_quiet terms)
              try walk_nrm
              co_applyP anyX_take terms (fun _ _ h r => Holds.rely h r) (fun _ _ _ h r => wpC_rely terms h r) (i := 5) rfl (by first | kernel_rfl | decide +kernel) (by first | kernel_rfl | decide +kernel) (by first | kernel_rfl | decide +kernel) (.inl ⟨by rfl, fun _ hw => ⟨run_eq_of ?_, ?_⟩⟩) hF ?_
              rotate_left
              · intro K hK
                (have hc : _ = some (Value.func (.func f) #[] caps) := hw.cell hb 0)
                go_simp
                exact hK
              · (have hc : _ = some (Value.func (.func f) #[] caps) := hw.cell hb 0)
                (refine Does.reads ?_; co_evs (exact hw.read hb _ _))
              try walk_nrm
              co_applyP anyX_take terms (fun _ _ h r => Holds.rely h r) (fun _ _ _ h r => wpC_rely terms h r) (i := 6) rfl (by first | kernel_rfl | decide +kernel) (by first | kernel_rfl | decide +kernel) (by first | kernel_rfl | decide +kernel) (.inl ⟨by rfl, fun _ hw => ⟨run_eq_of ?_, ?_⟩⟩) hF ?_
              rotate_left
              · intro K hK
                (skip)
                go_simp
                exact hK
              · (skip)
                (co_quiet terms)
              try walk_nrm
              co_applyP anyX_take terms (fun _ _ h r => Holds.rely h r) (fun _ _ _ h r => wpC_rely terms h r) (i := 7) rfl (by first | kernel_rfl | decide +kernel) (by first | kernel_rfl | decide +kernel) (by first | kernel_rfl | decide +kernel) (.inl ⟨by rfl, fun _ hw => ⟨run_eq_of ?_, ?_⟩⟩) hF ?_
              rotate_left
              · intro K hK
                (skip)
                go_simp
                exact hK
              · (skip)
                (co_quiet terms)
              try walk_nrm
              co_applyP anyX_take terms (fun _ _ h r => Holds.rely h r) (fun _ _ _ h r => wpC_rely terms h r) (i := 8) rfl (by first | kernel_rfl | decide +kernel) (by first | kernel_rfl | decide +kernel) (by first | kernel_rfl | decide +kernel) (.inl ⟨by rfl, fun _ hw => ⟨run_eq_of ?_, ?_⟩⟩) hF ?_
              rotate_left
              · intro K hK
                (skip)
                go_simp
                exact hK
              · (skip)
                (rw [listed_nil (by simp [go_sem, ev_index_string _ _ _ _ Tryd.underlying9 hin])]; exact Terms.idle terms _)
              try walk_nrm
              co_applyP anyX_callv terms (i := 9) (by first | kernel_rfl | decide +kernel) rfl (by rfl) rfl (by rfl) (hW (s[k]'hlt) _ hF) (by omega) (by simp [Act.eval])
              clear hF
              rintro v w ⟨rfl, hF⟩
              rw [hp]
              refine ⟨hF, ?_⟩
              try walk_nrm
              co_applyP anyX_take terms (fun _ _ h r => Holds.rely h r) (fun _ _ _ h r => wpC_rely terms h r) (i := 10) rfl (by first | kernel_rfl | decide +kernel) (by first | kernel_rfl | decide +kernel) (by first | kernel_rfl | decide +kernel) (.inl ⟨by rfl, fun _ hw => ⟨run_eq_of ?_, ?_⟩⟩) hF ?_
              rotate_left
              · intro K hK
                (skip)
                go_simp
                exact hK
              · (skip)
                (co_quiet terms)
              try walk_nrm
              refine anyX_done (by first | kernel_rfl | decide +kernel) ?_ _
              co_then
              co_apply wpC_cond (t := false) terms rfl
              simp only [Bool.false_eq_true, if_false]
              co_ctl terms
              co_then
              exact ⟨k, HAT.out.2 rfl, _, _, _, _, _, _, _, _, _, _, _, _, _, _, hF, rfl⟩
            · decide
          · rw [hp] at hat
            have HAT := Lib.hid hat
            clear hat
            co_apply wpC_more
            · co_apply wpC_seq terms
              co_apply wpC_seq terms
              co_apply wpC_region_x terms draws 500 (by omega) (S := Holds d T o L) (by first | kernel_rfl | rfl)
              intro _ hR
              replace hF := Holds.rely (Holds.rely hF hR) (own_draw _)
              clear hR
              simp only [List.size_toArray, List.length_cons, List.length_nil, Nat.reduceAdd, Nat.zero_add]
              co_applyP anyX_take terms (fun _ _ h r => Holds.rely h r) (fun _ _ _ h r => wpC_rely terms h r) (i := 0) rfl (by first | kernel_rfl | decide +kernel) (by first | kernel_rfl | decide +kernel) (by first | kernel_rfl | decide +kernel) (.inl ⟨by rfl, fun _ hw => ⟨run_eq_of ?_, ?_⟩⟩) hF ?_
              rotate_left
              · intro K hK
                (skip)
                go_simp
                exact hK
              · (skip)
                (co_quiet terms)
              try walk_nrm
              co_applyP anyX_take terms (fun _ _ h r => Holds.rely h r) (fun _ _ _ h r => wpC_rely terms h r) (i := 1) rfl (by first | kernel_rfl | decide +kernel) (by first | kernel_rfl | decide +kernel) (by first | kernel_rfl | decide +kernel) (.inl ⟨by rfl, fun _ hw => ⟨run_eq_of ?_, ?_⟩⟩) hF ?_
              rotate_left
              · intro K hK
                (skip)
                go_simp
                exact hK
              · (skip)
                (co_quiet terms)
              try walk_nrm
              co_applyP anyX_take terms (fun _ _ h r => Holds.rely h r) (fun _ _ _ h r => wpC_rely terms h r) (i := 2) rfl (by first | kernel_rfl | decide +kernel) (by first | kernel_rfl | decide +kernel) (by first | kernel_rfl | decide +kernel) (.inl ⟨by rfl, fun _ hw => ⟨run_eq_of ?_, ?_⟩⟩) hF ?_
              rotate_left
              · intro K hK
                (skip)
                go_simp
                exact hK
              · (skip)
                (rw [listed_nil (by simp [go_sem, ev_len_string _ _ _ Tryd.underlying9])]; exact Terms.idle terms _)
              try walk_nrm
              co_applyP anyX_take terms (fun _ _ h r => Holds.rely h r) (fun _ _ _ h r => wpC_rely terms h r) (i := 3) rfl (by first | kernel_rfl | decide +kernel) (by first | kernel_rfl | decide +kernel) (by first | kernel_rfl | decide +kernel) (.inl ⟨by rfl, fun _ hw => ⟨run_eq_of ?_, ?_⟩⟩) hF ?_
              rotate_left
              · intro K hK
                (skip)
                go_simp
                exact hK
              · (skip)
                (co_quiet terms)
              try walk_nrm
              co_applyP anyX_take terms (fun _ _ h r => Holds.rely h r) (fun _ _ _ h r => wpC_rely terms h r) (i := 4) rfl (by first | kernel_rfl | decide +kernel) (by first | kernel_rfl | decide +kernel) (by first | kernel_rfl | decide +kernel) (.inl ⟨by rfl, fun _ hw => ⟨run_eq_of ?_, ?_⟩⟩) hF ?_
              rotate_left
              · intro K hK
                (skip)
                go_simp
                exact hK
              · (skip)
                (co_quiet terms)
              try walk_nrm
              co_applyP anyX_take terms (fun _ _ h r => Holds.rely h r) (fun _ _ _ h r => wpC_rely terms h r) (i := 5) rfl (by first | kernel_rfl | decide +kernel) (by first | kernel_rfl | decide +kernel) (by first | kernel_rfl | decide +kernel) (.inl ⟨by rfl, fun _ hw => ⟨run_eq_of ?_, ?_⟩⟩) hF ?_
              rotate_left
              · intro K hK
                (have hc : _ = some (Value.func (.func f) #[] caps) := hw.cell hb 0)
                go_simp
                exact hK
              · (have hc : _ = some (Value.func (.func f) #[] caps) := hw.cell hb 0)
                (refine Does.reads ?_; co_evs (exact hw.read hb _ _))
              try walk_nrm
              co_applyP anyX_take terms (fun _ _ h r => Holds.rely h r) (fun _ _ _ h r => wpC_rely terms h r) (i := 6) rfl (by first | kernel_rfl | decide +kernel) (by first | kernel_rfl | decide +kernel) (by first | kernel_rfl | decide +kernel) (.inl ⟨by rfl, fun _ hw => ⟨run_eq_of ?_, ?_⟩⟩) hF ?_
              rotate_left
              · intro K hK
                (skip)
                go_simp
                exact hK
              · (skip)
                (co_quiet terms)
              try walk_nrm
              co_applyP anyX_take terms (fun _ _ h r => Holds.rely h r) (fun _ _ _ h r => wpC_rely terms h r) (i := 7) rfl (by first | kernel_rfl | decide +kernel) (by first | kernel_rfl | decide +kernel) (by first | kernel_rfl | decide +kernel) (.inl ⟨by rfl, fun _ hw => ⟨run_eq_of ?_, ?_⟩⟩) hF ?_
              rotate_left
              · intro K hK
                (skip)
                go_simp
                exact hK
              · (skip)
                (co_quiet terms)
              try walk_nrm
              co_applyP anyX_take terms (fun _ _ h r => Holds.rely h r) (fun _ _ _ h r => wpC_rely terms h r) (i := 8) rfl (by first | kernel_rfl | decide +kernel) (by first | kernel_rfl | decide +kernel) (by first | kernel_rfl | decide +kernel) (.inl ⟨by rfl, fun _ hw => ⟨run_eq_of ?_, ?_⟩⟩) hF ?_
              rotate_left
              · intro K hK
                (skip)
                go_simp
                exact hK
              · (skip)
                (rw [listed_nil (by simp [go_sem, ev_index_string _ _ _ _ Tryd.underlying9 hin])]; exact Terms.idle terms _)
              try walk_nrm
              co_applyP anyX_callv terms (i := 9) (by first | kernel_rfl | decide +kernel) rfl (by rfl) rfl (by rfl) (hW (s[k]'hlt) _ hF) (by omega) (by simp [Act.eval])
              clear hF
              rintro v w ⟨rfl, hF⟩
              rw [hp]
              refine ⟨hF, ?_⟩
              try walk_nrm
              co_applyP anyX_take terms (fun _ _ h r => Holds.rely h r) (fun _ _ _ h r => wpC_rely terms h r) (i := 10) rfl (by first | kernel_rfl | decide +kernel) (by first | kernel_rfl | decide +kernel) (by first | kernel_rfl | decide +kernel) (.inl ⟨by rfl, fun _ hw => ⟨run_eq_of ?_, ?_⟩⟩) hF ?_
              rotate_left
              · intro K hK
                (skip)
                go_simp
                exact hK
              · (skip)
                (co_quiet terms)
              try walk_nrm
              refine anyX_done (by first | kernel_rfl | decide +kernel) ?_ _
              co_then
              co_apply wpC_cond (t := true) terms rfl
              simp only [if_true]
              co_ctl terms
              co_then
              repeat (first | co_reg terms | co_op Holds.rely hF (co_quiet terms) | (co_apply opsC_unwanted terms rfl (by rfl); try walk_nrm) | (co_ctl terms; try co_then))
              have hwr : IntKind.i64.wrap ((k : Int) + 1) = ((k + 1 : Nat) : Int) := by rw [IntWalk.i64_in _ (by omega)]; omega
              rw [hwr]
              exact ⟨⟨k + 1, HAT.out.1 rfl, _, _, _, _, _, _, _, _, _, _, _, _, _, _, hF, rfl⟩, by simp [slot4]; omega⟩
            · decide
        · have hke : k = many p s.data.toList := by omega
          have HKE := Lib.hid hke
          clear hke hsz
          co_apply wpC_more
          · co_apply wpC_seq (n₂ := 50) terms
            co_apply wpC_seq terms
            co_apply wpC_region_x terms draws 500 (by omega) (S := Holds d T o L) (by first | kernel_rfl | rfl)
            intro _ hR
            replace hF := Holds.rely (Holds.rely hF hR) (own_draw _)
            clear hR
            simp only [List.size_toArray, List.length_cons, List.length_nil, Nat.reduceAdd, Nat.zero_add]
            co_applyP anyX_take terms (fun _ _ h r => Holds.rely h r) (fun _ _ _ h r => wpC_rely terms h r) (i := 0) rfl (by first | kernel_rfl | decide +kernel) (by first | kernel_rfl | decide +kernel) (by first | kernel_rfl | decide +kernel) (.inl ⟨by rfl, fun _ hw => ⟨run_eq_of ?_, ?_⟩⟩) hF ?_
            rotate_left
            · intro K hK
              (skip)
              go_simp
              exact hK
            · (skip)
              (co_quiet terms)
            try walk_nrm
            co_applyP anyX_take terms (fun _ _ h r => Holds.rely h r) (fun _ _ _ h r => wpC_rely terms h r) (i := 1) rfl (by first | kernel_rfl | decide +kernel) (by first | kernel_rfl | decide +kernel) (by first | kernel_rfl | decide +kernel) (.inl ⟨by rfl, fun _ hw => ⟨run_eq_of ?_, ?_⟩⟩) hF ?_
            rotate_left
            · intro K hK
              (skip)
              go_simp
              exact hK
            · (skip)
              (co_quiet terms)
            try walk_nrm
            co_applyP anyX_take terms (fun _ _ h r => Holds.rely h r) (fun _ _ _ h r => wpC_rely terms h r) (i := 2) rfl (by first | kernel_rfl | decide +kernel) (by first | kernel_rfl | decide +kernel) (by first | kernel_rfl | decide +kernel) (.inl ⟨by rfl, fun _ hw => ⟨run_eq_of ?_, ?_⟩⟩) hF ?_
            rotate_left
            · intro K hK
              (skip)
              go_simp
              exact hK
            · (skip)
              (rw [listed_nil (by simp [go_sem, ev_len_string _ _ _ Tryd.underlying9])]; exact Terms.idle terms _)
            try walk_nrm
            co_applyP anyX_take terms (fun _ _ h r => Holds.rely h r) (fun _ _ _ h r => wpC_rely terms h r) (i := 3) rfl (by first | kernel_rfl | decide +kernel) (by first | kernel_rfl | decide +kernel) (by first | kernel_rfl | decide +kernel) (.inl ⟨by rfl, fun _ hw => ⟨run_eq_of ?_, ?_⟩⟩) hF ?_
            rotate_left
            · intro K hK
              (skip)
              go_simp
              exact hK
            · (skip)
              (co_quiet terms)
            try walk_nrm
            co_applyP anyX_take terms (fun _ _ h r => Holds.rely h r) (fun _ _ _ h r => wpC_rely terms h r) (i := 4) rfl (by first | kernel_rfl | decide +kernel) (by first | kernel_rfl | decide +kernel) (by first | kernel_rfl | decide +kernel) (.inl ⟨by rfl, fun _ hw => ⟨run_eq_of ?_, ?_⟩⟩) hF ?_
            rotate_left
            · intro K hK
              (skip)
              go_simp
              exact hK
            · (skip)
              (co_quiet terms)
            try walk_nrm
            co_applyP anyX_take terms (fun _ _ h r => Holds.rely h r) (fun _ _ _ h r => wpC_rely terms h r) (i := 5) rfl (by first | kernel_rfl | decide +kernel) (by first | kernel_rfl | decide +kernel) (by first | kernel_rfl | decide +kernel) (.inr ⟨by rfl, rfl⟩) hF ?_
            try walk_nrm
            co_applyP anyX_take terms (fun _ _ h r => Holds.rely h r) (fun _ _ _ h r => wpC_rely terms h r) (i := 6) rfl (by first | kernel_rfl | decide +kernel) (by first | kernel_rfl | decide +kernel) (by first | kernel_rfl | decide +kernel) (.inr ⟨by rfl, rfl⟩) hF ?_
            try walk_nrm
            co_applyP anyX_take terms (fun _ _ h r => Holds.rely h r) (fun _ _ _ h r => wpC_rely terms h r) (i := 7) rfl (by first | kernel_rfl | decide +kernel) (by first | kernel_rfl | decide +kernel) (by first | kernel_rfl | decide +kernel) (.inr ⟨by rfl, rfl⟩) hF ?_
            try walk_nrm
            co_applyP anyX_take terms (fun _ _ h r => Holds.rely h r) (fun _ _ _ h r => wpC_rely terms h r) (i := 8) rfl (by first | kernel_rfl | decide +kernel) (by first | kernel_rfl | decide +kernel) (by first | kernel_rfl | decide +kernel) (.inr ⟨by rfl, rfl⟩) hF ?_
            try walk_nrm
            co_applyP anyX_take terms (fun _ _ h r => Holds.rely h r) (fun _ _ _ h r => wpC_rely terms h r) (i := 9) rfl (by first | kernel_rfl | decide +kernel) (by first | kernel_rfl | decide +kernel) (by first | kernel_rfl | decide +kernel) (.inr ⟨by rfl, rfl⟩) hF ?_
            try walk_nrm
            co_applyP anyX_take terms (fun _ _ h r => Holds.rely h r) (fun _ _ _ h r => wpC_rely terms h r) (i := 10) rfl (by first | kernel_rfl | decide +kernel) (by first | kernel_rfl | decide +kernel) (by first | kernel_rfl | decide +kernel) (.inl ⟨by rfl, fun _ hw => ⟨run_eq_of ?_, ?_⟩⟩) hF ?_
            rotate_left
            · intro K hK
              (skip)
              go_simp
              exact hK
            · (skip)
              (co_quiet terms)
            try walk_nrm
            refine anyX_done (by first | kernel_rfl | decide +kernel) ?_ _
            co_then
            co_apply wpC_cond (t := false) terms rfl
            simp only [Bool.false_eq_true, if_false]
            co_ctl terms
            co_then
            exact ⟨k, HKE.out, _, _, _, _, _, _, _, _, _, _, _, _, _, _, hF, rfl⟩
          · decide
    · clear hF
      rintro a w ⟨k, rfl, u5, u6, u7, u8, u9, u10, u11, u12, u13, u14, u15, u16, u17, u18, hF, rfl⟩
      repeat (first | co_reg terms | co_op Holds.rely hF (co_quiet terms) | (co_apply opsC_unwanted terms rfl (by rfl); try walk_nrm) | (co_ctl terms; try co_then))
      exact ⟨rfl, _, resultsC_tmp (by rfl) _, by simp, hF⟩
  · omega
end
end Go.Proofs.YtkmbmgmfcecfkaaDoor
namespace Go.Proofs.YtkmbmgmfcecfkaaDoor
open Go.Conc Go.Lx
section
variable {main : Bool} {d : Deal} {T : TypeId → Prop} {o : Option Nat} {L : List (Nat × Obj)}
set_option maxRecDepth 100000 in
theorem is_c (hT : T 9) (s : ByteArray) (w : World) (hF : Holds d T o L w) :
    CallsC Tryd.prog main (Rely d T o) (Lx.Does d T o) 44 #[.string s] 30 w fun v w' => ∃ b, v = .func (.func 54) #[] #[.pointer (some ⟨b, 0, none⟩)] ∧ Holds d T o ((b, Obj.cells #[.string s] 9 (0, 0)) :: L) w' := by
  co_apply Go.Lx.CallsC.more
  · co_apply callsC_of_wpC Tryd.func44 (by rfl) rfl
    simp only [Tryd.ntmps44, List.size_toArray, List.length_cons, List.length_nil, Nat.reduceAdd, Nat.reduceSub, Array.replicate_succ, Array.replicate_zero, List.push_toArray, List.append_toArray, List.nil_append, List.cons_append]
    co_apply wpC_seq terms
    co_reg terms
    co_opw Holds.rely hF (skip) (refine ⟨Turn.alloc hT hF.box, ?_⟩; co_evs (skip))
    replace hF := hF.cons #[.string s] hT
    repeat (first | co_reg terms | co_op Holds.rely hF (co_quiet terms) | (co_apply opsC_unwanted terms rfl (by rfl); try walk_nrm) | (co_ctl terms; try co_then))
    exact ⟨rfl, _, resultsC_tmp (by rfl) _, _, by simp, hF⟩
  · decide
set_option maxRecDepth 100000 in
theorem while_c (hT : T 36) (f : FuncId) (caps : Array Value) (w : World) (hF : Holds d T o L w) :
    CallsC Tryd.prog main (Rely d T o) (Lx.Does d T o) 46 #[.func (.func f) #[] caps] 30 w fun v w' => ∃ b, v = .func (.func 56) #[] #[.pointer (some ⟨b, 0, none⟩)] ∧ Holds d T o ((b, Obj.cells #[.func (.func f) #[] caps] 36 (0, 0)) :: L) w' := by
  co_apply Go.Lx.CallsC.more
  · co_apply callsC_of_wpC Tryd.func46 (by rfl) rfl
    simp only [Tryd.ntmps46, List.size_toArray, List.length_cons, List.length_nil, Nat.reduceAdd, Nat.reduceSub, Array.replicate_succ, Array.replicate_zero, List.push_toArray, List.append_toArray, List.nil_append, List.cons_append]
    co_apply wpC_seq terms
    co_reg terms
    co_opw Holds.rely hF (skip) (refine ⟨Turn.alloc hT hF.box, ?_⟩; co_evs (skip))
    replace hF := hF.cons #[.func (.func f) #[] caps] hT
    repeat (first | co_reg terms | co_op Holds.rely hF (co_quiet terms) | (co_apply opsC_unwanted terms rfl (by rfl); try walk_nrm) | (co_ctl terms; try co_then))
    exact ⟨rfl, _, resultsC_tmp (by rfl) _, _, by simp, hF⟩
  · decide
def bytes (l : List UInt8) : ByteArray := ⟨l.toArray⟩
def ruleCells (b1 b2 b3 b4 b5 b6 b7 : Nat) : Array Value :=
  #[.func (.func 45) #[] #[], .func (.func 56) #[] #[.pointer (some ⟨b2, 0, none⟩)], .int .i64 1,
    .func (.func 54) #[] #[.pointer (some ⟨b1, 0, none⟩)], .func (.func 56) #[] #[.pointer (some ⟨b3, 0, none⟩)], .int .i64 0,
    .func (.func 54) #[] #[.pointer (some ⟨b4, 0, none⟩)], .func (.func 47) #[] #[], .int .i64 2,
    .func (.func 54) #[] #[.pointer (some ⟨b5, 0, none⟩)], .func (.func 47) #[] #[], .int .i64 3,
    .func (.func 54) #[] #[.pointer (some ⟨b6, 0, none⟩)], .func (.func 56) #[] #[.pointer (some ⟨b7, 0, none⟩)], .int .i64 0]
def ruleList (b0 b1 b2 b3 b4 b5 b6 b7 : Nat) (L : List (Nat × Obj)) : List (Nat × Obj) :=
  (b0, Obj.cells (ruleCells b1 b2 b3 b4 b5 b6 b7) 95 (0, 0)) ::
  (b7, Obj.cells #[.func (.func 48) #[] #[]] 36 (0, 0)) ::
  (b6, Obj.cells #[.string ⟨#[59]⟩] 9 (0, 0)) ::
  (b5, Obj.cells #[.string ⟨#[41]⟩] 9 (0, 0)) ::
  (b4, Obj.cells #[.string ⟨#[40]⟩] 9 (0, 0)) ::
  (b3, Obj.cells #[.func (.func 54) #[] #[.pointer (some ⟨b1, 0, none⟩)]] 36 (0, 0)) ::
  (b2, Obj.cells #[.func (.func 45) #[] #[]] 36 (0, 0)) ::
  (b1, Obj.cells #[.string ⟨#[9, 10, 13, 32]⟩] 9 (0, 0)) :: L
set_option maxRecDepth 100000 in
set_option maxHeartbeats 2000000 in
theorem rules_c (hT9 : T 9) (hT34 : T 36) (hT95 : T 95) (w : World) (hF : Holds d T o L w) :
    CallsC Tryd.prog main (Rely d T o) (Lx.Does d T o) 35 #[] 1000 w fun v w' => ∃ b0 b1 b2 b3 b4 b5 b6 b7, v = .slice (some ⟨b0, 0, none⟩) 5 5 ∧ Holds d T o (ruleList b0 b1 b2 b3 b4 b5 b6 b7 L) w' := by
  co_apply Go.Lx.CallsC.more
  · co_apply callsC_of_wpC Tryd.func35 (by rfl) rfl
    simp only [Tryd.ntmps35, List.size_toArray, List.length_cons, List.length_nil, Nat.reduceAdd, Nat.reduceSub, Array.replicate_succ, Array.replicate_zero, List.push_toArray, List.append_toArray, List.nil_append, List.cons_append]
    co_stmt terms Holds.rely hF (co_quiet terms)
    co_apply wpC_seq terms
    co_reg terms
    co_apply opsC_callA terms rfl (by rfl) rfl (is_c hT9 _ _ hF) (by simp [Act.eval]; rfl)
    clear hF
    rintro v w ⟨b1, rfl, hF⟩
    try walk_nrm
    co_op Holds.rely hF (co_quiet terms)
    co_apply opsC_nil terms
    co_then
    co_apply wpC_seq terms
    co_reg terms
    co_apply opsC_callA terms rfl (by rfl) rfl (while_c hT34 _ _ _ hF) (by simp [Act.eval]; exact ⟨rfl, rfl⟩)
    clear hF
    rintro v w ⟨b2, rfl, hF⟩
    try walk_nrm
    co_op Holds.rely hF (co_quiet terms)
    co_op Holds.rely hF (co_quiet terms)
    co_op Holds.rely hF (co_quiet terms)
    co_apply opsC_callA terms rfl (by rfl) rfl (while_c hT34 _ _ _ hF) (by simp [Act.eval]; exact ⟨rfl, rfl⟩)
    clear hF
    rintro v w ⟨b3, rfl, hF⟩
    try walk_nrm
    co_op Holds.rely hF (co_quiet terms)
    co_apply opsC_callA terms rfl (by rfl) rfl (is_c hT9 _ _ hF) (by simp [Act.eval]; rfl)
    clear hF
    rintro v w ⟨b4, rfl, hF⟩
    try walk_nrm
    co_op Holds.rely hF (co_quiet terms)
    co_apply opsC_callA terms rfl (by rfl) rfl (is_c hT9 _ _ hF) (by simp [Act.eval]; rfl)
    clear hF
    rintro v w ⟨b5, rfl, hF⟩
    try walk_nrm
    co_op Holds.rely hF (co_quiet terms)
    co_apply opsC_callA terms rfl (by rfl) rfl (is_c hT9 _ _ hF) (by simp [Act.eval]; rfl)
    clear hF
    rintro v w ⟨b6, rfl, hF⟩
    try walk_nrm
    co_apply opsC_callA terms rfl (by rfl) rfl (while_c hT34 _ _ _ hF) (by simp [Act.eval]; exact ⟨rfl, rfl⟩)
    clear hF
    rintro v w ⟨b7, rfl, hF⟩
    try walk_nrm
    co_op Holds.rely hF (co_quiet terms)
    co_opw Holds.rely hF (skip) (refine ⟨Turn.alloc hT95 hF.box, ?_⟩; co_evs (skip))
    replace hF := hF.cons (ruleCells b1 b2 b3 b4 b5 b6 b7) hT95
    repeat (first | co_reg terms | co_op Holds.rely hF (co_quiet terms) | (co_apply opsC_unwanted terms rfl (by rfl); try walk_nrm) | (co_ctl terms; try co_then))
    exact ⟨rfl, _, resultsC_tmp (by rfl) _, _, _, _, _, _, _, _, _, by simp, hF⟩
  · decide
end
end Go.Proofs.YtkmbmgmfcecfkaaDoor
