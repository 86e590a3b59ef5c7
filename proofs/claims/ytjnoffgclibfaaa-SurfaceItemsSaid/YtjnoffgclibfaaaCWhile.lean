/- In company: the function that 'while' makes. -/
import Derived.Test.YtjnoffgclibfaaaCFun2
import Derived.Test.YtjnoffgclibfaaaLxE
import Derived.Lib.Hide
import Derived.IntWalk
set_option linter.unusedSimpArgs false
set_option linter.unusedVariables false
namespace Go.Proofs.Ytjnoffgclibfaaa
open Go.Conc Go.Lx

section
variable {main : Bool} {d : Deal} {T : TypeId → Prop} {o : Option Nat} {L : List (Nat × Obj)}

/-- A function value that answers p of a byte. -/
def Wish (main : Bool) (d : Deal) (T : TypeId → Prop) (o : Option Nat) (L : List (Nat × Obj)) (f : FuncId) (caps : Array Value) (p : UInt8 → Bool) : Prop :=
  ∀ (c : UInt8) (w : World), Holds d T o L w → CallsC Try.prog main (Rely d T o) (Lx.Does d T o) f (#[.int .u8 c.toNat] ++ caps) 100 w fun v w' => v = .bool (p c) ∧ Holds d T o L w'

/-- How many bytes at the beginning are as wished. -/
def many (p : UInt8 → Bool) (l : List UInt8) : Nat := (l.takeWhile p).length

theorem many_le (p : UInt8 → Bool) (l : List UInt8) : many p l ≤ l.length := (List.takeWhile_sublist p).length_le
theorem many_at (p : UInt8 → Bool) : ∀ (l : List UInt8) (k : Nat), k ≤ many p l → ∀ (h : k < l.length), (p l[k] = true → k + 1 ≤ many p l) ∧ (p l[k] = false → k = many p l)
  | [], _, _, h => by simp at h
  | x :: l, 0, hk, h => by
    simp only [many, List.takeWhile_cons, List.getElem_cons_zero]
    constructor <;> intro hp <;> simp [hp]
  | x :: l, k + 1, hk, h => by
    simp only [many, List.takeWhile_cons] at hk ⊢
    cases hx : p x with
    | false => simp [hx] at hk
    | true =>
      simp only [hx, if_true, List.length_cons, List.getElem_cons_succ] at hk ⊢
      have := many_at p l k (by unfold many; omega) (by simpa using h)
      unfold many at this
      exact ⟨fun h => by have := this.1 h; omega, fun h => by have := this.2 h; omega⟩

def WAt (d : Deal) (T : TypeId → Prop) (o : Option Nat) (L : List (Nat × Obj)) (s : ByteArray) (b : Nat) (k : Nat) (a : Act) (w : World) : Prop :=
  ∃ (u5 u6 u7 u8 u9 u10 u11 u12 u13 u14 u15 u16 u17 u18 : Value), Holds d T o L w ∧
    a = ⟨#[.string s, .pointer (some ⟨b, 0, none⟩), undef, .int .i64 0, .int .i64 (k : Int), u5, u6, u7, u8, u9, u10, u11, u12, u13, u14, u15, u16, u17, u18], []⟩

def slot4 (a : Act) : Nat := match a.tmps.getD 4 undef with | .int _ n => n.toNat | _ => 0

set_option maxRecDepth 100000 in
set_option maxHeartbeats 2000000 in
/-- while$1, over a variable that holds the wish. -/
theorem while1_c {b : Nat} {f : FuncId} {caps : Array Value} {p : UInt8 → Bool} (hW : Wish main d T o L f caps p) (hb : (b, Obj.cells #[.func (.func f) #[] caps] 34 (0, 0)) ∈ L) (s : ByteArray) (hs : s.size ≤ 1000000) (w : World) (hF : Holds d T o L w) :
    CallsC Try.prog main (Rely d T o) (Lx.Does d T o) 63 #[.string s, .pointer (some ⟨b, 0, none⟩)] ((s.size + 1) * 6001 + 100) w fun v w' => v = .int .i64 (many p s.data.toList) ∧ Holds d T o L w' := by
  co_apply Go.Lx.CallsC.more
  · co_apply callsC_of_wpC Try.func63 (by rfl) rfl
    simp only [Try.ntmps63, List.size_toArray, List.length_cons, List.length_nil, Nat.reduceAdd, Nat.reduceSub, Array.replicate_succ, Array.replicate_zero, List.push_toArray, List.append_toArray, List.nil_append, List.cons_append]
    co_stmt terms Holds.rely hF (co_quiet terms)
    co_stmt terms Holds.rely hF (co_quiet terms)
    co_apply wpC_seq_mid terms (fun a w => ∃ k : Nat, k = many p s.data.toList ∧ WAt d T o L s b k a w)
    · co_apply wpC_block terms
      co_apply wpC_loop terms (fun a w => ∃ k : Nat, k ≤ many p s.data.toList ∧ WAt d T o L s b k a w) (fun a _ => s.size - slot4 a) 6000 s.size
      · exact ⟨0, Nat.zero_le _, _, _, _, _, _, _, _, _, _, _, _, _, _, _, hF, rfl⟩
      · omega
      · clear hF
        rintro a w ⟨k, hk, u5, u6, u7, u8, u9, u10, u11, u12, u13, u14, u15, u16, u17, u18, hF, rfl⟩
        have hml := many_le p s.data.toList
        have hsz : s.data.toList.length = s.size := rfl
        by_cases hlt : k < s.size
        · have hat := many_at p s.data.toList k hk (by rw [hsz]; exact hlt)
          have hpk : s.data.toList[k] = s[k] := rfl
          rw [hpk] at hat
          clear hpk
          have hin : 0 ≤ (k : Int) ∧ (k : Int) < s.size := by omega
          have HSZ := Lib.hid hsz
          clear hsz
          cases hp : p (s[k]'hlt)
          · rw [hp] at hat
            have HAT := Lib.hid hat
            clear hat
            co_apply wpC_more
            · co_apply wpC_seq (n₂ := 50) terms
              co_apply wpC_seq terms
              co_apply wpC_region_x terms draws 500 (by omega) (S := Holds d T o L) (by first | kernel_rfl | rfl)
              intro _ hR
              replace hF := Holds.rely (Holds.rely hF hR) (own_draw _)
              clear hR
              simp only [List.size_toArray, List.length_cons, List.length_nil, Nat.reduceAdd, Nat.zero_add]
              co_applyP anyX_take terms (fun _ _ h r => Holds.rely h r) (fun _ _ _ h r => wpC_rely terms h r) (i := 0) rfl (by first | kernel_rfl | decide +kernel) (by first | kernel_rfl | decide +kernel) (by first | kernel_rfl | decide +kernel) (.inl ⟨by rfl, fun _ hw => ⟨run_eq_of ?_, ?_⟩⟩) hF ?_
              rotate_left
              · intro K hK
                (skip)
                go_simp
                exact hK
              · (skip)
                (co_quiet terms)
              try walk_nrm
              co_applyP anyX_take terms (fun _ _ h r => Holds.rely h r) (fun _ _ _ h r => wpC_rely terms h r) (i := 1) rfl (by first | kernel_rfl | decide +kernel) (by first | kernel_rfl | decide +kernel) (by first | kernel_rfl | decide +kernel) (.inl ⟨by rfl, fun _ hw => ⟨run_eq_of ?_, ?_⟩⟩) hF ?_
              rotate_left
              · intro K hK
                (skip)
                go_simp
                exact hK
              · (skip)
                (co_quiet terms)
              try walk_nrm
              co_applyP anyX_take terms (fun _ _ h r => Holds.rely h r) (fun _ _ _ h r => wpC_rely terms h r) (i := 2) rfl (by first | kernel_rfl | decide +kernel) (by first | kernel_rfl | decide +kernel) (by first | kernel_rfl | decide +kernel) (.inl ⟨by rfl, fun _ hw => ⟨run_eq_of ?_, ?_⟩⟩) hF ?_
              rotate_left
              · intro K hK
                (skip)
                go_simp
                exact hK
              · (skip)
                (rw [listed_nil (by simp [go_sem, ev_len_string _ _ _ Try.underlying9])]; exact Terms.idle terms _)
              try walk_nrm
              co_applyP anyX_take terms (fun _ _ h r => Holds.rely h r) (fun _ _ _ h r => wpC_rely terms h r) (i := 3) rfl (by first | kernel_rfl | decide +kernel) (by first | kernel_rfl | decide +kernel) (by first | kernel_rfl | decide +kernel) (.inl ⟨by rfl, fun _ hw => ⟨run_eq_of ?_, ?_⟩⟩) hF ?_
              rotate_left
              · intro K hK
                (skip)
                go_simp
                exact hK
              · (skip)
                (co_quiet terms)
              try walk_nrm
              co_applyP anyX_take terms (fun _ _ h r => Holds.rely h r) (fun _ _ _ h r => wpC_rely terms h r) (i := 4) rfl (by first | kernel_rfl | decide +kernel) (by first | kernel_rfl | decide +kernel) (by first | kernel_rfl | decide +kernel) (.inl ⟨by rfl, fun _ hw => ⟨run_eq_of ?_, ?_⟩⟩) hF ?_
              rotate_left
              · intro K hK
                (skip)
                go_simp
                exact hK
              · (skip)
                (co_quiet terms)
              try walk_nrm
              co_applyP anyX_take terms (fun _ _ h r => Holds.rely h r) (fun _ _ _ h r => wpC_rely terms h r) (i := 5) rfl (by first | kernel_rfl | decide +kernel) (by first | kernel_rfl | decide +kernel) (by first | kernel_rfl | decide +kernel) (.inl ⟨by rfl, fun _ hw => ⟨run_eq_of ?_, ?_⟩⟩) hF ?_
              rotate_left
              · intro K hK
                (have hc : _ = some (Value.func (.func f) #[] caps) := hw.cell hb 0)
                go_simp
                exact hK
              · (have hc : _ = some (Value.func (.func f) #[] caps) := hw.cell hb 0)
                (refine Does.reads ?_; co_evs (exact hw.read hb _ _))
              try walk_nrm
              co_applyP anyX_take terms (fun _ _ h r => Holds.rely h r) (fun _ _ _ h r => wpC_rely terms h r) (i := 6) rfl (by first | kernel_rfl | decide +kernel) (by first | kernel_rfl | decide +kernel) (by first | kernel_rfl | decide +kernel) (.inl ⟨by rfl, fun _ hw => ⟨run_eq_of ?_, ?_⟩⟩) hF ?_
              rotate_left
              · intro K hK
                (skip)
                go_simp
                exact hK
              · (skip)
                (co_quiet terms)
              try walk_nrm
              co_applyP anyX_take terms (fun _ _ h r => Holds.rely h r) (fun _ _ _ h r => wpC_rely terms h r) (i := 7) rfl (by first | kernel_rfl | decide +kernel) (by first | kernel_rfl | decide +kernel) (by first | kernel_rfl | decide +kernel) (.inl ⟨by rfl, fun _ hw => ⟨run_eq_of ?_, ?_⟩⟩) hF ?_
              rotate_left
              · intro K hK
                (skip)
                go_simp
                exact hK
              · (skip)
                (co_quiet terms)
              try walk_nrm
              co_applyP anyX_take terms (fun _ _ h r => Holds.rely h r) (fun _ _ _ h r => wpC_rely terms h r) (i := 8) rfl (by first | kernel_rfl | decide +kernel) (by first | kernel_rfl | decide +kernel) (by first | kernel_rfl | decide +kernel) (.inl ⟨by rfl, fun _ hw => ⟨run_eq_of ?_, ?_⟩⟩) hF ?_
              rotate_left
              · intro K hK
                (skip)
                go_simp
                exact hK
              · (skip)
                (rw [listed_nil (by simp [go_sem, ev_index_string _ _ _ _ Try.underlying9 hin])]; exact Terms.idle terms _)
              try walk_nrm
              co_applyP anyX_callv terms (i := 9) (by first | kernel_rfl | decide +kernel) rfl (by rfl) rfl (by rfl) (hW (s[k]'hlt) _ hF) (by omega) (by simp [Act.eval])
              clear hF
              rintro v w ⟨rfl, hF⟩
              rw [hp]
              refine ⟨hF, ?_⟩
              try walk_nrm
              co_applyP anyX_take terms (fun _ _ h r => Holds.rely h r) (fun _ _ _ h r => wpC_rely terms h r) (i := 10) rfl (by first | kernel_rfl | decide +kernel) (by first | kernel_rfl | decide +kernel) (by first | kernel_rfl | decide +kernel) (.inl ⟨by rfl, fun _ hw => ⟨run_eq_of ?_, ?_⟩⟩) hF ?_
              rotate_left
              · intro K hK
                (skip)
                go_simp
                exact hK
              · (skip)
                (co_quiet terms)
              try walk_nrm
              refine anyX_done (by first | kernel_rfl | decide +kernel) ?_ _
              co_then
              co_apply wpC_cond (t := false) terms rfl
              simp only [Bool.false_eq_true, if_false]
              co_ctl terms
              co_then
              exact ⟨k, HAT.out.2 rfl, _, _, _, _, _, _, _, _, _, _, _, _, _, _, hF, rfl⟩
            · decide
          · rw [hp] at hat
            have HAT := Lib.hid hat
            clear hat
            co_apply wpC_more
            · co_apply wpC_seq terms
              co_apply wpC_seq terms
              co_apply wpC_region_x terms draws 500 (by omega) (S := Holds d T o L) (by first | kernel_rfl | rfl)
              intro _ hR
              replace hF := Holds.rely (Holds.rely hF hR) (own_draw _)
              clear hR
              simp only [List.size_toArray, List.length_cons, List.length_nil, Nat.reduceAdd, Nat.zero_add]
              co_applyP anyX_take terms (fun _ _ h r => Holds.rely h r) (fun _ _ _ h r => wpC_rely terms h r) (i := 0) rfl (by first | kernel_rfl | decide +kernel) (by first | kernel_rfl | decide +kernel) (by first | kernel_rfl | decide +kernel) (.inl ⟨by rfl, fun _ hw => ⟨run_eq_of ?_, ?_⟩⟩) hF ?_
              rotate_left
              · intro K hK
                (skip)
                go_simp
                exact hK
              · (skip)
                (co_quiet terms)
              try walk_nrm
              co_applyP anyX_take terms (fun _ _ h r => Holds.rely h r) (fun _ _ _ h r => wpC_rely terms h r) (i := 1) rfl (by first | kernel_rfl | decide +kernel) (by first | kernel_rfl | decide +kernel) (by first | kernel_rfl | decide +kernel) (.inl ⟨by rfl, fun _ hw => ⟨run_eq_of ?_, ?_⟩⟩) hF ?_
              rotate_left
              · intro K hK
                (skip)
                go_simp
                exact hK
              · (skip)
                (co_quiet terms)
              try walk_nrm
              co_applyP anyX_take terms (fun _ _ h r => Holds.rely h r) (fun _ _ _ h r => wpC_rely terms h r) (i := 2) rfl (by first | kernel_rfl | decide +kernel) (by first | kernel_rfl | decide +kernel) (by first | kernel_rfl | decide +kernel) (.inl ⟨by rfl, fun _ hw => ⟨run_eq_of ?_, ?_⟩⟩) hF ?_
              rotate_left
              · intro K hK
                (skip)
                go_simp
                exact hK
              · (skip)
                (rw [listed_nil (by simp [go_sem, ev_len_string _ _ _ Try.underlying9])]; exact Terms.idle terms _)
              try walk_nrm
              co_applyP anyX_take terms (fun _ _ h r => Holds.rely h r) (fun _ _ _ h r => wpC_rely terms h r) (i := 3) rfl (by first | kernel_rfl | decide +kernel) (by first | kernel_rfl | decide +kernel) (by first | kernel_rfl | decide +kernel) (.inl ⟨by rfl, fun _ hw => ⟨run_eq_of ?_, ?_⟩⟩) hF ?_
              rotate_left
              · intro K hK
                (skip)
                go_simp
                exact hK
              · (skip)
                (co_quiet terms)
              try walk_nrm
              co_applyP anyX_take terms (fun _ _ h r => Holds.rely h r) (fun _ _ _ h r => wpC_rely terms h r) (i := 4) rfl (by first | kernel_rfl | decide +kernel) (by first | kernel_rfl | decide +kernel) (by first | kernel_rfl | decide +kernel) (.inl ⟨by rfl, fun _ hw => ⟨run_eq_of ?_, ?_⟩⟩) hF ?_
              rotate_left
              · intro K hK
                (skip)
                go_simp
                exact hK
              · (skip)
                (co_quiet terms)
              try walk_nrm
              co_applyP anyX_take terms (fun _ _ h r => Holds.rely h r) (fun _ _ _ h r => wpC_rely terms h r) (i := 5) rfl (by first | kernel_rfl | decide +kernel) (by first | kernel_rfl | decide +kernel) (by first | kernel_rfl | decide +kernel) (.inl ⟨by rfl, fun _ hw => ⟨run_eq_of ?_, ?_⟩⟩) hF ?_
              rotate_left
              · intro K hK
                (have hc : _ = some (Value.func (.func f) #[] caps) := hw.cell hb 0)
                go_simp
                exact hK
              · (have hc : _ = some (Value.func (.func f) #[] caps) := hw.cell hb 0)
                (refine Does.reads ?_; co_evs (exact hw.read hb _ _))
              try walk_nrm
              co_applyP anyX_take terms (fun _ _ h r => Holds.rely h r) (fun _ _ _ h r => wpC_rely terms h r) (i := 6) rfl (by first | kernel_rfl | decide +kernel) (by first | kernel_rfl | decide +kernel) (by first | kernel_rfl | decide +kernel) (.inl ⟨by rfl, fun _ hw => ⟨run_eq_of ?_, ?_⟩⟩) hF ?_
              rotate_left
              · intro K hK
                (skip)
                go_simp
                exact hK
              · (skip)
                (co_quiet terms)
              try walk_nrm
              co_applyP anyX_take terms (fun _ _ h r => Holds.rely h r) (fun _ _ _ h r => wpC_rely terms h r) (i := 7) rfl (by first | kernel_rfl | decide +kernel) (by first | kernel_rfl | decide +kernel) (by first | kernel_rfl | decide +kernel) (.inl ⟨by rfl, fun _ hw => ⟨run_eq_of ?_, ?_⟩⟩) hF ?_
              rotate_left
              · intro K hK
                (skip)
                go_simp
                exact hK
              · (skip)
                (co_quiet terms)
              try walk_nrm
              co_applyP anyX_take terms (fun _ _ h r => Holds.rely h r) (fun _ _ _ h r => wpC_rely terms h r) (i := 8) rfl (by first | kernel_rfl | decide +kernel) (by first | kernel_rfl | decide +kernel) (by first | kernel_rfl | decide +kernel) (.inl ⟨by rfl, fun _ hw => ⟨run_eq_of ?_, ?_⟩⟩) hF ?_
              rotate_left
              · intro K hK
                (skip)
                go_simp
                exact hK
              · (skip)
                (rw [listed_nil (by simp [go_sem, ev_index_string _ _ _ _ Try.underlying9 hin])]; exact Terms.idle terms _)
              try walk_nrm
              co_applyP anyX_callv terms (i := 9) (by first | kernel_rfl | decide +kernel) rfl (by rfl) rfl (by rfl) (hW (s[k]'hlt) _ hF) (by omega) (by simp [Act.eval])
              clear hF
              rintro v w ⟨rfl, hF⟩
              rw [hp]
              refine ⟨hF, ?_⟩
              try walk_nrm
              co_applyP anyX_take terms (fun _ _ h r => Holds.rely h r) (fun _ _ _ h r => wpC_rely terms h r) (i := 10) rfl (by first | kernel_rfl | decide +kernel) (by first | kernel_rfl | decide +kernel) (by first | kernel_rfl | decide +kernel) (.inl ⟨by rfl, fun _ hw => ⟨run_eq_of ?_, ?_⟩⟩) hF ?_
              rotate_left
              · intro K hK
                (skip)
                go_simp
                exact hK
              · (skip)
                (co_quiet terms)
              try walk_nrm
              refine anyX_done (by first | kernel_rfl | decide +kernel) ?_ _
              co_then
              co_apply wpC_cond (t := true) terms rfl
              simp only [if_true]
              co_ctl terms
              co_then
              repeat (first | co_reg terms | co_op Holds.rely hF (co_quiet terms) | (co_apply opsC_unwanted terms rfl (by rfl); try walk_nrm) | (co_ctl terms; try co_then))
              have hwr : IntKind.i64.wrap ((k : Int) + 1) = ((k + 1 : Nat) : Int) := by rw [IntWalk.i64_in _ (by omega)]; omega
              rw [hwr]
              exact ⟨⟨k + 1, HAT.out.1 rfl, _, _, _, _, _, _, _, _, _, _, _, _, _, _, hF, rfl⟩, by simp [slot4]; omega⟩
            · decide
        · have hke : k = many p s.data.toList := by omega
          have HKE := Lib.hid hke
          clear hke hsz
          co_apply wpC_more
          · co_apply wpC_seq (n₂ := 50) terms
            co_apply wpC_seq terms
            co_apply wpC_region_x terms draws 500 (by omega) (S := Holds d T o L) (by first | kernel_rfl | rfl)
            intro _ hR
            replace hF := Holds.rely (Holds.rely hF hR) (own_draw _)
            clear hR
            simp only [List.size_toArray, List.length_cons, List.length_nil, Nat.reduceAdd, Nat.zero_add]
            co_applyP anyX_take terms (fun _ _ h r => Holds.rely h r) (fun _ _ _ h r => wpC_rely terms h r) (i := 0) rfl (by first | kernel_rfl | decide +kernel) (by first | kernel_rfl | decide +kernel) (by first | kernel_rfl | decide +kernel) (.inl ⟨by rfl, fun _ hw => ⟨run_eq_of ?_, ?_⟩⟩) hF ?_
            rotate_left
            · intro K hK
              (skip)
              go_simp
              exact hK
            · (skip)
              (co_quiet terms)
            try walk_nrm
            co_applyP anyX_take terms (fun _ _ h r => Holds.rely h r) (fun _ _ _ h r => wpC_rely terms h r) (i := 1) rfl (by first | kernel_rfl | decide +kernel) (by first | kernel_rfl | decide +kernel) (by first | kernel_rfl | decide +kernel) (.inl ⟨by rfl, fun _ hw => ⟨run_eq_of ?_, ?_⟩⟩) hF ?_
            rotate_left
            · intro K hK
              (skip)
              go_simp
              exact hK
            · (skip)
              (co_quiet terms)
            try walk_nrm
            co_applyP anyX_take terms (fun _ _ h r => Holds.rely h r) (fun _ _ _ h r => wpC_rely terms h r) (i := 2) rfl (by first | kernel_rfl | decide +kernel) (by first | kernel_rfl | decide +kernel) (by first | kernel_rfl | decide +kernel) (.inl ⟨by rfl, fun _ hw => ⟨run_eq_of ?_, ?_⟩⟩) hF ?_
            rotate_left
            · intro K hK
              (skip)
              go_simp
              exact hK
            · (skip)
              (rw [listed_nil (by simp [go_sem, ev_len_string _ _ _ Try.underlying9])]; exact Terms.idle terms _)
            try walk_nrm
            co_applyP anyX_take terms (fun _ _ h r => Holds.rely h r) (fun _ _ _ h r => wpC_rely terms h r) (i := 3) rfl (by first | kernel_rfl | decide +kernel) (by first | kernel_rfl | decide +kernel) (by first | kernel_rfl | decide +kernel) (.inl ⟨by rfl, fun _ hw => ⟨run_eq_of ?_, ?_⟩⟩) hF ?_
            rotate_left
            · intro K hK
              (skip)
              go_simp
              exact hK
            · (skip)
              (co_quiet terms)
            try walk_nrm
            co_applyP anyX_take terms (fun _ _ h r => Holds.rely h r) (fun _ _ _ h r => wpC_rely terms h r) (i := 4) rfl (by first | kernel_rfl | decide +kernel) (by first | kernel_rfl | decide +kernel) (by first | kernel_rfl | decide +kernel) (.inl ⟨by rfl, fun _ hw => ⟨run_eq_of ?_, ?_⟩⟩) hF ?_
            rotate_left
            · intro K hK
              (skip)
              go_simp
              exact hK
            · (skip)
              (co_quiet terms)
            try walk_nrm
            co_applyP anyX_take terms (fun _ _ h r => Holds.rely h r) (fun _ _ _ h r => wpC_rely terms h r) (i := 5) rfl (by first | kernel_rfl | decide +kernel) (by first | kernel_rfl | decide +kernel) (by first | kernel_rfl | decide +kernel) (.inr ⟨by rfl, rfl⟩) hF ?_
            try walk_nrm
            co_applyP anyX_take terms (fun _ _ h r => Holds.rely h r) (fun _ _ _ h r => wpC_rely terms h r) (i := 6) rfl (by first | kernel_rfl | decide +kernel) (by first | kernel_rfl | decide +kernel) (by first | kernel_rfl | decide +kernel) (.inr ⟨by rfl, rfl⟩) hF ?_
            try walk_nrm
            co_applyP anyX_take terms (fun _ _ h r => Holds.rely h r) (fun _ _ _ h r => wpC_rely terms h r) (i := 7) rfl (by first | kernel_rfl | decide +kernel) (by first | kernel_rfl | decide +kernel) (by first | kernel_rfl | decide +kernel) (.inr ⟨by rfl, rfl⟩) hF ?_
            try walk_nrm
            co_applyP anyX_take terms (fun _ _ h r => Holds.rely h r) (fun _ _ _ h r => wpC_rely terms h r) (i := 8) rfl (by first | kernel_rfl | decide +kernel) (by first | kernel_rfl | decide +kernel) (by first | kernel_rfl | decide +kernel) (.inr ⟨by rfl, rfl⟩) hF ?_
            try walk_nrm
            co_applyP anyX_take terms (fun _ _ h r => Holds.rely h r) (fun _ _ _ h r => wpC_rely terms h r) (i := 9) rfl (by first | kernel_rfl | decide +kernel) (by first | kernel_rfl | decide +kernel) (by first | kernel_rfl | decide +kernel) (.inr ⟨by rfl, rfl⟩) hF ?_
            try walk_nrm
            co_applyP anyX_take terms (fun _ _ h r => Holds.rely h r) (fun _ _ _ h r => wpC_rely terms h r) (i := 10) rfl (by first | kernel_rfl | decide +kernel) (by first | kernel_rfl | decide +kernel) (by first | kernel_rfl | decide +kernel) (.inl ⟨by rfl, fun _ hw => ⟨run_eq_of ?_, ?_⟩⟩) hF ?_
            rotate_left
            · intro K hK
              (skip)
              go_simp
              exact hK
            · (skip)
              (co_quiet terms)
            try walk_nrm
            refine anyX_done (by first | kernel_rfl | decide +kernel) ?_ _
            co_then
            co_apply wpC_cond (t := false) terms rfl
            simp only [Bool.false_eq_true, if_false]
            co_ctl terms
            co_then
            exact ⟨k, HKE.out, _, _, _, _, _, _, _, _, _, _, _, _, _, _, hF, rfl⟩
          · decide
    · clear hF
      rintro a w ⟨k, rfl, u5, u6, u7, u8, u9, u10, u11, u12, u13, u14, u15, u16, u17, u18, hF, rfl⟩
      repeat (first | co_reg terms | co_op Holds.rely hF (co_quiet terms) | (co_apply opsC_unwanted terms rfl (by rfl); try walk_nrm) | (co_ctl terms; try co_then))
      exact ⟨rfl, _, resultsC_tmp (by rfl) _, by simp, hF⟩
  · omega
end
end Go.Proofs.Ytjnoffgclibfaaa
