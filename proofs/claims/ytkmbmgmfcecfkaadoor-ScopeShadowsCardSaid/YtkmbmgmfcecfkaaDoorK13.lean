/- Part 13 of what the proof rests on. -/
import Derived.Laws.IdiomCopy
import Derived.Lib.SlicesS
import Derived.Lib.AtoiAllCases
import Derived.Lib.ItoaLen
import Derived.Deep.Slices
import Derived.Deep.Fields
import Derived.WideKeyArgs
import Derived.OpenShut
import Derived.Test.YtkmbmgmfcecfkaaDoorK00
import Derived.Test.YtkmbmgmfcecfkaaDoorK01
import Derived.Test.YtkmbmgmfcecfkaaDoorK02
import Derived.Test.YtkmbmgmfcecfkaaDoorK04
set_option linter.unusedSimpArgs false
set_option linter.unusedVariables false
namespace Go.Lx
theorem Under.re {W w : World} (h : Under W w) (τ : Nat → Question → Nat) (d : Nat) : Under W (re w τ d) := ⟨h.os, h.output, h.size, h.low⟩
end Go.Lx
namespace Go.Lx
variable {P : Program}
theorem okx_loadBytes : ∀ (n : Nat) (a : Addr) (acc : ByteArray), Ok P (Extern.Bytes.loadBytes a n acc) := by
  intro n
  induction n with
  | zero => intro a acc; exact Ok.pure
  | succ n ih =>
    intro a acc
    unfold Extern.Bytes.loadBytes
    refine Ok.bind ok_load fun v => ?_
    split
    · exact ih _ _
    · exact ok_stuck
theorem okx_bytesOf : ∀ v, Ok P (Extern.Bytes.bytesOf v) := by
  intro v
  unfold Extern.Bytes.bytesOf
  repeat' (first | (with_reducible exact Ok.pure) | (with_reducible exact Ok.halt trivial) | (with_reducible apply okx_loadBytes) | (with_reducible apply ok_stuck) | (with_reducible apply Ok.bind) | (with_reducible apply Ok.map) | intro _ | split | dsimp only)
theorem okx_asByte : ∀ v, Ok P (Extern.Bytes.asByte v) := by
  intro v
  unfold Extern.Bytes.asByte
  repeat' (first | (with_reducible exact Ok.pure) | (with_reducible exact Ok.halt trivial) | (with_reducible apply ok_stuck) | (with_reducible apply Ok.bind) | (with_reducible apply Ok.map) | intro _ | split | dsimp only)
theorem okx_indexByte : ∀ args, Ok P (Extern.BytealgIndexByte.indexByte args) := by
  intro args
  obtain ⟨l⟩ := args
  rcases l with _ | ⟨x, _ | ⟨y, _ | ⟨z, t⟩⟩⟩
  · exact ok_stuck
  · exact ok_stuck
  · refine Ok.bind (okx_bytesOf x) fun a => Ok.bind (okx_asByte y) fun b => ?_
    repeat' (first | (with_reducible exact Ok.pure) | (with_reducible exact Ok.halt trivial) | (with_reducible apply Ok.bind) | (with_reducible apply Ok.map) | intro _ | split | dsimp only)
  · exact ok_stuck
theorem okx_text : ∀ s, Ok P (Extern.RuntimeError.text s) := by
  intro s
  unfold Extern.RuntimeError.text
  repeat' (first | (with_reducible exact Ok.pure) | (with_reducible exact Ok.halt trivial) | (with_reducible apply Ok.bind) | (with_reducible apply Ok.map) | intro _ | split | dsimp only)
theorem okx_boundsError : ∀ args, Ok P (Extern.RuntimeError.boundsError args) := by
  intro args
  obtain ⟨l⟩ := args
  rcases l with _ | ⟨x, _ | ⟨y, t⟩⟩
  · exact ok_stuck
  · cases x <;> first | exact ok_stuck | skip
    rename_i a
    obtain ⟨l⟩ := a
    rcases l with _ | ⟨a, _ | ⟨b, _ | ⟨c, _ | ⟨d, _ | ⟨e, t⟩⟩⟩⟩⟩
    · exact ok_stuck
    · cases a <;> exact ok_stuck
    · cases a <;> cases b <;> exact ok_stuck
    · cases a <;> cases b <;> first | exact ok_stuck | (cases c <;> exact ok_stuck)
    · cases a <;> first | exact ok_stuck | skip
      cases b <;> first | exact ok_stuck | skip
      cases c <;> first | exact ok_stuck | skip
      cases d <;> first | exact ok_stuck | skip
      rename_i k1 n1 k2 n2 b k3 n3
      conv => arg 2; whnf
      split
      · exact okx_text _
      · exact ok_stuck
    · cases a <;> cases b <;> first | exact ok_stuck | (cases c <;> first | exact ok_stuck | (cases d <;> exact ok_stuck))
  · exact ok_stuck
theorem okx_described : ∀ v, Ok P (Extern.RuntimeError.described v) := by
  intro v
  unfold Extern.RuntimeError.described
  repeat' (first | (with_reducible exact Ok.pure) | (with_reducible exact Ok.halt trivial) | (with_reducible apply ok_program) | (with_reducible apply ok_typeStr) | (with_reducible apply ok_typeInfo) | (with_reducible apply ok_stuck) | (with_reducible apply Ok.bind) | (with_reducible apply Ok.map) | intro _ | split | dsimp only)
theorem okx_pkgpathOf : ∀ i, Ok P (Extern.RuntimeError.pkgpathOf i) := by
  intro i
  unfold Extern.RuntimeError.pkgpathOf
  repeat' (first | (with_reducible exact Ok.pure) | (with_reducible exact Ok.halt trivial) | (with_reducible apply ok_typeInfo) | (with_reducible apply Ok.bind) | (with_reducible apply Ok.map) | intro _ | split | dsimp only)
theorem okx_typeAssertionError : ∀ args, Ok P (Extern.RuntimeError.typeAssertionError args) := by
  intro args
  unfold Extern.RuntimeError.typeAssertionError
  repeat' (first | (with_reducible exact Ok.pure) | (with_reducible exact Ok.halt trivial) | (with_reducible apply ok_asAddr) | (with_reducible apply okx_described) | (with_reducible apply ok_load) | (with_reducible apply ok_asString) | (with_reducible apply ok_runtimePanic) | (with_reducible apply okx_text) | (with_reducible apply okx_pkgpathOf) | (with_reducible apply ok_unsupported) | (with_reducible apply Ok.bind) | (with_reducible apply Ok.map) | intro _ | split | dsimp only)
theorem okx_unhashable : ∀ args, Ok P (Extern.RuntimeError.unhashableTypeError args) := by
  intro args
  obtain ⟨l⟩ := args
  rcases l with _ | ⟨x, _ | ⟨y, t⟩⟩
  · exact ok_stuck
  · cases x <;> first | exact ok_stuck | skip
    rename_i a
    obtain ⟨l⟩ := a
    rcases l with _ | ⟨a, _ | ⟨b, t⟩⟩
    · exact ok_stuck
    · refine Ok.bind (okx_described a) fun t => ?_
      cases t with
      | none => exact (ok_runtimePanic .nilDeref : Ok P (runtimePanic _ : Sem Value))
      | some t => exact okx_text _
    · exact ok_stuck
  · exact ok_stuck
theorem okx_nothing : ∀ args, Ok P (Extern.RuntimeError.nothing args) := by
  intro args
  unfold Extern.RuntimeError.nothing
  repeat' (first | (with_reducible exact Ok.pure) | (with_reducible exact Ok.halt trivial) | (with_reducible apply Ok.bind) | (with_reducible apply Ok.map) | intro _ | split | dsimp only)
theorem okx_row0 : ∀ args, Ok P ((Extern.RuntimeError.rows.getD 0 ("", Extern.RuntimeError.nothing)).2 args) := by
  intro args
  exact Ok.bind (ok_asString _) fun _ => Ok.pure
theorem okx_row1 : ∀ args, Ok P ((Extern.RuntimeError.rows.getD 1 ("", Extern.RuntimeError.nothing)).2 args) := by
  intro args
  exact Ok.bind (ok_asString _) fun _ => Ok.pure
theorem okx_row2 : ∀ args, Ok P ((Extern.RuntimeError.rows.getD 2 ("", Extern.RuntimeError.nothing)).2 args) := by
  intro args
  exact Ok.bind (ok_asAgg _) fun _ => Ok.bind (ok_asString _) fun _ => Ok.pure
theorem okx_row6 : ∀ args, Ok P ((Extern.RuntimeError.rows.getD 6 ("", Extern.RuntimeError.nothing)).2 args) := by
  intro args
  exact okx_text _
theorem tame_of {P : Program} (L : List Nat) (hn : P.funcs.all (fun fn => !(fn.name == "runtime.NumGoroutine")) = true) (hx : P.funcs.all (fun fn => fn.body.isSome || (Extern.findNext fn).isNone) = true)
    (hL : (List.range P.funcs.size).filter (fun f => (P.funcs[f]?).any (fun fn => fn.body.isNone)) = L)
    (hv : ∀ f ∈ L, ∀ fn e, P.funcs[f]? = some fn → Extern.find fn = some e → ∀ args, Ok P (e args)) : Tame P := by
  refine ⟨fun f fn h => ?_, fun f fn e h hb he => ?_, fun f fn e h hb _ he => hv f ?_ fn e h he⟩
  · have := Array.all_eq_true_iff_forall_mem.1 hn fn (Array.mem_of_getElem? h)
    simpa using this
  · have := Array.all_eq_true_iff_forall_mem.1 hx fn (Array.mem_of_getElem? h)
    rw [he] at this
    cases hc : fn.body with
    | none => rw [hc] at this; simp at this
    | some c => rw [hc] at hb; simp at hb
  · rw [← hL, List.mem_filter, List.mem_range]
    exact ⟨(Array.getElem?_eq_some_iff.1 h).1, by rw [h]; simpa using hb⟩
end Go.Lx
namespace Go.Lx
open Go.RowKit
theorem row_setCells {base : Nat} {e : TypeId} {v : Value} {n g : Nat} (hg : v.ownBlock = some g) : ∀ (vs : List Value) (o : Nat) (w : World) (xs : List Value), w.ownsRow base e 1 v n xs → o + vs.length ≤ xs.length → (w.setCells g o vs).ownsRow base e 1 v n (xs.take o ++ vs ++ xs.drop (o + vs.length))
  | [], o, w, xs, h, _ => by
    rw [List.append_nil, List.length_nil, Nat.add_zero, List.take_append_drop]
    exact h
  | u :: r, o, w, xs, h, hl => by
    rw [List.length_cons] at hl
    have h1 := row_setCells hg r (o + 1) _ _ (row_set h hg (j := o) (by omega) u) (by rw [List.length_set]; omega)
    have e1 : (xs.set o u).take (o + 1) = xs.take o ++ [u] := by
      rw [List.take_succ_eq_append_getElem (by rw [List.length_set]; omega), List.getElem_set_self, List.take_set_of_le (Nat.le_refl _)]
    have e2 : (xs.set o u).drop (o + 1 + r.length) = xs.drop (o + (u :: r).length) := by
      rw [List.drop_set_of_lt (by omega), List.length_cons, show o + (r.length + 1) = o + 1 + r.length by omega]
    rw [e1, e2] at h1
    show ((w.setCell ⟨g, o, none⟩ u).setCells g (o + 1) r).ownsRow base e 1 v n _
    simpa using h1
theorem under_setCells {W : World} {g : Nat} (hg : W.heap.size ≤ g) : ∀ (vs : List Value) (o : Nat) (w : World), Under W w → Under W (w.setCells g o vs)
  | [], _, _, h => h
  | u :: r, o, w, h => under_setCells hg r (o + 1) _ (under_set h hg o u)
theorem idx_find (x : ByteArray) : ∀ (zs : List ByteArray) (i : Nat), Lib.idxFromS zs x i = match zs.findIdx? fun z => z.toList == x.toList with | some k => ((i + k : Nat) : Int) | none => -1
  | [], _ => rfl
  | z :: zs, i => by
    unfold Lib.idxFromS
    by_cases h : z = x
    · have : (z.toList == x.toList) = true := (Lib.bytes_beq_iff z x).2 h
      rw [if_pos h, List.findIdx?_cons, this]
      rfl
    · have : (z.toList == x.toList) = false := (Lib.bytes_beq_false_iff z x).2 h
      rw [if_neg h, List.findIdx?_cons, this, idx_find x zs (i + 1)]
      cases zs.findIdx? fun z => z.toList == x.toList with
      | none => rfl
      | some k => simp only [Option.map_some]; congr 1; omega
theorem idx_fromEnd (st : List ByteArray) (s : ByteArray) : Lib.idxOfS st.reverse s = match fromEnd st s with | some k => (k : Int) | none => -1 := by
  unfold Lib.idxOfS fromEnd
  rw [idx_find]
  cases st.reverse.findIdx? fun z => z.toList == s.toList with
  | none => rfl
  | some k => simp
theorem contains_among (zs : List ByteArray) (x : ByteArray) : Lib.containsS zs x = amongB zs x := by
  rw [Bool.eq_iff_iff, Lib.containsS_iff]
  unfold amongB
  rw [List.any_eq_true]
  constructor
  · intro h; exact ⟨x, h, by simp⟩
  · rintro ⟨y, h1, h2⟩
    rw [(Lib.bytes_beq_iff y x).1 h2] at h1
    exact h1
end Go.Lx
namespace Go.Lx
def numAB (s : ByteArray) (a b : Nat) : Option Nat := match numS s with | some n => if a ≤ n ∧ n ≤ b then some n else none | none => none
theorem numS_some {s : ByteArray} {n : Nat} (h : numS s = some n) : n < 100 ∧ s.data.toList = Lib.decDigits n := by
  unfold numS at h
  have h1 := List.find?_some h
  have h2 := List.mem_of_find?_eq_some h
  exact ⟨List.mem_range.1 h2, by simpa using h1⟩
def dig2 (n : Nat) : List UInt8 := if n < 10 then [UInt8.ofNat (48 + n)] else [UInt8.ofNat (48 + n / 10), UInt8.ofNat (48 + n % 10)]
theorem dec_two {n : Nat} (h : n < 100) : Lib.decDigits n = dig2 n := by
  unfold dig2
  rw [Lib.decDigits]
  split
  · rfl
  · rw [Lib.decDigits, dif_pos (by omega)]
    rfl
theorem digits_two : (List.range 100).all (fun n => Lib.atoiAll (dig2 n) == .ok (n : Int)) = true := by decide +kernel
theorem digits_back : (List.range 100).all (fun n => Lib.atoiAll (Lib.decDigits n) == .ok (n : Int)) = true := by
  rw [List.all_eq_true]
  intro n hn
  rw [dec_two (List.mem_range.1 hn)]
  exact List.all_eq_true.1 digits_two n hn
theorem numS_of {s : ByteArray} {n : Nat} (hn : n < 100) (h : s.data.toList = Lib.decDigits n) : numS s = some n := by
  unfold numS
  cases hf : (List.range 100).find? fun n => s.data.toList == Lib.decDigits n with
  | none =>
    have := List.find?_eq_none.1 hf n (List.mem_range.2 hn)
    simp [h] at this
  | some m =>
    have h1 := List.find?_some hf
    have h2 := List.mem_range.1 (List.mem_of_find?_eq_some hf)
    simp only [beq_iff_eq] at h1
    rw [h] at h1
    have e1 := List.all_eq_true.1 digits_back n (List.mem_range.2 hn)
    have e2 := List.all_eq_true.1 digits_back m (List.mem_range.2 h2)
    simp only [beq_iff_eq] at e1 e2
    rw [h1, e2] at e1
    injection e1 with e1
    have : m = n := by omega
    rw [this]
theorem num_atoi {s : ByteArray} {v : Int} (h : Lib.atoiAll s.data.toList = .ok v) {a b : Nat} (hb : b < 100) :
    numAB s a b = if Lib.itoa v = s.data.toList ∧ (a : Int) ≤ v ∧ v ≤ (b : Int) then some v.toNat else none := by
  unfold numAB
  by_cases hc : Lib.itoa v = s.data.toList ∧ (a : Int) ≤ v ∧ v ≤ (b : Int)
  · rw [if_pos hc]
    obtain ⟨h1, h2, h3⟩ := hc
    have h4 : s.data.toList = Lib.decDigits v.toNat := by
      rw [← h1]
      unfold Lib.itoa
      rw [if_neg (by omega)]
    rw [numS_of (by omega) h4]
    simp only
    rw [if_pos (by omega)]
  · rw [if_neg hc]
    cases hn : numS s with
    | none => rfl
    | some n =>
      obtain ⟨h1, h2⟩ := numS_some hn
      have e1 := List.all_eq_true.1 digits_back n (List.mem_range.2 h1)
      simp only [beq_iff_eq] at e1
      rw [← h2, h] at e1
      injection e1 with e1
      subst e1
      simp only
      rw [if_neg]
      rintro ⟨h3, h4⟩
      apply hc
      refine ⟨?_, by omega, by omega⟩
      rw [h2]
      unfold Lib.itoa
      rw [if_neg (by omega)]
      simp
theorem num_bad {s : ByteArray} (h : ∀ v, Lib.atoiAll s.data.toList ≠ .ok v) (a b : Nat) : numAB s a b = none := by
  unfold numAB
  cases hn : numS s with
  | none => rfl
  | some n =>
    obtain ⟨h1, h2⟩ := numS_some hn
    have e1 := List.all_eq_true.1 digits_back n (List.mem_range.2 h1)
    simp only [beq_iff_eq] at e1
    rw [← h2] at e1
    exact absurd e1 (h _)
end Go.Lx
namespace Go.Lx
theorem measGo_app (a b : List Nd) : ∀ (k : Nat) (all op : List (Nat × Nat)), measGo (a ++ b) k all op = (measGo a k all op).bind fun r => measGo b (k + a.length) r.1 r.2 := by
  induction a with
  | nil => intro k all op; simp [measGo]
  | cons x a ih =>
    intro k all op
    simp only [List.cons_append, measGo]
    split
    · rfl
    · rw [ih, List.length_cons, show k + 1 + a.length = k + (a.length + 1) by omega]
def CntIs (t : List Nd) (k c : Nat) : Prop := ∃ all op, measGo (t.take k) 0 [] [] = some (all, op) ∧ op.length = c
theorem CntIs.zero (t : List Nd) : CntIs t 0 0 := ⟨[], [], by simp [measGo], rfl⟩
theorem CntIs.pred {t : List Nd} {k c : Nat} {x : Nd} (hx : t[k]? = some x) (h : CntIs t (k + 1) c) : ∃ c', CntIs t k c' ∧ rightB x = true ∧ (binds x).length ≤ c' ∧ c = c' - (binds x).length + 1 := by
  obtain ⟨all, op, hm, hc⟩ := h
  obtain ⟨hk, hxe⟩ := List.getElem?_eq_some_iff.1 hx
  rw [List.take_succ_eq_append_getElem hk, measGo_app, hxe] at hm
  cases hr : measGo (t.take k) 0 [] [] with
  | none => rw [hr] at hm; cases hm
  | some r =>
    rw [hr] at hm
    obtain ⟨a0, o0⟩ := r
    simp only [Option.bind_some, measGo] at hm
    split at hm
    · cases hm
    · rename_i hn
      have hr1 : rightB x = true := by cases h : rightB x with
        | true => rfl
        | false => exact absurd (.inl h) hn
      have hr2 : ¬ o0.length < (binds x).length := fun h => hn (.inr h)
      cases hm
      refine ⟨o0.length, ⟨a0, o0, hr, rfl⟩, hr1, by omega, ?_⟩
      rw [← hc, List.length_append, List.length_take, List.length_singleton]
      omega
theorem CntIs.pos {t : List Nd} {k c : Nat} (hk : k < t.length) (h : CntIs t (k + 1) c) : 1 ≤ c := by
  obtain ⟨c', _, _, _, rfl⟩ := h.pred (List.getElem?_eq_getElem hk)
  omega
end Go.Lx
namespace Go.Lx
structure Dc where
  kind : Int
  level : Int
  name : ByteArray
  type : List Nd
  body : List Nd
  cons : List (List (List Nd))
def DcV (w : World) (v : Value) (d : Dc) : Prop := ∃ vt vb vc, v = .agg #[.int .i64 d.kind, .int .i64 d.level, .string d.name, vt, vb, vc] ∧ TermV w vt d.type ∧ TermV w vb d.body ∧ ConsV w vc d.cons
theorem ConsV.mono : Mono ConsV := ListV.mono (ListV.mono TermV.mono)
theorem TermsV.mono : Mono TermsV := ListV.mono TermV.mono
theorem DcV.mono : Mono DcV := fun w w' v d hU ⟨vt, vb, vc, h1, h2, h3, h4⟩ => ⟨vt, vb, vc, h1, TermV.mono _ _ _ _ hU h2, TermV.mono _ _ _ _ hU h3, ConsV.mono _ _ _ _ hU h4⟩
def termsOf (d : Dc) : List (List Nd) := if d.kind = 1 then [d.type, d.body] else if d.kind = 2 then [d.type] else if d.kind = 3 then d.cons.flatten else []
structure Small (d : Dc) : Prop where
  name : d.name.size ≤ 1000000
  cons : d.cons.length ≤ 100000
  flat : d.cons.flatten.length ≤ 100000
  terms : ∀ t ∈ termsOf d, t.length ≤ 1000000 ∧ ∀ x ∈ t, x.s.size ≤ 1000000
end Go.Lx
namespace Go.Lx
open Go.RowKit
def RowsV {α : Type} (size : Nat) (R : World → List Value → α → Prop) (w : World) (p : Option Addr) (xs : List α) : Prop :=
  ∃ rows : List (List Value), RowArg w p rows.flatten ∧ (∀ r ∈ rows, r.length = size) ∧ Zip (R w) rows xs
def MonoC {α : Type} (R : World → List Value → α → Prop) : Prop := ∀ w w' cs x, Under w w' → R w cs x → R w' cs x
theorem RowsV.under {α : Type} {size : Nat} {R : World → List Value → α → Prop} (hR : MonoC R) {w w' : World} {p : Option Addr} {xs : List α} (h : RowsV size R w p xs) (hU : Under w w') : RowsV size R w' p xs := by
  obtain ⟨rows, h1, h2, h3⟩ := h
  exact ⟨rows, h1.under hU, h2, h3.mono fun v x => hR _ _ _ _ hU⟩
theorem flatten_at : ∀ {rows : List (List Value)} {size k j : Nat} {r : List Value} {u : Value}, (∀ r ∈ rows, r.length = size) → rows[k]? = some r → r[j]? = some u → rows.flatten[k * size + j]? = some u
  | x :: l, size, 0, j, r, u, h, hk, hj => by
    cases hk
    rw [List.flatten_cons, Nat.zero_mul, Nat.zero_add, List.getElem?_append_left (List.getElem?_eq_some_iff.1 hj).1]
    exact hj
  | x :: l, size, k + 1, j, r, u, h, hk, hj => by
    have h0 := h x (List.mem_cons_self ..)
    rw [List.flatten_cons, List.getElem?_append_right (by rw [h0, Nat.add_mul]; omega), h0, show (k + 1) * size + j - size = k * size + j by rw [Nat.add_mul]; omega]
    exact flatten_at (fun x hx => h x (List.mem_cons_of_mem _ hx)) (by simpa using hk) hj
theorem RowsV.at {α : Type} {size : Nat} {R : World → List Value → α → Prop} {w : World} {p : Option Addr} {xs : List α} (h : RowsV size R w p xs) {k : Nat} {x : α} (hk : xs[k]? = some x) (hs : 0 < size) :
    ∃ b off r, p = some ⟨b, off, none⟩ ∧ b < w.heap.size ∧ r.length = size ∧ R w r x ∧ ∀ j u, r[j]? = some u → w.cell? ⟨b, off + (k * size + j), none⟩ = some u := by
  obtain ⟨rows, h1, h2, h3⟩ := h
  obtain ⟨r, hr, hR⟩ := h3.at hk
  have hrl := h2 r (List.mem_of_getElem? hr)
  have hne : rows.flatten ≠ [] := by
    intro e
    have := flatten_at (j := 0) (u := r[0]'(by omega)) h2 hr (List.getElem?_eq_getElem (by omega))
    rw [e] at this; cases this
  obtain ⟨b, off, e, hb, hc⟩ := h1 hne
  exact ⟨b, off, r, e, hb, hrl, hR, fun j u hj => hc _ _ (flatten_at h2 hr hj)⟩
theorem RowsV.nil {α : Type} {size : Nat} {R : World → List Value → α → Prop} {w : World} {p : Option Addr} : RowsV size R w p ([] : List α) := ⟨[], RowArg.nil, fun r h => (List.not_mem_nil h).elim, Zip.nil _⟩
theorem RowsV.of_own {α : Type} {size : Nat} {R : World → List Value → α → Prop} {w : World} {base : Nat} {e : TypeId} {v : Value} {n : Nat} {xs : List α} {rows : List (List Value)} (h : w.ownsRow base e size v n rows.flatten) (h2 : ∀ r ∈ rows, r.length = size) (h3 : Zip (R w) rows xs) :
    ∃ q c, v = .slice q n c ∧ n ≤ c ∧ RowsV size R w q xs := by
  obtain ⟨q, c, e, hc, hr⟩ := RowArg.of_own h
  exact ⟨q, c, e, hc, rows, hr, h2, h3⟩
def DcRow (w : World) (cs : List Value) (d : Dc) : Prop := ∃ vt vb vc, cs = [.int .i64 d.kind, .int .i64 d.level, .string d.name, vt, vb, vc] ∧ TermV w vt d.type ∧ TermV w vb d.body ∧ ConsV w vc d.cons
theorem DcRow.mono : MonoC DcRow := fun w w' cs d hU ⟨vt, vb, vc, h1, h2, h3, h4⟩ => ⟨vt, vb, vc, h1, TermV.mono _ _ _ _ hU h2, TermV.mono _ _ _ _ hU h3, ConsV.mono _ _ _ _ hU h4⟩
theorem DcRow.val {w : World} {cs : List Value} {d : Dc} (h : DcRow w cs d) : DcV w (.agg cs.toArray) d := by
  obtain ⟨vt, vb, vc, rfl, h1, h2, h3⟩ := h
  exact ⟨vt, vb, vc, rfl, h1, h2, h3⟩
theorem DcV.row {w : World} {v : Value} {d : Dc} (h : DcV w v d) : ∃ cs, v = .agg cs.toArray ∧ DcRow w cs d := by
  obtain ⟨vt, vb, vc, rfl, h1, h2, h3⟩ := h
  exact ⟨_, rfl, vt, vb, vc, rfl, h1, h2, h3⟩
def EntRow (w : World) (cs : List Value) (d : Dc) : Prop := ∃ vt vb vc st q n c, cs = [.int .i64 d.kind, .int .i64 d.level, .string d.name, vt, vb, vc, .bool st, .slice q n c] ∧ TermV w vt d.type ∧ TermV w vb d.body ∧ ConsV w vc d.cons
theorem EntRow.mono : MonoC EntRow := fun w w' cs d hU ⟨vt, vb, vc, st, q, n, c, h1, h2, h3, h4⟩ => ⟨vt, vb, vc, st, q, n, c, h1, TermV.mono _ _ _ _ hU h2, TermV.mono _ _ _ _ hU h3, ConsV.mono _ _ _ _ hU h4⟩
end Go.Lx
namespace Go.Lx
open Go.ChangeShapes Go.WideShapes Go.RowKit Go.Deep
def bindsD {H : Type} (l : List Nat) : DataW H := if l = [] then .nil else .slice (l.map fun (n : Nat) => .lit (.int .i64 (n : Int))) []
def shapeD {H : Type} (k : Nat) : DataW H := .agg [bindsD (bindsOf k), .lit (.bool (fN k)), .lit (.bool (fM k)), .lit (.bool (fS k))]
theorem cell_lt {w : World} {b j : Nat} {v : Value} (h : w.cell? ⟨b, j, none⟩ = some v) : b < w.heap.size := by
  simp only [World.cell?] at h
  cases hb : w.heap[b]? with
  | none => simp [hb] at h
  | some o => exact (Array.getElem?_eq_some_iff.1 hb).1
section
variable {H : Type} {enc : TypeId × Value → H} {P : Program} {w : World} {base : Nat} {spare : Nat → Bool} {held : Bool} {t e : TypeId} {fuel : Nat} {cs : List Value} {q : List MemPlace}
theorem laid_ints {l : List Nat} (ht : P.underlying t = some (.slice e)) (he : P.underlying e = some (.int .i64)) (hC : P.cellsOf e = 1) (h : DataW.trod enc P w base spare held fuel t cs = some (bindsD l, q)) :
    ∃ p c, cs = [.slice p l.length c] ∧ l.length ≤ c ∧ RowArg w p (intsN l) := by
  rcases open_slice ht h with ⟨rfl, hx⟩ | ⟨a, len, cap, m, n, D, Pl, rfl, _, hl, hm, hmm, hx, hi⟩
  · have : l = [] := by
      unfold bindsD at hx
      split at hx
      · assumption
      · simp at hx
    subst this
    exact ⟨none, 0, rfl, Nat.le_refl _, RowArg.nil⟩
  · have hlm : len ≤ m := by rw [hmm]; split <;> omega
    rw [hC] at hi
    have hne : l ≠ [] := by
      intro e; subst e
      simp [bindsD] at hx
    unfold bindsD at hx
    rw [if_neg hne] at hx
    simp only [Prod.mk.injEq, DataW.slice.injEq] at hx
    obtain ⟨⟨hmap, _⟩, _⟩ := hx
    have hlen : l.length = len := by have := congrArg List.length hmap; simpa using this
    have each : ∀ (i n' : Nat), l[i]? = some n' → w.cell? (a.add (i * 1)) = some (.int .i64 (n' : Int)) := by
      intro i n' hn'
      have hil := (List.getElem?_eq_some_iff.1 hn').1
      obtain ⟨cs', hc, ht'⟩ := hi i (by omega)
      obtain ⟨_, hcl, hat⟩ := World.cells?_some hc
      obtain ⟨z, e1, e2, _⟩ := DataW.trod_int he ht'
      subst e1
      have h0 := hat 0 (by decide)
      have hD : D i = .lit (.int .i64 (n' : Int)) := by
        have := congrArg (fun r => r[i]?) hmap
        simp only [List.getElem?_map, hn', Option.map_some, List.getElem?_range (show i < len by omega)] at this
        exact (Option.some.inj this).symm
      have e3 : D i = .lit (.int .i64 z) := congrArg Prod.fst e2
      rw [hD] at e3
      cases e3
      simpa [Addr.add] using h0
    refine ⟨some a, cap, by rw [hlen], by omega, fun _ => ?_⟩
    obtain ⟨b, off, sp⟩ := a
    have hp : 0 < l.length := List.length_pos_iff.2 hne
    have c0 := each 0 l[0] (List.getElem?_eq_getElem hp)
    have hsp : sp = none := by simpa [Addr.add] using World.cell?_spot c0
    subst hsp
    refine ⟨b, off, rfl, ?_, fun j u hj => ?_⟩
    · rw [add_off] at c0; exact cell_lt c0
    · unfold intsN at hj
      rw [List.getElem?_map] at hj
      cases hq : l[j]? with
      | none => rw [hq] at hj; cases hj
      | some n' =>
        rw [hq] at hj
        cases hj
        have := each j n' hq
        rw [add_off, Nat.mul_one] at this
        exact this
theorem arr_at {n size m' : Nat} {ds : List (DataW H)} (ht : P.underlying t = some (.array n e)) (hC : P.cellsOf e = size) (h : DataW.trod enc P w base spare held fuel t cs = some (.agg ds, q)) {i : Nat} (hi : i < n) :
    ∃ d q' m, ds[i]? = some d ∧ DataW.trod enc P w base spare held m e ((cs.drop (i * size)).take size) = some (d, q') := by
  obtain ⟨xs, m, _, hx, _, hn, hel⟩ := DataW.trod_array ht h
  simp only [Prod.mk.injEq, DataW.agg.injEq] at hx
  have h1 := hel i hi
  rw [hC] at h1
  have hxi : xs[i]? = some xs[i] := List.getElem?_eq_getElem (by omega)
  rw [hxi] at h1
  exact ⟨xs[i].1, xs[i].2, m, by rw [hx.1, List.getElem?_map, hxi]; rfl, h1⟩
theorem drop_take_at {cs : List Value} {i size j : Nat} {v : Value} (h : ((cs.drop (i * size)).take size)[j]? = some v) : cs[i * size + j]? = some v := by
  rw [List.getElem?_take] at h
  split at h
  · rw [List.getElem?_drop] at h; exact h
  · cases h
theorem shapesAt_of {g : Nat} {s ti : TypeId} {f0 f1 f2 f3 : Field} (hcell : ∀ j, w.cell? ⟨g, j, none⟩ = cs[j]?) (ht : P.underlying t = some (.array 30 s)) (hC : P.cellsOf s = 4) (hs : P.underlying s = some (.struct #[f0, f1, f2, f3])) (hone : oneCellFields P #[f0, f1, f2, f3] = true)
    (u0 : P.underlying f0.type = some (.slice ti)) (ui : P.underlying ti = some (.int .i64)) (ci : P.cellsOf ti = 1) (u1 : P.underlying f1.type = some .bool) (u2 : P.underlying f2.type = some .bool) (u3 : P.underlying f3.type = some .bool)
    (h : DataW.trod enc P w base spare held fuel t cs = some (.agg ((List.range 30).map shapeD), q)) : ShapesAt g w := by
  have each : ∀ k, k < 30 → ∃ p c, w.cell? ⟨g, k * 4, none⟩ = some (.slice p (bindsOf k).length c) ∧ (bindsOf k).length ≤ c ∧ RowArg w p (intsN (bindsOf k)) ∧
      w.cell? ⟨g, k * 4 + 1, none⟩ = some (.bool (fN k)) ∧ w.cell? ⟨g, k * 4 + 2, none⟩ = some (.bool (fM k)) ∧ w.cell? ⟨g, k * 4 + 3, none⟩ = some (.bool (fS k)) := by
    intro k hk
    obtain ⟨d, q', m, hd, htr⟩ := arr_at (m' := 0) ht hC h hk
    rw [List.getElem?_map, List.getElem?_range hk] at hd
    cases hd
    obtain ⟨ys, n', _, hx, hcl, hyl, hf⟩ := DataW.trod_struct hs htr
    obtain ⟨o0, k0⟩ := hone_of hone 0 f0 rfl
    obtain ⟨o1, k1⟩ := hone_of hone 1 f1 rfl
    obtain ⟨o2, k2⟩ := hone_of hone 2 f2 rfl
    obtain ⟨o3, k3⟩ := hone_of hone 3 f3 rfl
    have g0 := hf 0 f0 rfl
    have g1 := hf 1 f1 rfl
    have g2 := hf 2 f2 rfl
    have g3 := hf 3 f3 rfl
    rw [o0, k0] at g0
    rw [o1, k1] at g1
    rw [o2, k2] at g2
    rw [o3, k3] at g3
    have hat : ∀ j v, ((cs.drop (k * 4)).take 4)[j]? = some v → w.cell? ⟨g, k * 4 + j, none⟩ = some v := fun j v hj => by rw [hcell]; exact drop_take_at hj
    rw [hC] at hcl
    generalize (cs.drop (k * 4)).take 4 = r at *
    match r, hcl with
    | [v0, v1, v2, v3], _ =>
      match ys, hyl with
      | [y0, y1, y2, y3], _ =>
        simp only [shapeD, Prod.mk.injEq, DataW.agg.injEq, List.map_cons, List.map_nil, List.cons.injEq] at hx
        obtain ⟨⟨e0, e1, e2, e3, _⟩, _⟩ := hx
        have g0' : DataW.trod enc P w base spare held n' f0.type [v0] = some (bindsD (bindsOf k), y0.2) := by rw [e0]; exact g0
        obtain ⟨p, c, hv0, hc, hr⟩ := laid_ints u0 ui ci g0'
        obtain ⟨b1, hv1, hb1⟩ := DataW.trod_bool u1 (x := y1) g1
        obtain ⟨b2, hv2, hb2⟩ := DataW.trod_bool u2 (x := y2) g2
        obtain ⟨b3, hv3, hb3⟩ := DataW.trod_bool u3 (x := y3) g3
        rw [hb1] at e1
        rw [hb2] at e2
        rw [hb3] at e3
        cases e1; cases e2; cases e3
        cases hv0; cases hv1; cases hv2; cases hv3
        exact ⟨p, c, hat 0 _ rfl, hc, hr, hat 1 _ rfl, hat 2 _ rfl, hat 3 _ rfl⟩
  refine ⟨?_, each⟩
  obtain ⟨_, _, c0, _⟩ := each 0 (by decide)
  exact cell_lt c0
end
end Go.Lx
namespace Go.Lx
theorem wordS_len {cs : List ByteArray} {p : Int} {s : ByteArray} {st : List ByteArray} {t : List Nd} (h : wordS cs p s st = .ok t) : t.length = 1 := by
  unfold wordS at h
  split at h
  · cases h; rfl
  · split at h
    · split at h
      · split at h
        · cases h
        · cases h; rfl
      · split at h
        · cases h; rfl
        · cases h
    · cases h
theorem goS_len {cs ds : List ByteArray} : ∀ (ks : List PK) (ys : List ST) (x : Nd) (nms st : List ByteArray) (acc t : List Nd), (∀ y ∈ ys, ∀ st t, sayS cs ds y st = .ok t → t.length ≤ (flatS y).length) → goS cs ds ks ys x nms st acc = .ok t → t.length ≤ acc.length + (flatSs ys).length + 1
  | [], ys, x, nms, st, acc, t, _, h => by
    have : goS cs ds [] ys x nms st acc = .ok (acc ++ [x]) := by cases ys <;> simp [goS]
    rw [this] at h
    cases h
    simp
  | k :: ks, [], x, nms, st, acc, t, _, h => by
    have : goS cs ds (k :: ks) [] x nms st acc = .ok (acc ++ [x]) := by cases k <;> simp [goS]
    rw [this] at h
    cases h
    simp
  | k :: ks, y :: ys, x, nms, st, acc, t, hy, h => by
    have hy' : ∀ z ∈ ys, ∀ st t, sayS cs ds z st = .ok t → t.length ≤ (flatS z).length := fun z hz => hy z (List.mem_cons_of_mem _ hz)
    have hp := flatS_pos y
    rw [flatSs, List.length_append]
    cases k with
    | nm =>
      rw [goS] at h
      split at h
      · have := goS_len ks ys _ _ _ _ _ hy' h; omega
      · cases h
    | nu =>
      rw [goS] at h
      split at h
      · split at h
        · have := goS_len ks ys _ _ _ _ _ hy' h; omega
        · cases h
      · cases h
    | da =>
      rw [goS] at h
      split at h
      · split at h
        · have := goS_len ks ys _ _ _ _ _ hy' h; omega
        · cases h
      · cases h
    | te w =>
      rw [goS] at h
      split at h
      · rename_i u hu
        have h1 := hy y List.mem_cons_self _ _ hu
        have := goS_len ks ys _ _ _ _ _ hy' h
        rw [List.length_append] at this
        omega
      · cases h
theorem sayS_len {cs ds : List ByteArray} (T : ST) : ∀ st t, sayS cs ds T st = .ok t → t.length ≤ (flatS T).length := by
  induction T using ST.rec (motive_2 := fun l => ∀ a ∈ l, ∀ st t, sayS cs ds a st = .ok t → t.length ≤ (flatS a).length) with
  | word p s =>
    intro st t h
    rw [sayS] at h
    rw [wordS_len h, flatS]
    simp
  | list p l ih =>
    intro st t h
    rw [sayS] at h
    cases l with
    | nil => rw [listS] at h; cases h
    | cons a l =>
      rw [listS] at h
      split at h
      · cases h
      · split at h
        · have := goS_len _ _ _ _ _ _ _ (fun y hy => ih y (List.mem_cons_of_mem _ hy)) h
          rw [flatS, flatSs, List.length_append, List.length_append]
          simp only [List.length_nil, List.length_singleton] at this ⊢
          omega
        · cases h
  | nil => rename_i a ha st t h; cases ha
  | cons a l iha ihl =>
    rename_i b hb st t h
    rcases List.mem_cons.1 hb with rfl | hb
    · exact iha st t h
    · exact ihl b hb st t h
end Go.Lx
