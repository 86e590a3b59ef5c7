/- Lex, up to its go statement, walked alone. -/
import Derived.Test.YtjnoffgclibfaaaCLex3
import Derived.Test.YtjnoffgclibfaaaLxF
import Derived.WalkKit
import Derived.RegionTactic
import Derived.LoopTactic
set_option linter.unusedSimpArgs false
set_option linter.unusedVariables false
namespace Go.Proofs.Ytjnoffgclibfaaa
open Go.Conc Go.Lx

def oneFrame (s : ByteArray) (J : Nat → Value) : Array Value := #[.string s, J 1, J 2, J 3, J 4, J 5, J 6, J 7, J 8, J 9, J 10, J 11, J 12, J 13, J 14, J 15, J 16, J 17, J 18, J 19, J 20, J 21, J 22, J 23, J 24, J 25, J 26, J 27, J 28, J 29, J 30, J 31, J 32, J 33, J 34, J 35]
def chanFrame (s : ByteArray) (c q : Nat) (J : Nat → Value) : Array Value := #[.string s, J 1, J 2, J 3, J 4, .chan (some c), .chan (some q), J 7, J 8, J 9, J 10, J 11, J 12, J 13, J 14, J 15, J 16, J 17, J 18, J 19, J 20, J 21, J 22, J 23, J 24, J 25, J 26, J 27, J 28, J 29, J 30, J 31, J 32, J 33, J 34, J 35]

theorem lexText_eq : lexText = .seq (fstOf lexText) (.seq (fstOf (sndOf lexText)) lexWork) := by rfl
theorem lexWork_eq : lexWork = .seq (fstOf lexWork) (.seq (fstOf (sndOf lexWork)) (.seq (.region 5 goOps false) lexAfter)) := by rfl

/-- A frame of this form, in a world of which this holds. -/
def IsF (F : (Nat → Value) → Array Value) (df : List Deferred) (Pw : World → Prop) (a : Act) (w : World) : Prop := (∃ J, a = ⟨F J, df⟩) ∧ Pw w
theorem isF {F : (Nat → Value) → Array Value} {df : List Deferred} {Pw : World → Prop} {A : Array Value} {w : World} (h : A = F fun n => A.getD n undef) (hp : Pw w) : IsF F df Pw ⟨A, df⟩ w := ⟨⟨_, by rw [← h]⟩, hp⟩

theorem isFa {F : (Nat → Value) → Array Value} {df : List Deferred} {Pw : World → Prop} {a : Act} {w : World} (h : a = ⟨F fun n => a.tmps.getD n undef, df⟩) (hp : Pw w) : IsF F df Pw a w := ⟨⟨_, h⟩, hp⟩

set_option maxRecDepth 100000 in
theorem lex_first (s : ByteArray) (J : Nat → Value) (w : World) :
    (fstOf lexText).wp Try.prog (Exit.then (IsF (oneFrame s) [] (w = ·)) (fun _ _ _ => False)) ⟨oneFrame s J, []⟩ w := by
  unfold lexText
  simp only [Try.f14, Option.getD_some, fstOf]
  unfold oneFrame
  go_wp2
  exact isF (F := oneFrame s) (by rfl) rfl

set_option maxRecDepth 100000 in
theorem lex_test (s : ByteArray) (hs : s.size ≤ 20000) (J : Nat → Value) (w : World) :
    (fstOf (sndOf lexText)).wp Try.prog (Exit.then (IsF (oneFrame s) [] (w = ·)) (fun _ _ _ => False)) ⟨oneFrame s J, []⟩ w := by
  unfold lexText
  simp only [Try.f14, Option.getD_some, fstOf, sndOf]
  unfold oneFrame
  have h1 : ¬ (20000 : Int) < s.size := by omega
  go_wp2
  exact isF (F := oneFrame s) (by rfl) rfl

/-- Two channels have been made. -/
structure Chans (w0 : World) (c q : Nat) (w : World) : Prop where
  os : w.os = w0.os
  output : w.output = w0.output
  size : w.heap.size = w0.heap.size + 2
  low : ∀ b, b < w0.heap.size → w.heap[b]? = w0.heap[b]?
  ne : c ≠ q
  cl : w0.heap.size ≤ c
  ql : w0.heap.size ≤ q
  chan : ∃ s r tm, w.heap[c]? = some (.chan 0 #[] false s r tm)
  quit : ∃ s r tm, w.heap[q]? = some (.chan 0 #[] false s r tm)
def IsC (s : ByteArray) (df : Nat → List Deferred) (w0 : World) (a : Act) (w : World) : Prop := ∃ c q, IsF (chanFrame s c q) (df q) (Chans w0 c q) a w

theorem chans_of (w : World) {c q : Nat} (h : (c = w.heap.size ∧ q = w.heap.size + 1) ∨ (c = w.heap.size + 1 ∧ q = w.heap.size)) : Chans w c q ((w.alloc (.chan 0 #[] false 0 0 false)).alloc (.chan 0 #[] false 0 0 false)).drew := by
  have e0 : ∀ b, b < w.heap.size → ((w.alloc (.chan 0 #[] false 0 0 false)).alloc (.chan 0 #[] false 0 0 false)).drew.heap[b]? = w.heap[b]? := fun b hb => by
    show ((w.alloc (.chan 0 #[] false 0 0 false)).alloc (.chan 0 #[] false 0 0 false)).heap[b]? = _
    rw [alloc_heap, alloc_heap, Array.getElem?_push_lt (by simp; omega), ← Array.getElem?_eq_getElem, Array.getElem?_push_lt hb, ← Array.getElem?_eq_getElem]
  have e1 : ((w.alloc (.chan 0 #[] false 0 0 false)).alloc (.chan 0 #[] false 0 0 false)).drew.heap[w.heap.size]? = some (.chan 0 #[] false 0 0 false) := by
    show ((w.alloc (.chan 0 #[] false 0 0 false)).alloc (.chan 0 #[] false 0 0 false)).heap[w.heap.size]? = _
    rw [alloc_heap, alloc_heap, Array.getElem?_push_lt (by simp), ← Array.getElem?_eq_getElem, Array.getElem?_push_size]
  have e2 : ((w.alloc (.chan 0 #[] false 0 0 false)).alloc (.chan 0 #[] false 0 0 false)).drew.heap[w.heap.size + 1]? = some (.chan 0 #[] false 0 0 false) := by
    show ((w.alloc (.chan 0 #[] false 0 0 false)).alloc (.chan 0 #[] false 0 0 false)).heap[w.heap.size + 1]? = _
    have : w.heap.size + 1 = (w.heap.push (.chan 0 #[] false 0 0 false)).size := by simp
    rw [alloc_heap, alloc_heap, this, Array.getElem?_push_size]
  have e3 : ((w.alloc (.chan 0 #[] false 0 0 false)).alloc (.chan 0 #[] false 0 0 false)).drew.heap.size = w.heap.size + 2 := by
    show ((w.alloc (.chan 0 #[] false 0 0 false)).alloc (.chan 0 #[] false 0 0 false)).heap.size = _
    rw [alloc_heap, alloc_heap]; simp
  rcases h with ⟨rfl, rfl⟩ | ⟨rfl, rfl⟩
  · exact ⟨rfl, rfl, e3, e0, by omega, by omega, by omega, ⟨_, _, _, e1⟩, ⟨_, _, _, e2⟩⟩
  · exact ⟨rfl, rfl, e3, e0, by omega, by omega, by omega, ⟨_, _, _, e2⟩, ⟨_, _, _, e1⟩⟩

theorem mk_item (w : World) : (Instr.makeChan 70 (.int .i64 0)).run Try.prog w = .ok (.chan (some w.heap.size)) (w.alloc (.chan 0 #[] false 0 0 false)) := by kernel_rfl
theorem mk_quit (w : World) : (Instr.makeChan 71 (.int .i64 0)).run Try.prog w = .ok (.chan (some w.heap.size)) (w.alloc (.chan 0 #[] false 0 0 false)) := by kernel_rfl

set_option maxRecDepth 100000 in
set_option maxHeartbeats 1000000 in
theorem lex_chans (s : ByteArray) (J : Nat → Value) (w : World) :
    (fstOf lexWork).wp Try.prog (Exit.then (IsC s (fun _ => []) w) (fun _ _ _ => False)) ⟨oneFrame s J, []⟩ w := by
  unfold lexWork lexText
  simp only [Try.f14, Option.getD_some, fstOf, sndOf]
  unfold oneFrame
  have h1 := mk_item
  have h2 := mk_quit
  go_region
  all_goals
    first
    | exact ⟨w.heap.size, w.heap.size + 1, isFa (by rfl) (chans_of w (.inl ⟨rfl, rfl⟩))⟩
    | exact ⟨w.heap.size + 1, w.heap.size, isFa (by rfl) (chans_of w (.inr ⟨rfl, rfl⟩))⟩

set_option maxRecDepth 100000 in
theorem lex_defer (s : ByteArray) (c q : Nat) (J : Nat → Value) (w : World) :
    (fstOf (sndOf lexWork)).wp Try.prog (Exit.then (IsF (chanFrame s c q) (lexDefers q) (w = ·)) (fun _ _ _ => False)) ⟨chanFrame s c q J, []⟩ w := by
  unfold lexWork lexText
  simp only [Try.f14, Option.getD_some, fstOf, sndOf]
  unfold chanFrame
  go_wp2
  exact isFa (F := chanFrame s c q) (df := lexDefers q) (by rfl) rfl

set_option maxRecDepth 100000 in
theorem lex_args (s : ByteArray) (c q : Nat) (J : Nat → Value) (w : World) :
    wpOps Try.prog goOps (Exit.then (IsF (goFrame s c q) (lexDefers q) (w = ·)) (fun _ _ _ => False)) [0, 1, 2] ⟨chanFrame s c q J, lexDefers q⟩ w := by
  have he : goOps = opsOf (fstOf (sndOf (sndOf lexWork))) := rfl
  rw [he]
  unfold lexWork lexText
  simp only [Try.f14, Option.getD_some, fstOf, sndOf, opsOf]
  refine .inl ?_
  refine .inl ?_
  refine .inl ?_
  exact isFa (F := goFrame s c q) (df := lexDefers q) (by rfl) rfl
end Go.Proofs.Ytjnoffgclibfaaa
