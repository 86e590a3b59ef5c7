/- Part 21 of what the proof rests on. -/
import Derived.WalkKit
import Derived.RegionTactic
import Derived.LoopTactic
import Derived.Conc.LoneCalls
import Derived.Test.YtkmbmgmfcecfkaaDoorChecked
import Derived.KernelRfl
import Derived.Test.YtkmbmgmfcecfkaaDoorK12
import Derived.Test.YtkmbmgmfcecfkaaDoorK13
import Derived.Test.YtkmbmgmfcecfkaaDoorK20
set_option linter.unusedSimpArgs false
set_option linter.unusedVariables false
namespace Go.Proofs.YtkmbmgmfcecfkaaDoor
open Go.Conc Go.Lx
structure Tok where
  kind : Int
  at_ : Nat
  text : ByteArray
def itemV (t : Tok) : Value := .agg (itemCells t.kind t.at_ t.text 0)
def tokCells : List Tok → List Value
  | [] => []
  | t :: l => .int .i64 t.kind :: .int .i64 (t.at_ : Int) :: .string t.text :: tokCells l
theorem tokCells_snoc (l : List Tok) (t : Tok) : tokCells (l ++ [t]) = tokCells l ++ [.int .i64 t.kind, .int .i64 (t.at_ : Int), .string t.text] := by
  induction l with
  | nil => rfl
  | cons x l ih => simp [tokCells, ih]
def mActs : List Tok → List MAct
  | [] => []
  | t :: l => .recv (itemV t) :: .box :: mActs l
theorem recvs_mActs (l : List Tok) : recvs (mActs l) = l.map itemV := by
  induction l with
  | nil => rfl
  | cons x l ih => simp [mActs, recvs, ih]
def bLex : Frame := base 17
noncomputable def lexTodo : List Item := [.inLoop lexRound, .inBlock 0, .code lexEnd]
def lexDefers (q : Nat) : List Deferred := [dclose q #[66] 0 #[false]]
def lexFin (s : ByteArray) (B c q : Nat) (cs : List Frame) (w0 : World) (all : List Tok) (g : Goroutine) (w : World) : Prop :=
  ∃ o v J, g = G (bLex.at ⟨(lexFrame s c q v J).setIfInBounds 19 (.tuple #[zItem, .bool false]), lexDefers q⟩ (.inRegion rcvOps [1] :: .code (.seq (fstOf (sndOf lexRound)) (.block 1 (.seq (.region 9 xOps false) (.seq (fstOf (sndOf lexItem)) (sndOf (sndOf lexItem)))))) :: lexTodo)) cs ∧ MX ⟨B, c⟩ [] w0 v all.length (tokCells all) o w
section
variable {s : ByteArray} {B c q : Nat} {cs : List Frame} {w0 : World} {all : List Tok}
theorem lex_from : ∀ (l done : List Tok), done ++ l = all → all.length ≤ 1000000 →
    ∃ m, ∀ o J v w, MX ⟨B, c⟩ [] w0 v done.length (tokCells done) o w →
      GoM (shared B c q (lexFin s B c q cs w0 all)) (mActs l) o m (G (bLex.at ⟨lexFrame s c q v J, lexDefers q⟩ (.code lexRound :: lexTodo)) cs) w
  | [], done, hall, hlen => by
    refine ⟨2, fun o J v w hF => ?_⟩
    rw [lexRound_eq]
    refine goes_seq terms (goes_region terms ?_)
    intro w₁ hR
    have hF1 := MH.rely hF hR
    refine ⟨rfl, rcv_step (b := bLex) s c q J (by decide) w₁, o, v, J, rcv_done s c q zItem false J, ?_⟩
    have hall : done = all := by simpa using hall
    rw [← hall]; exact hF1
  | t :: l, done, hall, hlen => by
    obtain ⟨m', ih⟩ := lex_from l (done ++ [t]) (by simpa using hall) hlen
    have hdl : done.length ≤ 1000000 := by
      have : done.length ≤ all.length := by rw [← hall]; simp
      omega
    refine ⟨2, fun o J v w hF => ?_⟩
    rw [lexRound_eq]
    refine goes_seq terms (goes_region terms ?_)
    intro w₁ hR
    have hF1 := MH.rely hF hR
    refine ⟨rfl, rcv_step (b := bLex) s c q J (by decide) w₁, 200, ?_⟩
    show Goes Tryd.prog true (Rely ⟨B, c⟩ T0 o) (Lx.Does ⟨B, c⟩ T0 o) _ 200 ((G (bLex.at ⟨lexFrame s c q v J, lexDefers q⟩ (.inRegion rcvOps [0, 1] :: _)) cs).finishComm Tryd.prog #[rcase c zItem] (.recv true) 0 (itemV t) true) w₁
    rw [rcv_done]
    refine to_x s c q (itemV t) J rfl (by decide) w₁ hF1 fun J w₂ hF2 => ?_
    obtain ⟨es, hst, hes⟩ := x_step (d := ⟨B, c⟩) (b := bLex) (v := v) (df := lexDefers q) (kk := .code (.seq (fstOf (sndOf lexItem)) (sndOf (sndOf lexItem))) :: .inBlock 1 :: lexTodo) (cs := cs) s c q (itemV t) J (by decide) w₂
    have hb := hF2.boxed (tb := 71) (itemCells 0 0 ⟨#[]⟩ 0)
    have hv : v.ownBlock ≠ some w₂.heap.size := fun h => by
      have := (hF2.own.lt _ h).2
      omega
    refine ⟨rfl, _, _, es, hst, ⟨rfl, rfl, rfl, _, _, alloc_heap _ _⟩, hes, m' + 300, ?_⟩
    refine Goes.mono (goes_ops (m := m' + 250) (x_store s t.text c q t.at_ t.kind 0 J hv _ hb) rfl (by decide) ?_) (by omega)
    rintro e a' w' h
    cases e with
    | normal =>
      obtain ⟨J', rfl, hF'⟩ := h
      refine Goes.mono (goes_seq terms (goes_code (m := m' + 120) (x_test s t.text c q t.at_ t.kind J' w' hF') rfl (by decide) ?_)) (by omega)
      rintro e a' w' h
      cases e with
      | normal =>
        obtain ⟨J', rfl, hF'⟩ := h
        refine Goes.mono (goes_code (m := m' + 2) (x_append s t.text c q t.at_ t.kind J' hdl w' hF') rfl (by decide) ?_) (by omega)
        rintro e a' w' h
        cases e with
        | normal =>
          obtain ⟨v', J', rfl, hF'⟩ := h
          refine goes_inBlock terms (goes_inLoop terms (ih _ J' v' w' ?_))
          rw [tokCells_snoc, List.length_append]
          exact hF'
        | _ => exact h.elim
      | _ => exact h.elim
    | _ => exact h.elim
def goFrame (s : ByteArray) (c q : Nat) (J : Nat → Value) : Array Value :=
  #[.string s, J 1, J 2, J 3, J 4, .chan (some c), .chan (some q), J 7, J 8, J 9, J 10, J 11, J 12, J 13, J 14, .string s, .chan (some c), .chan (some q), J 18, J 19, J 20, J 21, J 22, J 23, J 24, J 25, J 26, J 27, J 28, J 29, J 30, J 31, J 32, J 33, J 34, J 35]
def midFrame (s : ByteArray) (c q : Nat) (J : Nat → Value) : Array Value :=
  #[.string s, J 1, J 2, J 3, J 4, .chan (some c), .chan (some q), .slice none 0 0, J 8, J 9, J 10, J 11, J 12, J 13, J 14, J 15, J 16, J 17, J 18, J 19, J 20, J 21, J 22, J 23, J 24, J 25, J 26, J 27, J 28, J 29, J 30, J 31, J 32, J 33, J 34, J 35]
set_option maxRecDepth 100000 in
set_option maxHeartbeats 4000000 in
theorem after_nil {d : Deal} {df : List Deferred} {o : Option Nat} (J : Nat → Value) (w : World) (hF : MX d [] w0 (.slice none 0 0) 0 [] o w) :
    Code.wpC Tryd.prog true (Rely d T0 o) (Lx.Does d T0 o) 17 (fstOf lexAfter) 100
      (Exit.then (fun a' w' => ∃ J', a' = ⟨midFrame s c q J', df⟩ ∧ MX d [] w0 (.slice none 0 0) 0 [] o w') (fun _ _ _ => False)) ⟨goFrame s c q J, df⟩ w := by
  unfold lexAfter lexWork lexText
  simp only [Tryd.f17, Option.getD_some, fstOf, sndOf, goFrame, midFrame]
  co_apply wpC_more
  · co_reg terms
    co_op MH.rely hF (co_quiet terms)
    co_apply opsC_nil terms
    co_then
    exact frame_ex (by rfl) hF
  · decide
set_option maxRecDepth 100000 in
set_option maxHeartbeats 4000000 in
theorem after_chan {d : Deal} {df : List Deferred} {o : Option Nat} (J : Nat → Value) (w : World) (hF : MX d [] w0 (.slice none 0 0) 0 [] o w) :
    Code.wpC Tryd.prog true (Rely d T0 o) (Lx.Does d T0 o) 17 (fstOf lexLoop) 100
      (Exit.then (fun a' w' => ∃ J', a' = ⟨lexFrame s c q (.slice none 0 0) J', df⟩ ∧ MX d [] w0 (.slice none 0 0) 0 [] o w') (fun _ _ _ => False)) ⟨midFrame s c q J, df⟩ w := by
  unfold lexLoop lexAfter lexWork lexText
  simp only [Tryd.f17, Option.getD_some, fstOf, sndOf, midFrame, lexFrame]
  co_apply wpC_more
  · co_reg terms
    co_op MH.rely hF (co_quiet terms)
    co_apply opsC_nil terms
    co_then
    exact frame_ex (by rfl) hF
  · decide
theorem lex_goes (hlen : all.length ≤ 1000000) (J : Nat → Value) (w : World) (hF : MX ⟨B, c⟩ [] w0 (.slice none 0 0) 0 [] none w) :
    ∃ m, GoM (shared B c q (lexFin s B c q cs w0 all)) (mActs all) none m (G (bLex.at ⟨goFrame s c q J, lexDefers q⟩ (.inRegion goOps [] :: .code lexAfter :: [])) cs) w := by
  obtain ⟨m, hm⟩ := lex_from (s := s) (B := B) (c := c) (q := q) (cs := cs) (w0 := w0) (all := all) all [] rfl hlen
  refine ⟨m + 500, ?_⟩
  refine Goes.mono (goes_ops (m := m + 400) (fn := 17) (Q := Exit.then (fun a' w' => a' = ⟨goFrame s c q J, lexDefers q⟩ ∧ MX ⟨B, c⟩ [] w0 (.slice none 0 0) 0 [] none w') (fun _ _ _ => False)) (opsC_nil terms ⟨rfl, hF⟩) rfl (by decide) ?_) (by omega)
  rintro e a' w' h
  cases e with
  | normal =>
    obtain ⟨rfl, hF⟩ := h
    rw [lexAfter_eq]
    refine Goes.mono (goes_seq terms (goes_code (m := m + 200) (after_nil J w' hF) rfl (by decide) ?_)) (by omega)
    rintro e a' w' h
    cases e with
    | normal =>
      obtain ⟨J', rfl, hF⟩ := h
      refine Goes.mono (goes_seq terms (goes_seq terms (goes_code (m := m + 2) (after_chan J' w' hF) rfl (by decide) ?_))) (by omega)
      rintro e a' w' h
      cases e with
      | normal =>
        obtain ⟨J', rfl, hF⟩ := h
        exact goes_block terms (goes_loop terms (hm none J' _ w' hF))
      | _ => exact h.elim
    | _ => exact h.elim
  | _ => exact h.elim
theorem shared_fit (Fin : Goroutine → World → Prop) (hc : c < B) (hq : q < B) (hcq : c ≠ q) : (shared B c q Fin).Fit := by
  refine ⟨?_, ?_, ?_, hc, hq, hcq⟩
  · intro ty h0 h1
    have h0 : ty = 69 := h0
    subst h0
    rcases h1 with h | h | h <;> exact absurd h (by decide)
  · intro h
    exact absurd (show 71 = 69 from h) (by decide)
  · intro h
    have h : 71 = 9 ∨ 71 = 36 ∨ 71 = 95 := h
    exact absurd h (by decide)
set_option maxRecDepth 100000 in
theorem lex_atGo (hs : s.size ≤ 100000) (acts : List SAct) (h : Scans s 0 acts) (hsame : sends acts = all.map itemV) (hlen : all.length ≤ 1000000) (hcq : c ≠ q) (J : Nat → Value) (w : World) (h0 : Low ⟨B, c⟩ w0 w)
    (hB : B = w.heap.size) (hc : ∃ s r tm, w.heap[c]? = some (.chan 0 #[] false s r tm)) (hq : ∃ s r tm, w.heap[q]? = some (.chan 0 #[] false s r tm)) :
    AtGo (shared B c q (lexFin s B c q cs w0 all)) (mActs all) acts (G (bLex.at ⟨goFrame s c q J, lexDefers q⟩ (.inRegion goOps [3] :: .code lexAfter :: [])) cs) w := by
  have hcl : c < B := by obtain ⟨_, _, _, h⟩ := hc; rw [hB]; exact (Array.getElem?_eq_some_iff.1 h).1
  have hql : q < B := by obtain ⟨_, _, _, h⟩ := hq; rw [hB]; exact (Array.getElem?_eq_some_iff.1 h).1
  refine ⟨shared_fit _ hcl hql hcq, rfl, hB, hq, hc, by rw [recvs_mActs, hsame], fun e => ?_⟩
  have ho : goOps[3]? = some { dst := none, op := .go { callee := .value (.func 23), args := #[.tmp 15, .tmp 16, .tmp 17], argTypes := #[9, 89, 90] }, type := 0, pos := "lexer.go:99", after := #[{ on := 0, ground := .data }, { on := 1, ground := .data }, { on := 2, ground := .data }], guard := none } := by rfl
  have e1 : (⟨goFrame s c q J, lexDefers q⟩ : Act).eval (.tmp 15) = .string s := rfl
  have e2 : (⟨goFrame s c q J, lexDefers q⟩ : Act).eval (.tmp 16) = .chan (some c) := rfl
  have e3 : (⟨goFrame s c q J, lexDefers q⟩ : Act).eval (.tmp 17) = .chan (some q) := rfl
  have e4 : (⟨goFrame s c q J, lexDefers q⟩ : Act).eval (.func 23) = .func (.func 23) #[] #[] := rfl
  refine ⟨_, _, ?_, lex_goes hlen J (w.at e) ⟨⟨by simp, by simp, by rw [hB]; exact Nat.le_refl _, by simp⟩, World.ownsRow_nil _ _ _ _, ⟨h0.os, h0.output, h0.size, h0.block⟩, t0_token, by simp⟩,
    scan_goes s hs acts h (w.at e) ⟨by simp, by simp, by rw [hB]; exact Nat.le_refl _, by simp⟩⟩
  refine (stepG_spawn (P := Tryd.prog) (d := scanCall s c q) (w' := w.at e) ho (by rfl) (by decide) ?_ rfl).trans ?_
  · unfold execOp
    simp [resolve, Deferred.ofValue, e1, e2, e3, e4, scanCall]
  · rw [listed_nil]
    · rfl
    · unfold execOp
      simp [resolve, Deferred.ofValue, e4]
end
end Go.Proofs.YtkmbmgmfcecfkaaDoor
namespace Go.Proofs.YtkmbmgmfcecfkaaDoor
open Go.Conc Go.Lx
def oneFrame (s : ByteArray) (J : Nat → Value) : Array Value := #[.string s, J 1, J 2, J 3, J 4, J 5, J 6, J 7, J 8, J 9, J 10, J 11, J 12, J 13, J 14, J 15, J 16, J 17, J 18, J 19, J 20, J 21, J 22, J 23, J 24, J 25, J 26, J 27, J 28, J 29, J 30, J 31, J 32, J 33, J 34, J 35]
def chanFrame (s : ByteArray) (c q : Nat) (J : Nat → Value) : Array Value := #[.string s, J 1, J 2, J 3, J 4, .chan (some c), .chan (some q), J 7, J 8, J 9, J 10, J 11, J 12, J 13, J 14, J 15, J 16, J 17, J 18, J 19, J 20, J 21, J 22, J 23, J 24, J 25, J 26, J 27, J 28, J 29, J 30, J 31, J 32, J 33, J 34, J 35]
theorem lexText_eq : lexText = .seq (fstOf lexText) (.seq (fstOf (sndOf lexText)) lexWork) := by rfl
theorem lexWork_eq : lexWork = .seq (fstOf lexWork) (.seq (fstOf (sndOf lexWork)) (.seq (.region 5 goOps false) lexAfter)) := by rfl
def IsF (F : (Nat → Value) → Array Value) (df : List Deferred) (Pw : World → Prop) (a : Act) (w : World) : Prop := (∃ J, a = ⟨F J, df⟩) ∧ Pw w
theorem isF {F : (Nat → Value) → Array Value} {df : List Deferred} {Pw : World → Prop} {A : Array Value} {w : World} (h : A = F fun n => A.getD n undef) (hp : Pw w) : IsF F df Pw ⟨A, df⟩ w := ⟨⟨_, by rw [← h]⟩, hp⟩
theorem isFa {F : (Nat → Value) → Array Value} {df : List Deferred} {Pw : World → Prop} {a : Act} {w : World} (h : a = ⟨F fun n => a.tmps.getD n undef, df⟩) (hp : Pw w) : IsF F df Pw a w := ⟨⟨_, h⟩, hp⟩
set_option maxRecDepth 100000 in
theorem lex_first (s : ByteArray) (J : Nat → Value) (w : World) :
    (fstOf lexText).wp Tryd.prog (Exit.then (IsF (oneFrame s) [] (w = ·)) (fun _ _ _ => False)) ⟨oneFrame s J, []⟩ w := by
  unfold lexText
  simp only [Tryd.f17, Option.getD_some, fstOf]
  unfold oneFrame
  go_wp2
  exact isF (F := oneFrame s) (by rfl) rfl
set_option maxRecDepth 100000 in
theorem lex_test (s : ByteArray) (hs : s.size ≤ 20000) (J : Nat → Value) (w : World) :
    (fstOf (sndOf lexText)).wp Tryd.prog (Exit.then (IsF (oneFrame s) [] (w = ·)) (fun _ _ _ => False)) ⟨oneFrame s J, []⟩ w := by
  unfold lexText
  simp only [Tryd.f17, Option.getD_some, fstOf, sndOf]
  unfold oneFrame
  have h1 : ¬ (20000 : Int) < s.size := by omega
  go_wp2
  exact isF (F := oneFrame s) (by rfl) rfl
structure Chans (w0 : World) (c q : Nat) (w : World) : Prop where
  os : w.os = w0.os
  output : w.output = w0.output
  size : w.heap.size = w0.heap.size + 2
  low : ∀ b, b < w0.heap.size → w.heap[b]? = w0.heap[b]?
  ne : c ≠ q
  cl : w0.heap.size ≤ c
  ql : w0.heap.size ≤ q
  chan : ∃ s r tm, w.heap[c]? = some (.chan 0 #[] false s r tm)
  quit : ∃ s r tm, w.heap[q]? = some (.chan 0 #[] false s r tm)
def IsC (s : ByteArray) (df : Nat → List Deferred) (w0 : World) (a : Act) (w : World) : Prop := ∃ c q, IsF (chanFrame s c q) (df q) (Chans w0 c q) a w
theorem chans_of (w : World) {c q : Nat} (h : (c = w.heap.size ∧ q = w.heap.size + 1) ∨ (c = w.heap.size + 1 ∧ q = w.heap.size)) : Chans w c q ((w.alloc (.chan 0 #[] false 0 0 false)).alloc (.chan 0 #[] false 0 0 false)).drew := by
  have e0 : ∀ b, b < w.heap.size → ((w.alloc (.chan 0 #[] false 0 0 false)).alloc (.chan 0 #[] false 0 0 false)).drew.heap[b]? = w.heap[b]? := fun b hb => by
    show ((w.alloc (.chan 0 #[] false 0 0 false)).alloc (.chan 0 #[] false 0 0 false)).heap[b]? = _
    rw [alloc_heap, alloc_heap, Array.getElem?_push_lt (by simp; omega), ← Array.getElem?_eq_getElem, Array.getElem?_push_lt hb, ← Array.getElem?_eq_getElem]
  have e1 : ((w.alloc (.chan 0 #[] false 0 0 false)).alloc (.chan 0 #[] false 0 0 false)).drew.heap[w.heap.size]? = some (.chan 0 #[] false 0 0 false) := by
    show ((w.alloc (.chan 0 #[] false 0 0 false)).alloc (.chan 0 #[] false 0 0 false)).heap[w.heap.size]? = _
    rw [alloc_heap, alloc_heap, Array.getElem?_push_lt (by simp), ← Array.getElem?_eq_getElem, Array.getElem?_push_size]
  have e2 : ((w.alloc (.chan 0 #[] false 0 0 false)).alloc (.chan 0 #[] false 0 0 false)).drew.heap[w.heap.size + 1]? = some (.chan 0 #[] false 0 0 false) := by
    show ((w.alloc (.chan 0 #[] false 0 0 false)).alloc (.chan 0 #[] false 0 0 false)).heap[w.heap.size + 1]? = _
    have : w.heap.size + 1 = (w.heap.push (.chan 0 #[] false 0 0 false)).size := by simp
    rw [alloc_heap, alloc_heap, this, Array.getElem?_push_size]
  have e3 : ((w.alloc (.chan 0 #[] false 0 0 false)).alloc (.chan 0 #[] false 0 0 false)).drew.heap.size = w.heap.size + 2 := by
    show ((w.alloc (.chan 0 #[] false 0 0 false)).alloc (.chan 0 #[] false 0 0 false)).heap.size = _
    rw [alloc_heap, alloc_heap]; simp
  rcases h with ⟨rfl, rfl⟩ | ⟨rfl, rfl⟩
  · exact ⟨rfl, rfl, e3, e0, by omega, by omega, by omega, ⟨_, _, _, e1⟩, ⟨_, _, _, e2⟩⟩
  · exact ⟨rfl, rfl, e3, e0, by omega, by omega, by omega, ⟨_, _, _, e2⟩, ⟨_, _, _, e1⟩⟩
theorem mk_item (w : World) : (Instr.makeChan 65 (.int .i64 0)).run Tryd.prog w = .ok (.chan (some w.heap.size)) (w.alloc (.chan 0 #[] false 0 0 false)) := by kernel_rfl
theorem mk_quit (w : World) : (Instr.makeChan 66 (.int .i64 0)).run Tryd.prog w = .ok (.chan (some w.heap.size)) (w.alloc (.chan 0 #[] false 0 0 false)) := by kernel_rfl
set_option maxRecDepth 100000 in
set_option maxHeartbeats 1000000 in
theorem lex_chans (s : ByteArray) (J : Nat → Value) (w : World) :
    (fstOf lexWork).wp Tryd.prog (Exit.then (IsC s (fun _ => []) w) (fun _ _ _ => False)) ⟨oneFrame s J, []⟩ w := by
  unfold lexWork lexText
  simp only [Tryd.f17, Option.getD_some, fstOf, sndOf]
  unfold oneFrame
  have h1 := mk_item
  have h2 := mk_quit
  go_region
  all_goals
    first
    | exact ⟨w.heap.size, w.heap.size + 1, isFa (by rfl) (chans_of w (.inl ⟨rfl, rfl⟩))⟩
    | exact ⟨w.heap.size + 1, w.heap.size, isFa (by rfl) (chans_of w (.inr ⟨rfl, rfl⟩))⟩
set_option maxRecDepth 100000 in
theorem lex_defer (s : ByteArray) (c q : Nat) (J : Nat → Value) (w : World) :
    (fstOf (sndOf lexWork)).wp Tryd.prog (Exit.then (IsF (chanFrame s c q) (lexDefers q) (w = ·)) (fun _ _ _ => False)) ⟨chanFrame s c q J, []⟩ w := by
  unfold lexWork lexText
  simp only [Tryd.f17, Option.getD_some, fstOf, sndOf]
  unfold chanFrame
  go_wp2
  exact isFa (F := chanFrame s c q) (df := lexDefers q) (by rfl) rfl
set_option maxRecDepth 100000 in
theorem lex_args (s : ByteArray) (c q : Nat) (J : Nat → Value) (w : World) :
    wpOps Tryd.prog goOps (Exit.then (IsF (goFrame s c q) (lexDefers q) (w = ·)) (fun _ _ _ => False)) [0, 1, 2] ⟨chanFrame s c q J, lexDefers q⟩ w := by
  have he : goOps = opsOf (fstOf (sndOf (sndOf lexWork))) := rfl
  rw [he]
  unfold lexWork lexText
  simp only [Tryd.f17, Option.getD_some, fstOf, sndOf, opsOf]
  refine .inl ?_
  refine .inl ?_
  refine .inl ?_
  exact isFa (F := goFrame s c q) (df := lexDefers q) (by rfl) rfl
end Go.Proofs.YtkmbmgmfcecfkaaDoor
namespace Go.Proofs.YtkmbmgmfcecfkaaDoor
open Go.Conc Go.Lx
def LexPost (W : World) (all : List Tok) (r : Value) (w : World) : Prop :=
  ∃ v, r = .tuple #[v, .int .i64 0, .int .i64 0] ∧ w.ownsRow W.heap.size 69 3 v all.length (tokCells all) ∧ Under W w
def endFrame (v : Value) (J : Nat → Value) : Array Value := #[J 0, J 1, v, .int .i64 0, .int .i64 0, J 5, J 6, J 7, J 8, J 9, J 10, J 11, J 12, J 13, J 14, J 15, J 16, J 17, J 18, J 19, J 20, J 21, J 22, J 23, J 24, J 25, J 26, J 27, J 28, J 29, J 30, J 31, J 32, J 33, J 34, J 35]
def lateFrame (s : ByteArray) (c q : Nat) (v : Value) (J : Nat → Value) : Array Value := #[.string s, J 1, J 2, J 3, J 4, .chan (some c), .chan (some q), v, J 8, J 9, J 10, J 11, J 12, J 13, J 14, J 15, J 16, J 17, J 18, J 19, .bool false, J 21, J 22, J 23, J 24, J 25, J 26, J 27, J 28, J 29, J 30, J 31, J 32, J 33, J 34, J 35]
section
variable {s : ByteArray} {c q : Nat} {v : Value}
set_option maxRecDepth 100000 in
theorem end_extract {df : List Deferred} (J : Nat → Value) (w : World) :
    wpOps Tryd.prog rcvOps (Exit.then (IsF (lateFrame s c q v) df (w = ·)) (fun _ _ _ => False)) [1] ⟨(lexFrame s c q v J).setIfInBounds 19 (.tuple #[zItem, .bool false]), df⟩ w := by
  have he : rcvOps = opsOf (fstOf lexRound) := rfl
  rw [he]
  unfold lexRound lexLoop lexAfter lexWork lexText
  simp only [Tryd.f17, Option.getD_some, fstOf, sndOf, inOf, opsOf]
  refine .inl ?_
  exact isFa (F := lateFrame s c q v) (df := df) (by rfl) rfl
set_option maxRecDepth 100000 in
theorem end_test {df : List Deferred} (J : Nat → Value) (w : World) :
    (fstOf (sndOf lexRound)).wp Tryd.prog (fun e a' w' => e = .exit 0 ∧ IsF (lateFrame s c q v) df (w = ·) a' w') ⟨lateFrame s c q v J, df⟩ w := by
  unfold lexRound lexLoop lexAfter lexWork lexText
  simp only [Tryd.f17, Option.getD_some, fstOf, sndOf, inOf]
  unfold lateFrame
  go_wp2
  exact isFa (F := lateFrame s c q v) (by rfl) rfl
set_option maxRecDepth 100000 in
theorem end_end {df : List Deferred} (J : Nat → Value) (w : World) :
    lexEnd.wp Tryd.prog (fun e a' w' => e = .ret ∧ IsF (endFrame v) df (w = ·) a' w') ⟨lateFrame s c q v J, df⟩ w := by
  unfold lexEnd lexAfter lexWork lexText
  simp only [Tryd.f17, Option.getD_some, sndOf]
  unfold lateFrame
  go_wp2
  exact isFa (F := endFrame v) (by rfl) rfl
end
theorem wp_same {c : Code} {Q : Exit → Act → World → Prop} {a : Act} {W w : World} (hw : w.Alike W) (h : ∀ w', w'.Alike W → c.wp Tryd.prog Q a w') (τ : Nat → Question → Nat) (d : Nat) : c.wp Tryd.prog Q a (re w τ d) := h _ ⟨hw.1, hw.2.1, hw.2.2⟩
theorem mono_same {F : (Nat → Value) → Array Value} {df : List Deferred} {W w : World} (hw : w.Alike W) : ∀ e a w', Exit.then (IsF F df (w = ·)) (fun _ _ _ => False) e a w' → Exit.then (IsF F df (·.Alike W)) (fun _ _ _ => False) e a w' := by
  intro e a w' h
  cases e with
  | normal => obtain ⟨h1, rfl⟩ := h; exact ⟨h1, hw⟩
  | _ => exact h
theorem ownsRow_base {w : World} {b b' : Nat} {e : TypeId} {size n : Nat} {v : Value} {xs : List Value} (h : w.ownsRow b e size v n xs) (hb : b' ≤ b) : w.ownsRow b' e size v n xs := by
  refine ⟨h.1, ?_⟩
  rcases h.2 with hn | ⟨g, cap, cur, rfl, hg, rest⟩
  · exact .inl hn
  · exact .inr ⟨g, cap, cur, rfl, Nat.le_trans hb hg, rest⟩
theorem lex_last (T : Tame Tryd.prog) {s : ByteArray} {W w0 : World} {c q : Nat} {all : List Tok} (hC : Chans W c q w0) (cs : List Frame) (g : Goroutine) (w : World) (h : lexFin s w0.heap.size c q cs w0 all g w) :
    RunG Tryd.prog (fun g' w' => ∃ r fr, g' = G fr cs ∧ fr.fn = 17 ∧ (∀ τ d, fr.leaving Tryd.prog (re w' τ d) (.returned r)) ∧ LexPost W all r w') g w := by
  obtain ⟨o, v, J, rfl, hM⟩ := h
  have hsz := hC.size
  have hqlt : q < w0.heap.size := by obtain ⟨_, _, _, hq⟩ := hC.quit; exact (Array.getElem?_eq_some_iff.1 hq).1
  have hq : ∃ s r tm, w.heap[q]? = some (.chan 0 #[] false s r tm) := by
    obtain ⟨s, r, tm, hq⟩ := hC.quit
    exact ⟨s, r, tm, by rw [hM.low.block q hqlt (Ne.symm hC.ne)]; exact hq⟩
  refine RunG.lone T fun τ d => ?_
  obtain ⟨a1, w1, ⟨⟨J1, rfl⟩, rfl⟩, hs1⟩ := ops_upto (K := IsF (lateFrame s c q v) (lexDefers q) (re w τ d = ·)) [1] [] _ _ (end_extract (s := s) (c := c) (q := q) (v := v) (df := lexDefers q) J (re w τ d)) bLex (.code (.seq (fstOf (sndOf lexRound)) (.block 1 (.seq (.region 9 xOps false) (.seq (fstOf (sndOf lexItem)) (sndOf (sndOf lexItem)))))) :: lexTodo) cs (by decide)
  refine ⟨_, _, hs1, rfl, RunG.re ?_ τ d⟩
  refine RunG.step T (fun w => step_region_end) (RunG.step T (fun w => step_seq) ?_)
  refine wpG_lone T (Q := fun e a' w' => e = .exit 0 ∧ IsF (lateFrame s c q v) (lexDefers q) (·.Alike w) a' w') (fun τ d => wp_mono (end_test (s := s) (c := c) (q := q) (v := v) (df := lexDefers q) J1 (re w τ d)) ?_) bLex _ cs _ (by decide) ?_
  · rintro e a' w' ⟨rfl, h1, rfl⟩
    exact ⟨rfl, h1, rfl, rfl, rfl⟩
  rintro e a' w2 ⟨rfl, ⟨J2, rfl⟩, hA2⟩
  refine ⟨[.code lexEnd], by simp [exitTo, lexTodo], ?_⟩
  refine wpG_lone T (Q := fun e a' w' => e = .ret ∧ IsF (endFrame v) (lexDefers q) (·.Alike w) a' w') (fun τ d => wp_mono (end_end (s := s) (c := c) (q := q) (v := v) (df := lexDefers q) J2 (re w2 τ d)) ?_) bLex _ cs _ (by decide) ?_
  · rintro e a' w' ⟨rfl, h1, rfl⟩
    exact ⟨rfl, h1, hA2.1, hA2.2.1, hA2.2.2⟩
  rintro e a' w3 ⟨rfl, ⟨J3, rfl⟩, hA3⟩
  intro todo
  obtain ⟨s', r', tm', hq3⟩ := hq
  rw [← hA3.1] at hq3
  refine RunG.lone T fun τ d => ⟨G { bLex.at ⟨endFrame v J3, []⟩ todo with mode := .returning } cs, (re w3 τ d).setChan q 0 #[] true s' r' tm', .one ?_, rfl, ?_⟩
  · exact step_solo_go rfl (stepG_dclose (b := bLex) (w := re w3 τ d) (ats := #[66]) (ty := 0) (bs := #[false]) hq3 (by kernel_rfl))
  · refine RunG.stop fun τ' d' => ⟨.tuple #[v, .int .i64 0, .int .i64 0], _, rfl, rfl, fun τ'' d'' => ⟨rfl, rfl, rfl, _, Tryd.func17, ?_⟩, v, rfl, ?_, ?_⟩
    · show (results Tryd.f17 (endFrame v J3)).run Tryd.prog _ = _
      simp [results, Tryd.f17, endFrame]
    · have ho : w3.ownsRow W.heap.size 69 3 v all.length (tokCells all) := by
        have := ownsRow_base hM.own (b' := W.heap.size) (by show W.heap.size ≤ w0.heap.size; omega)
        unfold World.ownsRow at this ⊢
        rw [hA3.1]; exact this
      refine ⟨ho.1, ?_⟩
      rcases ho.2 with hn | ⟨gg, cap, cur, rfl, hb, hg, rest⟩
      · exact .inl hn
      · refine .inr ⟨gg, cap, cur, rfl, hb, ?_, rest⟩
        have hne : q ≠ gg := by rintro rfl; rw [hq3] at hg; cases hg
        show (w3.setChan q 0 #[] true s' r' tm').heap[gg]? = _
        simp only [World.setChan]
        rw [Array.getElem?_setIfInBounds_ne hne]; exact hg
    · refine ⟨?_, ?_, ?_, fun b hb => ?_⟩
      · show w3.os = W.os
        rw [hA3.2.1, hM.low.os, hC.os]
      · show w3.output = W.output
        rw [hA3.2.2, hM.low.output, hC.output]
      · show W.heap.size ≤ (w3.heap.setIfInBounds q _).size
        have := hM.low.size
        rw [Array.size_setIfInBounds, hA3.1]; omega
      · show (w3.heap.setIfInBounds q _)[b]? = _
        have h1 := hC.ql
        have h2 := hC.cl
        rw [Array.getElem?_setIfInBounds_ne (by omega), hA3.1, hM.low.block b (by show b < w0.heap.size; omega) (by show b ≠ c; omega), hC.low b hb]
theorem lex_start (s : ByteArray) : Frame.enter Tryd.prog 17 #[.string s] .normal = bLex.at ⟨oneFrame s (fun _ => undef), []⟩ [.code lexText] := by
  have hb : Tryd.f17.body = some lexText := rfl
  rw [enter_at _ Tryd.func17 hb]
  simp only [Tryd.ntmps17, List.size_toArray, List.length_cons, List.length_nil, Nat.reduceAdd, Nat.reduceSub, Array.replicate_succ, Array.replicate_zero, List.push_toArray, List.append_toArray, List.nil_append, List.cons_append]
  rfl
theorem lex_calls (T : Tame Tryd.prog) (s : ByteArray) (hs : s.size ≤ 20000) (acts : List SAct) (h : Scans s 0 acts) (all : List Tok) (hsame : sends acts = all.map itemV) (hlen : all.length ≤ 1000000) (W : World) :
    CallsG Tryd.prog 17 #[.string s] W (LexPost W all) := by
  intro cs
  rw [lex_start, lexText_eq]
  refine RunG.step T (fun w => step_seq) ?_
  refine wpG_lone T (Q := Exit.then (IsF (oneFrame s) [] (·.Alike W)) (fun _ _ _ => False)) (wp_same ⟨rfl, rfl, rfl⟩ fun w' hw' => wp_mono (lex_first s _ w') (mono_same hw')) bLex _ cs _ (by decide) ?_
  rintro e a' w1 h1
  cases e with
  | normal =>
    obtain ⟨⟨J1, rfl⟩, hA1⟩ := h1
    refine RunG.step T (fun w => step_seq) ?_
    refine wpG_lone T (Q := Exit.then (IsF (oneFrame s) [] (·.Alike W)) (fun _ _ _ => False)) (wp_same hA1 fun w' hw' => wp_mono (lex_test s hs _ w') (mono_same hw')) bLex _ cs _ (by decide) ?_
    rintro e a' w2 h2
    cases e with
    | normal =>
      obtain ⟨⟨J2, rfl⟩, hA2⟩ := h2
      rw [lexWork_eq]
      refine RunG.step T (fun w => step_seq) ?_
      refine wpG_lone T (Q := Exit.then (IsC s (fun _ => []) W) (fun _ _ _ => False)) (wp_same hA2 fun w' hw' => wp_mono (lex_chans s _ w') ?_) bLex _ cs _ (by decide) ?_
      · intro e a w'' hh
        cases e with
        | normal =>
          obtain ⟨c, q, hF, hC⟩ := hh
          have hz : w'.heap.size = W.heap.size := by rw [hw'.1]
          exact ⟨c, q, hF, hC.os.trans hw'.2.1, hC.output.trans hw'.2.2, by rw [hC.size, hz], fun b hb => by rw [hC.low b (by omega), hw'.1], hC.ne, by have := hC.cl; omega, by have := hC.ql; omega, hC.chan, hC.quit⟩
        | _ => exact hh
      rintro e a' w3 h3
      cases e with
      | normal =>
        obtain ⟨c, q, ⟨J3, rfl⟩, hC⟩ := h3
        refine RunG.step T (fun w => step_seq) ?_
        refine wpG_lone T (Q := Exit.then (IsF (chanFrame s c q) (lexDefers q) (·.Alike w3)) (fun _ _ _ => False)) (wp_same ⟨rfl, rfl, rfl⟩ fun w' hw' => wp_mono (lex_defer s c q _ w') (mono_same hw')) bLex _ cs _ (by decide) ?_
        rintro e a' w4 h4
        cases e with
        | normal =>
          obtain ⟨⟨J4, rfl⟩, hA4⟩ := h4
          refine RunG.step T (fun w => step_seq) (RunG.step T (fun w => step_region) ?_)
          refine RunG.lone T fun τ d => ?_
          obtain ⟨a5, w5, ⟨⟨J5, rfl⟩, rfl⟩, hs5⟩ := ops_upto (K := IsF (goFrame s c q) (lexDefers q) (re w4 τ d = ·)) [0, 1, 2] [3] _ _ (lex_args s c q J4 (re w4 τ d)) bLex [.code lexAfter] cs (by decide)
          refine ⟨_, _, hs5, rfl, RunG.re ?_ τ d⟩
          refine RunG.trans (RunG.phase (X := shared w3.heap.size c q (lexFin s w3.heap.size c q cs w3 all)) (ms := mActs all) (ss := acts) (fun τ d => lex_atGo (by omega) acts h hsame hlen hC.ne J5 (re w4 τ d) ⟨hA4.2.1, hA4.2.2, by show w3.heap.size ≤ w4.heap.size; rw [hA4.1]; exact Nat.le_refl _, fun b _ _ => by show w4.heap[b]? = _; rw [hA4.1]⟩ (by show _ = w4.heap.size; rw [hA4.1]) (by show ∃ s r tm, w4.heap[c]? = _; rw [hA4.1]; exact hC.chan) (by show ∃ s r tm, w4.heap[q]? = _; rw [hA4.1]; exact hC.quit)) ?_) fun g' w' hf => lex_last T hC cs g' w' hf
          intro hg g' w' hf
          obtain ⟨o, v, J, rfl, _⟩ := hf
          refine ⟨⟨fun i hi => ?_, hg.below, .inl rfl⟩, rfl⟩
          simp only [G, Frame.at, lexTodo, List.mem_cons, List.not_mem_nil, or_false] at hi
          rcases hi with rfl | rfl | rfl | rfl | rfl <;> trivial
        | _ => exact h4.elim
      | _ => exact h3.elim
    | _ => exact h2.elim
  | _ => exact h1.elim
end Go.Proofs.YtkmbmgmfcecfkaaDoor
namespace Go.Proofs.YtkmbmgmfcecfkaaDoor
open Go.Lx
theorem okx_kind : ∀ args, Ok Tryd.prog ((Extern.ReflectliteType.rows.getD 11 ("", Extern.RuntimeError.nothing)).2 args) := by
  intro args
  exact Ok.bind (ok_asInt _) fun _ => Ok.pure
theorem ext_no {fn : Func} {e : Array Value → Sem Value} {f : FuncId} {g : Func} (h : Tryd.prog.funcs[f]? = some fn) (hg : Tryd.prog.funcs[f]? = some g) (he : Extern.find fn = some e) (hn : (Extern.find g).isNone = true) : False := by
  have := Option.some.inj (hg.symm.trans h)
  subst this
  rw [he] at hn
  cases hn
theorem ext_yes {fn : Func} {e e' : Array Value → Sem Value} {f : FuncId} {g : Func} (h : Tryd.prog.funcs[f]? = some fn) (hg : Tryd.prog.funcs[f]? = some g) (he : Extern.find fn = some e) (hn : Extern.find g = some e') : e = e' := by
  have := Option.some.inj (hg.symm.trans h)
  subst this
  exact Option.some.inj (he.symm.trans hn)
theorem tame : Tame Tryd.prog := by
  refine tame_of [0, 1, 74, 87, 88, 89, 90, 91, 92, 93, 94, 95, 96, 97, 98, 99, 100, 101, 102, 103, 104, 105, 106, 107, 108, 109, 110, 111, 112, 113, 114] (by kernel_rfl) (by kernel_rfl) (by kernel_rfl) ?_
  intro f hf fn e h he args
  simp only [List.mem_cons, List.not_mem_nil, or_false] at hf
  rcases hf with rfl | rfl | rfl | rfl | rfl | rfl | rfl | rfl | rfl | rfl | rfl | rfl | rfl | rfl | rfl | rfl | rfl | rfl | rfl | rfl | rfl | rfl | rfl | rfl | rfl | rfl | rfl | rfl | rfl | rfl | rfl
  · exact (ext_no h Tryd.func0 he (by kernel_rfl)).elim
  · exact (ext_no h Tryd.func1 he (by kernel_rfl)).elim
  · rw [ext_yes (e' := Extern.BytealgIndexByte.indexByte) h Tryd.func74 he (by kernel_rfl)]
    exact okx_indexByte args
  · rw [ext_yes (e' := Extern.RuntimeError.boundsError) h Tryd.func87 he (by kernel_rfl)]
    exact okx_boundsError args
  · rw [ext_yes (e' := Extern.RuntimeError.nothing) h Tryd.func88 he (by kernel_rfl)]
    exact okx_nothing args
  · rw [ext_yes (e' := (Extern.RuntimeError.rows.getD 0 ("", Extern.RuntimeError.nothing)).2) h Tryd.func89 he (by kernel_rfl)]
    exact okx_row0 args
  · rw [ext_yes (e' := Extern.RuntimeError.nothing) h Tryd.func90 he (by kernel_rfl)]
    exact okx_nothing args
  · rw [ext_yes (e' := (Extern.RuntimeError.rows.getD 1 ("", Extern.RuntimeError.nothing)).2) h Tryd.func91 he (by kernel_rfl)]
    exact okx_row1 args
  · rw [ext_yes (e' := Extern.RuntimeError.nothing) h Tryd.func92 he (by kernel_rfl)]
    exact okx_nothing args
  · rw [ext_yes (e' := (Extern.RuntimeError.rows.getD 2 ("", Extern.RuntimeError.nothing)).2) h Tryd.func93 he (by kernel_rfl)]
    exact okx_row2 args
  · rw [ext_yes (e' := Extern.RuntimeError.nothing) h Tryd.func94 he (by kernel_rfl)]
    exact okx_nothing args
  · rw [ext_yes (e' := Extern.RuntimeError.typeAssertionError) h Tryd.func95 he (by kernel_rfl)]
    exact okx_typeAssertionError args
  · rw [ext_yes (e' := Extern.RuntimeError.nothing) h Tryd.func96 he (by kernel_rfl)]
    exact okx_nothing args
  · rw [ext_yes (e' := (Extern.RuntimeError.rows.getD 6 ("", Extern.RuntimeError.nothing)).2) h Tryd.func97 he (by kernel_rfl)]
    exact okx_row6 args
  · rw [ext_yes (e' := Extern.RuntimeError.nothing) h Tryd.func98 he (by kernel_rfl)]
    exact okx_nothing args
  · exact (ext_no h Tryd.func99 he (by kernel_rfl)).elim
  · rw [ext_yes (e' := Extern.RuntimeError.unhashableTypeError) h Tryd.func100 he (by kernel_rfl)]
    exact okx_unhashable args
  · rw [ext_yes (e' := Extern.RuntimeError.nothing) h Tryd.func101 he (by kernel_rfl)]
    exact okx_nothing args
  · exact (ext_no h Tryd.func102 he (by kernel_rfl)).elim
  · exact (ext_no h Tryd.func103 he (by kernel_rfl)).elim
  · exact (ext_no h Tryd.func104 he (by kernel_rfl)).elim
  · rw [ext_yes (e' := (Extern.ReflectliteType.rows.getD 11 ("", Extern.RuntimeError.nothing)).2) h Tryd.func105 he (by kernel_rfl)]
    exact okx_kind args
  · exact (ext_no h Tryd.func106 he (by kernel_rfl)).elim
  · exact (ext_no h Tryd.func107 he (by kernel_rfl)).elim
  · exact (ext_no h Tryd.func108 he (by kernel_rfl)).elim
  · exact (ext_no h Tryd.func109 he (by kernel_rfl)).elim
  · exact (ext_no h Tryd.func110 he (by kernel_rfl)).elim
  · exact (ext_no h Tryd.func111 he (by kernel_rfl)).elim
  · exact (ext_no h Tryd.func112 he (by kernel_rfl)).elim
  · exact (ext_no h Tryd.func113 he (by kernel_rfl)).elim
  · exact (ext_no h Tryd.func114 he (by kernel_rfl)).elim
end Go.Proofs.YtkmbmgmfcecfkaaDoor
