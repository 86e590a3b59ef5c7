/- In company: the loop of Lex, whole; and Lex at its go statement. -/
import Derived.Test.YtjnoffgclibfaaaCLex2
set_option linter.unusedSimpArgs false
set_option linter.unusedVariables false
namespace Go.Proofs.Ytjnoffgclibfaaa
open Go.Conc Go.Lx

structure Tok where
  kind : Int
  at_ : Nat
  text : ByteArray
def itemV (t : Tok) : Value := .agg (itemCells t.kind t.at_ t.text 0)
def tokCells : List Tok → List Value
  | [] => []
  | t :: l => .int .i64 t.kind :: .int .i64 (t.at_ : Int) :: .string t.text :: tokCells l
theorem tokCells_snoc (l : List Tok) (t : Tok) : tokCells (l ++ [t]) = tokCells l ++ [.int .i64 t.kind, .int .i64 (t.at_ : Int), .string t.text] := by
  induction l with
  | nil => rfl
  | cons x l ih => simp [tokCells, ih]
def mActs : List Tok → List MAct
  | [] => []
  | t :: l => .recv (itemV t) :: .box :: mActs l
theorem recvs_mActs (l : List Tok) : recvs (mActs l) = l.map itemV := by
  induction l with
  | nil => rfl
  | cons x l ih => simp [mActs, recvs, ih]

/-- Lex's frame. -/
def bLex : Frame := base 14
noncomputable def lexTodo : List Item := [.inLoop lexRound, .inBlock 0, .code lexEnd]
def lexDefers (q : Nat) : List Deferred := [dclose q #[71] 0 #[false]]

/-- Where the loop ends. -/
def lexFin (s : ByteArray) (B c q : Nat) (cs : List Frame) (w0 : World) (all : List Tok) (g : Goroutine) (w : World) : Prop :=
  ∃ o v J, g = G (bLex.at ⟨(lexFrame s c q v J).setIfInBounds 19 (.tuple #[zItem, .bool false]), lexDefers q⟩ (.inRegion rcvOps [1] :: .code (.seq (fstOf (sndOf lexRound)) (.block 1 (.seq (.region 9 xOps false) (.seq (fstOf (sndOf lexItem)) (sndOf (sndOf lexItem)))))) :: lexTodo)) cs ∧ MX ⟨B, c⟩ [] w0 v all.length (tokCells all) o w

section
variable {s : ByteArray} {B c q : Nat} {cs : List Frame} {w0 : World} {all : List Tok}

theorem lex_from : ∀ (l done : List Tok), done ++ l = all → all.length ≤ 1000000 →
    ∃ m, ∀ o J v w, MX ⟨B, c⟩ [] w0 v done.length (tokCells done) o w →
      GoM (shared B c q (lexFin s B c q cs w0 all)) (mActs l) o m (G (bLex.at ⟨lexFrame s c q v J, lexDefers q⟩ (.code lexRound :: lexTodo)) cs) w
  | [], done, hall, hlen => by
    refine ⟨2, fun o J v w hF => ?_⟩
    rw [lexRound_eq]
    refine goes_seq terms (goes_region terms ?_)
    intro w₁ hR
    have hF1 := MH.rely hF hR
    refine ⟨rfl, rcv_step (b := bLex) s c q J (by decide) w₁, o, v, J, rcv_done s c q zItem false J, ?_⟩
    have hall : done = all := by simpa using hall
    rw [← hall]; exact hF1
  | t :: l, done, hall, hlen => by
    obtain ⟨m', ih⟩ := lex_from l (done ++ [t]) (by simpa using hall) hlen
    have hdl : done.length ≤ 1000000 := by
      have : done.length ≤ all.length := by rw [← hall]; simp
      omega
    refine ⟨2, fun o J v w hF => ?_⟩
    rw [lexRound_eq]
    refine goes_seq terms (goes_region terms ?_)
    intro w₁ hR
    have hF1 := MH.rely hF hR
    refine ⟨rfl, rcv_step (b := bLex) s c q J (by decide) w₁, 200, ?_⟩
    show Goes Try.prog true (Rely ⟨B, c⟩ T0 o) (Lx.Does ⟨B, c⟩ T0 o) _ 200 ((G (bLex.at ⟨lexFrame s c q v J, lexDefers q⟩ (.inRegion rcvOps [0, 1] :: _)) cs).finishComm Try.prog #[rcase c zItem] (.recv true) 0 (itemV t) true) w₁
    rw [rcv_done]
    refine to_x s c q (itemV t) J rfl (by decide) w₁ hF1 fun J w₂ hF2 => ?_
    obtain ⟨es, hst, hes⟩ := x_step (d := ⟨B, c⟩) (b := bLex) (v := v) (df := lexDefers q) (kk := .code (.seq (fstOf (sndOf lexItem)) (sndOf (sndOf lexItem))) :: .inBlock 1 :: lexTodo) (cs := cs) s c q (itemV t) J (by decide) w₂
    have hb := hF2.boxed (tb := 74) (itemCells 0 0 ⟨#[]⟩ 0)
    have hv : v.ownBlock ≠ some w₂.heap.size := fun h => by
      have := (hF2.own.lt _ h).2
      omega
    refine ⟨rfl, _, _, es, hst, ⟨rfl, rfl, rfl, _, _, alloc_heap _ _⟩, hes, m' + 300, ?_⟩
    refine Goes.mono (goes_ops (m := m' + 250) (x_store s t.text c q t.at_ t.kind 0 J hv _ hb) rfl (by decide) ?_) (by omega)
    rintro e a' w' h
    cases e with
    | normal =>
      obtain ⟨J', rfl, hF'⟩ := h
      refine Goes.mono (goes_seq terms (goes_code (m := m' + 120) (x_test s t.text c q t.at_ t.kind J' w' hF') rfl (by decide) ?_)) (by omega)
      rintro e a' w' h
      cases e with
      | normal =>
        obtain ⟨J', rfl, hF'⟩ := h
        refine Goes.mono (goes_code (m := m' + 2) (x_append s t.text c q t.at_ t.kind J' hdl w' hF') rfl (by decide) ?_) (by omega)
        rintro e a' w' h
        cases e with
        | normal =>
          obtain ⟨v', J', rfl, hF'⟩ := h
          refine goes_inBlock terms (goes_inLoop terms (ih _ J' v' w' ?_))
          rw [tokCells_snoc, List.length_append]
          exact hF'
        | _ => exact h.elim
      | _ => exact h.elim
    | _ => exact h.elim

/-- The frame at the go statement. -/
def goFrame (s : ByteArray) (c q : Nat) (J : Nat → Value) : Array Value :=
  #[.string s, J 1, J 2, J 3, J 4, .chan (some c), .chan (some q), J 7, J 8, J 9, J 10, J 11, J 12, J 13, J 14, .string s, .chan (some c), .chan (some q), J 18, J 19, J 20, J 21, J 22, J 23, J 24, J 25, J 26, J 27, J 28, J 29, J 30, J 31, J 32, J 33, J 34, J 35]
def midFrame (s : ByteArray) (c q : Nat) (J : Nat → Value) : Array Value :=
  #[.string s, J 1, J 2, J 3, J 4, .chan (some c), .chan (some q), .slice none 0 0, J 8, J 9, J 10, J 11, J 12, J 13, J 14, J 15, J 16, J 17, J 18, J 19, J 20, J 21, J 22, J 23, J 24, J 25, J 26, J 27, J 28, J 29, J 30, J 31, J 32, J 33, J 34, J 35]

set_option maxRecDepth 100000 in
set_option maxHeartbeats 4000000 in
theorem after_nil {d : Deal} {df : List Deferred} {o : Option Nat} (J : Nat → Value) (w : World) (hF : MX d [] w0 (.slice none 0 0) 0 [] o w) :
    Code.wpC Try.prog true (Rely d T0 o) (Lx.Does d T0 o) 14 (fstOf lexAfter) 100
      (Exit.then (fun a' w' => ∃ J', a' = ⟨midFrame s c q J', df⟩ ∧ MX d [] w0 (.slice none 0 0) 0 [] o w') (fun _ _ _ => False)) ⟨goFrame s c q J, df⟩ w := by
  unfold lexAfter lexWork lexText
  simp only [Try.f14, Option.getD_some, fstOf, sndOf, goFrame, midFrame]
  co_apply wpC_more
  · co_reg terms
    co_op MH.rely hF (co_quiet terms)
    co_apply opsC_nil terms
    co_then
    exact frame_ex (by rfl) hF
  · decide

set_option maxRecDepth 100000 in
set_option maxHeartbeats 4000000 in
theorem after_chan {d : Deal} {df : List Deferred} {o : Option Nat} (J : Nat → Value) (w : World) (hF : MX d [] w0 (.slice none 0 0) 0 [] o w) :
    Code.wpC Try.prog true (Rely d T0 o) (Lx.Does d T0 o) 14 (fstOf lexLoop) 100
      (Exit.then (fun a' w' => ∃ J', a' = ⟨lexFrame s c q (.slice none 0 0) J', df⟩ ∧ MX d [] w0 (.slice none 0 0) 0 [] o w') (fun _ _ _ => False)) ⟨midFrame s c q J, df⟩ w := by
  unfold lexLoop lexAfter lexWork lexText
  simp only [Try.f14, Option.getD_some, fstOf, sndOf, midFrame, lexFrame]
  co_apply wpC_more
  · co_reg terms
    co_op MH.rely hF (co_quiet terms)
    co_apply opsC_nil terms
    co_then
    exact frame_ex (by rfl) hF
  · decide

/-- Behind the go statement. -/
theorem lex_goes (hlen : all.length ≤ 1000000) (J : Nat → Value) (w : World) (hF : MX ⟨B, c⟩ [] w0 (.slice none 0 0) 0 [] none w) :
    ∃ m, GoM (shared B c q (lexFin s B c q cs w0 all)) (mActs all) none m (G (bLex.at ⟨goFrame s c q J, lexDefers q⟩ (.inRegion goOps [] :: .code lexAfter :: [])) cs) w := by
  obtain ⟨m, hm⟩ := lex_from (s := s) (B := B) (c := c) (q := q) (cs := cs) (w0 := w0) (all := all) all [] rfl hlen
  refine ⟨m + 500, ?_⟩
  refine Goes.mono (goes_ops (m := m + 400) (fn := 14) (Q := Exit.then (fun a' w' => a' = ⟨goFrame s c q J, lexDefers q⟩ ∧ MX ⟨B, c⟩ [] w0 (.slice none 0 0) 0 [] none w') (fun _ _ _ => False)) (opsC_nil terms ⟨rfl, hF⟩) rfl (by decide) ?_) (by omega)
  rintro e a' w' h
  cases e with
  | normal =>
    obtain ⟨rfl, hF⟩ := h
    rw [lexAfter_eq]
    refine Goes.mono (goes_seq terms (goes_code (m := m + 200) (after_nil J w' hF) rfl (by decide) ?_)) (by omega)
    rintro e a' w' h
    cases e with
    | normal =>
      obtain ⟨J', rfl, hF⟩ := h
      refine Goes.mono (goes_seq terms (goes_seq terms (goes_code (m := m + 2) (after_chan J' w' hF) rfl (by decide) ?_))) (by omega)
      rintro e a' w' h
      cases e with
      | normal =>
        obtain ⟨J', rfl, hF⟩ := h
        exact goes_block terms (goes_loop terms (hm none J' _ w' hF))
      | _ => exact h.elim
    | _ => exact h.elim
  | _ => exact h.elim

theorem shared_fit (Fin : Goroutine → World → Prop) (hc : c < B) (hq : q < B) (hcq : c ≠ q) : (shared B c q Fin).Fit := by
  refine ⟨?_, ?_, ?_, hc, hq, hcq⟩
  · intro ty h0 h1
    have h0 : ty = 31 := h0
    subst h0
    rcases h1 with h | h | h <;> exact absurd h (by decide)
  · intro h
    exact absurd (show 74 = 31 from h) (by decide)
  · intro h
    have h : 74 = 9 ∨ 74 = 34 ∨ 74 = 95 := h
    exact absurd h (by decide)

set_option maxRecDepth 100000 in
/-- LEX AT ITS GO STATEMENT. -/
theorem lex_atGo (hs : s.size ≤ 100000) (acts : List SAct) (h : Scans s 0 acts) (hsame : sends acts = all.map itemV) (hlen : all.length ≤ 1000000) (hcq : c ≠ q) (J : Nat → Value) (w : World) (h0 : Low ⟨B, c⟩ w0 w)
    (hB : B = w.heap.size) (hc : ∃ s r tm, w.heap[c]? = some (.chan 0 #[] false s r tm)) (hq : ∃ s r tm, w.heap[q]? = some (.chan 0 #[] false s r tm)) :
    AtGo (shared B c q (lexFin s B c q cs w0 all)) (mActs all) acts (G (bLex.at ⟨goFrame s c q J, lexDefers q⟩ (.inRegion goOps [3] :: .code lexAfter :: [])) cs) w := by
  have hcl : c < B := by obtain ⟨_, _, _, h⟩ := hc; rw [hB]; exact (Array.getElem?_eq_some_iff.1 h).1
  have hql : q < B := by obtain ⟨_, _, _, h⟩ := hq; rw [hB]; exact (Array.getElem?_eq_some_iff.1 h).1
  refine ⟨shared_fit _ hcl hql hcq, rfl, hB, hq, hc, by rw [recvs_mActs, hsame], fun e => ?_⟩
  have ho : goOps[3]? = some { dst := none, op := .go { callee := .value (.func 37), args := #[.tmp 15, .tmp 16, .tmp 17], argTypes := #[9, 89, 90] }, type := 0, pos := "lexer.go:99", after := #[{ on := 0, ground := .data }, { on := 1, ground := .data }, { on := 2, ground := .data }], guard := none } := by rfl
  have e1 : (⟨goFrame s c q J, lexDefers q⟩ : Act).eval (.tmp 15) = .string s := rfl
  have e2 : (⟨goFrame s c q J, lexDefers q⟩ : Act).eval (.tmp 16) = .chan (some c) := rfl
  have e3 : (⟨goFrame s c q J, lexDefers q⟩ : Act).eval (.tmp 17) = .chan (some q) := rfl
  have e4 : (⟨goFrame s c q J, lexDefers q⟩ : Act).eval (.func 37) = .func (.func 37) #[] #[] := rfl
  refine ⟨_, _, ?_, lex_goes hlen J (w.at e) ⟨⟨by simp, by simp, by rw [hB]; exact Nat.le_refl _, by simp⟩, World.ownsRow_nil _ _ _ _, ⟨h0.os, h0.output, h0.size, h0.block⟩, t0_token, by simp⟩,
    scan_goes s hs acts h (w.at e) ⟨by simp, by simp, by rw [hB]; exact Nat.le_refl _, by simp⟩⟩
  refine (stepG_spawn (P := Try.prog) (d := scanCall s c q) (w' := w.at e) ho (by rfl) (by decide) ?_ rfl).trans ?_
  · unfold execOp
    simp [resolve, Deferred.ofValue, e1, e2, e3, e4, scanCall]
  · rw [listed_nil]
    · rfl
    · unfold execOp
      simp [resolve, Deferred.ofValue, e4]
end
end Go.Proofs.Ytjnoffgclibfaaa
