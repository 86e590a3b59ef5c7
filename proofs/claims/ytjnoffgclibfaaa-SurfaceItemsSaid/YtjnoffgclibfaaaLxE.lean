/- General texts on goroutines beside one another, part E: for any program. -/
import Derived.Conc.CompanyMem
import Derived.Test.YtjnoffgclibfaaaLxC
import Derived.Below
import Derived.WalkKit
import Derived.Test.YtjnoffgclibfaaaLxD
import Derived.Conc.DeferLaws
import Derived.Conc.AppendWalk
set_option linter.unusedSimpArgs false
set_option linter.unusedVariables false
/- In company: a call of a function value, and a region that draws its order and holds calls. -/
namespace Go.Lx
open Go.Conc

section
variable {P : Program} {main : Bool} {R : World → World → Prop} {D : World → World → Array Event → Prop}

theorem CallsC.rely (T : Terms R D) {f : FuncId} {args : Array Value} {n : Nat} {w w₁ : World} {Post : Value → World → Prop} (h : CallsC P main R D f args n w Post) (r : R w w₁) : CallsC P main R D f args n w₁ Post := by
  obtain ⟨fn, c, hf, hn, hb, hw⟩ := h
  exact ⟨fn, c, hf, hn, hb, wpC_rely T hw r⟩

theorem CallsC.more {f : FuncId} {args : Array Value} {n n' : Nat} {w : World} {Post : Value → World → Prop} (h : CallsC P main R D f args n w Post) (hn : n ≤ n') : CallsC P main R D f args n' w Post := by
  obtain ⟨fn, c, hf, hn', hb, hw⟩ := h
  exact ⟨fn, c, hf, hn', hb, wpC_more hw hn⟩

/-- Through an operation that comes to an entry of a Go function, by the callee's contract. -/
theorem goes_enter (T : Terms R D) {b : Frame} {a : Act} {k : List Item} {cs : List Frame} {w : World} {ops : Array Oper} {i : Nat} {rest : List Nat} {o : Oper} {f : FuncId} {vs : Array Value}
    {nf m : Nat} {Post : Value → World → Prop} {Stop : Goroutine → World → Prop}
    (ho : ops[i]? = some o) (hw : Region.wanted o (yielded ops a.tmps) = true) (hk : b.kind ≠ .early)
    (hrun : ∀ w₁, R w w₁ → (execOp a.eval o).run P w₁ = .ok (.enter f vs) w₁) (hl : ∀ w₁, R w w₁ → D w₁ w₁ (listed P b.fn a o w₁))
    (hcall : CallsC P main R D f vs nf w Post)
    (hnext : ∀ v w', Post v w' → Goes P main R D Stop m (G (b.at (a.put o.dst v) (.inRegion ops rest :: k)) cs) w') :
    Goes P main R D Stop (m + nf + 3) (G (b.at a (.inRegion ops (i :: rest) :: k)) cs) w := by
  obtain ⟨fn, c, hf, hname, hbody, hwp⟩ := hcall
  have hfin : ∀ v, (b.at a (.inRegion ops (i :: rest) :: k)).finish v = b.at (a.put o.dst v) (.inRegion ops rest :: k) := fun v => by rw [Frame.finish_at, ho]; rfl
  have hleave : ∀ (a' : Act) (w' : World) (todo : List Item), (a'.defers = [] ∧ ∃ v, ResultsC P fn a'.tmps v ∧ Post v w') →
      Goes P main R D Stop (m + 1) (G { (base f).at a' todo with mode := .returning } (b.at a (.inRegion ops (i :: rest) :: k) :: cs)) w' := by
    rintro a' w' todo ⟨hd, v, hr, hp⟩
    refine Goes.step rfl fun w₁ h₁ => ?_
    rw [stepG_leave (b := base f) rfl hd hf (hr w₁).1 (hr w₁).2, hfin]
    exact ⟨T.idle _, (hnext v w' hp).rely T.trans h₁⟩
  have hbodyG : Goes P main R D Stop (m + 2 + nf) (G ((base f).at { tmps := vs ++ Array.replicate (fn.ntmps - vs.size) undef, defers := [] } [.code c]) (b.at a (.inRegion ops (i :: rest) :: k) :: cs)) w := by
    refine hwp (base f) [] _ Stop (m + 2) rfl (by simp [base]) fun e a' w' q => ?_
    cases e with
    | normal => exact Goes.step rfl fun w₁ h₁ => by rw [stepG_end]; exact ⟨T.idle _, (hleave a' w' [] q).rely T.trans h₁⟩
    | ret => exact fun todo => (hleave a' w' todo q).more
    | exit id => exact q.elim
    | goto l => exact q.elim
    | panic ch => exact q.elim
    | outgrown => exact q.elim
  have e : m + nf + 3 = (m + 2 + nf) + 1 := by omega
  rw [e]
  refine Goes.step rfl fun w₁ h₁ => ?_
  rw [stepG_enter ho hw hk (hrun w₁ h₁), enter_at _ hf hbody]
  exact ⟨hl w₁ h₁, hbodyG.rely T.trans h₁⟩

variable {fn : FuncId} {ops : Array Oper} {Q : Exit → Act → World → Prop} {md : Region.Mode} {S : World → Prop}

theorem opsC_enter (T : Terms R D) {a : Act} {w : World} {i : Nat} {rest : List Nat} {o : Oper} {f : FuncId} {vs : Array Value} {nf n : Nat} {Post : Value → World → Prop}
    (ho : ops[i]? = some o) (hw : Region.wanted o (yielded ops a.tmps) = true)
    (hrun : ∀ w₁, R w w₁ → (execOp a.eval o).run P w₁ = .ok (.enter f vs) w₁) (hl : ∀ w₁, R w w₁ → D w₁ w₁ (listed P fn a o w₁))
    (hcall : CallsC P main R D f vs nf w Post) (hnext : ∀ v w', Post v w' → OpsC P main R D fn ops rest n Q (a.put o.dst v) w') : OpsC P main R D fn ops (i :: rest) (n + nf + 3) Q a w := by
  intro b k cs Stop m hb hk hc
  have := goes_enter (Stop := Stop) (m := m + n) (b := b) (k := k) (cs := cs) T ho hw hk hrun (fun w₁ h₁ => hb ▸ hl w₁ h₁) hcall fun v w' hp => hnext v w' hp b k cs Stop m hb hk hc
  exact this.mono (by omega)

theorem opsC_callA (T : Terms R D) {a : Act} {w : World} {i : Nat} {rest : List Nat} {o : Oper} {f : FuncId} {args : Array Operand} {ats : Array TypeId} {vs : Array Value} {nf n : Nat} {Post : Value → World → Prop}
    (ho : ops[i]? = some o) (hw : Region.wanted o (yielded ops a.tmps) = true) (hop : o.op = .call { callee := .value (.func f), args, argTypes := ats })
    (hcall : CallsC P main R D f vs nf w Post) (hargs : args.map a.eval = vs) (hnext : ∀ v w', Post v w' → OpsC P main R D fn ops rest n Q (a.put o.dst v) w') : OpsC P main R D fn ops (i :: rest) (n + nf + 3) Q a w :=
  opsC_call T ho hw hop (by rw [hargs]; exact hcall) hnext

/-- Operation number i comes up in state a, w, IN COMPANY; at most c steps; K is asked of the state in which it ends. -/
def OpX (P : Program) (main : Bool) (R : World → World → Prop) (D : World → World → Array Event → Prop) (fn : FuncId) (ops : Array Oper) (c : Nat) (i : Nat) (K : Act → World → Prop) (a : Act) (w : World) : Prop :=
  match ops[i]? with
  | none => False
  | some o => if Region.wanted o (yielded ops a.tmps) then
      (∀ w₁, R w w₁ → uponK o a (fun a' w' => D w₁ w' (listed P fn a o w₁) ∧ K a' w') ((execOp a.eval o).run P w₁)) ∨
      (∃ f vs nf Post, nf + 3 ≤ c ∧ (∀ w₁, R w w₁ → (execOp a.eval o).run P w₁ = .ok (.enter f vs) w₁) ∧ (∀ w₁, R w w₁ → D w₁ w₁ (listed P fn a o w₁)) ∧ CallsC P main R D f vs nf w Post ∧ ∀ v w', Post v w' → K (a.put o.dst v) w')
    else K (a.put o.dst undef) w

theorem OpX_mono {c i : Nat} {a : Act} {w : World} {K K' : Act → World → Prop} (h : ∀ a w, K a w → K' a w) (hh : OpX P main R D fn ops c i K a w) : OpX P main R D fn ops c i K' a w := by
  unfold OpX at *
  split
  · simp_all
  · rename_i o ho
    simp only [ho] at hh
    split
    · rename_i hw
      simp only [hw, if_true] at hh
      rcases hh with hh | ⟨f, vs, nf, Post, h1, h2, h2', h3, h4⟩
      · exact .inl fun w₁ h₁ => uponK_mono (fun a' w' x => ⟨x.1, h _ _ x.2⟩) (hh w₁ h₁)
      · exact .inr ⟨f, vs, nf, Post, h1, h2, h2', h3, fun v w' p => h _ _ (h4 v w' p)⟩
    · rename_i hw; simp only [hw] at hh; exact h _ _ hh

theorem opsC_of_opX (T : Terms R D) {c i : Nat} {rest : List Nat} {n : Nat} {a : Act} {w : World} (hc : 1 ≤ c) (h : OpX P main R D fn ops c i (fun a' w' => OpsC P main R D fn ops rest n Q a' w') a w) : OpsC P main R D fn ops (i :: rest) (n + c) Q a w := by
  unfold OpX at h
  split at h
  · exact h.elim
  · rename_i o ho
    split at h
    · rename_i hw
      rcases h with h | ⟨f, vs, nf, Post, h1, h2, h2', h3, h4⟩
      · exact opsC_more (opsC_cons ho hw h) (by omega)
      · exact opsC_more (opsC_enter T ho hw h2 h2' h3 h4) (by omega)
    · rename_i hw; exact opsC_more (opsC_unwanted T ho (by simpa using hw) h) (by omega)

/-- Whatever order is picked from here on, AND S HOLDS BEHIND EVERY OPERATION THAT IS CARRIED OUT. -/
def AnyX (P : Program) (main : Bool) (R : World → World → Prop) (D : World → World → Array Event → Prop) (fn : FuncId) (md : Region.Mode) (ops : Array Oper) (c : Nat) (Q : Exit → Act → World → Prop) (S : World → Prop) : Nat → Array Bool → Act → World → Prop
  | 0, listed, a, w => Region.ready md ops listed = [] ∧ Q .normal a w
  | fuel + 1, listed, a, w =>
    (Region.ready md ops listed = [] → Q .normal a w) ∧
    ∀ i ∈ Region.ready md ops listed, OpX P main R D fn ops c i (fun a' w' => S w' ∧ AnyX P main R D fn md ops c Q S fuel (listed.setIfInBounds i true) a' w') a w

theorem AnyX.rely (T : Terms R D) {c : Nat} (hSR : ∀ x y, S x → R x y → S y) (hQR : ∀ a x y, Q .normal a x → R x y → Q .normal a y) :
    ∀ (fuel : Nat) (listed : Array Bool) (a : Act) (w w₁ : World), AnyX P main R D fn md ops c Q S fuel listed a w → R w w₁ → AnyX P main R D fn md ops c Q S fuel listed a w₁
  | 0, _, _, _, _, h, r => ⟨h.1, hQR _ _ _ h.2 r⟩
  | fuel + 1, listed, a, w, w₁, h, r => ⟨fun e => hQR _ _ _ (h.1 e) r, fun i hi => by
      have := h.2 i hi
      unfold OpX at *
      split
      · simp_all
      · rename_i o ho
        simp only [ho] at this
        split
        · rename_i hw
          simp only [hw, if_true] at this
          rcases this with this | ⟨f, vs, nf, Post, h1, h2, h2', h3, h4⟩
          · exact .inl fun w₂ h₂ => this w₂ (T.trans _ _ _ r h₂)
          · exact .inr ⟨f, vs, nf, Post, h1, fun w₂ h₂ => h2 w₂ (T.trans _ _ _ r h₂), fun w₂ h₂ => h2' w₂ (T.trans _ _ _ r h₂), CallsC.rely T h3 r, h4⟩
        · rename_i hw; simp only [hw] at this; exact ⟨hSR _ _ this.1 r, AnyX.rely T hSR hQR fuel _ _ _ _ this.2 r⟩⟩

theorem anyX_sound (T : Terms R D) {c : Nat} (hc : 1 ≤ c) : ∀ (fuel t : Nat) (listed : Array Bool) (a : Act) (w : World), AnyX P main R D fn md ops c Q S fuel listed a w →
    OpsC P main R D fn ops (Region.linearise.go md ops fuel t listed []) (fuel * c + 1) Q a w := by
  intro fuel
  induction fuel with
  | zero => intro t listed a w h; simpa [Region.linearise.go] using opsC_nil T h.2
  | succ fuel ih =>
    intro t listed a w h
    obtain ⟨h₀, h₁⟩ := h
    simp only [Region.linearise.go]
    change OpsC P main R D fn ops (match (Region.ready md ops listed)[t % (Region.ready md ops listed).length]? with
      | some i => Region.linearise.go md ops fuel (t / (Region.ready md ops listed).length) (listed.setIfInBounds i true) [i]
      | none => [].reverse) ((fuel + 1) * c + 1) Q a w
    have hm : (fuel + 1) * c + 1 = (fuel * c + 1) + c := by rw [Nat.succ_mul]; omega
    rw [hm]
    cases hi : (Region.ready md ops listed)[t % (Region.ready md ops listed).length]? with
    | none =>
      have hnil : Region.ready md ops listed = [] := by
        cases hr : Region.ready md ops listed with
        | nil => rfl
        | cons x xs =>
          rw [hr] at hi
          have hlt : t % (x :: xs).length < (x :: xs).length := Nat.mod_lt _ (by simp)
          simp at hi
          simp at hlt
          omega
      exact opsC_more (by simpa using opsC_nil T (h₀ hnil)) (by omega)
    | some i =>
      simp only []
      rw [linearise_go_acc, List.reverse_singleton, List.singleton_append]
      exact opsC_of_opX T hc (OpX_mono (fun a' w' x => ih _ _ a' w' x.2) (h₁ i (List.mem_of_getElem? hi)))

theorem yields_opX {c : Nat} (hSR : ∀ x y, S x → R x y → S y) {i : Nat} {o : Oper} {v : Value} {a : Act} (hi : ops[i]? = some o) (hy : YieldsIfC P D fn ops S o v a)
    {K : Act → World → Prop} (hK : ∀ a x y, K a x → R x y → K a y) {w : World} (hS : S w) (h : K (a.put o.dst v) w) : OpX P main R D fn ops c i K a w := by
  unfold OpX
  simp only [hi]
  rcases hy with ⟨hw, hv⟩ | ⟨hw, rfl⟩
  · simp only [hw, if_true]
    refine .inl fun w₁ h₁ => ?_
    rw [(hv w₁ (hSR _ _ hS h₁)).1]
    exact ⟨(hv w₁ (hSR _ _ hS h₁)).2, hK _ _ _ h h₁⟩
  · simp only [hw, Bool.false_eq_true, if_false]; exact h

theorem OpX_putIf {c j : Nat} {oi oj : Oper} {v : Value} (hj : ops[j]? = some oj) (hap : oi.apart ops oj = true)
    (hsi : ∀ cs b, oi.op ≠ .select cs b) (hsj : ∀ cs b, oj.op ≠ .select cs b) {K : Act → World → Prop} {a : Act} {w : World}
    (hy : YieldsIfC P D fn ops S oi v a) (h : OpX P main R D fn ops c j K (a.put oi.dst v) w) :
    OpX P main R D fn ops c j (fun a' w' => YieldsIfC P D fn ops S oi v a' ∧ K (a'.put oi.dst v) w') a w := by
  obtain ⟨h1, h2, h3⟩ := Oper.apart_spec hap
  have keep : ∀ (a : Act), YieldsIfC P D fn ops S oi v a → ∀ u, YieldsIfC P D fn ops S oi v (a.put oj.dst u) := fun a hy u =>
    hy.of_same (execOp_put oi hsi a oj.dst u h3) (wanted_put oi a oj.dst u h3)
  unfold OpX at *
  simp only [hj] at *
  rw [wanted_put oj a oi.dst v h1] at h
  split
  · rename_i hw
    simp only [hw, if_true] at h
    unfold listed at *
    rw [execOp_put oj hsj a oi.dst v h1] at h
    rcases h with h | ⟨f, vs, nf, Post, g1, g2, g2', g3, g4⟩
    · refine .inl fun w₁ h₁ => ?_
      have h := h w₁ h₁
      generalize (execOp a.eval oj).run P w₁ = r at *
      cases r with
      | ok n w' =>
        cases n <;> simp only [uponK] at h ⊢
        case value u => exact ⟨h.1, keep a hy u, by rw [← Act.put_comm a v u h2]; exact h.2⟩
        case skip => exact ⟨h.1, keep a hy _, by rw [← Act.put_comm a v undef h2]; exact h.2⟩
      | halt x w' => simp only [uponK] at h
    · exact .inr ⟨f, vs, nf, Post, g1, g2, g2', g3, fun u w' p => ⟨keep a hy u, by rw [← Act.put_comm a v u h2]; exact g4 u w' p⟩⟩
  · rename_i hw
    simp only [hw] at h
    exact ⟨keep a hy _, by rw [← Act.put_comm a v undef h2]; exact h⟩

theorem anyX_first (T : Terms R D) {c : Nat} (hSR : ∀ x y, S x → R x y → S y) (hQR : ∀ a x y, Q .normal a x → R x y → Q .normal a y) {i : Nat} {oi : Oper} {v : Value} (hi : ops[i]? = some oi)
    (hsel : ∀ (j : Nat) (o : Oper) cs b, ops[j]? = some o → o.op ≠ .select cs b) :
    ∀ (fuel : Nat) (listed : Array Bool) (a : Act) (w : World),
      (∀ j oj, ops[j]? = some oj → j ≠ i → listed.getD j true = false → (∀ e ∈ oj.after, Region.binds md e = true → e.on ≠ i) → oi.apart ops oj = true) →
      i ∈ Region.ready md ops listed → YieldsIfC P D fn ops S oi v a → S w →
      AnyX P main R D fn md ops c Q S fuel (listed.setIfInBounds i true) (a.put oi.dst v) w → AnyX P main R D fn md ops c Q S (fuel + 1) listed a w := by
  have hK : ∀ fuel listed, ∀ a x y, (S x ∧ AnyX P main R D fn md ops c Q S fuel listed a x) → R x y → (S y ∧ AnyX P main R D fn md ops c Q S fuel listed a y) :=
    fun fuel listed a x y h r => ⟨hSR _ _ h.1 r, AnyX.rely T hSR hQR fuel listed a x y h.2 r⟩
  intro fuel
  induction fuel with
  | zero =>
    intro listed a w _ hr hy hS H
    refine ⟨fun h => (by rw [h] at hr; cases hr), fun j hj => ?_⟩
    by_cases hji : j = i
    · subst hji; exact yields_opX hSR hi hy (hK _ _) hS ⟨hS, H⟩
    · have := ready_mono hj hji
      rw [H.1] at this
      cases this
  | succ fuel ih =>
    intro listed a w hfree hr hy hS H
    refine ⟨fun h => (by rw [h] at hr; cases hr), fun j hj => ?_⟩
    by_cases hji : j = i
    · subst hji; exact yields_opX hSR hi hy (hK _ _) hS ⟨hS, H⟩
    · have h1 := H.2 j (ready_mono hj hji)
      obtain ⟨hjun, oj, hoj, hall⟩ := mem_ready.1 hj
      have hnot : ∀ e ∈ oj.after, Region.binds md e = true → e.on ≠ i := fun e he hb heq => by
        have h1 := hall e he hb
        have h0 := (mem_ready.1 hr).1
        rw [heq] at h1
        rcases Nat.lt_or_ge i listed.size with h' | h'
        · simp [h'] at h0 h1; rw [h0] at h1; cases h1
        · simp [Array.getElem?_eq_none h'] at h1
      have h2 := OpX_putIf hoj (hfree j oj hoj hji hjun hnot) (fun cs b => hsel i oi cs b hi) (fun cs b => hsel j oj cs b hoj) hy h1
      have hfree' : ∀ k ok, ops[k]? = some ok → k ≠ i → (listed.setIfInBounds j true).getD k true = false →
          (∀ e ∈ ok.after, Region.binds md e = true → e.on ≠ i) → oi.apart ops ok = true := fun k ok hk hki hun hno => by
        refine hfree k ok hk hki ?_ hno
        by_cases hjk : j = k
        · subst hjk; exact hjun
        · rw [getD_set_ne true hjk] at hun; exact hun
      refine OpX_mono (fun a' w' h3 => ⟨h3.2.1, ih (listed.setIfInBounds j true) a' w' hfree' (ready_mono hr (Ne.symm hji)) h3.1 h3.2.1 ?_⟩) h2
      rw [Array.setIfInBounds_comm _ _ hji]
      exact h3.2.2

theorem anyX_take (T : Terms R D) {c : Nat} (hSR : ∀ x y, S x → R x y → S y) (hQR : ∀ a x y, Q .normal a x → R x y → Q .normal a y) {i : Nat} {oi : Oper} {v : Value} {fuel : Nat} {listed : Array Bool} {a : Act} {w : World} (hi : ops[i]? = some oi)
    (hs : Region.noSelect ops = true) (hf : Region.free md ops listed i = true) (hr : (Region.ready md ops listed).contains i = true)
    (hy : YieldsIfC P D fn ops S oi v a) (hS : S w) (h : AnyX P main R D fn md ops c Q S fuel (listed.setIfInBounds i true) (a.put oi.dst v) w) : AnyX P main R D fn md ops c Q S (fuel + 1) listed a w :=
  anyX_first T hSR hQR hi (Region.noSelect_spec hs) fuel listed a w (Region.free_spec hi hf) (by simpa using hr) hy hS h

/-- The last one that can come up is a call. -/
theorem anyX_enter {c i : Nat} {fuel : Nat} {listed' : Array Bool} {a : Act} {w : World} {o : Oper} {f : FuncId} {vs : Array Value} {nf : Nat} {Post : Value → World → Prop} (hr : Region.ready md ops listed' = [i])
    (ho : ops[i]? = some o) (hw : Region.wanted o (yielded ops a.tmps) = true)
    (hrun : ∀ w₁, R w w₁ → (execOp a.eval o).run P w₁ = .ok (.enter f vs) w₁) (hl : ∀ w₁, R w w₁ → D w₁ w₁ (listed P fn a o w₁)) (hcall : CallsC P main R D f vs nf w Post) (hc : nf + 3 ≤ c)
    (h : ∀ v w', Post v w' → S w' ∧ AnyX P main R D fn md ops c Q S fuel (listed'.setIfInBounds i true) (a.put o.dst v) w') : AnyX P main R D fn md ops c Q S (fuel + 1) listed' a w := by
  refine ⟨fun h0 => (by rw [hr] at h0; cases h0), fun j hj => ?_⟩
  rw [hr, List.mem_singleton] at hj
  subst hj
  unfold OpX
  simp only [ho, hw, if_true]
  exact .inr ⟨f, vs, nf, Post, hc, hrun, hl, hcall, h⟩

/-- The last one that can come up is one that turns the world. -/
theorem anyX_one {c i : Nat} {fuel : Nat} {listed' : Array Bool} {a : Act} {w : World} {o : Oper} (hr : Region.ready md ops listed' = [i])
    (ho : ops[i]? = some o) (hw : Region.wanted o (yielded ops a.tmps) = true)
    (h : ∀ w₁, R w w₁ → uponK o a (fun a' w' => D w₁ w' (listed P fn a o w₁) ∧ S w' ∧ AnyX P main R D fn md ops c Q S fuel (listed'.setIfInBounds i true) a' w') ((execOp a.eval o).run P w₁)) : AnyX P main R D fn md ops c Q S (fuel + 1) listed' a w := by
  refine ⟨fun h0 => (by rw [hr] at h0; cases h0), fun j hj => ?_⟩
  rw [hr, List.mem_singleton] at hj
  subst hj
  unfold OpX
  simp only [ho, hw, if_true]
  exact .inl h

theorem anyX_done {c : Nat} {listed : Array Bool} {a : Act} {w : World} (hr : Region.ready md ops listed = []) (h : Q .normal a w) : ∀ fuel, AnyX P main R D fn md ops c Q S fuel listed a w
  | 0 => ⟨hr, h⟩
  | _ + 1 => ⟨fun _ => h, fun i hi => by rw [hr] at hi; cases hi⟩

theorem wpC_region_x (T : Terms R D) (hd : LetsDraw D) {id : Nat} {a : Act} {w : World} (c : Nat) (hc : 1 ≤ c) (hm : P.follows .mixedOrders = true)
    (h : ∀ w₁, R w w₁ → AnyX P main R D fn .any ops c Q S ops.size (Array.replicate ops.size false) a { w₁ with drawn := w₁.drawn + 1 }) : (Code.region id ops true).wpC P main R D fn (ops.size * c + 1 + 1) Q a w :=
  wpC_region_draw hd fun w₁ h₁ t => by
    simp only [Region.schedule, hm, Bool.true_or, if_true]
    exact anyX_sound T hc ops.size t _ a _ (h w₁ h₁)

theorem run_call_value {a : Act} {w : World} {o : Oper} {f : FuncId} {fn : Func} {x : Operand} {args : Array Operand} {ats : Array TypeId} {caps : Array Value} (hop : o.op = .call { callee := .value x, args, argTypes := ats })
    (hx : a.eval x = .func (.func f) #[] caps) (hf : P.funcs[f]? = some fn) (hname : (fn.name == "runtime.NumGoroutine") = false) (hb : fn.body.isNone = false) : (execOp a.eval o).run P w = .ok (.enter f (args.map a.eval ++ caps)) w := by
  have h1 : ¬ fn.name = "runtime.NumGoroutine" := by simpa using hname
  have h2 : ¬ fn.body = none := by cases hx : fn.body <;> simp_all
  unfold execOp
  simp [hop, resolve, Deferred.ofValue, invoke, callFunc, hf, h1, h2, hx]
theorem events_call_value {a : Act} {w : World} {o : Oper} {f : FuncId} {fn : Func} {x : Operand} {args : Array Operand} {ats : Array TypeId} {caps : Array Value} (hop : o.op = .call { callee := .value x, args, argTypes := ats })
    (hx : a.eval x = .func (.func f) #[] caps) (hf : P.funcs[f]? = some fn) (hname : (fn.name == "runtime.NumGoroutine") = false) (hb : fn.body.isNone = false) (es : Array Event) : (execOp a.eval o).events P w es = es := by
  have h1 : ¬ fn.name = "runtime.NumGoroutine" := by simpa using hname
  have h2 : ¬ fn.body = none := by cases hx : fn.body <;> simp_all
  unfold execOp
  simp [hop, resolve, Deferred.ofValue, invoke, callFunc, hf, h1, h2, hx]

/-- A call of a function value. -/
theorem opsC_callv (T : Terms R D) {a : Act} {w : World} {i : Nat} {rest : List Nat} {o : Oper} {f : FuncId} {x : Operand} {args : Array Operand} {ats : Array TypeId} {caps vs : Array Value} {nf n : Nat} {Post : Value → World → Prop}
    (ho : ops[i]? = some o) (hw : Region.wanted o (yielded ops a.tmps) = true) (hop : o.op = .call { callee := .value x, args, argTypes := ats }) (hx : a.eval x = .func (.func f) #[] caps)
    (hcall : CallsC P main R D f vs nf w Post) (hargs : args.map a.eval ++ caps = vs) (hnext : ∀ v w', Post v w' → OpsC P main R D fn ops rest n Q (a.put o.dst v) w') : OpsC P main R D fn ops (i :: rest) (n + nf + 3) Q a w := by
  have h := hcall
  obtain ⟨fn', c, hf, hname, hb, _⟩ := h
  have hb' : fn'.body.isNone = false := by rw [hb]; rfl
  refine opsC_enter T ho hw (fun w₁ _ => by rw [run_call_value hop hx hf hname hb', hargs]) (fun w₁ _ => ?_) hcall hnext
  have : listed P fn a o w₁ = #[] := by unfold listed; rw [events_call_value hop hx hf hname hb']; exact seen_none P _
  rw [this]; exact T.idle _

theorem anyX_callv (T : Terms R D) {c i : Nat} {fuel : Nat} {listed' : Array Bool} {a : Act} {w : World} {o : Oper} {f : FuncId} {x : Operand} {args : Array Operand} {ats : Array TypeId} {caps vs : Array Value} {nf : Nat} {Post : Value → World → Prop}
    (hr : Region.ready md ops listed' = [i]) (ho : ops[i]? = some o) (hw : Region.wanted o (yielded ops a.tmps) = true) (hop : o.op = .call { callee := .value x, args, argTypes := ats }) (hx : a.eval x = .func (.func f) #[] caps)
    (hcall : CallsC P main R D f vs nf w Post) (hc : nf + 3 ≤ c) (hargs : args.map a.eval ++ caps = vs)
    (h : ∀ v w', Post v w' → S w' ∧ AnyX P main R D fn md ops c Q S fuel (listed'.setIfInBounds i true) (a.put o.dst v) w') : AnyX P main R D fn md ops c Q S (fuel + 1) listed' a w := by
  have h' := hcall
  obtain ⟨fn', c', hf, hname, hb, _⟩ := h'
  have hb' : fn'.body.isNone = false := by rw [hb]; rfl
  refine anyX_enter hr ho hw (fun w₁ _ => by rw [run_call_value hop hx hf hname hb', hargs]) (fun w₁ _ => ?_) hcall hc h
  have : listed P fn a o w₁ = #[] := by unfold listed; rw [events_call_value hop hx hf hname hb']; exact seen_none P _
  rw [this]; exact T.idle _

theorem stepG_scope {b : Frame} {a : Act} {k : List Item} {cs : List Frame} {w : World} {c : Code} : stepG P main (G (b.at a (.code (.scope c) :: k)) cs) w = .go (G (b.at a (.code c :: .inScope c :: k)) cs) w := by simp [G, stepG, stepG.exec, Frame.at]
theorem stepG_inScope {b : Frame} {a : Act} {k : List Item} {cs : List Frame} {w : World} {c : Code} : stepG P main (G (b.at a (.inScope c :: k)) cs) w = .go (G (b.at a k) cs) w := by simp [G, stepG, stepG.exec, Frame.at]
end
end Go.Lx

/- What a goroutine of a pair holds of the world: some blocks, word for word. -/
namespace Go.Lx
open Go.Conc

variable {d : Deal} {T : TypeId → Prop} {o : Option Nat}

/-- A block that the others leave alone. -/
def Safely (d : Deal) (T : TypeId → Prop) (o : Option Nat) (b : Nat) (x : Obj) : Prop :=
  (b < d.B ∧ b ≠ d.c) ∨ (d.B ≤ b ∧ ∃ cs ty fz, x = .cells cs ty fz ∧ T ty) ∨ o = some b

structure Holds (d : Deal) (T : TypeId → Prop) (o : Option Nat) (L : List (Nat × Obj)) (w : World) : Prop where
  has : ∀ p ∈ L, w.heap[p.1]? = some p.2
  safe : ∀ p ∈ L, Safely d T o p.1 p.2
  big : d.B ≤ w.heap.size
  box : ∀ b, o = some b → b < w.heap.size

variable {L L' : List (Nat × Obj)} {w w' w₁ : World}

theorem Holds.rely (h : Holds d T o L w) (r : Rely d T o w w₁) : Holds d T o L w₁ := by
  refine ⟨fun p hp => ?_, h.safe, Nat.le_trans h.big r.size, fun b hb => Nat.lt_of_lt_of_le (h.box b hb) r.size⟩
  have e := h.has p hp
  rcases h.safe p hp with ⟨hl, hc⟩ | ⟨hb, cs, ty, fz, hx, ht⟩ | hb
  · rw [r.low _ hl hc]; exact e
  · rw [r.own _ (.inl ⟨hb, cs, ty, fz, by rw [e, hx], ht⟩)]; exact e
  · rw [r.own _ (.inr hb)]; exact e

theorem Holds.lt (h : Holds d T o L w) {b : Nat} {x : Obj} (hp : (b, x) ∈ L) : b < w.heap.size := (Array.getElem?_eq_some_iff.1 (h.has _ hp)).1

theorem Holds.cell (h : Holds d T o L w) {b : Nat} {cs : Array Value} {ty : TypeId} {fz : Nat × Nat} (hp : (b, Obj.cells cs ty fz) ∈ L) (i : Nat) : w.cell? ⟨b, i, none⟩ = cs[i]? := by
  have e := h.has _ hp
  simp only at e
  simp [World.cell?, e]

theorem Holds.frozen (h : Holds d T o L w) {b : Nat} {cs : Array Value} {ty : TypeId} (hp : (b, Obj.cells cs ty (0, 0)) ∈ L) (i : Nat) : w.frozen? ⟨b, i, none⟩ = false := by
  have e := h.has _ hp
  simp only at e
  simp [World.frozen?, e]

theorem Holds.own (h : Holds d T o L w) {b : Nat} {x : Obj} (hp : (b, x) ∈ L) : Own d T o w b ∨ b < d.B := by
  have e := h.has _ hp
  rcases h.safe _ hp with ⟨hl, _⟩ | ⟨hb, cs, ty, fz, hx, ht⟩ | hb
  · exact .inr hl
  · simp only at hx e hb; exact .inl (.inl ⟨hb, cs, ty, fz, by rw [e, hx], ht⟩)
  · exact .inl (.inr hb)

theorem Holds.read (h : Holds d T o L w) {b : Nat} {x : Obj} (hp : (b, x) ∈ L) (i : Nat) (s : Bool) : EvOk d T o w ⟨.cell ⟨b, i, none⟩, false, s⟩ := by
  refine ⟨fun y hy _ => ?_, by simp, by simp⟩
  simp [MemAct.ofEvent, MemAct.touch?] at hy
  subst hy
  refine ⟨⟨b, i, none⟩, rfl, ?_⟩
  rcases h.own hp with ho | hl
  · exact .inl ho
  · exact .inr ⟨hl, rfl⟩

theorem evOk_cell {b : Nat} (ho : Own d T o w b) (i : Nat) (wr s : Bool) : EvOk d T o w ⟨.cell ⟨b, i, none⟩, wr, s⟩ := by
  refine ⟨fun y hy _ => ?_, by simp, by simp⟩
  simp [MemAct.ofEvent, MemAct.touch?] at hy
  subst hy
  exact ⟨⟨b, i, none⟩, rfl, .inl ho⟩

theorem evOk_extern (f : FuncId) (wr s : Bool) : EvOk d T o w ⟨.mark (.extern f), wr, s⟩ :=
  ⟨fun y hy _ => by simp [MemAct.ofEvent, MemAct.touch?] at hy, by simp, by simp⟩

theorem Does.reads {es : Array Event} (h : ∀ e ∈ es, EvOk d T o w e) : Does d T o w w es := ⟨Turn.refl w, h⟩

theorem heap_set (w : World) (a : Addr) (v : Value) (b : Nat) (hb : b ≠ a.block) : (w.setCell a v).heap[b]? = w.heap[b]? := by
  simp only [World.setCell]
  rw [Array.getElem?_modify]
  simp [Ne.symm hb]

theorem heap_set_same (w : World) {b i : Nat} {cs : Array Value} {ty : TypeId} {fz : Nat × Nat} (h : w.heap[b]? = some (.cells cs ty fz)) (v : Value) :
    (w.setCell ⟨b, i, none⟩ v).heap[b]? = some (.cells (cs.setIfInBounds i v) ty fz) := by
  simp only [World.setCell]
  rw [Array.getElem?_modify]
  simp [h]

theorem Turn.set {b i : Nat} (ho : Own d T o w b) (v : Value) : Turn d T o w (w.setCell ⟨b, i, none⟩ v) := by
  have hsz : (w.setCell ⟨b, i, none⟩ v).heap.size = w.heap.size := by simp [World.setCell]
  refine ⟨rfl, rfl, rfl, by rw [hsz]; exact Nat.le_refl _, fun x hx hno => ?_, fun x hx _ cs ty fz hc => ?_, fun x hxo hn cs ty fz => ?_, fun x h1 h2 => absurd h2 (by rw [hsz]; omega)⟩
  · exact heap_set w _ v x fun e => hno (by rw [show x = b from e]; exact ho)
  · by_cases hxb : x = b
    · subst hxb; exact ⟨_, _, heap_set_same w hc v⟩
    · exact ⟨cs, fz, by rw [heap_set w _ v x hxb]; exact hc⟩
  · by_cases hxb : x = b
    · subst hxb
      simp only [World.setCell]
      rw [Array.getElem?_modify]
      simp only [if_true]
      cases hc : w.heap[x]? with
      | none => simp
      | some ob =>
        cases ob with
        | cells c t f => exact absurd hc (hn _ _ _)
        | _ => simp
    · rw [heap_set w _ v x hxb]; exact hn cs ty fz

theorem Turn.alloc {cs : Array Value} {ty : TypeId} {fz : Nat × Nat} (ht : T ty) (hbox : ∀ b, o = some b → b < w.heap.size) : Turn d T o w (w.alloc (.cells cs ty fz)) := by
  have hsz : (w.alloc (.cells cs ty fz)).heap.size = w.heap.size + 1 := by simp [World.alloc, -World.alloc_eq]
  have hold : ∀ x, x < w.heap.size → (w.alloc (.cells cs ty fz)).heap[x]? = w.heap[x]? := fun x hx => by
    simp only [World.alloc]
    rw [Array.getElem?_push_lt hx, Array.getElem?_eq_getElem hx]
  refine ⟨rfl, rfl, rfl, by rw [hsz]; omega, fun x hx _ => hold x hx, fun x hx _ c t f hc => ⟨c, f, by rw [hold x hx]; exact hc⟩, fun x hxo hn c t f => ?_, fun x h1 h2 => ?_⟩
  · rw [hold x (hbox x hxo)]; exact hn c t f
  · obtain rfl : x = w.heap.size := by rw [hsz] at h2; omega
    exact ⟨cs, ty, fz, by simp [World.alloc, -World.alloc_eq], ht⟩

theorem own_alloc {cs : Array Value} {ty : TypeId} {fz : Nat × Nat} (ht : T ty) (hB : d.B ≤ w.heap.size) : Own d T o (w.alloc (.cells cs ty fz)) w.heap.size :=
  .inl ⟨hB, cs, ty, fz, by simp [World.alloc, -World.alloc_eq], ht⟩

theorem Holds.set (h : Holds d T o L w) {b i : Nat} {cs : Array Value} {ty : TypeId} {fz : Nat × Nat} (hp : (b, Obj.cells cs ty fz) ∈ L) (v : Value)
    (hL : ∀ p ∈ L', p = (b, Obj.cells (cs.setIfInBounds i v) ty fz) ∨ (p ∈ L ∧ p.1 ≠ b)) : Holds d T o L' (w.setCell ⟨b, i, none⟩ v) := by
  have hsz : (w.setCell ⟨b, i, none⟩ v).heap.size = w.heap.size := by simp [World.setCell]
  refine ⟨fun p hp' => ?_, fun p hp' => ?_, by rw [hsz]; exact h.big, fun x hx => by rw [hsz]; exact h.box x hx⟩
  · rcases hL p hp' with rfl | ⟨hpL, hne⟩
    · exact heap_set_same w (h.has _ hp) v
    · rw [heap_set w _ v _ hne]; exact h.has p hpL
  · rcases hL p hp' with rfl | ⟨hpL, _⟩
    · rcases h.safe _ hp with hs | ⟨hb, cs', ty', fz', hx, ht⟩ | hs
      · exact .inl hs
      · simp only [Obj.cells.injEq] at hx
        obtain ⟨rfl, rfl, rfl⟩ := hx
        exact .inr (.inl ⟨hb, _, _, _, rfl, ht⟩)
      · exact .inr (.inr hs)
    · exact h.safe p hpL

theorem Holds.alloc (h : Holds d T o L w) {cs : Array Value} {ty : TypeId} {fz : Nat × Nat} (ht : T ty)
    (hL : ∀ p ∈ L', p = (w.heap.size, Obj.cells cs ty fz) ∨ p ∈ L) : Holds d T o L' (w.alloc (.cells cs ty fz)) := by
  have hsz : (w.alloc (.cells cs ty fz)).heap.size = w.heap.size + 1 := by simp [World.alloc, -World.alloc_eq]
  refine ⟨fun p hp' => ?_, fun p hp' => ?_, by rw [hsz]; have := h.big; omega, fun x hx => by rw [hsz]; have := h.box x hx; omega⟩
  · rcases hL p hp' with rfl | hpL
    · simp [World.alloc, -World.alloc_eq]
    · have := h.lt hpL
      simp only [World.alloc]
      rw [Array.getElem?_push_lt this, ← Array.getElem?_eq_getElem]; exact h.has p hpL
  · rcases hL p hp' with rfl | hpL
    · exact .inr (.inl ⟨h.big, _, _, _, rfl, ht⟩)
    · exact h.safe p hpL

theorem Holds.cons (h : Holds d T o L w) (cs : Array Value) {ty : TypeId} (ht : T ty) : Holds d T o ((w.heap.size, Obj.cells cs ty (0, 0)) :: L) (w.alloc (.cells cs ty)) :=
  h.alloc ht fun p hp => by
    rcases List.mem_cons.1 hp with rfl | hp
    · exact .inl rfl
    · exact .inr hp

theorem Holds.set1 {b i : Nat} {cs : Array Value} {ty : TypeId} {fz : Nat × Nat} (h : Holds d T o ((b, Obj.cells cs ty fz) :: L) w) (hn : ∀ p ∈ L, p.1 ≠ b) (v : Value) : Holds d T o ((b, Obj.cells (cs.setIfInBounds i v) ty fz) :: L) (w.setCell ⟨b, i, none⟩ v) :=
  h.set List.mem_cons_self v fun p hp => by
    rcases List.mem_cons.1 hp with rfl | hp
    · exact .inl rfl
    · exact .inr ⟨List.mem_cons_of_mem _ hp, hn p hp⟩
theorem Holds.set3 {b : Nat} {x0 x1 x2 : Value} {ty : TypeId} {fz : Nat × Nat} (h : Holds d T o ((b, Obj.cells #[x0, x1, x2] ty fz) :: L) w) (hn : ∀ p ∈ L, p.1 ≠ b) (v0 v1 v2 : Value) :
    Holds d T o ((b, Obj.cells #[v0, v1, v2] ty fz) :: L) (((w.setCell ⟨b, 0, none⟩ v0).setCell ⟨b, 1, none⟩ v1).setCell ⟨b, 2, none⟩ v2) :=
  ((h.set1 (i := 0) hn v0).set1 (i := 1) hn v1).set1 (i := 2) hn v2
theorem Holds.set4 {b : Nat} {x0 x1 x2 x3 : Value} {ty : TypeId} {fz : Nat × Nat} (h : Holds d T o ((b, Obj.cells #[x0, x1, x2, x3] ty fz) :: L) w) (hn : ∀ p ∈ L, p.1 ≠ b) (v0 v1 v2 v3 : Value) :
    Holds d T o ((b, Obj.cells #[v0, v1, v2, v3] ty fz) :: L) ((((w.setCell ⟨b, 0, none⟩ v0).setCell ⟨b, 1, none⟩ v1).setCell ⟨b, 2, none⟩ v2).setCell ⟨b, 3, none⟩ v3) :=
  (((h.set1 (i := 0) hn v0).set1 (i := 1) hn v1).set1 (i := 2) hn v2).set1 (i := 3) hn v3

theorem Holds.weak (h : Holds d T o L w) (hL : ∀ p ∈ L', p ∈ L) : Holds d T o L' w := ⟨fun p hp => h.has p (hL p hp), fun p hp => h.safe p (hL p hp), h.big, h.box⟩

/-- A new box: what was held of the old one is let go. -/
theorem Holds.boxed {tb : TypeId} (h : Holds d T o L w) {cs : Array Value} {fz : Nat × Nat}
    (hL : ∀ p ∈ L', p = (w.heap.size, Obj.cells cs tb fz) ∨ (p ∈ L ∧ Safely d T none p.1 p.2)) : Holds d T (some w.heap.size) L' (w.alloc (.cells cs tb fz)) := by
  have hsz : (w.alloc (.cells cs tb fz)).heap.size = w.heap.size + 1 := by simp [World.alloc, -World.alloc_eq]
  refine ⟨fun p hp' => ?_, fun p hp' => ?_, by rw [hsz]; have := h.big; omega, fun x hx => by rw [hsz]; cases hx; omega⟩
  · rcases hL p hp' with rfl | ⟨hpL, _⟩
    · simp [World.alloc, -World.alloc_eq]
    · have := h.lt hpL
      simp only [World.alloc]
      rw [Array.getElem?_push_lt this, ← Array.getElem?_eq_getElem]; exact h.has p hpL
  · rcases hL p hp' with rfl | ⟨_, hs⟩
    · exact .inr (.inr rfl)
    · rcases hs with hs | hs | hs
      · exact .inl hs
      · exact .inr (.inl hs)
      · cases hs

theorem Turn.own_back (h : Turn d T o w w') {b : Nat} (hb : b < w.heap.size) (ho : Own d T o w' b) : Own d T o w b := by
  by_cases hno : Own d T o w b
  · exact hno
  · rcases ho with ⟨hB, cs, ty, fz, hc, ht⟩ | ho
    · rw [h.rest b hb hno] at hc
      exact .inl ⟨hB, cs, ty, fz, hc, ht⟩
    · exact .inr ho
theorem Turn.own_fwd (h : Turn d T o w w') {b : Nat} (hb : b < w.heap.size) (ho : Own d T o w b) : Own d T o w' b := by
  rcases id ho with ⟨hB, cs, ty, fz, hc, ht⟩ | hx
  · obtain ⟨cs', fz', hc'⟩ := h.typ b hb ho cs ty fz hc
    exact .inl ⟨hB, cs', ty, fz', hc', ht⟩
  · exact .inr hx
theorem Turn.trans {w2 : World} (h : Turn d T o w w') (h2 : Turn d T o w' w2) (hB : d.B ≤ w.heap.size) : Turn d T o w w2 := by
  refine ⟨h2.tape.trans h.tape, h2.os.trans h.os, h2.output.trans h.output, Nat.le_trans h.size h2.size, fun b hb hno => ?_, fun b hb ho cs ty fz hc => ?_, fun b hb hn => h2.boxed b hb (h.boxed b hb hn), fun b hb hb2 => ?_⟩
  · rw [h2.rest b (Nat.lt_of_lt_of_le hb h.size) fun ho => hno (h.own_back hb ho), h.rest b hb hno]
  · obtain ⟨cs', fz', hc'⟩ := h.typ b hb ho cs ty fz hc
    exact h2.typ b (Nat.lt_of_lt_of_le hb h.size) (h.own_fwd hb ho) cs' ty fz' hc'
  · rcases Nat.lt_or_ge b w'.heap.size with hlt | hge
    · obtain ⟨cs, ty, fz, hc, ht⟩ := h.new b hb hlt
      obtain ⟨cs', fz', hc'⟩ := h2.typ b hlt (.inl ⟨Nat.le_trans hB hb, cs, ty, fz, hc, ht⟩) cs ty fz hc
      exact ⟨cs', ty, fz', hc', ht⟩
    · exact h2.new b hge hb2
theorem set_size (w : World) (a : Addr) (v : Value) : (w.setCell a v).heap.size = w.heap.size := by simp [World.setCell]
theorem Turn.set3 {b : Nat} (ho : Own d T o w b) (hb : b < w.heap.size) (hB : d.B ≤ w.heap.size) (v0 v1 v2 : Value) :
    Turn d T o w (((w.setCell ⟨b, 0, none⟩ v0).setCell ⟨b, 1, none⟩ v1).setCell ⟨b, 2, none⟩ v2) := by
  have t0 := Turn.set (i := 0) ho v0
  have o0 := t0.own_fwd hb ho
  have t1 := t0.trans (Turn.set (i := 1) o0 v1) hB
  exact t1.trans (Turn.set (i := 2) (t1.own_fwd hb ho) v2) hB
theorem Turn.set4 {b : Nat} (ho : Own d T o w b) (hb : b < w.heap.size) (hB : d.B ≤ w.heap.size) (v0 v1 v2 v3 : Value) :
    Turn d T o w ((((w.setCell ⟨b, 0, none⟩ v0).setCell ⟨b, 1, none⟩ v1).setCell ⟨b, 2, none⟩ v2).setCell ⟨b, 3, none⟩ v3) := by
  have t2 := Turn.set3 ho hb hB v0 v1 v2
  exact t2.trans (Turn.set (i := 3) (t2.own_fwd hb ho) v3) hB

theorem Holds.mine (h : Holds d T o L w) {b : Nat} {cs : Array Value} {ty : TypeId} {fz : Nat × Nat} (hp : (b, Obj.cells cs ty fz) ∈ L) (hb : d.B ≤ b) (ht : T ty) : Own d T o w b := .inl ⟨hb, cs, ty, fz, h.has _ hp, ht⟩
theorem Holds.boxOwn {b : Nat} (_ : Holds d T (some b) L w) : Own d T (some b) w b := .inr rfl
theorem draws : LetsDraw (Does d T o) := fun w => ⟨⟨rfl, rfl, rfl, Nat.le_refl _, fun _ _ _ => rfl, fun _ _ _ cs _ fz h => ⟨cs, fz, h⟩, fun _ _ h => h, fun b h1 h2 => absurd h2 (by show ¬ b < w.heap.size; omega)⟩, by simp⟩
theorem own_draw (w : World) : Rely d T o w { w with drawn := w.drawn + 1 } := Rely.at w _

end Go.Lx

/- What some operations list: nothing. -/
namespace Go.Lx
open Go.Conc
variable {P : Program} {w : World} {es : Array Event}

theorem ev_len_string (t ty : TypeId) (s : ByteArray) (h : P.underlying t = some .string) : (Builtin.len_ #[t] ty #[.string s]).events P w es = es := by
  simp [Builtin.len_, run_underlying h]
theorem ev_index_string (t : TypeId) (s : ByteArray) (k : IntKind) (i : Int) (h : P.underlying t = some .string) (hi : 0 ≤ i ∧ i < s.size) : (Instr.index t (.string s) (.int k i)).events P w es = es := by
  have h2 : i.toNat < s.size := by omega
  have h3 : (if 0 ≤ i then s[i.toNat]? else none) = some s[i.toNat] := by rw [if_pos hi.1, ByteArray.getElem?_lt' s _ h2]
  simp [Instr.index, asIntOf, run_underlying h, h3]
theorem ev_sliceBound (k : IntKind) (i : Int) (y : Nat) (code : BoundsCode) (h0 : 0 ≤ i) (h1 : i ≤ y) : (Instr.sliceBound (.int k i) y code).events P w es = es := by
  simp [Instr.sliceBound, asIntOf, h0, h1]
theorem ev_slice_l (t : TypeId) (s : ByteArray) (k : IntKind) (l : Nat) (ht : P.underlying t = some .string) (h1 : l ≤ s.size) : (Instr.sliceAt t (.string s) (some (.int k (l : Int))) none none).events P w es = es := by
  simp [Instr.sliceAt, Instr.slice, run_underlying ht, Instr.sliceBounds, ev_sliceBound, h1]
theorem ev_slice_lh (t : TypeId) (s : ByteArray) (k k' : IntKind) (l h : Int) (ht : P.underlying t = some .string) (h0 : 0 ≤ l) (h1 : l ≤ h) (h2 : h ≤ s.size) : (Instr.sliceAt t (.string s) (some (.int k l)) (some (.int k' h)) none).events P w es = es := by
  have h4 : 0 ≤ h := by omega
  have h5 : l ≤ h.toNat := by omega
  simp [Instr.sliceAt, Instr.slice, run_underlying ht, Instr.sliceBounds, run_sliceBound, ev_sliceBound, h2, h4]
  exact ev_sliceBound _ _ _ _ h0 h5
theorem run_slice_sum (t : TypeId) (s : ByteArray) (k k' : IntKind) (l m : Nat) (ht : P.underlying t = some .string) (h2 : l + m ≤ s.size) (w : World) : (Instr.slice t (.string s) (some (.int k (l : Int))) (some (.int k' ((l : Int) + (m : Int)))) none).run P w = .ok (.string (s.extract l (l + m))) w := by
  rw [run_slice_string w t s k k' _ _ ht (by omega) (by omega) (by omega)]
  rw [show ((l : Int) + (m : Int)).toNat = l + m by omega, Int.toNat_natCast]
theorem run_store_fn (P : Program) (w : World) (a : Addr) (m : Mode) (f : Fn) (x y : Array Value) : (store a (.func f x y) m).run P w = stored P w a (.func f x y) m := run_store P w a _ m rfl
theorem ev_store_fn (P : Program) (w : World) (es : Array Event) (a : Addr) (m : Mode) (f : Fn) (x y : Array Value) : (store a (.func f x y) m).events P w es = storedEv P w es a (.func f x y) m := events_store P w es a _ m rfl
theorem ev_store_str (P : Program) (w : World) (es : Array Event) (a : Addr) (m : Mode) (s : ByteArray) : (store a (.string s) m).events P w es = storedEv P w es a (.string s) m := events_store P w es a _ m rfl
end Go.Lx

/- In company, at the model's own grain: a move of control, an operation, a deferred close. -/
namespace Go.Lx
open Go.Conc

section
variable {P : Program} {main : Bool} {R : World → World → Prop} {D : World → World → Array Event → Prop} {Stop : Goroutine → World → Prop} {m : Nat} {b : Frame} {a : Act} {k : List Item} {cs : List Frame} {w : World}

theorem goes_seq (T : Terms R D) {x y : Code} (h : Goes P main R D Stop m (G (b.at a (.code x :: .code y :: k)) cs) w) : Goes P main R D Stop (m + 1) (G (b.at a (.code (.seq x y) :: k)) cs) w :=
  Goes.step rfl fun w₁ h₁ => by rw [stepG_seq]; exact ⟨T.idle _, h.rely T.trans h₁⟩
theorem goes_block (T : Terms R D) {id : Nat} {c : Code} (h : Goes P main R D Stop m (G (b.at a (.code c :: .inBlock id :: k)) cs) w) : Goes P main R D Stop (m + 1) (G (b.at a (.code (.block id c) :: k)) cs) w :=
  Goes.step rfl fun w₁ h₁ => by rw [stepG_block]; exact ⟨T.idle _, h.rely T.trans h₁⟩
theorem goes_inBlock (T : Terms R D) {id : Nat} (h : Goes P main R D Stop m (G (b.at a k) cs) w) : Goes P main R D Stop (m + 1) (G (b.at a (.inBlock id :: k)) cs) w :=
  Goes.step rfl fun w₁ h₁ => by rw [stepG_inBlock]; exact ⟨T.idle _, h.rely T.trans h₁⟩
theorem goes_loop (T : Terms R D) {c : Code} (h : Goes P main R D Stop m (G (b.at a (.code c :: .inLoop c :: k)) cs) w) : Goes P main R D Stop (m + 1) (G (b.at a (.code (.loop c) :: k)) cs) w :=
  Goes.step rfl fun w₁ h₁ => by rw [stepG_loop]; exact ⟨T.idle _, h.rely T.trans h₁⟩
theorem goes_inLoop (T : Terms R D) {c : Code} (h : Goes P main R D Stop m (G (b.at a (.code c :: .inLoop c :: k)) cs) w) : Goes P main R D Stop (m + 1) (G (b.at a (.inLoop c :: k)) cs) w :=
  Goes.step rfl fun w₁ h₁ => by rw [stepG_inLoop]; exact ⟨T.idle _, h.rely T.trans h₁⟩
theorem goes_scope (T : Terms R D) {c : Code} (h : Goes P main R D Stop m (G (b.at a (.code c :: .inScope c :: k)) cs) w) : Goes P main R D Stop (m + 1) (G (b.at a (.code (.scope c) :: k)) cs) w :=
  Goes.step rfl fun w₁ h₁ => by rw [stepG_scope]; exact ⟨T.idle _, h.rely T.trans h₁⟩
theorem goes_inScope (T : Terms R D) {c : Code} (h : Goes P main R D Stop m (G (b.at a k) cs) w) : Goes P main R D Stop (m + 1) (G (b.at a (.inScope c :: k)) cs) w :=
  Goes.step rfl fun w₁ h₁ => by rw [stepG_inScope]; exact ⟨T.idle _, h.rely T.trans h₁⟩
theorem goes_end (T : Terms R D) (h : Goes P main R D Stop m (G { b.at a [] with mode := .returning } cs) w) : Goes P main R D Stop (m + 1) (G (b.at a []) cs) w :=
  Goes.step rfl fun w₁ h₁ => by rw [stepG_end]; exact ⟨T.idle _, h.rely T.trans h₁⟩
theorem goes_region (T : Terms R D) {id : Nat} {ops : Array Oper} (h : Goes P main R D Stop m (G (b.at a (.inRegion ops (List.range ops.size) :: k)) cs) w) : Goes P main R D Stop (m + 1) (G (b.at a (.code (.region id ops false) :: k)) cs) w :=
  Goes.step rfl fun w₁ h₁ => by rw [stepG_region]; exact ⟨T.idle _, h.rely T.trans h₁⟩
theorem goes_code {fn : FuncId} {c : Code} {n : Nat} {Q : Exit → Act → World → Prop} (h : c.wpC P main R D fn n Q a w) (hb : b.fn = fn) (hk : b.kind ≠ .early)
    (hc : ∀ e a' w', Q e a' w' → After P main R D Stop m b k cs e a' w') : Goes P main R D Stop (m + n) (G (b.at a (.code c :: k)) cs) w := h b k cs Stop m hb hk hc
theorem goes_ops {fn : FuncId} {ops : Array Oper} {todo : List Nat} {n : Nat} {Q : Exit → Act → World → Prop} (h : OpsC P main R D fn ops todo n Q a w) (hb : b.fn = fn) (hk : b.kind ≠ .early)
    (hc : ∀ e a' w', Q e a' w' → After P main R D Stop m b k cs e a' w') : Goes P main R D Stop (m + n) (G (b.at a (.inRegion ops todo :: k)) cs) w := h b k cs Stop m hb hk hc
theorem goes_op {ops : Array Oper} {i : Nat} {rest : List Nat} {o : Oper} (ho : ops[i]? = some o) (hw : Region.wanted o (yielded ops a.tmps) = true) (hk : b.kind ≠ .early)
    (h : ∀ w₁, R w w₁ → ∀ K : Act → World → Prop, (∀ a' w', D w₁ w' (listed P b.fn a o w₁) ∧ Goes P main R D Stop m (G (b.at a' (.inRegion ops rest :: k)) cs) w' → K a' w') → uponK o a K ((execOp a.eval o).run P w₁)) :
    Goes P main R D Stop (m + 1) (G (b.at a (.inRegion ops (i :: rest) :: k)) cs) w :=
  Goes.step rfl fun w₁ h₁ => goes_oper_k ho hw hk fun K' hK' => h w₁ h₁ K' fun a' w' x => hK' a' w' x
theorem goes_stop (h : ∀ w₁, R w w₁ → Stop (G (b.at a k) cs) w₁) : Goes P main R D Stop 0 (G (b.at a k) cs) w := h
end

/-- A deferring operation. -/
theorem goes_defer {P : Program} {main : Bool} {R : World → World → Prop} {D : World → World → Array Event → Prop} (T : Terms R D) {Stop : Goroutine → World → Prop} {m : Nat} {b : Frame} {a : Act} {k : List Item} {cs : List Frame} {w : World}
    {ops : Array Oper} {i : Nat} {rest : List Nat} {o : Oper} {dd : Deferred} (ho : ops[i]? = some o) (hw : Region.wanted o (yielded ops a.tmps) = true) (hk : b.kind ≠ .early)
    (hr : ∀ w, (execOp a.eval o).run P w = .ok (.defer dd) w) (he : ∀ w, (execOp a.eval o).events P w #[] = #[])
    (h : Goes P main R D Stop m (G (b.at (Act.put ⟨a.tmps, dd :: a.defers⟩ o.dst undef) (.inRegion ops rest :: k)) cs) w) : Goes P main R D Stop (m + 1) (G (b.at a (.inRegion ops (i :: rest) :: k)) cs) w := by
  refine Goes.step rfl fun w₁ h₁ => ?_
  have hs : stepG P main (G (b.at a (.inRegion ops (i :: rest) :: k)) cs) w₁ = .go (G (b.at (Act.put ⟨a.tmps, dd :: a.defers⟩ o.dst undef) (.inRegion ops rest :: k)) cs) w₁ #[] := by
    have hk' : (b.kind == CallKind.early) = false := by simpa using hk
    have hfin : ({ b.at a (.inRegion ops (i :: rest) :: k) with defers := dd :: a.defers } : Frame).finish undef = b.at (Act.put ⟨a.tmps, dd :: a.defers⟩ o.dst undef) (.inRegion ops rest :: k) := by
      have := Frame.finish_at b { a with defers := dd :: a.defers } ops i rest k undef
      rw [ho] at this; exact this
    have hl : seen P b.fn #[] = #[] := seen_none P _
    rw [stepG_oper ho hw, ← hfin]
    simp [stepG.apply, hr, he, hl, G, Frame.at, hk', GStep.after]
  rw [hs]
  exact ⟨T.idle _, h.rely T.trans h₁⟩

/-- A deferred close of a channel. -/
def dclose (c : Nat) (ats : Array TypeId) (ty : TypeId) (bs : Array Bool) : Deferred := { target := .builtin .close ats ty bs, args := #[.chan (some c)] }

theorem stepG_dclose {P : Program} {main : Bool} {b : Frame} {tmps : Array Value} {c : Nat} {ats : Array TypeId} {ty : TypeId} {bs : Array Bool} {ds : List Deferred} {todo : List Item} {cs : List Frame} {w : World}
    {cap s r : Nat} {buf : Array Value} {tm : Bool} (hc : w.heap[c]? = some (.chan cap buf false s r tm)) (hq : (P.funcs[b.fn]?).any (·.norace) = false) :
    stepG P main (G { b.at ⟨tmps, dclose c ats ty bs :: ds⟩ todo with mode := .returning } cs) w = .go (G { b.at ⟨tmps, ds⟩ todo with mode := .returning } cs) (w.setChan c cap buf true s r tm) #[⟨.obj c, false, true⟩, ⟨.obj c, true, true⟩] := by
  have hr : (invoke (dclose c ats ty bs).target (dclose c ats ty bs).args).run P w = .ok (.value (.tuple #[])) (w.setChan c cap buf true s r tm) := by
    simp [dclose, invoke, builtin, run_close_open _ _ hc, World.setChan]
  have he : (invoke (dclose c ats ty bs).target (dclose c ats ty bs).args).events P w #[] = #[⟨.obj c, false, true⟩, ⟨.obj c, true, true⟩] := by
    simp [dclose, invoke, builtin, events_close_open _ _ hc]
  have hs : seen P b.fn #[⟨.obj c, false, true⟩, ⟨.obj c, true, true⟩] = #[⟨.obj c, false, true⟩, ⟨.obj c, true, true⟩] := seen_eq hq (by intro e he f; simp at he; rcases he with rfl | rfl <;> simp)
  simp only [dclose] at hr he
  simp [G, stepG, unwind, callDeferred, Frame.at, dclose, hr, he, hs, GStep.after]
end Go.Lx

/- A goroutine of a pair that grows a row of its own. -/
namespace Go.Lx
open Go.Conc

variable {d : Deal} {T : TypeId → Prop} {o : Option Nat} {w w' w₁ : World}

theorem Turn.draw (w : World) : Turn d T o w w.drew := ⟨rfl, rfl, rfl, Nat.le_refl _, fun _ _ _ => rfl, fun _ _ _ cs _ fz h => ⟨cs, fz, h⟩, fun _ _ h => h, fun b h1 h2 => absurd h2 (by show ¬ b < w.heap.size; omega)⟩

theorem Turn.row {g : Nat} {cur cs : Array Value} {ty : TypeId} {fz : Nat × Nat} (ho : Own d T o w g) (hg : w.heap[g]? = some (.cells cur ty fz)) : Turn d T o w (w.setRow g cs) := by
  have hsz : (w.setRow g cs).heap.size = w.heap.size := by simp [World.setRow]
  refine ⟨rfl, rfl, rfl, by rw [hsz]; exact Nat.le_refl _, fun b hb hno => setRow_other w g b cs fun e => hno (e ▸ ho), fun b hb _ c t f hc => ?_, fun b hbo hn c t f => ?_, fun b h1 h2 => absurd h2 (by rw [hsz]; omega)⟩
  · by_cases e : b = g
    · subst e
      rw [hg] at hc
      cases hc
      exact ⟨_, _, setRow_heap w b cur cs ty fz hg⟩
    · exact ⟨c, f, by rw [setRow_other w g b cs e]; exact hc⟩
  · by_cases e : b = g
    · subst e; exact absurd hg (hn _ _ _)
    · rw [setRow_other w g b cs e]; exact hn c t f

theorem append_turn {P : Program} (w : World) (t ty e : TypeId) (i : TypeInfo) (z : Value) (size bytes : Nat) (ht : P.underlying t = some (.slice e)) (hi : P.info? e = some i) (hz : i.zero = some z)
    (hsize : i.size = size) (hby : i.bytes = bytes) (hzs : z.cells.size = size) (hsz : 0 < size)
    (v : Value) (n : Nat) (xs : List Value) (hown : w.ownsRow d.B e size v n xs)
    (a : Addr) (m c : Nat) (news : List Value) (hm : 0 < m) (hl : news.length = m * size) (hnews : ∀ j u, news[j]? = some u → w.cell? (a.add j) = some u) (h1 : ∀ u ∈ news, u.oneCell' = true)
    (h63 : n + m ≤ maxLen) (hbytes : (n + m) * bytes ≤ 140737488355328) (hT : T e) (hB : d.B ≤ w.heap.size) (hbox : ∀ b, o = some b → b < w.heap.size) :
    ∃ v' w', (Builtin.append_ #[t, t] ty #[v, .slice (some a) m c]).run P w = .ok v' w' ∧ w'.ownsRow d.B e size v' (n + m) (xs ++ news) ∧ w.grownBy w' v.ownBlock ∧ Turn d T o w w' := by
  obtain ⟨v', w', hr, ho', hg, _⟩ := run_append_own (P := P) w d.B t ty e i z size bytes ht hi hz hsize hby hzs hsz v n xs hown a m c news hl hnews h1 h63 hbytes hB
  refine ⟨v', w', hr, ho', hg, ?_⟩
  subst hsize hby
  have hsmall : n + m ≤ 9223372036854775807 := by simp only [maxLen] at h63; omega
  rcases hown.2 with ⟨rfl, rfl⟩ | ⟨g, cap, cur, rfl, hbg, hgg, hnc, hcm, hcs, htake⟩
  · rw [run_append_nil (P := P) w t ty e i z ht hi hz a m c news hl hnews hm (by omega) (by have hb := hbytes; simp only [Nat.zero_add] at hb; omega)] at hr
    cases hr
    exact (Turn.draw w).trans (Turn.alloc hT hbox) hB
  · by_cases hroom : n + m ≤ cap
    · have hfit : n * i.size + news.length ≤ cur.size := by rw [hl, hcs, ← Nat.add_mul]; exact Nat.mul_le_mul_right _ hroom
      rw [run_append_room (P := P) w t ty e i ht hi g n cap cur hgg a m c news hl hnews h1 hroom hfit] at hr
      cases hr
      exact Turn.row (.inl ⟨hbg, cur, e, _, hgg, hT⟩) hgg
    · have holds : ∀ j u, xs[j]? = some u → w.cell? ((⟨g, 0, none⟩ : Addr).add j) = some u := hown.cells (g := g) rfl
      rw [run_append_grow (P := P) w t ty e i z ht hi hz ⟨g, 0, none⟩ n cap xs hown.1 holds a m c news hl hnews (by omega) (by omega) (growslice_fits (by omega) hbytes)] at hr
      cases hr
      exact (Turn.draw w).trans (Turn.alloc hT hbox) hB

theorem ownsRow_rely {e : TypeId} {size n : Nat} {v : Value} {xs : List Value} (hT : T e) (h : w.ownsRow d.B e size v n xs) (r : Rely d T o w w₁) : w₁.ownsRow d.B e size v n xs := by
  refine ⟨h.1, ?_⟩
  rcases h.2 with hn | ⟨g, cap, cur, rfl, hb, hg, rest⟩
  · exact .inl hn
  · exact .inr ⟨g, cap, cur, rfl, hb, by rw [r.own g (.inl ⟨hb, cur, e, _, hg, hT⟩)]; exact hg, rest⟩

theorem own_of_row {e : TypeId} {size n : Nat} {v : Value} {xs : List Value} (hT : T e) (h : w.ownsRow d.B e size v n xs) {b : Nat} (hb : v.ownBlock = some b) : Own d T o w b ∧ b < w.heap.size := by
  rcases h.2 with ⟨rfl, _⟩ | ⟨g, cap, cur, rfl, hbb, hg, _⟩
  · cases hb
  · cases hb
    exact ⟨.inl ⟨hbb, cur, e, _, hg, hT⟩, (Array.getElem?_eq_some_iff.1 hg).1⟩

/-- What lies below, as it was. -/
structure Low (d : Deal) (w0 w : World) : Prop where
  os : w.os = w0.os
  output : w.output = w0.output
  size : w0.heap.size ≤ w.heap.size
  block : ∀ b, b < d.B → b ≠ d.c → w.heap[b]? = w0.heap[b]?

theorem Low.refl (w : World) : Low d w w := ⟨rfl, rfl, Nat.le_refl _, fun _ _ _ => rfl⟩
theorem Low.rely {w0 : World} (h : Low d w0 w) (r : Rely d T o w w₁) : Low d w0 w₁ :=
  ⟨r.os.trans h.os, r.output.trans h.output, Nat.le_trans h.size r.size, fun b hb hc => (r.low b hb hc).trans (h.block b hb hc)⟩
theorem Low.turn {w0 : World} (h : Low d w0 w) (r : Turn d T o w w') (hB : d.B ≤ w.heap.size) (hbox : ∀ b, o = some b → d.B ≤ b) : Low d w0 w' :=
  ⟨r.os.trans h.os, r.output.trans h.output, Nat.le_trans h.size r.size, fun b hb hc => (r.rest b (by omega) (by
    rintro (⟨h1, _⟩ | h1)
    · omega
    · have := hbox b h1; omega)).trans (h.block b hb hc)⟩

/-- What is held: some blocks, a row of one's own, what lies below. -/
structure MH (d : Deal) (T : TypeId → Prop) (e : TypeId) (size : Nat) (L : List (Nat × Obj)) (w0 : World) (v : Value) (n : Nat) (xs : List Value) (o : Option Nat) (w : World) : Prop where
  holds : Holds d T o L w
  own : w.ownsRow d.B e size v n xs
  low : Low d w0 w
  typ : T e
  boxB : ∀ b, o = some b → d.B ≤ b

variable {e : TypeId} {size n : Nat} {L L' : List (Nat × Obj)} {w0 : World} {v : Value} {xs : List Value}
theorem MH.rely (h : MH d T e size L w0 v n xs o w) (r : Rely d T o w w₁) : MH d T e size L w0 v n xs o w₁ := ⟨h.holds.rely r, ownsRow_rely h.typ h.own r, h.low.rely r, h.typ, h.boxB⟩

/-- A new block. -/
theorem MH.cons (h : MH d T e size L w0 v n xs o w) (cs : Array Value) {ty : TypeId} (ht : T ty) : MH d T e size ((w.heap.size, Obj.cells cs ty (0, 0)) :: L) w0 v n xs o (w.alloc (.cells cs ty)) :=
  ⟨h.holds.cons cs ht, h.own.alloc _, h.low.turn (Turn.alloc ht h.holds.box) h.holds.big h.boxB, h.typ, h.boxB⟩

theorem MH.weak (h : MH d T e size L w0 v n xs o w) (hL : ∀ p ∈ L', p ∈ L) : MH d T e size L' w0 v n xs o w := ⟨h.holds.weak hL, h.own, h.low, h.typ, h.boxB⟩

/-- A new box. -/
theorem MH.boxed {tb : TypeId} (h : MH d T e size L w0 v n xs o w) (cs : Array Value) : MH d T e size [(w.heap.size, Obj.cells cs tb (0, 0))] w0 v n xs (some w.heap.size) (w.alloc (.cells cs tb)) :=
  ⟨h.holds.boxed fun p hp => .inl (by simpa using hp), h.own.alloc _, ⟨h.low.os, h.low.output, Nat.le_trans h.low.size (by simp), fun b hb hc => by
    rw [heap_alloc_old w _ (Nat.lt_of_lt_of_le hb h.holds.big)]; exact h.low.block b hb hc⟩, h.typ, fun b hb => by cases hb; exact h.holds.big⟩

/-- The box is written. -/
theorem MH.set4 {xb : Nat} {x0 x1 x2 x3 : Value} {tb : TypeId} (h : MH d T e size [(xb, Obj.cells #[x0, x1, x2, x3] tb (0, 0))] w0 v n xs (some xb) w) (hv : v.ownBlock ≠ some xb) (v0 v1 v2 v3 : Value) :
    MH d T e size [(xb, Obj.cells #[v0, v1, v2, v3] tb (0, 0))] w0 v n xs (some xb) ((((w.setCell ⟨xb, 0, none⟩ v0).setCell ⟨xb, 1, none⟩ v1).setCell ⟨xb, 2, none⟩ v2).setCell ⟨xb, 3, none⟩ v3) := by
  have hlt := h.holds.lt (List.mem_singleton.2 rfl)
  refine ⟨h.holds.set4 (by simp) v0 v1 v2 v3, ?_, h.low.turn (Turn.set4 h.holds.boxOwn hlt h.holds.big v0 v1 v2 v3) h.holds.big h.boxB, h.typ, h.boxB⟩
  refine ⟨h.own.1, ?_⟩
  rcases h.own.2 with hn | ⟨g, cap, cur, rfl, hb, hg, rest⟩
  · exact .inl hn
  · have hne : g ≠ xb := fun e => hv (by simp [Value.ownBlock, e])
    refine .inr ⟨g, cap, cur, rfl, hb, ?_, rest⟩
    rw [heap_set _ _ _ _ hne, heap_set _ _ _ _ hne, heap_set _ _ _ _ hne, heap_set _ _ _ _ hne]
    exact hg


theorem evOk_loc {ev : Event} {ad : Addr} (h : ev.loc = .cell ad) (ho : Own d T o w ad.block) : EvOk d T o w ev := by
  obtain ⟨loc, wr, sy⟩ := ev
  simp only at h
  subst h
  refine ⟨fun y hy _ => ?_, by simp, by simp⟩
  simp [MemAct.ofEvent, MemAct.touch?] at hy
  subst hy
  exact ⟨ad, rfl, .inl ho⟩
theorem evOk_mark {m : Mark} (h : Neutral m) : EvOk d T o w ⟨.mark m, false, true⟩ := by
  unfold Neutral at h
  subst h
  exact ⟨fun y hy _ => by simp [MemAct.ofEvent, MemAct.touch?] at hy, by simp, by simp⟩
theorem add_at (b j : Nat) : (⟨b, 0, none⟩ : Addr).add j = ⟨b, j, none⟩ := by unfold Addr.add; split <;> simp_all
end Go.Lx
