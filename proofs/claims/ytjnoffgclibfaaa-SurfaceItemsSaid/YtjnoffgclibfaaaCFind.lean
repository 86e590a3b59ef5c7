/- In company: scan finds the rule of a byte. -/
import Derived.Test.YtjnoffgclibfaaaCInner
set_option linter.unusedSimpArgs false
set_option linter.unusedVariables false
namespace Go.Proofs.Ytjnoffgclibfaaa
open Go.Conc Go.Lx

section
variable {d : Deal} {T : TypeId → Prop} {o : Option Nat} {b0 b1 b2 b3 b4 b5 b6 b7 xb : Nat} {df : List Deferred}

theorem wish_is (L : List (Nat × Obj)) (b : Nat) (l : List UInt8) (hb : (b, Obj.cells #[.string ⟨l.toArray⟩] 9 (0, 0)) ∈ L) : Wish false d T o L 61 #[.pointer (some ⟨b, 0, none⟩)] (inB l) :=
  fun c w hF => is1_c (s := ⟨l.toArray⟩) hb c w hF

theorem far_while (L : List (Nat × Obj)) (b : Nat) {f : FuncId} {caps : Array Value} {p : UInt8 → Bool} (hW : Wish false d T o L f caps p) (hb : (b, Obj.cells #[.func (.func f) #[] caps] 34 (0, 0)) ∈ L) :
    GoesFar d T o L 63 #[.pointer (some ⟨b, 0, none⟩)] (many p) :=
  fun s w hs hF => while1_c hW hb s hs w hF

theorem far_one (L : List (Nat × Obj)) : GoesFar d T o L 55 #[] (fun _ => 1) :=
  fun s w _ hF => Go.Lx.CallsC.more (one_c (.string s) w hF) (by omega)

/-- Rule number i. -/
structure Rule (d : Deal) (T : TypeId → Prop) (o : Option Nat) (b0 b1 b2 b3 b4 b5 b6 b7 i : Nat) (f g : FuncId) (caps gcaps : Array Value) : Prop where
  r0 : (ruleCells b1 b2 b3 b4 b5 b6 b7)[i * 3]? = some (.func (.func f) #[] caps)
  r1 : (ruleCells b1 b2 b3 b4 b5 b6 b7)[i * 3 + 1]? = some (.func (.func g) #[] gcaps)
  r2 : (ruleCells b1 b2 b3 b4 b5 b6 b7)[i * 3 + 2]? = some (.int .i64 (kindN i))
  wish : ∀ L, (∀ p ∈ ruleList b0 b1 b2 b3 b4 b5 b6 b7 [], p ∈ L) → Wish false d T o L f caps (begB i)
  far : ∀ L, (∀ p ∈ ruleList b0 b1 b2 b3 b4 b5 b6 b7 [], p ∈ L) → GoesFar d T o L g gcaps (goN i)

theorem rule_of (d : Deal) (T : TypeId → Prop) (o : Option Nat) (b0 b1 b2 b3 b4 b5 b6 b7 i : Nat) (hi : i < 5) : ∃ f g caps gcaps, Rule d T o b0 b1 b2 b3 b4 b5 b6 b7 i f g caps gcaps := by
  have hword : ∀ L, Wish false d T o L 32 #[] wordB := fun L c w hF => word_c c w hF
  have hline : ∀ L, Wish false d T o L 56 #[] (fun c => (c.toNat : Int) != 10) := fun L c w hF => line_c c w hF
  match i, hi with
  | 0, _ => exact ⟨_, _, _, _, rfl, rfl, rfl, fun L _ => hword L, fun L hL => far_while L b2 (hword L) (hL _ (by simp [ruleList]))⟩
  | 1, _ => exact ⟨_, _, _, _, rfl, rfl, rfl, fun L hL => wish_is L b1 _ (hL _ (by simp [ruleList])), fun L hL => far_while L b3 (wish_is L b1 _ (hL _ (by simp [ruleList]))) (hL _ (by simp [ruleList]))⟩
  | 2, _ => exact ⟨_, _, _, _, rfl, rfl, rfl, fun L hL => wish_is L b4 _ (hL _ (by simp [ruleList])), fun L hL => far_one L⟩
  | 3, _ => exact ⟨_, _, _, _, rfl, rfl, rfl, fun L hL => wish_is L b5 _ (hL _ (by simp [ruleList])), fun L hL => far_one L⟩
  | 4, _ => exact ⟨_, _, _, _, rfl, rfl, rfl, fun L hL => wish_is L b6 _ (hL _ (by simp [ruleList])), fun L hL => far_while L b7 (hline L) (hL _ (by simp [ruleList]))⟩

/-- The first rule that begins. -/
def First (i : Nat) (c : UInt8) : Prop := i < 5 ∧ begB i c = true ∧ ∀ j, j < i → begB j c = false

def slot23 (a : Act) : Nat := match a.tmps.getD 23 undef with | .int _ n => (5 - n).toNat | _ => 0

theorem slot23_of (s : ByteArray) (c q k : Nat) (i : Nat) (J : Nat → Value) : slot23 ⟨scanFrame s c q b0 k xb i J, df⟩ = 5 - i := by
  have : (scanFrame s c q b0 k xb i J).getD 23 undef = .int .i64 i := rfl
  simp only [slot23, this]
  omega

theorem find_loop {x : Array Value} (s : ByteArray) (c q k i0 m : Nat) (J : Nat → Value) (hk : k < s.size) (hs : s.size ≤ 1000000) (hT95 : T 95) (hxs : x.size = 4)
    (hf : First i0 (s[k]'hk)) (hme : goN i0 (s.data.toList.drop k) = m) (hmn : k + m ≤ s.size) (hxL : ∀ p ∈ ruleList b0 b1 b2 b3 b4 b5 b6 b7 [], p.1 ≠ xb)
    (w : World) (hF : Holds d T (some xb) ((xb, Obj.cells x 74 (0, 0)) :: ruleList b0 b1 b2 b3 b4 b5 b6 b7 []) w) :
    Code.wpC Try.prog false (Rely d T (some xb)) (Lx.Does d T (some xb)) 37 (.block 2 (.loop findRound)) 10000000000000
      (Exit.then (fun a' w' => ∃ J', a' = ⟨scanFrame s c q b0 k xb i0 J', df⟩ ∧
        Holds d T (some xb) ((xb, Obj.cells #[.int .i64 (kindN i0), .int .i64 (k : Int), .string (s.extract k (k + m)), .int .i64 0] 74 (0, 0)) :: ruleList b0 b1 b2 b3 b4 b5 b6 b7 []) w') (fun _ _ _ => False)) ⟨scanFrame s c q b0 k xb 0 J, df⟩ w := by
  obtain ⟨h5, hy, hn⟩ := hf
  have hmem : (b0, Obj.cells (ruleCells b1 b2 b3 b4 b5 b6 b7) 95 (0, 0)) ∈ ruleList b0 b1 b2 b3 b4 b5 b6 b7 [] := by simp [ruleList]
  have hsub : ∀ (b : Nat) (y : Obj), ∀ p ∈ ruleList b0 b1 b2 b3 b4 b5 b6 b7 [], p ∈ (b, y) :: (xb, Obj.cells x 74 (0, 0)) :: ruleList b0 b1 b2 b3 b4 b5 b6 b7 [] := fun b y p hp => List.mem_cons_of_mem _ (List.mem_cons_of_mem _ hp)
  refine wpC_more (wpC_block terms (wpC_loop terms (fun a w => ∃ i J, i ≤ i0 ∧ a = ⟨scanFrame s c q b0 k xb (i : Nat) J, df⟩ ∧ Holds d T (some xb) ((xb, Obj.cells x 74 (0, 0)) :: ruleList b0 b1 b2 b3 b4 b5 b6 b7 []) w) (fun a _ => slot23 a) 1000000000000 5 ⟨0, J, Nat.zero_le _, rfl, hF⟩ ?_ ?_)) (by decide)
  · have := slot23_of (df := df) (b0 := b0) (xb := xb) s c q k 0 J
    exact Nat.le_of_eq this
  · rintro a w ⟨i, J, hi, rfl, hF⟩
    rcases Nat.lt_or_ge i i0 with hlt | hge
    · obtain ⟨f, g, caps, gcaps, hr⟩ := rule_of d T (some xb) b0 b1 b2 b3 b4 b5 b6 b7 i (by omega)
      refine wpC_more (wpC_mono (find_no (p := begB i) s c q k i J hk (by omega) hT95 (List.mem_cons_of_mem _ hmem) hr.r0 hr.r1 hr.r2 (fun b y => hr.wish _ (hsub b y)) (hn i hlt) w hF) ?_) (by decide)
      rintro e a' w' h
      cases e with
      | normal =>
        obtain ⟨J', rfl, hF'⟩ := h
        refine ⟨⟨i + 1, J', hlt, rfl, hF'⟩, ?_⟩
        show slot23 _ < slot23 _
        rw [slot23_of, slot23_of]
        omega
      | _ => exact h.elim
    · obtain rfl : i = i0 := by omega
      obtain ⟨f, g, caps, gcaps, hr⟩ := rule_of d T (some xb) b0 b1 b2 b3 b4 b5 b6 b7 i h5
      refine wpC_mono (find_yes (p := begB i) s c q k i J hk hs h5 hT95 hxs hmem hxL hr.r0 hr.r1 hr.r2 (fun b y => hr.wish _ (hsub b y)) (fun b y => hr.far _ (hsub b y)) hy (Lib.hid hme) hmn w hF) ?_
      rintro e a' w' h
      cases e with
      | normal => exact h.elim
      | exit id =>
        obtain ⟨he, J', rfl, hF'⟩ := h
        cases he
        exact ⟨J', rfl, hF'⟩
      | ret => cases h.1
      | goto l => cases h.1
      | panic ch => cases h.1
      | outgrown => cases h.1
end
end Go.Proofs.Ytjnoffgclibfaaa
