/- surface.Read at a text that is lexed well, and 'shown' of layer 7. -/
import Derived.Test.YtjnoffgclibfaaaParse2
set_option linter.unusedSimpArgs false
set_option linter.unusedVariables false
namespace Go.Proofs.Ytjnoffgclibfaaa
open Go.Conc Go.Lx Go.RowKit

def Tok.p (t : Tok) : PTok := ⟨t.kind, t.at_, t.text⟩
theorem tokCells_at (all : List Tok) : ∀ k t, all[k]? = some t → (tokCells all)[k * 3]? = some (.int .i64 t.kind) ∧ (tokCells all)[k * 3 + 1]? = some (.int .i64 (t.at_ : Int)) ∧ (tokCells all)[k * 3 + 2]? = some (.string t.text) := by
  induction all with
  | nil => intro k t h; simp at h
  | cons x l ih =>
    intro k t h
    cases k with
    | zero => cases h; exact ⟨rfl, rfl, rfl⟩
    | succ k =>
      have := ih k t h
      rw [show (k + 1) * 3 = k * 3 + 1 + 1 + 1 by omega, show k * 3 + 1 + 1 + 1 + 1 = (k * 3 + 1) + 1 + 1 + 1 by omega, show k * 3 + 1 + 1 + 1 + 2 = (k * 3 + 2) + 1 + 1 + 1 by omega]
      exact this

/-- What Read answers. -/
def ReadPost (W : World) (R : Except (Int × Int) (List Sx)) (v : Value) (w : World) : Prop :=
  Under W w ∧ match R with
    | .ok row => ∃ vr, v = .tuple #[vr, .int .i64 0, .int .i64 0] ∧ w.ownsRow W.heap.size 57 3 vr row.length (sxCells row)
    | .error (p, c) => v = .tuple #[.slice none 0 0, .int .i64 p, .int .i64 c]
theorem Under.trans {a b c : World} (h : Under a b) (k : Under b c) : Under a c := ⟨k.os.trans h.os, k.output.trans h.output, Nat.le_trans h.size k.size, fun i hi => (k.low i (Nat.lt_of_lt_of_le hi h.size)).trans (h.low i hi)⟩
theorem own_re {w : World} {base : Nat} {e : TypeId} {size n : Nat} {v : Value} {xs : List Value} (h : w.ownsRow base e size v n xs) (τ : Nat → Question → Nat) (d : Nat) : (re w τ d).ownsRow base e size v n xs := h
theorem ReadPost.re {W : World} {R : Except (Int × Int) (List Sx)} (v : Value) (w : World) (τ : Nat → Question → Nat) (d : Nat) (h : ReadPost W R v w) : ReadPost W R v (re w τ d) := by
  obtain ⟨h1, h2⟩ := h
  refine ⟨h1.re τ d, ?_⟩
  cases R with
  | error p => exact h2
  | ok row => obtain ⟨vr, e, h3⟩ := h2; exact ⟨vr, e, own_re h3 τ d⟩

theorem tok_arg {W w : World} {l : Value} {all : List Tok} (h : w.ownsRow W.heap.size 31 3 l all.length (tokCells all)) : ∃ p cap, l = .slice p all.length cap ∧ TokArg w p (all.map Tok.p) := by
  rcases h.2 with ⟨rfl, h0⟩ | ⟨g, cap, cur, rfl, hb, hg, rest⟩
  · refine ⟨none, 0, by rw [h0], fun hne => ?_⟩
    have : all = [] := List.length_eq_zero_iff.1 h0
    subst this
    exact absurd rfl hne
  · refine ⟨_, cap, rfl, fun _ => ⟨g, 0, rfl, (Array.getElem?_eq_some_iff.1 hg).1, fun k t ht => ?_⟩⟩
    rw [List.getElem?_map] at ht
    obtain ⟨u, hu, rfl⟩ := Option.map_eq_some_iff.1 ht
    obtain ⟨h1, h2, h3⟩ := tokCells_at all k u hu
    rw [Nat.zero_add]
    exact ⟨row_cell h rfl h1, row_cell h rfl h2, row_cell h rfl h3⟩

theorem wpG_fr {P : Program} {c : Code} {Q : Exit → Act → World → Prop} {A : Array Value} {F : (Nat → Value) → Array Value} {df : List Deferred} {w : World} (hA : A = F fun n => A.getD n undef) (h : ∀ J, c.wpG P Q ⟨F J, df⟩ w) : c.wpG P Q ⟨A, df⟩ w := by
  have := h fun n => A.getD n undef
  rw [← hA] at this
  exact this
theorem bodyG_tmp3 {P : Program} {fn : Func} {t u r : Tmp} {Post : Value → World → Prop} {a : Act} {w : World} (h : fn.results = #[.tmp t, .tmp u, .tmp r]) (hd : a.defers = []) (hp : Post (.tuple #[a.tmps.getD t undef, a.tmps.getD u undef, a.tmps.getD r undef]) w) : bodyPostG P fn Post .ret a w :=
  ⟨hd, _, fun _ _ => results_tmp3 h _ P _, hp⟩

set_option maxRecDepth 100000 in
set_option maxHeartbeats 1000000 in
theorem read_calls {s : ByteArray} {all : List Tok} (h : Lexes s all) (hk : ∀ t ∈ all, t.kind = 1 ∨ t.kind = 2 ∨ t.kind = 3) (W : World) :
    CallsG Try.prog 18 #[.string s] W (ReadPost W (parseGo (all.map Tok.p) [] [] ⟨0, 0, ⟨#[]⟩⟩)) := by
  refine callsG_of_wpG tame Try.func18 rfl ?_ ReadPost.re
  simp only [Try.ntmps18, List.size_toArray, List.length_cons, List.length_nil, Nat.reduceAdd, Nat.reduceSub, Array.replicate_succ, Array.replicate_zero, List.push_toArray, List.append_toArray, List.nil_append, List.cons_append]
  refine wpG_seq tame (wpG_lone tame fun τ d => ?_)
  go_wp2
  refine wpG_re ?_ τ d
  refine wpG_seq tame ?_
  refine wpG_split tame 1 (by decide) fun τ d => ?_
  simp only [List.take_succ_cons, List.take_zero]
  go_wp2
  refine opsG_re ?_ τ d
  refine opsG_call (i := 1) (rest := List.range' 2 7) tame rfl (by rfl) (run_call_fn (vs := #[.string s]) rfl Try.func14 (by kernel_rfl) rfl (by simp [Act.eval])) (h.calls W) ?_
  rintro v w1 ⟨l, rfl, hown, hU1⟩
  obtain ⟨p, cap, rfl, hp⟩ := tok_arg hown
  have hlen : (all.map Tok.p).length ≤ 1000000 := by rw [List.length_map]; exact h.len
  have hkk : ∀ t ∈ all.map Tok.p, t.kind = 1 ∨ t.kind = 2 ∨ t.kind = 3 := by
    intro t ht
    obtain ⟨u, hu, rfl⟩ := List.mem_map.1 ht
    exact hk u hu
  have hc := fun τ d => parse_any (w0 := re w1 τ d) (cap := cap) (all.map Tok.p) hlen hp hkk
  simp only [List.length_map] at hc
  have HC := Lib.hid hc
  clear hc
  clear hown hp hkk hlen hk h
  generalize parseGo (all.map Tok.p) [] [] ⟨0, 0, ⟨#[]⟩⟩ = R at *
  refine opsG_split tame 2 7 0 (by decide) fun τ d => ?_
  simp only [List.drop_succ_cons, List.drop_zero, List.take_succ_cons, List.take_zero]
  walk_nrm
  go_wp2
  refine opsG_nil tame ?_
  simp only [Exit.then]
  refine wpG_re ?_ τ d
  refine wpG_lone tame fun τ d => ?_
  go_wp2_with fail
  refine (HC.out τ d).mono ?_
  rintro e w2 ⟨hU2, hR⟩
  have hUU : Under W w2 := hU1.trans ⟨hU2.os, hU2.output, hU2.size, hU2.low⟩
  have hz : W.heap.size ≤ (re w1 τ d).heap.size := hU1.size
  cases R with
  | ok row =>
    obtain ⟨vr, rfl, ho⟩ := hR
    have HO := Lib.hid ho
    clear ho
    go_wp2
    exact bodyG_tmp3 rfl rfl ⟨hUU, vr, rfl, ownsRow_base HO.out hz⟩
  | error pc =>
    obtain ⟨p', c⟩ := pc
    subst hR
    go_wp2
    exact bodyG_tmp3 rfl rfl ⟨hUU, rfl⟩
end Go.Proofs.Ytjnoffgclibfaaa
