/- A text of blanks, a word and blanks is lexed to one token: plainly. -/
import Derived.Test.YtjnoffgclibfaaaShown
namespace Go.Proofs.Ytjnoffgclibfaaa
open Go.Conc Go.Lx

theorem byte_all {p : UInt8 → Bool} (h : (List.range 256).all (fun n => p n.toUInt8) = true) (c : UInt8) : p c = true := by
  have := List.all_eq_true.1 h c.toNat (List.mem_range.2 c.toNat_lt)
  have e : c.toNat.toUInt8 = c := by simp
  rwa [e] at this

def blankB (c : UInt8) : Bool := inB [9, 10, 13, 32] c
theorem blank_word (c : UInt8) (h : blankB c = true) : wordB c = false := by
  have := byte_all (p := fun c => !blankB c || !wordB c) (by decide +kernel) c
  simpa [h] using this
theorem word_blank (c : UInt8) (h : wordB c = true) : blankB c = false := by
  have := byte_all (p := fun c => !blankB c || !wordB c) (by decide +kernel) c
  simpa [h] using this

theorem first_word (c : UInt8) (h : wordB c = true) : First 0 c := ⟨by decide, h, fun j hj => absurd hj (by omega)⟩
theorem first_blank (c : UInt8) (h : blankB c = true) : First 1 c := ⟨by decide, h, fun j hj => by
  obtain rfl : j = 0 := by omega
  exact blank_word c h⟩

theorem many_all (p : UInt8 → Bool) : ∀ (l r : List UInt8), (∀ c ∈ l, p c = true) → (∀ c, r.head? = some c → p c = false) → many p (l ++ r) = l.length
  | [], r, _, hr => by
    cases r with
    | nil => rfl
    | cons c r => simp [many, hr c rfl]
  | c :: l, r, hl, hr => by
    have := many_all p l r (fun x hx => hl x (List.mem_cons_of_mem _ hx)) hr
    simp only [many, List.cons_append, List.takeWhile_cons, hl c List.mem_cons_self, if_true, List.length_cons] at this ⊢
    omega

section
variable {s : ByteArray}
/-- Blanks are left out. -/
theorem scans_blank {k : Nat} {acts : List SAct} (l r : List UInt8) (hd : s.data.toList.drop k = l ++ r) (hk : k ≤ s.size) (hl : ∀ c ∈ l, blankB c = true) (hr : ∀ c, r.head? = some c → blankB c = false) (h : Scans s (k + l.length) acts) :
    ∃ acts', Scans s k acts' ∧ sends acts' = sends acts := by
  cases l with
  | nil => exact ⟨acts, by simpa using h, rfl⟩
  | cons c l =>
    have hlen : (s.data.toList.drop k).length = s.size - k := by rw [List.length_drop]; rfl
    have hlen2 := congrArg List.length hd
    rw [hlen] at hlen2
    simp only [List.length_append, List.length_cons] at hlen2
    have hlt : k < s.size := by omega
    have hc : s[k]'hlt = c := by
      have : (s.data.toList.drop k).head? = some c := by rw [hd]; rfl
      rw [List.head?_drop] at this
      have e : s.data.toList[k]? = some (s[k]'hlt) := by
        rw [List.getElem?_eq_getElem (by exact hlt)]; rfl
      rw [e] at this
      exact Option.some.inj this
    have hm : goN 1 (s.data.toList.drop k) = (c :: l).length := by rw [hd]; exact many_all _ _ _ hl hr
    exact ⟨_, .blank hlt (by rw [hc]; exact first_blank c (hl c List.mem_cons_self)) rfl hm (by simp only [List.length_cons]; omega) h, rfl⟩

/-- A word is one token. -/
theorem scans_word {k : Nat} {acts : List SAct} (l r : List UInt8) (hd : s.data.toList.drop k = l ++ r) (hk : k ≤ s.size) (hne : l ≠ []) (hl : ∀ c ∈ l, wordB c = true) (hr : ∀ c, r.head? = some c → wordB c = false) (h : Scans s (k + l.length) acts) :
    ∃ acts', Scans s k acts' ∧ sends acts' = itemV ⟨1, k, s.extract k (k + l.length)⟩ :: sends acts := by
  cases l with
  | nil => exact absurd rfl hne
  | cons c l =>
    have hlen : (s.data.toList.drop k).length = s.size - k := by rw [List.length_drop]; rfl
    have hlen2 := congrArg List.length hd
    rw [hlen] at hlen2
    simp only [List.length_append, List.length_cons] at hlen2
    have hlt : k < s.size := by omega
    have hc : s[k]'hlt = c := by
      have : (s.data.toList.drop k).head? = some c := by rw [hd]; rfl
      rw [List.head?_drop] at this
      have e : s.data.toList[k]? = some (s[k]'hlt) := by
        rw [List.getElem?_eq_getElem (by exact hlt)]; rfl
      rw [e] at this
      exact Option.some.inj this
    have hm : goN 0 (s.data.toList.drop k) = (c :: l).length := by rw [hd]; exact many_all _ _ _ hl hr
    exact ⟨_, .token hlt (by rw [hc]; exact first_word c (hl c List.mem_cons_self)) rfl hm (by simp only [List.length_cons]; omega) h, rfl⟩
end

theorem extract_mid (t s r : ByteArray) : (t ++ s ++ r).extract t.size (t.size + s.size) = s := by
  apply ByteArray.ext
  apply Array.ext'
  have hl : (t ++ s ++ r).data.toList = t.data.toList ++ (s.data.toList ++ r.data.toList) := by simp [ByteArray.data_append]
  rw [ByteArray.data_extract, Array.toList_extract, hl]
  have e1 : t.size = t.data.toList.length := rfl
  have e2 : s.size = s.data.toList.length := rfl
  rw [List.extract_eq_take_drop, e1, e2, List.drop_left, Nat.add_sub_cancel_left, List.take_left]

/-- BLANKS, A WORD, BLANKS. -/
theorem lexes_word (t s r : ByteArray) (ht : ∀ c ∈ t.data.toList, blankB c = true) (hs : ∀ c ∈ s.data.toList, wordB c = true) (hr : ∀ c ∈ r.data.toList, blankB c = true) (hn : 0 < s.size) (hz : t.size + s.size + r.size ≤ 20000) :
    Lexes (t ++ s ++ r) [⟨1, t.size, s⟩] := by
  have hsz : (t ++ s ++ r).size = t.size + s.size + r.size := by simp [ByteArray.size_append]
  have e0 : t.size = t.data.toList.length := rfl
  have e1 : s.size = s.data.toList.length := rfl
  have e2 : r.size = r.data.toList.length := rfl
  have hl : (t ++ s ++ r).data.toList = t.data.toList ++ (s.data.toList ++ r.data.toList) := by simp [ByteArray.data_append]
  have hsne : s.data.toList ≠ [] := fun e => by rw [e1, e] at hn; exact absurd hn (by simp)
  refine ⟨by rw [hsz]; exact hz, ?_, by simp⟩
  -- the end
  obtain ⟨a3, h3, g3⟩ := scans_blank (s := t ++ s ++ r) (k := t.size + s.size) (acts := []) r.data.toList [] (by rw [hl, List.append_nil, e0, e1, ← List.append_assoc, ← List.length_append, List.drop_left]) (by rw [hsz]; omega) hr (by simp)
    (by have : t.size + s.size + r.data.toList.length = (t ++ s ++ r).size := by rw [hsz, e2]
        rw [this]; exact .done)
  obtain ⟨a2, h2, g2⟩ := scans_word (s := t ++ s ++ r) (k := t.size) (acts := a3) s.data.toList r.data.toList (by rw [hl, e0, List.drop_left]) (by rw [hsz]; omega) hsne hs (fun c hc => blank_word c (hr c (List.mem_of_head? hc))) (by rw [← e1]; exact h3)
  obtain ⟨a1, h1, g1⟩ := scans_blank (s := t ++ s ++ r) (k := 0) (acts := a2) t.data.toList (s.data.toList ++ r.data.toList) (by rw [hl]; rfl) (Nat.zero_le _) ht (fun c hc => by
    cases hsl : s.data.toList with
    | nil => exact absurd hsl hsne
    | cons x l =>
      rw [hsl] at hc
      have : x = c := by simpa using hc
      exact word_blank c (hs c (by rw [hsl, this]; exact List.mem_cons_self))) (by rw [Nat.zero_add, ← e0]; exact h2)
  refine ⟨a1, h1, ?_⟩
  rw [g1, g2, g3, ← e1, extract_mid]
  rfl
end Go.Proofs.Ytjnoffgclibfaaa
