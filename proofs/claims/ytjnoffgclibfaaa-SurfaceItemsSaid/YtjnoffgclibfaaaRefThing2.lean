/- The document's thing and Print: their contracts. -/
import Derived.Test.YtjnoffgclibfaaaRefThing
set_option linter.unusedSimpArgs false
set_option linter.unusedVariables false
namespace Go.Proofs.Ytjnoffgclibfaaa
open Go.Conc Go.Lx Go.RowKit

theorem sum_take_le (l : List Nat) (k : Nat) : (l.take k).sum ≤ l.sum := by
  induction l generalizing k with
  | nil => simp
  | cons x l ih =>
    cases k with
    | zero => simp
    | succ k => simp only [List.take_succ_cons, List.sum_cons]; have := ih k; omega
theorem sofar_size (hd : List UInt8) (sep : UInt8) {ls : List (List Sx)} (h : ∀ l ∈ ls, (thing l).length + 1 ≤ wt l) (k : Nat) : (sofar hd sep (ls.take k)).size ≤ hd.length + wt ls.flatten := by
  show (hd ++ joinB ((ls.take k).map thing) [sep]).toArray.size ≤ _
  rw [List.size_toArray, List.length_append]
  have h1 := joinB_len [sep] ((ls.take k).map thing)
  rw [List.map_map] at h1
  have h2 := sum_mono (fun l => (thing l).length + 1) wt (ls.take k) (fun l hl => h l (List.mem_of_mem_take hl))
  have h3 := sum_take_le (ls.map wt) k
  rw [← List.map_take] at h3
  rw [wt_flat]
  have h4 : (((fun x : List UInt8 => x.length + [sep].length) ∘ thing) : List Sx → Nat) = fun l => (thing l).length + 1 := rfl
  rw [h4] at h1
  omega
theorem items_facts {row : List Sx} {ls : List (List Sx)} (hI : itemsGo row = some ls) (hn : row.length ≤ 1000) (hw : wt row ≤ 100000) :
    ls.length ≤ 1000 ∧ (∀ l ∈ ls, l ≠ []) ∧ (∀ l ∈ ls, l.length ≤ row.length) ∧ (∀ l ∈ ls, wt l ≤ 100000) ∧ (∀ l ∈ ls, (thing l).length + 1 ≤ wt l) ∧ (∀ l ∈ ls, (tbytes l).size ≤ 1000000) ∧ wt ls.flatten ≤ 100000 := by
  have hfl := items_flat_eq hI
  have hne := items_ne hI
  have h1 : ∀ l ∈ ls, l ≠ [] := fun l hl e => hne (e ▸ hl)
  have h2 : ∀ l ∈ ls, l.length ≤ row.length := fun l hl => items_len (row := row) (l := l) (by rw [hI]; exact hl)
  have h3 : ∀ l ∈ ls, wt l ≤ 100000 := fun l hl => by
    have h1 : wt l ≤ (ls.map wt).sum := le_sum (List.mem_map_of_mem hl)
    rw [← wt_flat, hfl] at h1
    omega
  have h4 : ∀ l ∈ ls, (thing l).length + 1 ≤ wt l := fun l hl => thing_wt l.length l (Nat.le_refl _) (h1 l hl)
  refine ⟨Nat.le_trans (items_bound' hI) hn, h1, h2, h3, h4, fun l hl => ?_, by rw [hfl]; exact hw⟩
  show (thing l).toArray.size ≤ 1000000
  rw [List.size_toArray]
  have := h3 l hl
  have := h4 l hl
  omega
section
variable {w0 : World} {cap : Nat}
def ThingAll (n : Nat) : Prop := ∀ l : List Sx, l.length ≤ n → l ≠ [] → l.length ≤ 1000 → wt l ≤ 100000 → ∀ q c w1, l.length ≤ c → SxArg w1 q l → Calls Try.prog 45 #[.slice q l.length c] w1 (SaidOut w1 l)
set_option maxRecDepth 100000 in
set_option maxHeartbeats 1000000 in
theorem refThing_snoc (init : List Sx) (x : Sx) {b off : Nat} (hn : init.length + 1 ≤ 1000) (hcap : init.length + 1 ≤ cap) (hw : wt (init ++ [x]) ≤ 100000) (hb0 : b < w0.heap.size) (ht : SxAt w0 b off (init ++ [x])) (IH : ThingAll init.length) :
    Calls Try.prog 45 #[.slice (some ⟨b, off, none⟩) (init.length + 1) cap] w0 (SaidOut w0 (init ++ [x])) := by
  have c2 := (ht init.length x (by simp)).2.2
  have C1 := Lib.hid (refItems_rows (w0 := w0) (cap := cap) (p := some ⟨b, off, none⟩) init (by omega) (by omega) (fun _ => ⟨b, off, rfl, hb0, fun k y hk => ht k y (by rw [List.getElem?_append_left (List.getElem?_eq_some_iff.1 hk).1]; exact hk)⟩))
  have hfacts : ((itemsGo init).getD []).length ≤ 1000 ∧ (∀ k, (sofar [40] 32 (((itemsGo init).getD []).take k)).size ≤ 1000000) ∧ (∀ l ∈ (itemsGo init).getD [], (tbytes l).size ≤ 1000000) ∧ (∀ l ∈ (itemsGo init).getD [], ∀ q c w1, l.length ≤ c → SxArg w1 q l → Calls Try.prog 45 #[.slice q l.length c] w1 (SaidOut w1 l)) := by
    cases hI : itemsGo init with
    | none =>
      refine ⟨by simp, fun k => ?_, fun l hl => by simp at hl, fun l hl => by simp at hl⟩
      have := sofar_size [40] 32 (ls := []) (fun l hl => by simp at hl) k
      simp [wt] at this ⊢
      omega
    | some ls =>
      rw [wt_app] at hw
      obtain ⟨f1, f2, f3, f4, f5, f6, f7⟩ := items_facts hI (by omega) (by omega)
      refine ⟨f1, fun k => ?_, f6, fun l hl q c w1 hc hs => IH l (f3 l hl) (f2 l hl) (by have := f3 l hl; omega) (f4 l hl) q c w1 hc hs⟩
      have := sofar_size [40] 32 f5 k
      simp only [Option.getD_some, List.length_cons, List.length_nil] at this ⊢
      omega
  have hT : tbytes (init ++ [x]) = if x.word.size = 0 then sofar [40] 32 ((itemsGo init).getD []) ++ ⟨#[41]⟩ else x.word := by
    unfold tbytes
    rw [thing_snoc]
    split
    · apply ByteArray.ext
      simp [sofar, ByteArray.data_append]
    · simp
  obtain ⟨f1, f2, f3, f4⟩ := hfacts
  unfold SaidOut
  generalize tbytes (init ++ [x]) = R at *
  generalize (itemsGo init).getD [] = ls at *
  have hfin : (sofar [40] 32 ls).size ≤ 1000000 := by have := f2 ls.length; rwa [List.take_length] at this
  have HT := Lib.hid hT
  have HL := Lib.hid (fun w1 p c (hr : RowsArg w1 p ls) m a w h => tg_rounds (w0 := w1) (cap := c) [40] ls (by omega) f2 f3 hr (fun l hl q c w1 _ hc hs => f4 l hl q c w1 hc hs) m a w h)
  clear hT IH ht hw f2 f3 f4
  have a1 : (init.length : Int) ≤ cap := by omega
  have a2 : (init.length : Int) < (init.length : Int) + 1 := by omega
  have a3 : (0 : Int) ≤ init.length := by omega
  have a4 : (init.length : Int) + 1 ≤ 1000 := by omega
  obtain ⟨xm, xp, xw⟩ := x
  simp only at c2 HT
  by_cases hB : xw.size = 0
  · have e0 : xw = ⟨#[]⟩ := ByteArray.ext (Array.eq_empty_of_size_eq_zero hB)
    subst e0
    have HT2 := Lib.hid (HT.out.trans (if_pos rfl))
    clear hB HT
    go_enter Try.func45, Try.ntmps45
    go_wp2_with fail
    refine C1.out.mono ?_
    rintro e w1 ⟨p, c, rfl, hr, hU1⟩
    have HL2 := Lib.hid (HL.out w1 p c hr)
    have HU1 := Lib.hid hU1
    clear hr hU1 C1 HL
    go_wp2
    rename_i K hK
    have e0 : (⟨#[40]⟩ : ByteArray) = sofar [40] 32 (ls.take 0) := rfl
    refine wp_mono (HL2.out ls.length _ _ ⟨0, rfl, by rw [← e0]; exact ⟨_, pframe_ex (F := tgFrame _ _ 0) (by rfl), under_refl' _⟩⟩) ?_
    rintro e a' w' ⟨rfl, J, rfl, hU⟩
    simp only [Exit.inBlock, if_pos, Exit.then]
    refine hK _ _ ?_
    have HU := Lib.hid hU
    clear hU e0
    unfold tgFrame
    go_wp2
    go_ret
    exact ⟨by rw [HT2.out]; rfl, HU1.out.trans HU.out⟩
  · obtain ⟨e1, e2⟩ := toList_ne hB
    have HT2 := Lib.hid (HT.out.trans (if_neg hB))
    clear hB HT C1 HL
    go_enter Try.func45, Try.ntmps45
    go_wp2
    go_ret
    exact ⟨by rw [HT2.out]; rfl, under_refl' _⟩
theorem refThing_all : ∀ n, ThingAll n := by
  intro n
  induction n with
  | zero => intro l h hne; exact absurd (List.length_eq_zero_iff.1 (by omega)) hne
  | succ n ih =>
    intro l hl hne hn hw q c w1 hc hs
    obtain ⟨init, x, rfl⟩ := snoc_of hne
    obtain ⟨b, off, rfl, hb0, ht⟩ := hs hne
    rw [List.length_append, List.length_singleton] at hl hn hc ⊢
    exact refThing_snoc init x hn hc hw hb0 ht fun l h1 h2 h3 h4 q c w1 hc hs => ih l (by omega) h2 h3 h4 q c w1 hc hs
set_option maxRecDepth 100000 in
set_option maxHeartbeats 1000000 in
theorem refPrint_any (row : List Sx) {p : Option Addr} (hn : row.length ≤ 1000) (hw : wt row ≤ 100000) (hcap : row.length ≤ cap) (hp : SxArg w0 p row) :
    Calls Try.prog 35 #[.slice p row.length cap] w0 (PrintOut w0 row) := by
  have C1 := Lib.hid (refItems_rows (w0 := w0) (cap := cap) row (by omega) hcap hp)
  have HF := Lib.hid (fun ls (h : itemsGo row = some ls) => items_facts h hn hw)
  unfold PrintOut printGo
  clear hp hw
  generalize itemsGo row = R at *
  go_enter Try.func35, Try.ntmps35
  go_wp2_with fail
  refine C1.out.mono ?_
  rintro e w1 ⟨q, c, rfl, hr, hU1⟩
  cases R with
  | none =>
    simp only [Option.getD_none, Option.isSome_none]
    have HU1 := Lib.hid hU1
    clear hU1 C1 HF hr
    go_wp2
    go_ret2
    exact ⟨rfl, HU1.out⟩
  | some ls =>
    simp only [Option.getD_some, Option.isSome_some] at hr ⊢
    obtain ⟨f1, f2, f3, f4, f5, f6, f7⟩ := HF.out ls rfl
    have hj : ∀ k, (sofar [] 10 (ls.take k)).size ≤ 1000000 := fun k => by
      have := sofar_size [] 10 f5 k
      simp only [List.length_nil] at this
      omega
    have HL := Lib.hid (fun m a w h => rpx_rounds (w0 := w1) (cap := c) [] ls (by omega) hj f6 hr (fun l hl q c w1 _ hc hs => refThing_all l.length l (Nat.le_refl _) (f2 l hl) (by have := f3 l hl; omega) (f4 l hl) q c w1 hc hs) m a w h)
    have HU1 := Lib.hid hU1
    clear hU1 C1 HF hr f2 f3 f4 f5 f6 f7 hj
    go_wp2
    rename_i K hK
    have e0 : (⟨#[]⟩ : ByteArray) = sofar [] 10 (ls.take 0) := rfl
    refine wp_mono (HL.out ls.length _ _ ⟨0, rfl, by rw [← e0]; exact ⟨_, pframe_ex (F := rpxFrame _ _ 0) (by rfl), under_refl' _⟩⟩) ?_
    rintro e a' w' ⟨rfl, J, rfl, hU⟩
    simp only [Exit.inBlock, if_pos, Exit.then]
    refine hK _ _ ?_
    have HU := Lib.hid hU
    clear hU e0
    unfold rpxFrame
    go_wp2
    go_ret2
    exact ⟨rfl, HU1.out.trans HU.out⟩
end
end Go.Proofs.Ytjnoffgclibfaaa
