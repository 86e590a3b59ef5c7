/- surface.joined: its contract, and said's. -/
import Derived.Test.YtjnoffgclibfaaaJoined
set_option linter.unusedSimpArgs false
set_option linter.unusedVariables false
namespace Go.Proofs.Ytjnoffgclibfaaa
open Go.Conc Go.Lx Go.RowKit

def KI (w0 : World) (by' : ByteArray) (l : Value) (ls : List (List Sx)) (m : Nat) (a : Act) (w : World) : Prop := ∃ k, m + k = ls.length ∧ KNext w0 by' l jdFn ls.length k (ls.take k) a w
def KEnd (w0 : World) (by' : ByteArray) (l : Value) (ls : List (List Sx)) (e : Exit) (a : Act) (w : World) : Prop := e = .exit 0 ∧ KNext w0 by' l jdFn ls.length ls.length ls a w
theorem under_refl' (w : World) : Under w w := ⟨rfl, rfl, Nat.le_refl _, fun _ _ => rfl⟩
theorem wrap_bytes (a b : UInt8) (l : List UInt8) : (⟨#[a]⟩ ++ (⟨l.toArray⟩ : ByteArray) ++ ⟨#[b]⟩ : ByteArray) = ⟨(a :: (l ++ [b])).toArray⟩ := by
  apply ByteArray.ext
  simp [ByteArray.data_append]
/-- said, at each of these rows. -/
def SaidAll (w0 : World) (ls : List (List Sx)) : Prop := ∀ l ∈ ls, ∀ q c w1, Under w0 w1 → l.length ≤ c → SxArg w1 q l → Calls Try.prog 51 #[.slice q l.length c] w1 (SaidOut w1 l)
section
variable {w0 : World} {cap : Nat} {by' : ByteArray}
theorem jd_rounds (ls : List (List Sx)) {p : Option Addr} (hn : ls.length ≤ 1000000) (hp : RowsArg w0 p ls) (IH : SaidAll w0 ls) (m : Nat) (a : Act) (w : World) (h0 : KI w0 by' (.slice p ls.length cap) ls m a w) :
    (Code.loop jdRound).wp Try.prog (KEnd w0 by' (.slice p ls.length cap) ls) a w := by
  refine wp_loop_ghost _ m h0 ?_
  clear h0
  rintro m a w ⟨k, hmk, vs, J, rfl, hown, hU⟩
  by_cases hkn : k = ls.length
  · subst hkn
    refine wp_mono (jd_done J w) ?_
    rintro e a' w' h
    cases e with
    | normal => exact h.elim
    | _ =>
      obtain ⟨h1, J', rfl, rfl⟩ := h
      rw [List.take_length] at hown
      exact ⟨h1, vs, J', rfl, hown, hU⟩
  have hlt : k < ls.length := by omega
  obtain ⟨b, off, rfl, hb, h1⟩ := hp (fun e => by rw [e] at hlt; exact absurd hlt (Nat.not_lt_zero _))
  obtain ⟨q, c, c1, hc, s1⟩ := h1 k ls[k] (List.getElem?_eq_getElem hlt)
  refine wp_mono (jd_one (cap := cap) hlt hn (by rw [List.length_take]; omega) J w hown hU hb c1 (fun w1 hU1 => IH _ (List.getElem_mem hlt) q c w1 hU1 hc (s1.under hU1))) ?_
  rintro e a' w' h
  cases e with
  | normal => exact ⟨m - 1, by omega, k + 1, by omega, by rw [List.take_succ_eq_append_getElem hlt]; exact h⟩
  | _ => exact h.elim
theorem under_below {w w' : World} (h : Below w.heap.size w w') : Under w w' := ⟨h.os, h.output, h.size, fun b hb => h.block b hb⟩
def jbytes (ls : List (List Sx)) (by' : ByteArray) : ByteArray := ⟨(joinB (ls.map thing) by'.data.toList).toArray⟩
theorem join_call (ls : List (List Sx)) {vs : Value} {w : World} (hn : ls.length ≤ 1000000) (hj : (joinB (ls.map thing) by'.data.toList).length ≤ 1000000) (hown : w.ownsRow w0.heap.size 9 1 vs ls.length (strCells ls)) :
    ∃ q c, vs = .slice q ls.length c ∧ Calls Try.prog 52 #[.slice q ls.length c, .string by'] w fun e w' => e = .returned (.string (jbytes ls by')) ∧ Under w w' := by
  rcases hown.2 with ⟨rfl, h0⟩ | ⟨g, cap, cur, rfl, hb, hg, hc, _⟩
  · have e := List.length_eq_zero_iff.1 h0
    subst e
    refine ⟨none, 0, rfl, (Try.strings_Join_none none 0 by' w).mono ?_⟩
    rintro e w' ⟨rfl, rfl⟩
    exact ⟨rfl, ⟨rfl, rfl, Nat.le_refl _, fun _ _ => rfl⟩⟩
  · refine ⟨_, cap, rfl, ?_⟩
    have hm : (ls.map tbytes).map (·.data.toList) = ls.map thing := by
      rw [List.map_map]
      refine List.map_congr_left fun l _ => ?_
      simp [tbytes]
    have := Try.strings_Join g 0 cap (ls.map tbytes) by' w (fun j x hj => by
      rw [Nat.zero_add]
      refine row_cell hown rfl ?_
      rw [List.getElem?_map] at hj
      unfold strCells
      rw [List.getElem?_map]
      cases hl : ls[j]? with
      | none => rw [hl] at hj; cases hj
      | some l => rw [hl] at hj; cases hj; rfl) (Array.getElem?_eq_some_iff.1 hg).1 (by rw [List.length_map]; omega) (by rw [List.length_map]; exact hc) (by rw [hm]; exact Nat.le_trans hj (by decide))
    rw [List.length_map, hm] at this
    refine this.mono ?_
    rintro e w' ⟨rfl, hB⟩
    exact ⟨rfl, under_below hB⟩
set_option maxRecDepth 100000 in
set_option maxHeartbeats 1000000 in
theorem joined_of (ls : List (List Sx)) {p : Option Addr} (hn : ls.length ≤ 1000000) (hj : (joinB (ls.map thing) by'.data.toList).length ≤ 1000000) (hp : RowsArg w0 p ls) (IH : SaidAll w0 ls) :
    Calls Try.prog 44 #[.string by', .slice p ls.length cap] w0 fun e w' => e = .returned (.string (jbytes ls by')) ∧ Under w0 w' := by
  have HL := Lib.hid (fun m a w h => jd_rounds (w0 := w0) (by' := by') (cap := cap) ls hn hp IH m a w h)
  have HJ := Lib.hid (fun vs w h => join_call (w0 := w0) (by' := by') (vs := vs) (w := w) ls hn hj h)
  clear hp IH hj
  go_enter Try.func44, Try.ntmps44
  go_wp2
  rename_i K hK
  refine wp_mono (HL.out ls.length _ _ ⟨0, rfl, .slice none 0 0, _, pframe_ex (F := jdFrame _ _ _ _ _ 0) (by rfl), row_nil _ _ _ _, ⟨rfl, rfl, Nat.le_refl _, fun _ _ => rfl⟩⟩) ?_
  rintro e a' w' ⟨rfl, vs, J, rfl, hown, hU⟩
  simp only [Exit.inBlock, if_pos, Exit.then]
  refine hK _ _ ?_
  obtain ⟨q, c, rfl, hc⟩ := HJ.out vs w' hown
  have HU := Lib.hid hU
  have HC := Lib.hid hc
  clear hU hc hown
  unfold jdFrame
  go_wp2_with fail
  refine HC.out.mono ?_
  rintro e w1 ⟨rfl, hU1⟩
  have HU1 := Lib.hid hU1
  clear hU1
  go_wp2
  go_ret
  exact ⟨rfl, HU.out.trans HU1.out⟩

set_option maxRecDepth 100000 in
set_option maxHeartbeats 1000000 in
theorem said_snoc (init : List Sx) (x : Sx) {b off : Nat} (hn : init.length + 1 ≤ 1000) (hcap : init.length + 1 ≤ cap) (hw : wt (init ++ [x]) ≤ 100000) (hb0 : b < w0.heap.size) (ht : SxAt w0 b off (init ++ [x]))
    (IH : ∀ l, l ≠ [] → l.length ≤ init.length → wt l ≤ 100000 → ∀ q c w1, l.length ≤ c → SxArg w1 q l → Calls Try.prog 51 #[.slice q l.length c] w1 (SaidOut w1 l)) :
    Calls Try.prog 51 #[.slice (some ⟨b, off, none⟩) (init.length + 1) cap] w0 (SaidOut w0 (init ++ [x])) := by
  have c2 := (ht init.length x (by simp)).2.2
  have C1 : Calls Try.prog 25 #[.slice (some ⟨b, off, none⟩) init.length cap] w0 fun e w1 => ∃ p c t, e = .returned (.tuple #[.slice p ((itemsGo init).getD []).length c, .bool t]) ∧ RowsArg w1 p ((itemsGo init).getD []) ∧ Under w0 w1 := by
    refine (items_any (w0 := w0) (cap := cap) (p := some ⟨b, off, none⟩) init (by omega) (by omega) (fun _ => ⟨b, off, rfl, hb0, fun k y hk => ht k y (by rw [List.getElem?_append_left (List.getElem?_eq_some_iff.1 hk).1]; exact hk)⟩)).mono ?_
    rintro e w1 ⟨hU1, h⟩
    cases hI : itemsGo init with
    | none => rw [hI] at h; exact ⟨none, 0, false, h, fun h => absurd rfl h, hU1⟩
    | some ls =>
      rw [hI] at h
      obtain ⟨vo, vs, rfl, h1, h2⟩ := h
      obtain ⟨p, c, rfl, h3⟩ := rows_arg h1 h2
      exact ⟨p, c, true, rfl, h3, hU1⟩
  have C2 : ∀ w1 p c, RowsArg w1 p ((itemsGo init).getD []) → Calls Try.prog 44 #[.string ⟨#[32]⟩, .slice p ((itemsGo init).getD []).length c] w1 fun e w' => e = .returned (.string (jbytes ((itemsGo init).getD []) ⟨#[32]⟩)) ∧ Under w1 w' := by
    intro w1 p c hp
    cases hI : itemsGo init with
    | none => exact joined_of [] (by simp) (by simp [joinB, List.intercalate]) (fun h => absurd rfl h) (fun l hl => by simp at hl)
    | some ls =>
      rw [hI] at hp
      simp only [Option.getD_some] at hp ⊢
      rw [wt_app] at hw
      have hfl := items_flat_eq hI
      have hne := items_ne hI
      have hwl : ∀ l ∈ ls, wt l ≤ 100000 := fun l hl => by
        have h1 : wt l ≤ (ls.map wt).sum := le_sum (List.mem_map_of_mem hl)
        rw [← wt_flat, hfl] at h1
        omega
      have hil : ∀ l ∈ ls, l.length ≤ init.length := fun l hl => items_len (row := init) (l := l) (by rw [hI]; exact hl)
      have hnl : ∀ l ∈ ls, l ≠ [] := fun l hl e => hne (e ▸ hl)
      refine joined_of ls (by have := (items_bound' hI); omega) ?_ hp (fun l hl q c w1 _ hc hs => IH l (hnl l hl) (hil l hl) (hwl l hl) q c w1 hc hs)
      have := join_wt (ls := ls) (fun l hl => thing_wt l.length l (Nat.le_refl _) (hnl l hl)) 32
      rw [hfl] at this
      exact Nat.le_trans this (by omega)
  have hT : tbytes (init ++ [x]) = if x.word.size = 0 then ⟨(40 :: (joinB (((itemsGo init).getD []).map thing) [32] ++ [41])).toArray⟩ else x.word := by
    unfold tbytes
    rw [thing_snoc]
    split
    · rfl
    · simp
  have hjl : (jbytes ((itemsGo init).getD []) ⟨#[32]⟩).size ≤ 100000 := by
    show (joinB (((itemsGo init).getD []).map thing) [32]).toArray.size ≤ 100000
    rw [List.size_toArray]
    cases hI : itemsGo init with
    | none => simp [joinB, List.intercalate]
    | some ls =>
      have hne := items_ne hI
      have := join_wt (ls := ls) (fun l hl => thing_wt l.length l (Nat.le_refl _) (fun e => hne (e ▸ hl))) 32
      rw [items_flat_eq hI] at this
      rw [wt_app] at hw
      exact Nat.le_trans this (by omega)
  unfold SaidOut
  have HT := Lib.hid hT
  have C1 := Lib.hid C1
  have C2 := Lib.hid C2
  clear hT IH ht hw
  generalize tbytes (init ++ [x]) = R at *
  generalize (itemsGo init).getD [] = ls at *
  have a1 : (init.length : Int) ≤ cap := by omega
  have a2 : (init.length : Int) < (init.length : Int) + 1 := by omega
  have a3 : (0 : Int) ≤ init.length := by omega
  have a4 : (init.length : Int) + 1 ≤ 1000 := by omega
  obtain ⟨xm, xp, xw⟩ := x
  simp only at c2 HT
  by_cases hB : xw.size = 0
  · have e0 : xw = ⟨#[]⟩ := ByteArray.ext (Array.eq_empty_of_size_eq_zero hB)
    subst e0
    have HT2 := Lib.hid (HT.out.trans (if_pos rfl))
    clear hB HT
    go_enter Try.func51, Try.ntmps51
    go_wp2_with fail
    refine C1.out.mono ?_
    rintro e w1 ⟨p, c, t, rfl, hr, hU1⟩
    have HC2 := Lib.hid (C2.out w1 p c hr)
    have HU1 := Lib.hid hU1
    clear hr hU1 C1 C2
    go_wp2_with fail
    refine HC2.out.mono ?_
    rintro e w2 ⟨rfl, hU2⟩
    have HU2 := Lib.hid hU2
    clear hU2
    go_wp2
    go_ret
    exact ⟨by rw [HT2.out]; exact congrArg (fun z => Ending.returned (.string z)) (wrap_bytes _ _ _), HU1.out.trans HU2.out⟩
  · obtain ⟨e1, e2⟩ := toList_ne hB
    have HT2 := Lib.hid (HT.out.trans (if_neg hB))
    clear hB HT C1 C2
    go_enter Try.func51, Try.ntmps51
    go_wp2
    go_ret
    exact ⟨by rw [HT2.out]; rfl, under_refl' _⟩
theorem said_any : ∀ (n : Nat) (l : List Sx), l.length ≤ n → l ≠ [] → l.length ≤ 1000 → wt l ≤ 100000 → ∀ q c w1, l.length ≤ c → SxArg w1 q l → Calls Try.prog 51 #[.slice q l.length c] w1 (SaidOut w1 l) := by
  intro n
  induction n with
  | zero => intro l h hne; exact absurd (List.length_eq_zero_iff.1 (by omega)) hne
  | succ n ih =>
    intro l hl hne hn hw q c w1 hc hs
    obtain ⟨init, x, rfl⟩ := snoc_of hne
    obtain ⟨b, off, rfl, hb0, ht⟩ := hs hne
    rw [List.length_append, List.length_singleton] at hl hn hc ⊢
    exact said_snoc init x hn hc hw hb0 ht fun l h1 h2 h3 q c w1 hc hs => ih l (by omega) h1 (by omega) h3 q c w1 hc hs
theorem joined_any (row : List Sx) {ls : List (List Sx)} {p : Option Addr} (hI : itemsGo row = some ls) (hn : row.length ≤ 1000) (hw : wt row ≤ 100000) (c : UInt8) (hp : RowsArg w0 p ls) :
    Calls Try.prog 44 #[.string ⟨#[c]⟩, .slice p ls.length cap] w0 fun e w' => e = .returned (.string (jbytes ls ⟨#[c]⟩)) ∧ Under w0 w' := by
  have hfl := items_flat_eq hI
  have hne := items_ne hI
  have hwl : ∀ l ∈ ls, wt l ≤ 100000 := fun l hl => by
    have h1 : wt l ≤ (ls.map wt).sum := le_sum (List.mem_map_of_mem hl)
    rw [← wt_flat, hfl] at h1
    omega
  have hil : ∀ l ∈ ls, l.length ≤ row.length := fun l hl => items_len (row := row) (l := l) (by rw [hI]; exact hl)
  have hnl : ∀ l ∈ ls, l ≠ [] := fun l hl e => hne (e ▸ hl)
  refine joined_of ls (by have := (items_bound' hI); omega) ?_ hp (fun l hl q c w1 _ hc hs => said_any l.length l (Nat.le_refl _) (hnl l hl) (Nat.le_trans (hil l hl) hn) (hwl l hl) q c w1 hc hs)
  have := join_wt (ls := ls) (fun l hl => thing_wt l.length l (Nat.le_refl _) (hnl l hl)) c
  rw [hfl] at this
  exact Nat.le_trans this (by omega)
/-- What Print answers. -/
def printGo (row : List Sx) : ByteArray × Int := match itemsGo row with
  | none => (⟨#[]⟩, 20)
  | some ls => (jbytes ls ⟨#[10]⟩, 0)
def PrintOut (w0 : World) (row : List Sx) (e : Ending) (w' : World) : Prop := e = .returned (.tuple #[.string (printGo row).1, .int .i64 (printGo row).2]) ∧ Under w0 w'
set_option maxRecDepth 100000 in
set_option maxHeartbeats 1000000 in
theorem print_any (row : List Sx) {p : Option Addr} (hn : row.length ≤ 1000) (hw : wt row ≤ 100000) (hcap : row.length ≤ cap) (hp : SxArg w0 p row) :
    Calls Try.prog 34 #[.slice p row.length cap] w0 (PrintOut w0 row) := by
  have C1 := Lib.hid (items_any (w0 := w0) (cap := cap) row (by omega) hcap hp)
  have C2 := Lib.hid (fun ls (h : itemsGo row = some ls) w1 p c (hr : RowsArg w1 p ls) => joined_any (w0 := w1) (cap := c) row h hn hw 10 hr)
  unfold PrintOut printGo
  clear hp hw
  generalize itemsGo row = R at *
  go_enter Try.func34, Try.ntmps34
  go_wp2_with fail
  refine C1.out.mono ?_
  rintro e w1 ⟨hU1, h⟩
  cases R with
  | none =>
    subst h
    have HU1 := Lib.hid hU1
    clear hU1 C1 C2
    go_wp2
    go_ret2
    exact ⟨rfl, HU1.out⟩
  | some ls =>
    obtain ⟨vo, vs, rfl, h1, h2⟩ := h
    obtain ⟨q, c, rfl, h3⟩ := rows_arg h1 h2
    have HC := Lib.hid (C2.out ls rfl w1 q c h3)
    have HU1 := Lib.hid hU1
    clear hU1 C1 C2 h1 h2 h3
    go_wp2_with fail
    refine HC.out.mono ?_
    rintro e w2 ⟨rfl, hU2⟩
    have HU2 := Lib.hid hU2
    clear hU2 HC
    go_wp2
    go_ret2
    exact ⟨rfl, HU1.out.trans HU2.out⟩
end
end Go.Proofs.Ytjnoffgclibfaaa
