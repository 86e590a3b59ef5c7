/- Part 14 of what the proof rests on. -/
import Derived.Conc.LeavingOf
import Derived.SevenTiedAt
import Derived.Test.YtkmbmgmfcecfkaaDoorK01
import Derived.Test.YtkmbmgmfcecfkaaDoorK13
set_option linter.unusedSimpArgs false
set_option linter.unusedVariables false
namespace Go.Lx
theorem nameK_size {s : ByteArray} (h : nameK s = true) : s.size ≤ 16 := by
  unfold nameK nameB at h
  simp at h
  omega
theorem wordS_names {cs : List ByteArray} {p : Int} {s : ByteArray} {st : List ByteArray} {t : List Nd} (h : wordS cs p s st = .ok t) : ∀ x ∈ t, x.s.size ≤ 16 := by
  unfold wordS at h
  split at h
  · cases h; intro x hx; rw [List.mem_singleton.1 hx]; exact Nat.zero_le _
  · split at h
    · rename_i hk
      split at h
      · split at h
        · cases h
        · cases h; intro x hx; rw [List.mem_singleton.1 hx]; exact Nat.zero_le _
      · split at h
        · cases h; intro x hx; rw [List.mem_singleton.1 hx]; exact nameK_size hk
        · cases h
    · cases h
theorem goS_names {cs ds : List ByteArray} : ∀ (ks : List PK) (ys : List ST) (x : Nd) (nms st : List ByteArray) (acc t : List Nd), (∀ y ∈ ys, ∀ st t, sayS cs ds y st = .ok t → ∀ z ∈ t, z.s.size ≤ 16) → x.s.size ≤ 16 → (∀ z ∈ acc, z.s.size ≤ 16) → goS cs ds ks ys x nms st acc = .ok t → ∀ z ∈ t, z.s.size ≤ 16
  | [], ys, x, nms, st, acc, t, _, hx, ha, h => by
    have : goS cs ds [] ys x nms st acc = .ok (acc ++ [x]) := by cases ys <;> simp [goS]
    rw [this] at h
    cases h
    intro z hz
    rcases List.mem_append.1 hz with hz | hz
    · exact ha z hz
    · rw [List.mem_singleton.1 hz]; exact hx
  | k :: ks, [], x, nms, st, acc, t, _, hx, ha, h => by
    have : goS cs ds (k :: ks) [] x nms st acc = .ok (acc ++ [x]) := by cases k <;> simp [goS]
    rw [this] at h
    cases h
    intro z hz
    rcases List.mem_append.1 hz with hz | hz
    · exact ha z hz
    · rw [List.mem_singleton.1 hz]; exact hx
  | k :: ks, y :: ys, x, nms, st, acc, t, hy, hx, ha, h => by
    have hy' : ∀ z ∈ ys, ∀ st t, sayS cs ds z st = .ok t → ∀ z ∈ t, z.s.size ≤ 16 := fun z hz => hy z (List.mem_cons_of_mem _ hz)
    cases k with
    | nm =>
      rw [goS] at h
      split at h
      · exact goS_names ks ys _ _ _ _ _ hy' hx ha h
      · cases h
    | nu =>
      rw [goS] at h
      split at h
      · split at h
        · refine goS_names ks ys _ _ _ _ _ hy' ?_ ha h
          exact hx
        · cases h
      · cases h
    | da =>
      rw [goS] at h
      split at h
      · rename_i hk
        split at h
        · refine goS_names ks ys _ _ _ _ _ hy' ?_ ha h
          exact nameK_size hk
        · cases h
      · cases h
    | te w =>
      rw [goS] at h
      split at h
      · rename_i u hu
        refine goS_names ks ys _ _ _ _ _ hy' hx (fun z hz => ?_) h
        rcases List.mem_append.1 hz with hz | hz
        · exact ha z hz
        · exact hy y List.mem_cons_self _ _ hu z hz
      · cases h
theorem sayS_names {cs ds : List ByteArray} (T : ST) : ∀ st t, sayS cs ds T st = .ok t → ∀ z ∈ t, z.s.size ≤ 16 := by
  induction T using ST.rec (motive_2 := fun l => ∀ a ∈ l, ∀ st t, sayS cs ds a st = .ok t → ∀ z ∈ t, z.s.size ≤ 16) with
  | word p s =>
    intro st t h
    rw [sayS] at h
    exact wordS_names h
  | list p l ih =>
    intro st t h
    rw [sayS] at h
    cases l with
    | nil => rw [listS] at h; cases h
    | cons a l =>
      rw [listS] at h
      split at h
      · cases h
      · split at h
        · exact goS_names _ _ _ _ _ _ _ (fun y hy => ih y (List.mem_cons_of_mem _ hy)) (Nat.zero_le _) (fun z hz => by cases hz) h
        · cases h
  | nil => rename_i a ha st t h z hz; cases ha
  | cons a l iha ihl =>
    rename_i b hb st t h z hz
    rcases List.mem_cons.1 hb with rfl | hb
    · exact iha st t h z hz
    · exact ihl b hb st t h z hz
def termS (cs ds : List ByteArray) (T : ST) : Say := match sayS cs ds T [] with
  | .error x => .error x
  | .ok t => if checkE t = 0 then .ok t else .error (checkE t, T.last.pos)
end Go.Lx
namespace Go.Lx
open Go Go.Conc
variable {H : Type} {enc : TypeId × Value → H}
theorem leavingWide_and {a : Assume} {C : Checked} {os : Os} {f : FuncId} {fn : Func} {s : ChangeSpec} {conds : List PathCond} {apart fresh handsOn again : Bool} {X : World → Array Value → Prop}
    (hX : ∀ (w w' : World) (args : Array Value), w.heap = w'.heap → X w args → X w' args)
    (own : ownKnob C.prog.godebug = none) (started : os.Started) (hfn : C.prog.funcs[f]? = some fn)
    (witness : ∃ (w : World) (tape : Tape) (i : Input), w.os = os ∧ (w.forCall tape i).Shaped C.prog ∧ i.vars = [] ∧ Input.okWide C.prog (w.forCall tape i) .any w.heap.size f i ∧
      ((s.pre enc C.prog fn conds apart (w.forCall tape i).memory i.args ∧ X (w.forCall tape i).memory i.args) ∧ sizedMet enc C.prog fn (OpenSpec.ofChange s) apart (w.forCall tape i).memory i.args) ∧ a.holds C.prog (lone (Frame.enter C.prog f i.args .normal) [] (w.forCall tape i)))
    (runs : ∀ (W : World) (base : Nat) (args : Array Value) (ds gs : List (DataW H)) (before : List MemPlace),
      (∀ (j : Nat) t v, fn.params[j]? = some t → args[j]? = some v → Value.okWide C.prog W .any base t v) →
      DataW.Whole enc C.prog fn.params.toList s.vars apart W args.toList ds gs before →
      conds.all (PathCond.test C.prog ⟨fn.params.toList, ds, s.plain.varTypes C.prog, gs⟩) = true →
      (DataW.weightsEach C.prog (fn.params.toList ++ s.plain.varTypes C.prog) (ds ++ gs)).all (· ≤ reachBytes) = true → X W args →
      a.holds C.prog (lone (Frame.enter C.prog f args .normal) [] W) →
      ∃ M last o w' t', runNT C.prog (M + 1) (solo (G (Frame.enter C.prog f args .normal) []) W) #[] = (.ended o w', t') ∧ runN C.prog M (solo (G (Frame.enter C.prog f args .normal) []) W) = .next last ∧
        step C.prog last = .ended o w' ∧ Conc.Good C.prog (fun v W' => s.post enc C.prog fn apart fresh handsOn again W args v W') last o w' t') :
    ReturnsInLeavingWide a C os f .any (fun w args => (s.pre enc C.prog fn conds apart w args ∧ X w args) ∧ sizedMet enc C.prog fn (OpenSpec.ofChange s) apart w args) (s.post enc C.prog fn apart fresh handsOn again) := by
  refine returnsInLeavingWide_of_good own started witness ?_
  intro w tape i _ _ _ hok hpre hholds
  obtain ⟨_, _, _, fn', hfn', _, _, _, _, hval⟩ := hok
  have e : fn' = fn := Option.some.inj (hfn'.symm.trans hfn)
  subst e
  obtain ⟨⟨⟨ds, gs, before, hw, hc⟩, hx⟩, hz⟩ := hpre
  have hw' := DataW.Whole.of_heap (w' := w.forCall tape i) (by rfl) hw
  obtain ⟨M, last, o, w', t', h1, h2, h3, h4⟩ := runs (w.forCall tape i) w.heap.size i.args ds gs before hval hw' hc (hz.weights hw) (hX _ _ _ (by rfl) hx) hholds
  exact ⟨M, last, o, w', t', h1, h2, h3, h4.mono fun v hp => ChangeSpec.post_blind hp⟩
end Go.Lx
namespace Go.Lx
open Go
theorem holds_tied_goes (Lk : Looks) {p : Pinned} {s : OpenSpec} {c : OpenClaim} (kinds : List LaidKind) (tests : Bool) (har : Bool × String) (lk goes : Bool)
    (hc : c.holds p s) (hw : c.wfByText s = true) (htie : c.laidByTextAt Lk p kinds tests)
    (hst : c.start = .entering) (hnb : c.noBlocks = false ∧ c.again = false) (hm : p.checked.prog.mainIs = some (har.1, har.2.toList)) (hn : (!har.1 && har.2.isEmpty && !lk) = false)
    (hl : ∀ f fn, p.checked.prog.funcNamed c.func = some f → p.checked.prog.funcs[f]? = some fn → lk = p.checked.prog.looks [] ∧ ∀ (j : Nat) t, fn.params[j]? = some t → p.checked.prog.wantsStandIn t = false)
    (hg : goes = c.goesBy p.checked.prog) :
    Claim7.holds p (.plain s) { stood := { row := c, standIns := [], harness := har, looks := lk }, kinds := [], alts := [], goes := goes, laidByText := true, laidKinds := kinds, laidTests := tests, laidLooks := Lk } := by
  have h6 : ∀ r : OpenClaim, Claim7.isSixth { stood := { row := r, standIns := [], harness := har, looks := lk }, kinds := [] } = false := fun r => by simpa [Claim7.isSixth] using hn
  refine ⟨Claim7.tied_new_at Lk kinds tests (Claim7.new_of_sixth hc har lk hst hnb hm (h6 c) hl) hw, fun D hD => ?_, htie, (fun h => by cases h), hg⟩
  cases hD
end Go.Lx
namespace Go.Lx
inductive SX where
  | w (s : ByteArray)
  | l (xs : List SX)
mutual
def textX : SX → List UInt8
  | .w s => s.data.toList
  | .l xs => 40 :: (textXs xs ++ [41])
def textXs : List SX → List UInt8
  | [] => []
  | a :: l => textX a ++ tailX l
def tailX : List SX → List UInt8
  | [] => []
  | a :: l => 32 :: (textX a ++ tailX l)
end
mutual
def toksX : Nat → SX → List PTok
  | k, .w s => [⟨1, (k : Int), s⟩]
  | k, .l xs => ⟨2, (k : Int), ⟨#[40]⟩⟩ :: (toksXs (k + 1) xs ++ [⟨3, ((k + 1 + (textXs xs).length : Nat) : Int), ⟨#[41]⟩⟩])
def toksXs : Nat → List SX → List PTok
  | _, [] => []
  | k, a :: l => toksX k a ++ toksTl (k + (textX a).length) l
def toksTl : Nat → List SX → List PTok
  | _, [] => []
  | k, a :: l => toksX (k + 1) a ++ toksTl (k + 1 + (textX a).length) l
end
mutual
def posX : Nat → SX → ST
  | k, .w s => .word (k : Int) s
  | k, .l xs => .list (k : Int) (posXs (k + 1) xs)
def posXs : Nat → List SX → List ST
  | _, [] => []
  | k, a :: l => posX k a :: posTl (k + (textX a).length) l
def posTl : Nat → List SX → List ST
  | _, [] => []
  | k, a :: l => posX (k + 1) a :: posTl (k + 1 + (textX a).length) l
end
mutual
def deepX : SX → Nat
  | .w _ => 0
  | .l xs => deepXs xs + 1
def deepXs : List SX → Nat
  | [] => 0
  | a :: l => max (deepX a) (deepXs l)
end
mutual
def okX (p : UInt8 → Bool) : SX → Prop
  | .w s => s.size ≠ 0 ∧ ∀ c ∈ s.data.toList, p c = true
  | .l xs => okXs p xs
def okXs (p : UInt8 → Bool) : List SX → Prop
  | [] => True
  | a :: l => okX p a ∧ okXs p l
end
theorem posTl_len : ∀ (xs : List SX) (k : Nat), (posTl k xs).length = xs.length
  | [], _ => rfl
  | a :: l, k => by simp [posTl, posTl_len l]
theorem posXs_len (xs : List SX) (k : Nat) : (posXs k xs).length = xs.length := by
  cases xs with
  | nil => rfl
  | cons a l => simp [posXs, posTl_len]
theorem posX_ok {p : UInt8 → Bool} (x : SX) : okX p x → ∀ k, okS (posX k x) := by
  induction x using SX.rec (motive_2 := fun l => okXs p l → ∀ k, okSs (posTl k l)) with
  | w s => intro h k; exact h.1
  | l xs ih =>
    intro h k
    unfold posX okS
    cases xs with
    | nil => trivial
    | cons a l =>
      have := ih h k
      simp only [posTl] at this
      exact this
  | nil => rename_i h k; trivial
  | cons a l iha ihl => rename_i h k; exact ⟨iha h.1 _, ihl h.2 _⟩
theorem parse_thing (x : SX) : ∀ (k : Nat) (r : List PTok) (row st : List Sx) (t : Sx), st.length + deepX x ≤ 60 → parseGo (toksX k x ++ r) row st t = parseGo r (row ++ flatS (posX k x)) st ⟨t.many + 1, t.pos, t.word⟩ := by
  induction x using SX.rec (motive_2 := fun l => ∀ (k : Nat) (r : List PTok) (row st : List Sx) (t : Sx), st.length + deepXs l ≤ 60 → parseGo (toksTl k l ++ r) row st t = parseGo r (row ++ flatSs (posTl k l)) st ⟨t.many + l.length, t.pos, t.word⟩) with
  | w s =>
    intro k r row st t _
    unfold toksX posX flatS
    rw [List.singleton_append, parseGo_cons, if_pos rfl]
  | l xs ih =>
    intro k r row st t hd
    unfold deepX at hd
    unfold toksX posX
    rw [flatS, posXs_len, List.cons_append, parseGo_cons, if_neg (show ¬ (2 : Int) = 1 by decide), if_pos (show (2 : Int) = 2 from rfl), if_neg (by omega)]
    have key : parseGo ((toksXs (k + 1) xs ++ [⟨3, ((k + 1 + (textXs xs).length : Nat) : Int), ⟨#[41]⟩⟩]) ++ r) row (t :: st) ⟨0, (k : Int), ⟨#[]⟩⟩ = parseGo (⟨3, ((k + 1 + (textXs xs).length : Nat) : Int), ⟨#[41]⟩⟩ :: r) (row ++ flatSs (posXs (k + 1) xs)) (t :: st) ⟨(xs.length : Int), (k : Int), ⟨#[]⟩⟩ := by
      have h := ih k (⟨3, ((k + 1 + (textXs xs).length : Nat) : Int), ⟨#[41]⟩⟩ :: r) row (t :: st) ⟨0, (k : Int), ⟨#[]⟩⟩ (by simp; omega)
      rw [List.append_assoc, List.singleton_append]
      cases xs with
      | nil => simp [toksXs, posXs, flatSs]
      | cons a l =>
        simp only [toksTl, posTl] at h
        simp only [toksXs, posXs]
        rw [Int.zero_add] at h
        exact h
    rw [key, parseGo_cons, if_neg (show ¬ (3 : Int) = 1 by decide), if_neg (show ¬ (3 : Int) = 2 by decide)]
    simp only [List.append_assoc]
  | nil => rename_i k r row st t _; simp [toksTl, posTl, flatSs]
  | cons a l iha ihl =>
    rename_i k r row st t hd
    unfold deepXs at hd
    unfold toksTl posTl
    rw [List.append_assoc, iha _ _ _ _ _ (by omega), ihl _ _ _ _ _ (by omega), flatSs, List.append_assoc, List.length_cons]
    have e : t.many + 1 + (l.length : Int) = t.many + ((l.length + 1 : Nat) : Int) := by omega
    simp only
    rw [e]
theorem parse_text (x : SX) (h : deepX x ≤ 60) (k : Nat) : parseGo (toksX k x) [] [] ⟨0, 0, ⟨#[]⟩⟩ = .ok (flatS (posX k x)) := by
  have := parse_thing x k [] [] [] ⟨0, 0, ⟨#[]⟩⟩ (by simpa using h)
  rw [List.append_nil] at this
  rw [this]
  rfl
theorem toksTl_le : ∀ (l : List SX), (∀ a ∈ l, ∀ k, (toksX k a).length ≤ (textX a).length) → ∀ k, (toksTl k l).length ≤ (tailX l).length
  | [], _, k => by simp [toksTl]
  | a :: l, h, k => by
    have h1 := h a List.mem_cons_self (k + 1)
    have h2 := toksTl_le l (fun b hb => h b (List.mem_cons_of_mem _ hb)) (k + 1 + (textX a).length)
    simp only [toksTl, tailX, List.length_append, List.length_cons]
    omega
theorem toksX_le {p : UInt8 → Bool} (x : SX) : okX p x → ∀ k, (toksX k x).length ≤ (textX x).length := by
  induction x using SX.rec (motive_2 := fun l => okXs p l → ∀ a ∈ l, ∀ k, (toksX k a).length ≤ (textX a).length) with
  | w s =>
    intro h k
    have : s.data.toList.length = s.size := by rw [Array.length_toList]; rfl
    have := h.1
    simp only [toksX, textX, List.length_singleton]
    omega
  | l xs ih =>
    intro h k
    have hX := ih h
    cases xs with
    | nil => simp [toksX, textX, toksXs, textXs]
    | cons a l =>
      have h1 := hX a List.mem_cons_self (k + 1)
      have h2 := toksTl_le l (fun b hb => hX b (List.mem_cons_of_mem _ hb)) (k + 1 + (textX a).length)
      simp only [toksX, textX, toksXs, textXs, List.length_append, List.length_cons, List.length_nil]
      omega
  | nil => rename_i h a ha k; cases ha
  | cons a l iha ihl =>
    rename_i h b hb k
    rcases List.mem_cons.1 hb with rfl | hb
    · exact iha h.1 k
    · exact ihl h.2 b hb k
end Go.Lx
namespace Go.Lx
def zeroW : SX := .w ⟨#[122, 101, 114, 111]⟩
end Go.Lx
namespace Go.Lx
def natW : SX := .w ⟨#[78, 97, 116]⟩
def sucW : SX := .w ⟨#[115, 117, 99]⟩
def appW : SX := .w ⟨#[97, 112, 112]⟩
def headR : List (List UInt8 × Int × Int) := [([108, 97, 109], 4, 0), ([112, 105], 3, 0), ([112, 105, 51], 3, 3), ([115, 105, 103, 50], 6, 2)]
def renSX (h a b : ByteArray) : SX := .l [.w h, .w a, natW, .l [.w h, .w b, .l [sucW, .w a], .l [appW, .w a, .w b]]]
def renTm (k n i : Int) : List Nd := [⟨10, 0, 0, ⟨#[]⟩⟩, ⟨0, 0, 0, ⟨#[]⟩⟩, ⟨12, 0, 0, ⟨#[]⟩⟩, ⟨0, i, 0, ⟨#[]⟩⟩, ⟨0, 0, 0, ⟨#[]⟩⟩, ⟨5, 0, 0, ⟨#[]⟩⟩, ⟨k, n, 0, ⟨#[]⟩⟩, ⟨k, n, 0, ⟨#[]⟩⟩]
theorem ren_check : (headR.all fun t => checkE (renTm t.2.1 t.2.2 0) == 0 && checkE (renTm t.2.1 t.2.2 1) == 0) = true := by decide +kernel
theorem nameK_leaf {a : ByteArray} (h : nameK a = true) : leafW a = none := by
  unfold nameK kwW at h
  cases hl : leafW a with
  | none => rfl
  | some k => rw [hl] at h; simp at h
theorem word_bound {cs st : List ByteArray} {p : Int} {a : ByteArray} {i : Nat} (h : nameK a = true) (hi : fromEnd st a = some i) (h9 : i ≤ 99) : wordS cs p a st = .ok [⟨0, (i : Int), 0, ⟨#[]⟩⟩] := by
  unfold wordS
  rw [nameK_leaf h]
  simp only [h, if_true, hi]
  rw [if_neg (by omega)]
theorem list_form {cs ds st : List ByteArray} {p : Int} {hd : ST} {l : List ST} {k n : Int} {parts : List UInt8} (h : formW hd.last.word = some (k, n, parts)) (hl : (spreadP parts l.length).length = l.length) (hk : k ≠ 26 ∧ k ≠ 27) :
    sayS cs ds (.list p (hd :: l)) st = goS cs ds (kindsP false (spreadP parts l.length)) l ⟨k, n, 0, ⟨#[]⟩⟩ [] st [] := by
  rw [sayS, listS]
  simp only [h]
  rw [if_pos ⟨hl, fun h => by omega⟩, if_neg (by omega)]
theorem go_nm {cs ds st nms : List ByteArray} {ks : List PK} {y : ST} {ys : List ST} {x : Nd} {acc : List Nd} (h : nameK y.last.word = true) : goS cs ds (.nm :: ks) (y :: ys) x nms st acc = goS cs ds ks ys x (nms ++ [y.last.word]) st acc := by
  rw [goS, if_pos h]
theorem go_te {cs ds st nms : List ByteArray} {ks : List PK} {w : Bool} {y : ST} {ys : List ST} {x : Nd} {acc t : List Nd} (h : sayS cs ds y (if w then st else st ++ nms) = .ok t) : goS cs ds (.te w :: ks) (y :: ys) x nms st acc = goS cs ds ks ys x (if w then nms else []) st (acc ++ t) := by
  rw [goS, h]
theorem go_end {cs ds st nms : List ByteArray} {ys : List ST} {x : Nd} {acc : List Nd} : goS cs ds [] ys x nms st acc = .ok (acc ++ [x]) := by
  rw [goS] <;> (intros; simp_all)
theorem say_bind {cs ds st : List ByteArray} {p ph pa : Int} {h a : ByteArray} {k n : Int} {A B : ST} {tA tB : List Nd} (hh : (h.data.toList, k, n) ∈ headR) (ha : nameK a = true) (hA : sayS cs ds A st = .ok tA) (hB : sayS cs ds B (st ++ [a]) = .ok tB) :
    sayS cs ds (.list p [.word ph h, .word pa a, A, B]) st = .ok (tA ++ tB ++ [⟨k, n, 0, ⟨#[]⟩⟩]) := by
  have hf : formW h = some (k, n, [119, 46, 46]) ∧ k ≠ 26 ∧ k ≠ 27 := by
    unfold formW
    simp only [headR, List.mem_cons, List.not_mem_nil, or_false, Prod.mk.injEq] at hh
    rcases hh with ⟨e, rfl, rfl⟩ | ⟨e, rfl, rfl⟩ | ⟨e, rfl, rfl⟩ | ⟨e, rfl, rfl⟩ <;> rw [e] <;> exact ⟨by decide, by decide, by decide⟩
  rw [list_form (hd := .word ph h) hf.1 (by rfl) hf.2]
  have hk : kindsP false (spreadP [119, 46, 46] [ST.word pa a, A, B].length) = [.nm, .te true, .te false] := rfl
  rw [hk, go_nm (y := .word pa a) ha, go_te (t := tA) (by simpa using hA), go_te (t := tB) (by simpa [ST.last] using hB), go_end]
  simp
theorem say_one {cs ds st : List ByteArray} {p ph : Int} {A : ST} {tA : List Nd} (hA : sayS cs ds A st = .ok tA) : sayS cs ds (.list p [.word ph ⟨#[115, 117, 99]⟩, A]) st = .ok (tA ++ [⟨12, 0, 0, ⟨#[]⟩⟩]) := by
  rw [list_form (hd := .word ph ⟨#[115, 117, 99]⟩) (k := 12) (n := 0) (parts := [46]) (by rfl) (by rfl) (by decide)]
  have hk : kindsP false (spreadP [46] [A].length) = [.te false] := rfl
  rw [hk, go_te (t := tA) (by simpa using hA), go_end]
  simp
theorem say_app {cs ds st : List ByteArray} {p ph : Int} {A B : ST} {tA tB : List Nd} (hA : sayS cs ds A st = .ok tA) (hB : sayS cs ds B st = .ok tB) : sayS cs ds (.list p [.word ph ⟨#[97, 112, 112]⟩, A, B]) st = .ok (tA ++ tB ++ [⟨5, 0, 0, ⟨#[]⟩⟩]) := by
  rw [list_form (hd := .word ph ⟨#[97, 112, 112]⟩) (k := 5) (n := 0) (parts := [46, 46]) (by rfl) (by rfl) (by decide)]
  have hk : kindsP false (spreadP [46, 46] [A, B].length) = [.te false, .te false] := rfl
  rw [hk, go_te (t := tA) (by simpa using hA), go_te (t := tB) (by simpa using hB), go_end]
  simp
theorem say_nat {cs ds st : List ByteArray} {p : Int} : sayS cs ds (.word p ⟨#[78, 97, 116]⟩) st = .ok [⟨10, 0, 0, ⟨#[]⟩⟩] := by
  rw [sayS]; rfl
theorem end_last (st : List ByteArray) (a : ByteArray) : fromEnd (st ++ [a]) a = some 0 := by
  unfold fromEnd
  simp [List.findIdx?_cons]
theorem end_next (st : List ByteArray) (a b : ByteArray) (h : a ≠ b) : fromEnd (st ++ [a] ++ [b]) a = some 1 := by
  have hne : (b.toList == a.toList) = false := by
    rw [ByteArray.toList_eq, ByteArray.toList_eq]
    simp only [beq_eq_false_iff_ne, ne_eq]
    intro e
    exact h (ByteArray.ext (Array.ext' e.symm))
  unfold fromEnd
  simp [List.findIdx?_cons, hne]
theorem ren_say {h a b : ByteArray} {k n : Int} (hh : (h.data.toList, k, n) ∈ headR) (ha : nameK a = true) (hb : nameK b = true) : termS [] [] (posX 0 (renSX h a b)) = .ok (renTm k n (if a = b then 0 else 1)) := by
  have hs : ∀ p q r s u v x y z c y' z' c' c2 : Int, sayS [] [] (.list p [.word q h, .word r a, .word s ⟨#[78, 97, 116]⟩, .list u [.word v h, .word x b, .list y [.word z ⟨#[115, 117, 99]⟩, .word c a], .list y' [.word z' ⟨#[97, 112, 112]⟩, .word c' a, .word c2 b]]]) [] = .ok (renTm k n (if a = b then 0 else 1)) := by
    intro p q r s u v x y z c y' z' c' c2
    rw [say_bind hh ha say_nat (say_bind hh hb (say_one (tA := [⟨0, 0, 0, ⟨#[]⟩⟩]) ?_) (say_app (tA := [⟨0, (if a = b then 0 else 1), 0, ⟨#[]⟩⟩]) (tB := [⟨0, 0, 0, ⟨#[]⟩⟩]) ?_ ?_))]
    · rfl
    · rw [sayS]; exact word_bound (i := 0) ha (end_last [] a) (by decide)
    · rw [sayS]
      by_cases e : a = b
      · subst e
        rw [if_pos rfl]
        exact word_bound (i := 0) ha (end_last [a] a) (by decide)
      · rw [if_neg e]
        exact word_bound (i := 1) ha (end_next [] a b e) (by decide)
    · rw [sayS]; exact word_bound (i := 0) hb (end_last [a] b) (by decide)
  have hc := List.all_eq_true.1 ren_check _ hh
  simp only [Bool.and_eq_true, beq_iff_eq] at hc
  unfold termS renSX posX posXs
  simp only [posX, posXs, posTl, natW, sucW, appW, hs]
  by_cases e : a = b
  · rw [if_pos e, if_pos hc.1]
  · rw [if_neg e, if_pos hc.2]
end Go.Lx
namespace Go.Lx
theorem flatX_tail (l : List SX) (h : ∀ a ∈ l, ∀ k, ∀ y ∈ flatS (posX k a), y.word.size ≤ (textX a).length) : ∀ k, ∀ y ∈ flatSs (posTl k l), y.word.size ≤ (tailX l).length := by
  induction l with
  | nil => intro k y hy; simp [posTl, flatSs] at hy
  | cons a l ih =>
    intro k y hy
    rw [posTl, flatSs] at hy
    rw [tailX]
    simp only [List.length_cons, List.length_append]
    rcases List.mem_append.1 hy with hy | hy
    · have := h a List.mem_cons_self _ y hy
      omega
    · have := ih (fun b hb => h b (List.mem_cons_of_mem _ hb)) _ y hy
      omega
theorem flatX_word (x : SX) : ∀ k, ∀ y ∈ flatS (posX k x), y.word.size ≤ (textX x).length := by
  induction x using SX.rec (motive_2 := fun l => ∀ a ∈ l, ∀ k, ∀ y ∈ flatS (posX k a), y.word.size ≤ (textX a).length) with
  | w s =>
    intro k y hy
    rw [posX, flatS] at hy
    rw [List.mem_singleton.1 hy, textX, Array.length_toList]
    exact Nat.le_refl _
  | l xs ih =>
    intro k y hy
    rw [posX, flatS] at hy
    rw [textX]
    simp only [List.length_cons, List.length_append]
    rcases List.mem_append.1 hy with hy | hy
    · cases xs with
      | nil => simp [posXs, flatSs] at hy
      | cons a l =>
        rw [posXs, flatSs] at hy
        rw [textXs, List.length_append]
        rcases List.mem_append.1 hy with hy | hy
        · have := ih a List.mem_cons_self _ y hy
          omega
        · have := flatX_tail l (fun b hb => ih b (List.mem_cons_of_mem _ hb)) _ y hy
          omega
    · rw [List.mem_singleton.1 hy]
      exact Nat.zero_le _
  | nil => rename_i a ha k y hy; cases ha
  | cons a l iha ihl =>
    rename_i b hb k y hy
    rcases List.mem_cons.1 hb with rfl | hb
    · exact iha k y hy
    · exact ihl b hb k y hy
theorem flatX_tail_len (l : List SX) (h : ∀ a ∈ l, ∀ k, (flatS (posX k a)).length ≤ (textX a).length) : ∀ k, (flatSs (posTl k l)).length ≤ (tailX l).length := by
  induction l with
  | nil => intro k; simp [posTl, flatSs, tailX]
  | cons a l ih =>
    intro k
    rw [posTl, flatSs, tailX]
    simp only [List.length_cons, List.length_append]
    have h1 := h a List.mem_cons_self (k + 1)
    have h2 := ih (fun b hb => h b (List.mem_cons_of_mem _ hb)) (k + 1 + (textX a).length)
    omega
theorem flatX_len {p : UInt8 → Bool} (x : SX) : okX p x → ∀ k, (flatS (posX k x)).length ≤ (textX x).length := by
  induction x using SX.rec (motive_2 := fun l => okXs p l → ∀ a ∈ l, ∀ k, (flatS (posX k a)).length ≤ (textX a).length) with
  | w s =>
    intro h k
    rw [posX, flatS, textX, Array.length_toList]
    have h1 := h.1
    have : s.data.size = s.size := rfl
    simp
    omega
  | l xs ih =>
    intro h k
    rw [posX, flatS, textX]
    simp only [List.length_cons, List.length_append, List.length_nil]
    have ih := ih h
    cases xs with
    | nil => simp [posXs, flatSs]
    | cons a l =>
      rw [posXs, flatSs, textXs, List.length_append, List.length_append]
      have h1 := ih a List.mem_cons_self (k + 1)
      have h2 := flatX_tail_len l (fun b hb => ih b (List.mem_cons_of_mem _ hb)) (k + 1 + (textX a).length)
      omega
  | nil => rename_i h a ha k; cases ha
  | cons a l iha ihl =>
    rename_i h b hb k
    rcases List.mem_cons.1 hb with rfl | hb
    · exact iha h.1 k
    · exact ihl h.2 b hb k
end Go.Lx
