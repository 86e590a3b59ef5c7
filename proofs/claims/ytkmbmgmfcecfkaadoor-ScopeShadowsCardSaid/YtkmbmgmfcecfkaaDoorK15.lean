/- Part 15 of what the proof rests on. -/
import Derived.Test.YtkmbmgmfcecfkaaDoorK13
import Derived.Test.YtkmbmgmfcecfkaaDoorK14
set_option linter.unusedSimpArgs false
set_option linter.unusedVariables false
namespace Go.Lx
inductive Tm where
  | mk (x : Nd) (args : List Tm)
def Tm.root : Tm → Nd
  | .mk x _ => x
def Tm.args : Tm → List Tm
  | .mk _ l => l
mutual
def flat : Tm → List Nd
  | .mk x l => flats l ++ [x]
def flats : List Tm → List Nd
  | [] => []
  | a :: l => flat a ++ flats l
end
mutual
def okT : Tm → Prop
  | .mk x l => rightB x = true ∧ l.length = (binds x).length ∧ okTs l
def okTs : List Tm → Prop
  | [] => True
  | a :: l => okT a ∧ okTs l
end
mutual
def deepT : Tm → Nat
  | .mk x l => deepTs 1 l
def deepTs : Nat → List Tm → Nat
  | d, [] => d
  | d, a :: l => deepTs (max d (deepT a + 1)) l
end
theorem flats_app (a b : List Tm) : flats (a ++ b) = flats a ++ flats b := by
  induction a with
  | nil => rfl
  | cons x l ih => simp [flats, ih]
def measF : Nat → List Tm → List (Nat × Nat)
  | _, [] => []
  | i, a :: l => (i, deepT a) :: measF (i + (flat a).length) l
theorem measF_len (i : Nat) (l : List Tm) : (measF i l).length = l.length := by
  induction l generalizing i with
  | nil => rfl
  | cons x l ih => simp [measF, ih]
theorem measF_app (i : Nat) (a b : List Tm) : measF i (a ++ b) = measF i a ++ measF (i + (flats a).length) b := by
  induction a generalizing i with
  | nil => simp [measF, flats]
  | cons x l ih => simp [measF, ih, flats, Nat.add_assoc]
theorem measF_take (i k : Nat) (l : List Tm) : (measF i l).take k = measF i (l.take k) := by
  induction l generalizing i k with
  | nil => simp [measF]
  | cons x l ih => cases k with
    | zero => simp [measF]
    | succ k => simp [measF, ih]
theorem measF_drop (i k : Nat) (l : List Tm) (hk : k ≤ l.length) : (measF i l).drop k = measF (i + (flats (l.take k)).length) (l.drop k) := by
  have h := measF_app i (l.take k) (l.drop k)
  rw [List.take_append_drop] at h
  rw [h, List.drop_append_of_le_length (by rw [measF_len, List.length_take]; omega)]
  have : (measF i (l.take k)).length = k := by rw [measF_len, List.length_take]; omega
  rw [List.drop_of_length_le (by omega)]
  rfl
theorem deep_fold (i d : Nat) (l : List Tm) : (measF i l).foldl (fun d (x : Nat × Nat) => max d (x.2 + 1)) d = deepTs d l := by
  induction l generalizing i d with
  | nil => rfl
  | cons x l ih => simp only [measF, List.foldl_cons, deepTs]; exact ih _ _
theorem meas_mk (x : Nd) (i : Nat) (l : List Tm) : meas (i + (flats l).length) (measF i l) = (i, deepT (.mk x l)) := by
  unfold meas
  rw [deep_fold]
  cases l with
  | nil => simp [measF, flats, deepT]
  | cons a l => simp [measF, deepT]
theorem measGo_tree : ∀ (T : Tm), okT T → ∀ (all : List (Nat × Nat)) (Fs : List Tm), ∃ all', measGo (flat T) (flats Fs).length all (measF 0 Fs) = some (all ++ all', measF 0 (Fs ++ [T])) ∧ all'.length = (flat T).length ∧ all'.getLast? = some ((flats Fs).length, deepT T) := by
  intro T
  induction T using Tm.rec (motive_2 := fun l => okTs l → ∀ (all : List (Nat × Nat)) (Fs : List Tm), ∃ all', measGo (flats l) (flats Fs).length all (measF 0 Fs) = some (all ++ all', measF 0 (Fs ++ l)) ∧ all'.length = (flats l).length) with
  | mk x l ih =>
    rintro ⟨hx, hl, hls⟩ all Fs
    obtain ⟨a1, h1, h2⟩ := ih hls all Fs
    refine ⟨a1 ++ [((flats Fs).length, deepT (.mk x l))], ?_, by simp [flat, h2], by simp⟩
    rw [flat, measGo_app, h1]
    simp only [Option.bind_some]
    unfold measGo
    rw [measF_len, List.length_append, if_neg (by rw [hx]; simp; omega)]
    have hk : Fs.length + l.length - (binds x).length = Fs.length := by omega
    simp only [hk]
    have hd : (measF 0 (Fs ++ l)).drop Fs.length = measF (flats Fs).length l := by
      rw [measF_drop 0 _ _ (by simp), List.drop_left, List.take_left, Nat.zero_add]
    have ht : (measF 0 (Fs ++ l)).take Fs.length = measF 0 Fs := by rw [measF_take, List.take_left]
    rw [hd, ht, meas_mk]
    unfold measGo
    rw [measF_app 0 Fs [.mk x l], Nat.zero_add, List.append_assoc]
    rfl
  | nil => rename_i hh all Fs; exact ⟨[], by simp [flats, measGo], rfl⟩
  | cons a l iha ihl =>
    rename_i hh all Fs
    obtain ⟨ha, hl⟩ := hh
    obtain ⟨a1, h1, h2, _⟩ := iha ha all Fs
    obtain ⟨a2, h3, h4⟩ := ihl hl (all ++ a1) (Fs ++ [a])
    refine ⟨a1 ++ a2, ?_, by simp [flats, h2, h4]⟩
    rw [flats, measGo_app, h1]
    simp only [Option.bind_some]
    have : (flats Fs).length + (flat a).length = (flats (Fs ++ [a])).length := by rw [flats_app]; simp [flats]
    rw [this, h3, List.append_assoc, List.append_assoc]
    rfl
theorem check_of_tree {T : Tm} (h : okT T) (hd : deepT T ≤ 60) (hl : (flat T).length ≤ 4000) : checkE (flat T) = 0 := by
  obtain ⟨a', q1, q2, q3⟩ := measGo_tree T h [] []
  unfold checkE
  rw [if_neg (by omega)]
  have q1' : measGo (flat T) 0 [] [] = some (a', measF 0 [T]) := by simpa [flats, measF] using q1
  rw [q1']
  have : a'.getLastD (0, 0) = ((flats []).length, deepT T) := by rw [List.getLastD_eq_getLast?, q3]; rfl
  simp only [this]
  rw [if_neg (by simp [measF]), if_neg (by omega)]
end Go.Lx
namespace Go.Lx
def lamW : SX := .w ⟨#[108, 97, 109]⟩
def shSX (a : ByteArray) : Nat → SX
  | 0 => .w a
  | n + 1 => .l [lamW, .w a, natW, shSX a n]
def natN : Nd := ⟨10, 0, 0, ⟨#[]⟩⟩
def varN : Nd := ⟨0, 0, 0, ⟨#[]⟩⟩
def lamN : Nd := ⟨4, 0, 0, ⟨#[]⟩⟩
def shTm (n : Nat) : List Nd := List.replicate n natN ++ [varN] ++ List.replicate n lamN
def shTree : Nat → Tm
  | 0 => .mk varN []
  | n + 1 => .mk lamN [.mk natN [], shTree n]
theorem sh_flat : ∀ n, flat (shTree n) = shTm n
  | 0 => rfl
  | n + 1 => by
    have ih := sh_flat n
    unfold shTm at *
    rw [shTree, flat, flats, flats, flats, ih, flat, flats, List.replicate_succ, List.replicate_succ', List.append_nil]
    simp
theorem sh_ok : ∀ n, okT (shTree n)
  | 0 => ⟨by decide, by decide, trivial⟩
  | n + 1 => ⟨by decide, by rfl, ⟨by decide, by decide, trivial⟩, sh_ok n, trivial⟩
theorem sh_deep : ∀ n, deepT (shTree n) = n + 1
  | 0 => rfl
  | n + 1 => by
    rw [shTree, deepT, deepTs, deepTs, deepTs, sh_deep n]
    have : deepT (.mk natN []) = 1 := rfl
    rw [this]
    omega
theorem sh_in {cs ds : List ByteArray} {a : ByteArray} (ha : nameK a = true) : ∀ (n k : Nat) (st : List ByteArray), sayS cs ds (posX k (shSX a n)) (st ++ [a]) = .ok (shTm n)
  | 0, k, st => by
    rw [shSX, posX, sayS]
    exact word_bound (i := 0) ha (end_last st a) (by decide)
  | n + 1, k, st => by
    rw [shSX]
    simp only [posX, posXs, posTl, lamW, natW]
    rw [say_bind (k := 4) (n := 0) (by simp [headR]) ha say_nat (sh_in ha n _ (st ++ [a]))]
    have e1 : shTm (n + 1) = [natN] ++ shTm n ++ [lamN] := by
      unfold shTm
      rw [List.replicate_succ, List.replicate_succ']
      simp
    rw [e1]
    rfl
theorem sh_say {cs ds : List ByteArray} {a : ByteArray} (ha : nameK a = true) (n k : Nat) (st : List ByteArray) (hn : 0 < n) : sayS cs ds (posX k (shSX a n)) st = .ok (shTm n) := by
  obtain ⟨n, rfl⟩ : ∃ m, n = m + 1 := ⟨n - 1, by omega⟩
  rw [shSX]
  simp only [posX, posXs, posTl, lamW, natW]
  rw [say_bind (k := 4) (n := 0) (by simp [headR]) ha say_nat (sh_in ha n _ st)]
  have e1 : shTm (n + 1) = [natN] ++ shTm n ++ [lamN] := by
    unfold shTm
    rw [List.replicate_succ, List.replicate_succ']
    simp
  rw [e1]
  rfl
theorem sh_term {cs ds : List ByteArray} {a : ByteArray} (ha : nameK a = true) (n : Nat) (hn : 0 < n) (h20 : n ≤ 20) : termS cs ds (posX 0 (shSX a n)) = .ok (shTm n) := by
  unfold termS
  rw [sh_say ha n 0 [] hn]
  have : checkE (shTm n) = 0 := by
    rw [← sh_flat]
    exact check_of_tree (sh_ok n) (by rw [sh_deep]; omega) (by rw [sh_flat]; simp [shTm]; omega)
  simp only [this, if_true]
def shApp (a : ByteArray) (n : Nat) : SX := .l [appW, shSX a n, .w a]
theorem sh_app_say {cs ds : List ByteArray} {a : ByteArray} (n : Nat) (r : Say) (h1 : sayS cs ds (posX 5 (shSX a n)) [] = .ok (shTm n)) (h2 : wordS cs ((6 + (textX (shSX a n)).length : Nat) : Int) a [] = r) :
    sayS cs ds (posX 0 (shApp a n)) [] = match r with
      | .ok t => .ok (shTm n ++ t ++ [⟨5, 0, 0, ⟨#[]⟩⟩])
      | .error e => .error e := by
  unfold shApp
  simp only [posX, posXs, posTl, appW]
  rw [list_form (hd := .word _ ⟨#[97, 112, 112]⟩) (k := 5) (n := 0) (parts := [46, 46]) (by rfl) (by rfl) (by decide)]
  have hk : ∀ A B : ST, kindsP false (spreadP [46, 46] [A, B].length) = [.te false, .te false] := fun _ _ => rfl
  rw [hk, go_te (t := shTm n) (by simpa [textX] using h1)]
  have h3 : ∀ k : Nat, k = 6 + (textX (shSX a n)).length → sayS cs ds (.word (k : Int) a) [] = r := by
    rintro k rfl
    rw [sayS]
    exact h2
  cases r with
  | ok t =>
    rw [go_te (t := t) (h3 _ (by simp [textX]; omega)), go_end]
    simp
  | error e =>
    rw [goS]
    have := h3 (0 + 1 + (textX (.w ⟨#[97, 112, 112]⟩)).length + 1 + (textX (shSX a n)).length + 1) (by simp [textX]; omega)
    simp only [Bool.false_eq_true, if_false, List.append_nil]
    rw [this]
theorem sh_unbound {ds : List ByteArray} {a : ByteArray} (ha : nameK a = true) (n : Nat) (hn : 0 < n) : termS [] ds (posX 0 (shApp a n)) = .error (80, ((6 + (textX (shSX a n)).length : Nat) : Int)) := by
  unfold termS
  rw [sh_app_say n (.error (80, ((6 + (textX (shSX a n)).length : Nat) : Int))) (sh_say ha n 5 [] hn) (by
    unfold wordS
    rw [nameK_leaf ha]
    simp [ha, fromEnd, amongB])]
theorem sh_known {ds : List ByteArray} {a : ByteArray} (ha : nameK a = true) (n : Nat) (hn : 0 < n) (h20 : n ≤ 20) : termS [a] ds (posX 0 (shApp a n)) = .ok (shTm n ++ [⟨1, 0, 0, a⟩] ++ [⟨5, 0, 0, ⟨#[]⟩⟩]) := by
  unfold termS
  rw [sh_app_say n (.ok [⟨1, 0, 0, a⟩]) (sh_say ha n 5 [] hn) (by
    unfold wordS
    rw [nameK_leaf ha]
    simp [ha, fromEnd, amongB])]
  have hnm : nameB a = true := by
    unfold nameK at ha
    simp at ha
    exact ha.1
  have hT : shTm n ++ [⟨1, 0, 0, a⟩] ++ [⟨5, 0, 0, ⟨#[]⟩⟩] = flat (.mk ⟨5, 0, 0, ⟨#[]⟩⟩ [shTree n, .mk ⟨1, 0, 0, a⟩ []]) := by
    simp [flat, flats, sh_flat]
  have : checkE (shTm n ++ [⟨1, 0, 0, a⟩] ++ [⟨5, 0, 0, ⟨#[]⟩⟩]) = 0 := by
    rw [hT]
    refine check_of_tree ⟨by decide, by rfl, sh_ok n, ⟨?_, by rfl, trivial⟩, trivial⟩ ?_ ?_
    · unfold rightB
      simp [hnm]
      exact ⟨.inl (by decide), .inl (by decide)⟩
    · have : deepT (.mk ⟨1, 0, 0, a⟩ []) = 1 := rfl
      rw [deepT, deepTs, deepTs, deepTs, sh_deep, this]
      omega
    · rw [← hT]
      simp [shTm]; omega
  simp only [this, if_true]
end Go.Lx
