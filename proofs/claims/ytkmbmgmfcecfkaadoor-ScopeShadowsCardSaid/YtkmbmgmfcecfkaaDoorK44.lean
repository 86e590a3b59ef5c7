/- Part 44 of what the proof rests on. -/
import Derived.Test.YtkmbmgmfcecfkaaDoorRows
import Derived.Conc.Holds
import Derived.KernelRfl
import Derived.Test.YtkmbmgmfcecfkaaDoorK15
import Derived.Test.YtkmbmgmfcecfkaaDoorK16
import Derived.Test.YtkmbmgmfcecfkaaDoorK41
import Derived.Test.YtkmbmgmfcecfkaaDoorK42
set_option linter.unusedSimpArgs false
set_option linter.unusedVariables false
namespace Go.Proofs.YtkmbmgmfcecfkaaDoor
open Go.Conc Go.Lx Go.RowKit
theorem sh_okX {a : ByteArray} (ha : nameB a = true) : ∀ n, okX wordB (shSX a n)
  | 0 => name_okX ha
  | n + 1 => by
    have h1 : okX wordB lamW := by unfold lamW okX; decide
    have h2 : okX wordB natW := by unfold natW okX; decide
    rw [shSX]
    exact ⟨h1, name_okX ha, h2, sh_okX ha n, trivial⟩
theorem sh_app_okX {a : ByteArray} (ha : nameB a = true) (n : Nat) : okX wordB (shApp a n) := by
  have h1 : okX wordB appW := by unfold appW okX; decide
  exact ⟨h1, sh_okX ha n, name_okX ha, trivial⟩
def shWrap (a s : ByteArray) : ByteArray := ⟨#[40, 108, 97, 109, 32]⟩ ++ a ++ ⟨#[32, 78, 97, 116, 32]⟩ ++ s ++ ⟨#[41]⟩
def shTextB (a : ByteArray) (n : Nat) : ByteArray := ⟨(textX (shSX a n)).toArray⟩
theorem sh_zero (a : ByteArray) : shTextB a 0 = a := by
  unfold shTextB
  rw [shSX, textX]
theorem sh_wrap (a : ByteArray) (n : Nat) : shWrap a (shTextB a n) = shTextB a (n + 1) := by
  apply ByteArray.ext
  apply Array.ext'
  unfold shWrap shTextB
  rw [shSX]
  simp [ByteArray.data_append, textX, textXs, tailX, natW, lamW]
theorem sh_app_text (a : ByteArray) (n : Nat) : (⟨#[40, 97, 112, 112, 32]⟩ : ByteArray) ++ shTextB a n ++ ⟨#[32]⟩ ++ a ++ ⟨#[41]⟩ = ⟨(textX (shApp a n)).toArray⟩ := by
  apply ByteArray.ext
  apply Array.ext'
  unfold shTextB shApp
  simp [ByteArray.data_append, textX, textXs, tailX, appW]
theorem sh_size {a : ByteArray} (ha : a.size ≤ 16) : ∀ n, (textX (shSX a n)).length ≤ 16 + n * 32
  | 0 => by rw [shSX, textX, size_list]; omega
  | n + 1 => by
    have ih := sh_size ha n
    rw [shSX]
    unfold lamW natW
    simp only [textX, textXs, tailX, List.length_cons, List.length_append, List.length_nil, size_list]
    have e1 : (⟨#[108, 97, 109]⟩ : ByteArray).size = 3 := rfl
    have e2 : (⟨#[78, 97, 116]⟩ : ByteArray).size = 3 := rfl
    try simp only [e1, e2]
    omega
theorem sh_depth (a : ByteArray) : ∀ n, deepX (shSX a n) = n
  | 0 => rfl
  | n + 1 => by
    have ih := sh_depth a n
    rw [shSX]
    unfold lamW natW
    simp [deepX, deepXs, ih]
theorem sh_app_size {a : ByteArray} (ha : a.size ≤ 16) {n : Nat} (hn : n ≤ 20) : (textX (shApp a n)).length ≤ 20000 ∧ deepX (shApp a n) ≤ 60 := by
  have h1 := sh_size ha n
  have h2 := sh_depth a n
  refine ⟨?_, ?_⟩
  · unfold shApp appW
    simp only [textX, textXs, tailX, List.length_cons, List.length_append, List.length_nil, size_list]
    have e1 : (⟨#[97, 112, 112]⟩ : ByteArray).size = 3 := rfl
    try simp only [e1]
    omega
  · unfold shApp appW
    simp [deepX, deepXs, h2]
    omega
section
variable {a : ByteArray} {n : Nat}
theorem nameK_B (ha : nameK a = true) : nameB a = true := by unfold nameK at ha; simp at ha; exact ha.1
theorem sh_read (ha : nameK a = true) (hn : 0 < n) (h20 : n ≤ 20) (W : World) (hE : StrcAt W) (hS : ShapesAt 0 W) :
    CallsG Tryd.prog 8 #[.agg #[.slice none 0 0, .slice none 0 0], .string (shTextB a n)] W (TermPost W (.ok (shTm n))) := by
  have hs := sh_size (nameK_size ha) n
  exact thing_read (sh_okX (nameK_B ha) n) (by omega) (by rw [sh_depth]; omega) [] [] (sh_term ha n hn h20) W hE hS (TextsV.nil W) (TextsV.nil W) (by decide) (by decide)
theorem sh_read2 (ha : nameK a = true) (hn : 0 < n) (h20 : n ≤ 20) (W : World) (hE : StrcAt W) (hS : ShapesAt 0 W) :
    CallsG Tryd.prog 8 #[.agg #[.slice none 0 0, .slice none 0 0], .string ⟨(textX (shApp a n)).toArray⟩] W (TermPost W (.error (80, ((6 + (shTextB a n).size : Nat) : Int)))) := by
  obtain ⟨h1, h2⟩ := sh_app_size (nameK_size ha) (a := a) h20
  have hz : (shTextB a n).size = (textX (shSX a n)).length := by simp [shTextB, ByteArray.size]
  rw [hz]
  exact thing_read (sh_app_okX (nameK_B ha) n) h1 h2 [] [] (sh_unbound ha n hn) W hE hS (TextsV.nil W) (TextsV.nil W) (by decide) (by decide)
theorem sh_read3 (ha : nameK a = true) (hn : 0 < n) (h20 : n ≤ 20) (W : World) (hE : StrcAt W) (hS : ShapesAt 0 W) {p : Option Addr} {d : Nat} (hc : TextsV W (.slice p 1 d) [a]) :
    CallsG Tryd.prog 8 #[.agg #[.slice p 1 d, .slice none 0 0], .string ⟨(textX (shApp a n)).toArray⟩] W (TermPost W (.ok (shTm n ++ [⟨1, 0, 0, a⟩] ++ [⟨5, 0, 0, ⟨#[]⟩⟩]))) := by
  obtain ⟨h1, h2⟩ := sh_app_size (nameK_size ha) (a := a) h20
  exact thing_read (sh_app_okX (nameK_B ha) n) h1 h2 [a] [] (sh_known ha n hn h20) W hE hS hc (TextsV.nil W) (by simp) (by decide)
end
end Go.Proofs.YtkmbmgmfcecfkaaDoor
namespace Go.Proofs.YtkmbmgmfcecfkaaDoor
open Go.Conc Go.Lx Go.RowKit
noncomputable def swText : Code := Tryd.f4.body.getD .skip
noncomputable def swA : Code := sndOf (sndOf (sndOf (sndOf (sndOf swText))))
def swFrame (a : ByteArray) (n : Nat) (J : Nat → Value) : Array Value := #[.string a, J 1, J 2, J 3, J 4, .int .i64 (n : Int), .string (shTextB a n), J 7, J 8, J 9, J 10, J 11, J 12, J 13, J 14, J 15, J 16, J 17, J 18, J 19, J 20, J 21, J 22, J 23, J 24, J 25, J 26, J 27, J 28, J 29, J 30, J 31, J 32, J 33, J 34, J 35, J 36, J 37, J 38, J 39, J 40, J 41, J 42, J 43, J 44, J 45, J 46, J 47, J 48, J 49, J 50, J 51, J 52, J 53, J 54, J 55, J 56, J 57, J 58, J 59, J 60, J 61, J 62, J 63, J 64, J 65, J 66, J 67, J 68, J 69, J 70, J 71, J 72, J 73, J 74, J 75, J 76, J 77, J 78, J 79, J 80, J 81, J 82, J 83, J 84, J 85, J 86, J 87, J 88, J 89, J 90, J 91, J 92, J 93, J 94, J 95, J 96, J 97, J 98, J 99, J 100, J 101, J 102, J 103, J 104, J 105, J 106, J 107, J 108, J 109, J 110, J 111, J 112, J 113, J 114, J 115, J 116, J 117, J 118, J 119, J 120, J 121, J 122, J 123, J 124, J 125, J 126, J 127, J 128, J 129, J 130, J 131, J 132, J 133, J 134, J 135, J 136, J 137, J 138, J 139, J 140, J 141, J 142]
noncomputable def swB : Code := sndOf (sndOf swA)
noncomputable def swC : Code := sndOf swB
noncomputable def swD : Code := sndOf swC
def swFrameB (a s : ByteArray) (J : Nat → Value) : Array Value := #[.string a, J 1, J 2, J 3, J 4, J 5, .string s, J 7, J 8, J 9, J 10, J 11, J 12, J 13, J 14, J 15, J 16, J 17, J 18, J 19, J 20, J 21, J 22, J 23, J 24, J 25, J 26, J 27, J 28, J 29, J 30, J 31, J 32, J 33, J 34, J 35, J 36, J 37, J 38, J 39, J 40, J 41, J 42, J 43, J 44, J 45, J 46, J 47, J 48, J 49, J 50, J 51, J 52, J 53, J 54, J 55, J 56, J 57, J 58, J 59, J 60, J 61, J 62, J 63, J 64, J 65, J 66, J 67, J 68, J 69, J 70, J 71, J 72, J 73, J 74, J 75, J 76, J 77, J 78, J 79, J 80, J 81, J 82, J 83, J 84, J 85, J 86, J 87, J 88, J 89, J 90, J 91, J 92, J 93, J 94, J 95, J 96, J 97, J 98, J 99, J 100, J 101, J 102, J 103, J 104, J 105, J 106, J 107, J 108, J 109, J 110, J 111, J 112, J 113, J 114, J 115, J 116, J 117, J 118, J 119, J 120, J 121, J 122, J 123, J 124, J 125, J 126, J 127, J 128, J 129, J 130, J 131, J 132, J 133, J 134, J 135, J 136, J 137, J 138, J 139, J 140, J 141, J 142]
def swFrameC (a s : ByteArray) (b4 o4 i3 c4 : Nat) (J : Nat → Value) : Array Value := #[.string a, J 1, J 2, J 3, J 4, J 5, .string s, J 7, J 8, J 9, J 10, J 11, .int .i64 (6 + (s.size : Int)), .int .i64 80, .slice (some ⟨b4, o4, none⟩) i3 c4, J 15, .int .i64 0, J 17, J 18, J 19, J 20, J 21, J 22, J 23, J 24, J 25, J 26, J 27, J 28, J 29, J 30, J 31, J 32, J 33, J 34, J 35, J 36, J 37, J 38, J 39, J 40, J 41, J 42, J 43, J 44, J 45, J 46, J 47, J 48, J 49, J 50, J 51, J 52, J 53, J 54, J 55, J 56, J 57, J 58, J 59, J 60, J 61, J 62, J 63, J 64, J 65, J 66, J 67, J 68, J 69, J 70, J 71, J 72, J 73, J 74, J 75, J 76, J 77, J 78, J 79, J 80, J 81, J 82, J 83, J 84, J 85, J 86, J 87, J 88, J 89, J 90, J 91, J 92, J 93, J 94, J 95, J 96, J 97, J 98, J 99, J 100, J 101, J 102, J 103, J 104, J 105, J 106, J 107, J 108, J 109, J 110, J 111, J 112, J 113, J 114, J 115, J 116, J 117, J 118, J 119, J 120, J 121, J 122, J 123, J 124, J 125, J 126, J 127, J 128, J 129, J 130, J 131, J 132, J 133, J 134, J 135, J 136, J 137, J 138, J 139, J 140, J 141, J 142]
def swFrameD (a s : ByteArray) (J : Nat → Value) : Array Value := #[.string a, J 1, J 2, J 3, J 4, J 5, .string s, J 7, J 8, J 9, J 10, J 11, .int .i64 (6 + (s.size : Int)), .int .i64 80, J 14, J 15, J 16, J 17, J 18, J 19, J 20, J 21, J 22, J 23, J 24, J 25, J 26, J 27, J 28, J 29, J 30, J 31, J 32, J 33, J 34, J 35, J 36, J 37, J 38, J 39, J 40, J 41, J 42, J 43, J 44, J 45, J 46, J 47, J 48, J 49, J 50, J 51, J 52, J 53, J 54, J 55, J 56, J 57, J 58, J 59, J 60, J 61, J 62, J 63, J 64, J 65, J 66, J 67, J 68, J 69, J 70, J 71, J 72, J 73, J 74, J 75, J 76, J 77, J 78, J 79, J 80, J 81, J 82, J 83, J 84, J 85, J 86, J 87, J 88, J 89, J 90, J 91, J 92, J 93, J 94, J 95, J 96, J 97, J 98, J 99, J 100, J 101, J 102, J 103, J 104, J 105, J 106, J 107, J 108, J 109, J 110, J 111, J 112, J 113, J 114, J 115, J 116, J 117, J 118, J 119, J 120, J 121, J 122, J 123, J 124, J 125, J 126, J 127, J 128, J 129, J 130, J 131, J 132, J 133, J 134, J 135, J 136, J 137, J 138, J 139, J 140, J 141, J 142]
theorem sh_len (n : Nat) : (shTm n).length = 2 * n + 1 := by simp [shTm]; omega
theorem sh_at (n : Nat) : (shTm n)[n]? = some varN := by
  unfold shTm
  rw [List.append_assoc, List.getElem?_append_right (by simp)]
  simp
theorem sh_len2 (a : ByteArray) (n : Nat) : (shTm n ++ [(⟨1, 0, 0, a⟩ : Nd)] ++ [(⟨5, 0, 0, ⟨#[]⟩⟩ : Nd)]).length = (2 * n + 1) + 2 := by simp [sh_len]
theorem sh_at2 (a : ByteArray) (n : Nat) : (shTm n ++ [(⟨1, 0, 0, a⟩ : Nd)] ++ [(⟨5, 0, 0, ⟨#[]⟩⟩ : Nd)])[2 * n + 1]? = some ⟨1, 0, 0, a⟩ := by
  rw [List.append_assoc, List.getElem?_append_right (by rw [sh_len]; omega), sh_len]
  simp
section
variable {W : World}
set_option maxRecDepth 100000 in
set_option maxHeartbeats 4000000 in
theorem sw_tail (a s : ByteArray) {b4 o4 i1 i3 c4 : Nat} {w : World} (hU : Under W w) (hb : b4 < w.heap.size) (z0 : w.cell? ⟨b4, o4 + i1 * 4, none⟩ = some (.int .i64 1)) (z3 : w.cell? ⟨b4, o4 + i1 * 4 + 3, none⟩ = some (.string a)) (h3 : i3 = i1 + 2) (hi : i1 ≤ 1000) (hs : s.size ≤ 656) (J : Nat → Value) :
    swD.wp Tryd.prog (bodyPostG Tryd.prog Tryd.f4 (TrueU W)) ⟨swFrameC a s b4 o4 i3 c4 J, []⟩ w := by
  have h9 : (i3 : Int) ≤ 2000 := by omega
  have hn1 : (i3 : Int) - 2 = (i1 : Int) := by omega
  have hn2 : (i1 : Int) < (i3 : Int) := by omega
  have hn0 : (0 : Int) ≤ (i1 : Int) := by omega
  have h2 : (2 : Int) ≤ (i3 : Int) := by omega
  clear h3 hi
  have HU := Lib.hid hU
  generalize hQ : bodyPostG Tryd.prog Tryd.f4 (TrueU W) = Q
  have HQ := Lib.hid hQ
  clear hU hQ
  unfold swD swC swB swA swText
  simp only [Tryd.f4, Option.getD_some, sndOf]
  unfold swFrameC
  go_wp2
  rw [← HQ.out]
  exact bodyG_tmp rfl rfl ⟨rfl, HU.out⟩
set_option maxRecDepth 100000 in
set_option maxHeartbeats 4000000 in
theorem sw_third (a s : ByteArray) (n : Nat) (h20 : n ≤ 20) (hs1 : a.size ≤ 16) (hs2 : s.size ≤ 656) (hTx : (⟨#[40, 97, 112, 112, 32]⟩ : ByteArray) ++ s ++ ⟨#[32]⟩ ++ a ++ ⟨#[41]⟩ = ⟨(textX (shApp a n)).toArray⟩)
    (hR3 : ∀ w', Under W w' → ∀ {p : Option Addr} {d : Nat}, TextsV w' (.slice p 1 d) [a] → CallsG Tryd.prog 8 #[.agg #[.slice p 1 d, .slice none 0 0], .string ⟨(textX (shApp a n)).toArray⟩] w' (TermPost w' (.ok (shTm n ++ [(⟨1, 0, 0, a⟩ : Nd)] ++ [(⟨5, 0, 0, ⟨#[]⟩⟩ : Nd)])))) {w2 : World} (hU : Under W w2) (J : Nat → Value) :
    swC.wpG Tryd.prog (bodyPostG Tryd.prog Tryd.f4 (TrueU W)) ⟨swFrameD a s J, []⟩ w2 := by
  have HTx := Lib.hid hTx
  have HR3 := Lib.hid hR3
  have HU2 := Lib.hid hU
  clear hTx hR3 hU
  unfold swC swB swA swText
  simp only [Tryd.f4, Option.getD_some, sndOf]
  unfold swFrameD
  refine wpG_seq tame ?_
  refine wpG_split tame 9 (by decide) fun τ d => ?_
  simp only [List.take_succ_cons, List.take_zero]
  go_wp2
  have HU3 := Lib.hid (under_alloc (HU2.out.re τ d) (.cells #[.string a] 9))
  have hc : TextsV ((re w2 τ d).alloc (.cells #[.string a] 9)) (.slice (some ⟨(re w2 τ d).heap.size, 0, none⟩) 1 1) [a] := ⟨_, _, rfl, Nat.le_refl _, (fun e => by cases e), arg_new _ [.string a] _ _⟩
  have hR3 := HR3.out _ HU3.out hc
  clear hc
  generalize (re w2 τ d).alloc (.cells #[.string a] 9) = w3 at *
  generalize (re w2 τ d).heap.size = zb at *
  refine opsG_call (i := 9) (rest := List.range' 10 7) tame rfl (by rfl) (run_call_fn (vs := #[.agg #[.slice (some ⟨zb, 0, none⟩) 1 1, .slice none 0 0], .string ⟨(textX (shApp a n)).toArray⟩]) rfl Tryd.func8 (by kernel_rfl) rfl (by simp [Act.eval]; exact HTx.out)) hR3 ?_
  rintro v w4 ⟨hU4, u, rfl, hT⟩
  obtain ⟨q4, c4, rfl, _, _, hr4⟩ := hT
  obtain ⟨b4, o4, rfl, hb4, y0, _, _, y3⟩ := RowArg.node hr4 (sh_at2 a n)
  rw [sh_len2]
  have HU4 := Lib.hid (HU3.out.trans hU4)
  have HY := Lib.hid (And.intro y0 y3)
  clear hR3 hU4 hr4 y0 y3
  refine opsG_split tame 10 7 0 (by decide) fun τ d => ?_
  simp only [List.drop_succ_cons, List.drop_zero, List.take_succ_cons, List.take_zero]
  walk_nrm
  go_wp2
  refine opsG_nil tame ?_
  simp only [Exit.then]
  refine wpG_re ?_ τ d
  exact wpG_fr (F := swFrameC a s b4 o4 (2 * n + 1 + 2) c4) (by rfl) fun J => wpG_lone tame fun τ d => sw_tail a s (HU4.out.re τ d) hb4 HY.out.1 HY.out.2 rfl (by omega) hs2 J
set_option maxRecDepth 100000 in
set_option maxHeartbeats 4000000 in
theorem sw_second (a s : ByteArray) (n : Nat) (h20 : n ≤ 20) (hs1 : a.size ≤ 16) (hs2 : s.size ≤ 656) (hTx : (⟨#[40, 97, 112, 112, 32]⟩ : ByteArray) ++ s ++ ⟨#[32]⟩ ++ a ++ ⟨#[41]⟩ = ⟨(textX (shApp a n)).toArray⟩)
    (hR3 : ∀ w', Under W w' → ∀ {p : Option Addr} {d : Nat}, TextsV w' (.slice p 1 d) [a] → CallsG Tryd.prog 8 #[.agg #[.slice p 1 d, .slice none 0 0], .string ⟨(textX (shApp a n)).toArray⟩] w' (TermPost w' (.ok (shTm n ++ [(⟨1, 0, 0, a⟩ : Nd)] ++ [(⟨5, 0, 0, ⟨#[]⟩⟩ : Nd)]))))
    (hR2 : ∀ w', Under W w' → CallsG Tryd.prog 8 #[.agg #[.slice none 0 0, .slice none 0 0], .string ⟨(textX (shApp a n)).toArray⟩] w' (TermPost w' (.error (80, 6 + (s.size : Int))))) {w1 : World} (hU : Under W w1) (J : Nat → Value) :
    swB.wpG Tryd.prog (bodyPostG Tryd.prog Tryd.f4 (TrueU W)) ⟨swFrameB a s J, []⟩ w1 := by
  have HTx := Lib.hid hTx
  have HR3 := Lib.hid hR3
  have HU1 := Lib.hid hU
  have hR2 := hR2 w1 hU
  clear hTx hR3 hU
  unfold swB swA swText
  simp only [Tryd.f4, Option.getD_some, sndOf]
  unfold swFrameB
  refine wpG_seq tame ?_
  refine wpG_split tame 7 (by decide) fun τ d => ?_
  simp only [List.take_succ_cons, List.take_zero]
  go_wp2
  refine opsG_re ?_ τ d
  refine opsG_call (i := 7) (rest := List.range' 8 7) tame rfl (by rfl) (run_call_fn (vs := #[.agg #[.slice none 0 0, .slice none 0 0], .string ⟨(textX (shApp a n)).toArray⟩]) rfl Tryd.func8 (by kernel_rfl) rfl (by simp [Act.eval]; exact HTx.out)) hR2 ?_
  rintro v w2 ⟨hU2, rfl⟩
  have HU2 := Lib.hid (HU1.out.trans hU2)
  clear hR2 hU2
  refine opsG_split tame 8 7 0 (by decide) fun τ d => ?_
  simp only [List.drop_succ_cons, List.drop_zero, List.take_succ_cons, List.take_zero]
  walk_nrm
  go_wp2
  refine opsG_nil tame ?_
  simp only [Exit.then]
  refine wpG_re ?_ τ d
  exact wpG_fr (F := swFrameD a s) (by rfl) fun J => sw_third a s n h20 hs1 hs2 HTx.out HR3.out HU2.out J
set_option maxRecDepth 100000 in
set_option maxHeartbeats 4000000 in
theorem sw_rest (a : ByteArray) (n : Nat) (ha : nameK a = true) (hn : 0 < n) (h20 : n ≤ 20) (w : World) (hU : Under W w) (hE : StrcAt W) (hS : ShapesAt 0 W) (J : Nat → Value) :
    swA.wpG Tryd.prog (bodyPostG Tryd.prog Tryd.f4 (TrueU W)) ⟨swFrame a n J, []⟩ w := by
  have hX := sh_read ha hn h20 w (hE.under hU) (hS.under hU)
  have hs1 : a.size ≤ 16 := nameK_size ha
  have hs2 : (shTextB a n).size ≤ 656 := by
    have := sh_size (nameK_size ha) n
    have hz : (shTextB a n).size = (textX (shSX a n)).length := by simp [shTextB, ByteArray.size]
    omega
  have HTx := Lib.hid (sh_app_text a n)
  have HR2 := Lib.hid (fun w' (h : Under W w') => by have := sh_read2 ha hn h20 w' (hE.under h) (hS.under h); rw [show ((6 + (shTextB a n).size : Nat) : Int) = 6 + ((shTextB a n).size : Int) by omega] at this; exact this)
  have HR3 := Lib.hid (fun w' (h : Under W w') {p : Option Addr} {d : Nat} (hc : TextsV w' (.slice p 1 d) [a]) => sh_read3 ha hn h20 w' (hE.under h) (hS.under h) hc)
  have HU := Lib.hid hU
  clear hU ha hE hS
  unfold swA swText
  simp only [Tryd.f4, Option.getD_some, sndOf]
  unfold swFrame
  generalize shTextB a n = s at *
  refine wpG_seq tame ?_
  refine wpG_split tame 2 (by decide) fun τ d => ?_
  simp only [List.take_succ_cons, List.take_zero]
  go_wp2
  refine opsG_re ?_ τ d
  refine opsG_call (i := 2) (rest := List.range' 3 7) tame rfl (by rfl) (run_call_fn (vs := #[.agg #[.slice none 0 0, .slice none 0 0], .string s]) rfl Tryd.func8 (by kernel_rfl) rfl (by simp [Act.eval])) hX ?_
  rintro v w1 ⟨hU1, u, rfl, hT⟩
  obtain ⟨q1, c1, rfl, _, _, hr1⟩ := hT
  obtain ⟨b1, o1, rfl, hb1, x0, x1, _, _⟩ := RowArg.node hr1 (sh_at n)
  rw [sh_len]
  have HU1 := Lib.hid (HU.out.trans hU1)
  have HX := Lib.hid (And.intro x0 x1)
  clear hX hU1 hr1 x0 x1
  refine opsG_split tame 3 7 0 (by decide) fun τ d => ?_
  simp only [List.drop_succ_cons, List.drop_zero, List.take_succ_cons, List.take_zero]
  walk_nrm
  go_wp2
  refine opsG_nil tame ?_
  simp only [Exit.then]
  refine wpG_re ?_ τ d
  refine wpG_seq tame (wpG_lone tame fun τ d => ?_)
  have x0 : (re w1 τ d).cell? ⟨b1, o1 + n * 4, none⟩ = some (.int .i64 0) := HX.out.1
  have x1 : (re w1 τ d).cell? ⟨b1, o1 + n * 4 + 1, none⟩ = some (.int .i64 0) := HX.out.2
  have hb1' : b1 < (re w1 τ d).heap.size := hb1
  have hn0 : (0 : Int) ≤ (n : Int) := by omega
  have hn1 : (n : Int) < ((2 * n + 1 : Nat) : Int) := by omega
  have hn2 : (((2 * n + 1 : Nat) : Int) != 2 * (n : Int) + 1) = false := by simp
  have hn3 : (n : Int) ≤ 20 := by omega
  go_wp2
  refine wpG_re ?_ τ d
  exact wpG_fr (F := swFrameB a s) (by rfl) fun J => sw_second a s n h20 hs1 hs2 HTx.out HR3.out HR2.out HU1.out J
end
end Go.Proofs.YtkmbmgmfcecfkaaDoor
namespace Go.Proofs.YtkmbmgmfcecfkaaDoor
open Go.Conc Go.Lx Go.RowKit
section
variable {W : World}
def SwRel (a : ByteArray) (nn : Nat) (w0 : World) (s i : Value) (wr : World) : Prop := ∃ k : Nat, k ≤ nn ∧ s = .string (shTextB a k) ∧ i = .int .i64 (k : Int) ∧ wr = w0
set_option maxRecDepth 100000 in
set_option maxHeartbeats 4000000 in
theorem shadows_all (a : ByteArray) (kind : Int) (hk0 : 0 ≤ kind) (hk1 : kind ≤ 255) (W : World) (hE : StrcAt W) (hS : ShapesAt 0 W) :
    CallsG Tryd.prog 4 #[.string a, .int .u8 kind] W (TrueU W) := by
  refine callsG_of_wpG tame Tryd.func4 rfl ?_ TrueU.re
  simp only [Tryd.ntmps4, List.size_toArray, List.length_cons, List.length_nil, Nat.reduceAdd, Nat.reduceSub, Array.replicate_succ, Array.replicate_zero, List.push_toArray, List.append_toArray, List.nil_append, List.cons_append]
  refine wpG_seq tame (wpG_lone tame fun τ d => ?_)
  go_wp2
  refine wpG_re ?_ τ d
  by_cases h1 : (20 : Int) < a.size
  · have HW := Lib.hid (Under.refl W)
    refine wpG_seq tame ?_
    refine wpG_seq tame (wpG_lone tame fun τ d => ?_)
    go_wp2
    refine wpG_re ?_ τ d
    refine wpG_cond tame (t := true) rfl ?_
    simp only [if_true]
    refine wpG_seq tame (wpG_region tame ?_)
    refine opsG_call (i := 0) (rest := List.range' 1 1) tame rfl (by rfl) (run_call_fn (vs := #[]) rfl Tryd.func5 (by kernel_rfl) rfl (by simp)) (shown8_calls _ (hE.under HW.out) (hS.under HW.out)) ?_
    rintro v w9 ⟨rfl, hU9⟩
    refine opsG_split tame 1 1 0 (by decide) fun τ d => ?_
    simp only [List.drop_succ_cons, List.drop_zero, List.take_succ_cons, List.take_zero]
    walk_nrm
    go_wp2
    refine opsG_nil tame ?_
    simp only [Exit.then]
    refine wpG_lone tame fun τ d => ?_
    go_wp2
    exact bodyG_tmp rfl rfl ⟨rfl, (HW.out.trans hU9).re _ _⟩
  refine wpG_seq tame (wpG_seq tame ?_)
  refine wpG_split tame 4 (by decide) fun τ d => ?_
  simp only [List.take_succ_cons, List.take_zero]
  go_wp2
  have e1 : decide ((20 : Int) < a.size) = false := decide_eq_false (by omega)
  try simp only [e1]
  refine opsG_re ?_ τ d
  refine opsG_call (i := 4) (rest := List.range' 5 11) tame rfl (by rfl) (run_call_fn (vs := #[]) rfl Tryd.func5 (by kernel_rfl) rfl (by simp)) (shown8_calls W hE hS) ?_
  rintro v w1 ⟨rfl, hU1⟩
  refine opsG_split tame 5 11 0 (by decide) fun τ d => ?_
  simp only [List.drop_succ_cons, List.drop_zero, List.take_succ_cons, List.take_zero]
  walk_nrm
  have HW := Lib.hid (hU1.re τ d)
  generalize re w1 τ d = w2 at *
  clear hU1 e1
  cases h3 : nameB a
  · go_wp2_with fail
    refine (rname_any a).mono ?_
    rintro e wx ⟨rfl, hwx⟩
    subst wx
    rw [h3]
    go_wp2
    refine opsG_nil tame ?_
    simp only [Exit.then]
    refine wpG_cond tame (t := true) rfl ?_
    simp only [if_true]
    refine wpG_seq tame (wpG_region tame ?_)
    refine opsG_call (i := 0) (rest := List.range' 1 1) tame rfl (by rfl) (run_call_fn (vs := #[]) rfl Tryd.func5 (by kernel_rfl) rfl (by simp)) (shown8_calls _ (hE.under HW.out) (hS.under HW.out)) ?_
    rintro v w9 ⟨rfl, hU9⟩
    refine opsG_split tame 1 1 0 (by decide) fun τ d => ?_
    simp only [List.drop_succ_cons, List.drop_zero, List.take_succ_cons, List.take_zero]
    walk_nrm
    go_wp2
    refine opsG_nil tame ?_
    simp only [Exit.then]
    refine wpG_lone tame fun τ d => ?_
    go_wp2
    exact bodyG_tmp rfl rfl ⟨rfl, (HW.out.trans hU9).re _ _⟩
  cases h5 : kwB a
  rotate_left
  · go_wp2_with fail
    refine (rname_any a).mono ?_
    rintro e wx ⟨rfl, hwx⟩
    subst wx
    rw [h3]
    go_wp2_with fail
    refine (Keyword_any (w0 := w2) a).mono ?_
    rintro e w3 ⟨rfl, hUk⟩
    rw [h5]
    have HW := Lib.hid (HW.out.trans hUk)
    clear hUk
    go_wp2
    refine opsG_nil tame ?_
    simp only [Exit.then]
    refine wpG_cond tame (t := true) rfl ?_
    simp only [if_true]
    refine wpG_seq tame (wpG_region tame ?_)
    refine opsG_call (i := 0) (rest := List.range' 1 1) tame rfl (by rfl) (run_call_fn (vs := #[]) rfl Tryd.func5 (by kernel_rfl) rfl (by simp)) (shown8_calls _ (hE.under HW.out) (hS.under HW.out)) ?_
    rintro v w9 ⟨rfl, hU9⟩
    refine opsG_split tame 1 1 0 (by decide) fun τ d => ?_
    simp only [List.drop_succ_cons, List.drop_zero, List.take_succ_cons, List.take_zero]
    walk_nrm
    go_wp2
    refine opsG_nil tame ?_
    simp only [Exit.then]
    refine wpG_lone tame fun τ d => ?_
    go_wp2
    exact bodyG_tmp rfl rfl ⟨rfl, (HW.out.trans hU9).re _ _⟩
  have ka : nameK a = true := by unfold nameK; rw [h3, ← kw_eq, h5]; rfl
  go_wp2_with fail
  refine (rname_any a).mono ?_
  rintro e wx ⟨rfl, hwx⟩
  subst wx
  rw [h3]
  go_wp2_with fail
  refine (Keyword_any (w0 := w2) a).mono ?_
  rintro e w3 ⟨rfl, hUk⟩
  rw [h5]
  have HW := Lib.hid (HW.out.trans hUk)
  clear hUk
  go_wp2
  refine opsG_nil tame ?_
  simp only [Exit.then]
  refine wpG_cond tame (t := false) rfl ?_
  simp only [Bool.false_eq_true, if_false]
  refine wpG_lone tame fun τ d => ?_
  go_wp2
  refine wpG_re ?_ τ d
  have hmod0 : 0 ≤ kind % 20 := Int.emod_nonneg _ (by omega)
  have hmod1 : kind % 20 < 20 := Int.emod_lt_of_pos _ (by omega)
  obtain ⟨m, hm⟩ : ∃ m : Nat, kind % 20 = m := ⟨_, (Int.toNat_of_nonneg hmod0).symm⟩
  have hm4 : m < 20 := by omega
  clear hmod0 hmod1 h3 h5
  refine wpG_seq tame (wpG_lone tame fun τ d => ?_)
  go_wp2
  refine wpG_re ?_ τ d
  refine wpG_seq tame (wpG_lone tame fun τ d => ?_)
  go_wp2
  refine wpG_re ?_ τ d
  refine wpG_seq tame (wpG_lone tame fun τ d => ?_)
  have hm0 : (0 : Int) ≤ (m : Int) := by omega
  have hm9 : (m : Int) ≤ 19 := by omega
  go_wp2
  have HW4 := Lib.hid (HW.out.re τ d)
  generalize re w3 τ d = w4 at *
  go_loopw [6, 7] (fun s i wr => SwRel a (1 + m) w4 s i wr) (fun _ i _ => 1 + m - (intOf i).toNat)
  case atStart => exact ⟨0, Nat.zero_le _, by rw [sh_zero], rfl, rfl⟩
  case round =>
    obtain ⟨k, hk, rfl, rfl, rfl⟩ := hrel
    by_cases hlt : k < 1 + m
    · have hlt1 : (k : Int) < 1 + (m : Int) := by omega
      have hz : (shTextB a k).size ≤ 656 := by
        have := sh_size (nameK_size ka) k
        have hz : (shTextB a k).size = (textX (shSX a k)).length := by simp [shTextB, ByteArray.size]
        omega
      have ha : a.size ≤ 16 := nameK_size ka
      have HWr := Lib.hid (sh_wrap a k)
      generalize shTextB a k = s at *
      go_wp2
      go_roundw
      case rel => exact ⟨k + 1, by omega, by rw [← HWr.out]; rfl, by go_num, rfl⟩
      case measure => simp [intOf]; omega
    · obtain rfl : k = 1 + m := by omega
      have hlt1 : ¬ ((1 + m : Nat) : Int) < 1 + (m : Int) := by omega
      go_wp2
      exact wpG_fr (F := swFrame a (1 + m)) (by rfl) fun J => sw_rest a (1 + m) ka (by omega) (by omega) _ HW4.out hE hS J
end
end Go.Proofs.YtkmbmgmfcecfkaaDoor
namespace Go.Proofs.YtkmbmgmfcecfkaaDoor
open Go
theorem faScopeShadows : mapsRowed Tryd.pinned.checked.prog = true := by kernel_rfl
theorem fbScopeShadows : (Rows.scopeShadowsRow.inPlace == Tryd.pinned.checked.prog.inPlace 4) = true := by kernel_rfl
theorem fcScopeShadows : (Rows.scopeShadowsRow.unfollowed == Tryd.pinned.checked.prog.unfollowed 4) = true := by kernel_rfl
theorem fdScopeShadows : (Rows.scopeShadowsRow.recurses == Tryd.pinned.checked.prog.recurses 4) = true := by kernel_rfl
theorem feScopeShadows : (Rows.scopeShadowsRow.named == Tryd.pinned.checked.prog.varsNamed 4) = true := by kernel_rfl
theorem factsScopeShadows : joinedFacts Tryd.pinned.checked.prog 4 Tryd.f4 Rows.scopeShadowsSpec Rows.scopeShadowsRow = true := by
  unfold joinedFacts
  rw [faScopeShadows, fbScopeShadows, fcScopeShadows, fdScopeShadows, feScopeShadows]
  kernel_rfl
end Go.Proofs.YtkmbmgmfcecfkaaDoor
namespace Go.Proofs.YtkmbmgmfcecfkaaDoor
open Go.ChangeShapes Go.WideShapes Go.ChangeAt Go.WideMaps Go.WideElems Go.RowKit Go.Lx Go.Deep Go.Conc
set_option maxRecDepth 100000 in
theorem liftedScopeShadows (os : Os) (started : os.Started) (H : Type) (enc : TypeId × Value → H) :
    ReturnsInLeavingWide {} Tryd.checked os 4 .any (fun w args => (Rows.scopeShadowsSpec.pre enc Tryd.prog Tryd.f4 [] false w args ∧ laidMetH Tryd.prog laidL w) ∧ sizedMet enc Tryd.prog Tryd.f4 (OpenSpec.ofChange Rows.scopeShadowsSpec) false w args)
      (Rows.scopeShadowsSpec.post enc Tryd.prog Tryd.f4 false true false false) := by
  refine leavingWide_and (C := Tryd.checked) (X := fun w _ => laidMetH Tryd.prog laidL w) (fun _ _ _ hh h => h.of_heap hh) Tryd.own started Tryd.func4
    (ChangeSpec.witness_shaped (enc := enc) (C := Tryd.checked) (os := os) (X := fun w _ => laidMetH Tryd.prog laidL w) false (World.doorLaid Tryd.prog 400 os) #[.string ⟨#[]⟩, .int .u8 0] 8 rfl (World.shaped_of_RefB (by kernel_rfl) (by kernel_rfl)) (by kernel_rfl) (by kernel_rfl) (by kernel_rfl) (door_met os _)) ?_
  intro W base args ds gs before hval0 hW _ _ hL _
  have hval : ∀ (j : Nat) t v, Tryd.f4.params[j]? = some t → args[j]? = some v → Value.okWide Tryd.prog W .any base t v := hval0
  have hW' := hW
  obtain ⟨p, q, hA0, hV, rfl, _, _⟩ := hW
  have hA : DataW.TrodAll enc Tryd.prog W 0 (fun _ => true) true Tryd.f4.params.toList args.toList ds p := hA0
  rw [Tryd.params4] at hA hval
  have hlt := hA.lt
  obtain ⟨v0, v1, d0, d1, p0, p1, rfl, rfl, rfl, h0, h1⟩ := trodAll_two hA
  obtain ⟨rfl, rfl⟩ := trodVars_none hV
  obtain ⟨l0, rfl⟩ := okWide_string Tryd.underlying9 (hval 0 9 v0 rfl rfl)
  have g1 := h1
  obtain ⟨z1, rfl⟩ := okWide_int Tryd.underlying5 (hval 1 5 v1 rfl rfl)
  obtain ⟨fuel1, hf1⟩ := g1
  obtain ⟨y1, hy1, _, hwf1⟩ := DataW.trod_int Tryd.underlying5 hf1
  simp only [Value.cells, List.cons.injEq, and_true, Value.int.injEq, true_and] at hy1
  obtain rfl := hy1
  simp only [Lit.wf, Bool.and_eq_true, decide_eq_true_eq] at hwf1
  have hB := of_laid hL
  refine good_of_callsG (P := Tryd.prog) Tryd.func4 rfl rfl (by kernel_rfl) ((shadows_all l0 z1 hwf1.1 hwf1.2 W hB.1 hB.2).mono ?_)
  rintro v w ⟨rfl, hU⟩ τ d
  refine ChangeSpec.post_alike (W'' := re w W.tape d) ?_ ⟨rfl, rfl, rfl⟩
  have hb := below_ofS hU d
  refine ⟨_, _, _, [], p0 ++ p1, [], hW', ?_, ?_, rfl, hb.frame _, fun h => by cases h⟩
  · exact trodAll_mk1 (shut_boolS true)
  · exact trodAll_mk2 (staysS (by kernel_rfl) (by decide +kernel) hU d (fun x hx => hlt x (by simp [hx])) h0) (staysS (by kernel_rfl) (by decide +kernel) hU d (fun x hx => hlt x (by simp [hx])) h1)
theorem scopeShadows_holds : Rows.ScopeShadowsSaid :=
  OpenClaim.holds_of_wide_leaving 4 Tryd.f4 rfl rfl rfl rfl rfl rfl rfl ⟨rfl, rfl, rfl, rfl, rfl⟩ rfl rfl rfl rfl rfl (by kernel_rfl) Tryd.func4 factsScopeShadows
    (of_decide_eq_true (by kernel_rfl)) (by unfold Func.isWrapper; first | (rw [if_pos (by decide +kernel)]; kernel_rfl) | (rw [if_neg (by decide +kernel)]; exact ⟨rfl, rfl⟩))
    (fun os started H enc _ => liftedScopeShadows os started H enc)
end Go.Proofs.YtkmbmgmfcecfkaaDoor
