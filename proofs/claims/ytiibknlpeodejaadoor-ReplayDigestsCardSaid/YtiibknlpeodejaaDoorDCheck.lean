/- decls.Check: its contract. -/
import Derived.Test.YtiibknlpeodejaaDoorDC4a
import Derived.Test.YtiibknlpeodejaaDoorDC4b
import Derived.Test.YtiibknlpeodejaaDoorDC4c
import Derived.Test.YtiibknlpeodejaaDoorDC4d
import Derived.Test.YtiibknlpeodejaaDoorDC4e
set_option linter.unusedSimpArgs false
set_option linter.unusedVariables false
namespace Go.Proofs.YtiibknlpeodejaaDoor
open Go.Lx Go.RowKit

/-- May a declaration of this kind have this level? -/
def lvlOk (k l : Int) : Bool := (k == 3 && (decide (1 ≤ l) && decide (l ≤ 9))) || (!(k == 3) && (l == 0))
/-- The error of a declaration. -/
def declE (d : Dc) : Int := firstE [
  unlessE (decide (1 ≤ d.kind) && decide (d.kind ≤ 3)) 1,
  unlessE (dnameB d.name) 20,
  firstE ((termsOf d).map closedT),
  unlessE (lvlOk d.kind d.level) 1,
  unlessE (d.kind == 3 || ((d.cons.length : Int) == 0)) 1,
  unlessE (!(d.kind == 3) || ((d.type.length : Int) == 0)) 1,
  unlessE (d.kind == 1 || ((d.body.length : Int) == 0)) 1,
  unlessE (!(decide (6 < (d.cons.length : Int)) || longB d.cons)) 21]
section
variable {w0 : World} {d : Dc} {v : Value}
set_option maxRecDepth 100000 in
set_option maxHeartbeats 1400000 in
theorem dcheck_any (hd : Small d) (hv : DcV w0 v d) (hS : ShapesAt 1 w0) : Calls Tryd.prog 20 #[v] w0 fun x w => x = .returned (.int .i64 (declE d)) ∧ Under w0 w := by
  have hv' := hv
  obtain ⟨vt, vb, vc, rfl, ⟨pt, ct, rfl, g1⟩, ⟨pb, cb, rfl, g2⟩, hc⟩ := hv
  have hcon := ConsV.mono _ _ _ _ (under_alloc (Under.refl w0) (.cells #[.int .i64 d.kind, .int .i64 d.level, .string d.name, .slice pt d.type.length ct, .slice pb d.body.length cb, vc] 29)) hc
  have HL := Lib.hid (hasLong_any d.cons hd.cons hcon)
  obtain ⟨pc, cc, us, rfl, g3⟩ := hc
  have hU := under_alloc (Under.refl w0) (.cells #[.int .i64 d.kind, .int .i64 d.level, .string d.name, .slice pt d.type.length ct, .slice pb d.body.length cb, .slice pc d.cons.length cc] 29)
  have HV := Lib.hid hv'
  have HS := Lib.hid hS
  have HD := Lib.hid hd
  have HU := Lib.hid hU
  have hE : declE d = firstE [
  unlessE (decide (1 ≤ d.kind) && decide (d.kind ≤ 3)) 1,
  unlessE (dnameB d.name) 20,
  firstE ((termsOf d).map closedT),
  unlessE (lvlOk d.kind d.level) 1,
  unlessE (d.kind == 3 || ((d.cons.length : Int) == 0)) 1,
  unlessE (!(d.kind == 3) || ((d.type.length : Int) == 0)) 1,
  unlessE (d.kind == 1 || ((d.body.length : Int) == 0)) 1,
  unlessE (!(decide (6 < (d.cons.length : Int)) || longB d.cons)) 21] := rfl
  have HE := Lib.hid hE
  have HC := Lib.hid (fun w (h : Under w0 w) => closed_any (w0 := w) hd (DcV.mono _ _ _ _ h hv') (hS.under h))
  have HN := Lib.hid (fun w => dname_any (w0 := w) d.name (by have := hd.name; unfold maxLen; omega))
  clear hd hv' hS hU hcon hE HV HS HD g1 g2 g3 us
  generalize longB d.cons = lg at *
  generalize firstE ((termsOf d).map closedT) = ce at *
  generalize dnameB d.name = nm at *
  generalize d.type.length = nt at *
  generalize d.body.length = nb at *
  generalize d.cons.length = nc at *
  generalize d.name = s at *
  generalize d.level = l at *
  generalize d.kind = k at *
  generalize declE d = de at *
  by_cases hl : 1 ≤ l
  · by_cases hl2 : l ≤ 9
    · have HV : RowKit.Hid ((decide (1 ≤ l) && decide (l ≤ 9)) = true) := Lib.hid (by simp [hl, hl2])
      by_cases hn : 6 < (nc : Int)
      · have HDn : RowKit.Hid (decide (6 < (nc : Int)) = true) := Lib.hid (by simpa using hn)
        go_enter Tryd.func20, Tryd.ntmps20
        go_wp2_with fail
        rename_i Q' K hK
        have HQ : RowKit.Hid (∀ r : Int, r = de → ∀ (y0 y1 y3 y4 y5 y6 y7 y8 y9 y10 y11 y12 y13 y14 y15 y16 y17 y18 y19 y20 y21 y22 y23 y24 y25 y26 y27 y28 y29 y30 y31 y32 y33 y34 y35 y36 y37 y38 y39 y40 y41 y42 y43 y44 y45 y46 y47 y48 y49 y50 y51 y52 y53 y54 y55 y56 y57 y58 y59 y60 y61 y62 y63 y64 y65 y66 y67 y68 y69 y70 y71 y72 y73 y74 y75 y76 y77 y78 y79 y80 y81 y82 y83 y84 y85 y86 : Value) (w' : World), Under w0 w' → (Exit.then K Q') .normal ⟨#[y0, y1, .int .i64 r, y3, y4, y5, y6, y7, y8, y9, y10, y11, y12, y13, y14, y15, y16, y17, y18, y19, y20, y21, y22, y23, y24, y25, y26, y27, y28, y29, y30, y31, y32, y33, y34, y35, y36, y37, y38, y39, y40, y41, y42, y43, y44, y45, y46, y47, y48, y49, y50, y51, y52, y53, y54, y55, y56, y57, y58, y59, y60, y61, y62, y63, y64, y65, y66, y67, y68, y69, y70, y71, y72, y73, y74, y75, y76, y77, y78, y79, y80, y81, y82, y83, y84, y85, y86], []⟩ w') := Lib.hid (by
          rintro r rfl y0 y1 y3 y4 y5 y6 y7 y8 y9 y10 y11 y12 y13 y14 y15 y16 y17 y18 y19 y20 y21 y22 y23 y24 y25 y26 y27 y28 y29 y30 y31 y32 y33 y34 y35 y36 y37 y38 y39 y40 y41 y42 y43 y44 y45 y46 y47 y48 y49 y50 y51 y52 y53 y54 y55 y56 y57 y58 y59 y60 y61 y62 y63 y64 y65 y66 y67 y68 y69 y70 y71 y72 y73 y74 y75 y76 y77 y78 y79 y80 y81 y82 y83 y84 y85 y86 w' hU'
          have HU' := Lib.hid hU'
          clear hU'
          refine hK _ _ ?_
          go_wp2
          go_ret
          exact ⟨rfl, HU'.out⟩)
        by_cases hk : k = 3
        · rw [show (k == 3) = true by simpa using hk]
          exact r4a_any (b4 := true) HC HN (Lib.hid (by rw [HE.out, lvlOk, HV.out, HDn.out]; first | rfl | simp)) hk (by simp) HU.out ((box_new w0 _ _).cell 0) ((box_new w0 _ _).cell 1) ((box_new w0 _ _).cell 2) ((box_new w0 _ _).cell 3) ((box_new w0 _ _).cell 4) ((box_new w0 _ _).cell 5) _ _ _ _ _ _ _ _ _ _ _ _ _ _ _ _ _ _ _ _ _ _ HQ
        · rw [show (k == 3) = false by simpa using hk]
          by_cases hk1 : k = 1
          · exact r4d_any (b4 := true) HC HN (Lib.hid (by rw [HE.out, lvlOk, HV.out, HDn.out]; first | rfl | simp)) hk1 (by simp) HU.out ((box_new w0 _ _).cell 0) ((box_new w0 _ _).cell 1) ((box_new w0 _ _).cell 2) ((box_new w0 _ _).cell 3) ((box_new w0 _ _).cell 4) ((box_new w0 _ _).cell 5) _ _ _ _ _ _ _ _ _ _ _ _ _ _ _ _ _ _ _ _ _ _ HQ
          · by_cases hk2 : k < 1
            · exact r4c_any (b4 := true) HC HN (Lib.hid (by rw [HE.out, lvlOk, HV.out, HDn.out]; first | rfl | simp)) hk2 (by simp) HU.out ((box_new w0 _ _).cell 0) ((box_new w0 _ _).cell 1) ((box_new w0 _ _).cell 2) ((box_new w0 _ _).cell 3) ((box_new w0 _ _).cell 4) ((box_new w0 _ _).cell 5) _ _ _ _ _ _ _ _ _ _ _ _ _ _ _ _ _ _ _ _ _ _ HQ
            · exact r4e_any (b4 := true) HC HN (Lib.hid (by rw [HE.out, lvlOk, HV.out, HDn.out]; first | rfl | simp)) ⟨by omega, hk⟩ (by simp) HU.out ((box_new w0 _ _).cell 0) ((box_new w0 _ _).cell 1) ((box_new w0 _ _).cell 2) ((box_new w0 _ _).cell 3) ((box_new w0 _ _).cell 4) ((box_new w0 _ _).cell 5) _ _ _ _ _ _ _ _ _ _ _ _ _ _ _ _ _ _ _ _ _ _ HQ
      · have HDn : RowKit.Hid (decide (6 < (nc : Int)) = false) := Lib.hid (by simpa using hn)
        go_enter Tryd.func20, Tryd.ntmps20
        go_wp2_with fail
        refine HL.out.mono ?_
        rintro e w1 ⟨rfl, rfl⟩
        go_wp2_with fail
        rename_i Q' K hK
        have HQ : RowKit.Hid (∀ r : Int, r = de → ∀ (y0 y1 y3 y4 y5 y6 y7 y8 y9 y10 y11 y12 y13 y14 y15 y16 y17 y18 y19 y20 y21 y22 y23 y24 y25 y26 y27 y28 y29 y30 y31 y32 y33 y34 y35 y36 y37 y38 y39 y40 y41 y42 y43 y44 y45 y46 y47 y48 y49 y50 y51 y52 y53 y54 y55 y56 y57 y58 y59 y60 y61 y62 y63 y64 y65 y66 y67 y68 y69 y70 y71 y72 y73 y74 y75 y76 y77 y78 y79 y80 y81 y82 y83 y84 y85 y86 : Value) (w' : World), Under w0 w' → (Exit.then K Q') .normal ⟨#[y0, y1, .int .i64 r, y3, y4, y5, y6, y7, y8, y9, y10, y11, y12, y13, y14, y15, y16, y17, y18, y19, y20, y21, y22, y23, y24, y25, y26, y27, y28, y29, y30, y31, y32, y33, y34, y35, y36, y37, y38, y39, y40, y41, y42, y43, y44, y45, y46, y47, y48, y49, y50, y51, y52, y53, y54, y55, y56, y57, y58, y59, y60, y61, y62, y63, y64, y65, y66, y67, y68, y69, y70, y71, y72, y73, y74, y75, y76, y77, y78, y79, y80, y81, y82, y83, y84, y85, y86], []⟩ w') := Lib.hid (by
          rintro r rfl y0 y1 y3 y4 y5 y6 y7 y8 y9 y10 y11 y12 y13 y14 y15 y16 y17 y18 y19 y20 y21 y22 y23 y24 y25 y26 y27 y28 y29 y30 y31 y32 y33 y34 y35 y36 y37 y38 y39 y40 y41 y42 y43 y44 y45 y46 y47 y48 y49 y50 y51 y52 y53 y54 y55 y56 y57 y58 y59 y60 y61 y62 y63 y64 y65 y66 y67 y68 y69 y70 y71 y72 y73 y74 y75 y76 y77 y78 y79 y80 y81 y82 y83 y84 y85 y86 w' hU'
          have HU' := Lib.hid hU'
          clear hU'
          refine hK _ _ ?_
          go_wp2
          go_ret
          exact ⟨rfl, HU'.out⟩)
        by_cases hk : k = 3
        · rw [show (k == 3) = true by simpa using hk]
          exact r4a_any (b4 := true) HC HN (Lib.hid (by rw [HE.out, lvlOk, HV.out, HDn.out]; first | rfl | simp)) hk (by simp) HU.out ((box_new w0 _ _).cell 0) ((box_new w0 _ _).cell 1) ((box_new w0 _ _).cell 2) ((box_new w0 _ _).cell 3) ((box_new w0 _ _).cell 4) ((box_new w0 _ _).cell 5) _ _ _ _ _ _ _ _ _ _ _ _ _ _ _ _ _ _ _ _ _ _ HQ
        · rw [show (k == 3) = false by simpa using hk]
          by_cases hk1 : k = 1
          · exact r4d_any (b4 := true) HC HN (Lib.hid (by rw [HE.out, lvlOk, HV.out, HDn.out]; first | rfl | simp)) hk1 (by simp) HU.out ((box_new w0 _ _).cell 0) ((box_new w0 _ _).cell 1) ((box_new w0 _ _).cell 2) ((box_new w0 _ _).cell 3) ((box_new w0 _ _).cell 4) ((box_new w0 _ _).cell 5) _ _ _ _ _ _ _ _ _ _ _ _ _ _ _ _ _ _ _ _ _ _ HQ
          · by_cases hk2 : k < 1
            · exact r4c_any (b4 := true) HC HN (Lib.hid (by rw [HE.out, lvlOk, HV.out, HDn.out]; first | rfl | simp)) hk2 (by simp) HU.out ((box_new w0 _ _).cell 0) ((box_new w0 _ _).cell 1) ((box_new w0 _ _).cell 2) ((box_new w0 _ _).cell 3) ((box_new w0 _ _).cell 4) ((box_new w0 _ _).cell 5) _ _ _ _ _ _ _ _ _ _ _ _ _ _ _ _ _ _ _ _ _ _ HQ
            · exact r4e_any (b4 := true) HC HN (Lib.hid (by rw [HE.out, lvlOk, HV.out, HDn.out]; first | rfl | simp)) ⟨by omega, hk⟩ (by simp) HU.out ((box_new w0 _ _).cell 0) ((box_new w0 _ _).cell 1) ((box_new w0 _ _).cell 2) ((box_new w0 _ _).cell 3) ((box_new w0 _ _).cell 4) ((box_new w0 _ _).cell 5) _ _ _ _ _ _ _ _ _ _ _ _ _ _ _ _ _ _ _ _ _ _ HQ
    · have HV : RowKit.Hid ((decide (1 ≤ l) && decide (l ≤ 9)) = false) := Lib.hid (by simp; omega)
      by_cases hn : 6 < (nc : Int)
      · have HDn : RowKit.Hid (decide (6 < (nc : Int)) = true) := Lib.hid (by simpa using hn)
        go_enter Tryd.func20, Tryd.ntmps20
        go_wp2_with fail
        rename_i Q' K hK
        have HQ : RowKit.Hid (∀ r : Int, r = de → ∀ (y0 y1 y3 y4 y5 y6 y7 y8 y9 y10 y11 y12 y13 y14 y15 y16 y17 y18 y19 y20 y21 y22 y23 y24 y25 y26 y27 y28 y29 y30 y31 y32 y33 y34 y35 y36 y37 y38 y39 y40 y41 y42 y43 y44 y45 y46 y47 y48 y49 y50 y51 y52 y53 y54 y55 y56 y57 y58 y59 y60 y61 y62 y63 y64 y65 y66 y67 y68 y69 y70 y71 y72 y73 y74 y75 y76 y77 y78 y79 y80 y81 y82 y83 y84 y85 y86 : Value) (w' : World), Under w0 w' → (Exit.then K Q') .normal ⟨#[y0, y1, .int .i64 r, y3, y4, y5, y6, y7, y8, y9, y10, y11, y12, y13, y14, y15, y16, y17, y18, y19, y20, y21, y22, y23, y24, y25, y26, y27, y28, y29, y30, y31, y32, y33, y34, y35, y36, y37, y38, y39, y40, y41, y42, y43, y44, y45, y46, y47, y48, y49, y50, y51, y52, y53, y54, y55, y56, y57, y58, y59, y60, y61, y62, y63, y64, y65, y66, y67, y68, y69, y70, y71, y72, y73, y74, y75, y76, y77, y78, y79, y80, y81, y82, y83, y84, y85, y86], []⟩ w') := Lib.hid (by
          rintro r rfl y0 y1 y3 y4 y5 y6 y7 y8 y9 y10 y11 y12 y13 y14 y15 y16 y17 y18 y19 y20 y21 y22 y23 y24 y25 y26 y27 y28 y29 y30 y31 y32 y33 y34 y35 y36 y37 y38 y39 y40 y41 y42 y43 y44 y45 y46 y47 y48 y49 y50 y51 y52 y53 y54 y55 y56 y57 y58 y59 y60 y61 y62 y63 y64 y65 y66 y67 y68 y69 y70 y71 y72 y73 y74 y75 y76 y77 y78 y79 y80 y81 y82 y83 y84 y85 y86 w' hU'
          have HU' := Lib.hid hU'
          clear hU'
          refine hK _ _ ?_
          go_wp2
          go_ret
          exact ⟨rfl, HU'.out⟩)
        by_cases hk : k = 3
        · rw [show (k == 3) = true by simpa using hk]
          exact r4b_any (b4 := false) HC HN (Lib.hid (by rw [HE.out, lvlOk, HV.out, HDn.out]; first | rfl | simp)) hk (by simp) HU.out ((box_new w0 _ _).cell 0) ((box_new w0 _ _).cell 1) ((box_new w0 _ _).cell 2) ((box_new w0 _ _).cell 3) ((box_new w0 _ _).cell 4) ((box_new w0 _ _).cell 5) _ _ _ _ _ _ _ _ _ _ _ _ _ _ _ _ _ _ _ _ _ _ HQ
        · rw [show (k == 3) = false by simpa using hk]
          by_cases hk1 : k = 1
          · exact r4d_any (b4 := false) HC HN (Lib.hid (by rw [HE.out, lvlOk, HV.out, HDn.out]; first | rfl | simp)) hk1 (by simp) HU.out ((box_new w0 _ _).cell 0) ((box_new w0 _ _).cell 1) ((box_new w0 _ _).cell 2) ((box_new w0 _ _).cell 3) ((box_new w0 _ _).cell 4) ((box_new w0 _ _).cell 5) _ _ _ _ _ _ _ _ _ _ _ _ _ _ _ _ _ _ _ _ _ _ HQ
          · by_cases hk2 : k < 1
            · exact r4c_any (b4 := false) HC HN (Lib.hid (by rw [HE.out, lvlOk, HV.out, HDn.out]; first | rfl | simp)) hk2 (by simp) HU.out ((box_new w0 _ _).cell 0) ((box_new w0 _ _).cell 1) ((box_new w0 _ _).cell 2) ((box_new w0 _ _).cell 3) ((box_new w0 _ _).cell 4) ((box_new w0 _ _).cell 5) _ _ _ _ _ _ _ _ _ _ _ _ _ _ _ _ _ _ _ _ _ _ HQ
            · exact r4e_any (b4 := false) HC HN (Lib.hid (by rw [HE.out, lvlOk, HV.out, HDn.out]; first | rfl | simp)) ⟨by omega, hk⟩ (by simp) HU.out ((box_new w0 _ _).cell 0) ((box_new w0 _ _).cell 1) ((box_new w0 _ _).cell 2) ((box_new w0 _ _).cell 3) ((box_new w0 _ _).cell 4) ((box_new w0 _ _).cell 5) _ _ _ _ _ _ _ _ _ _ _ _ _ _ _ _ _ _ _ _ _ _ HQ
      · have HDn : RowKit.Hid (decide (6 < (nc : Int)) = false) := Lib.hid (by simpa using hn)
        go_enter Tryd.func20, Tryd.ntmps20
        go_wp2_with fail
        refine HL.out.mono ?_
        rintro e w1 ⟨rfl, rfl⟩
        go_wp2_with fail
        rename_i Q' K hK
        have HQ : RowKit.Hid (∀ r : Int, r = de → ∀ (y0 y1 y3 y4 y5 y6 y7 y8 y9 y10 y11 y12 y13 y14 y15 y16 y17 y18 y19 y20 y21 y22 y23 y24 y25 y26 y27 y28 y29 y30 y31 y32 y33 y34 y35 y36 y37 y38 y39 y40 y41 y42 y43 y44 y45 y46 y47 y48 y49 y50 y51 y52 y53 y54 y55 y56 y57 y58 y59 y60 y61 y62 y63 y64 y65 y66 y67 y68 y69 y70 y71 y72 y73 y74 y75 y76 y77 y78 y79 y80 y81 y82 y83 y84 y85 y86 : Value) (w' : World), Under w0 w' → (Exit.then K Q') .normal ⟨#[y0, y1, .int .i64 r, y3, y4, y5, y6, y7, y8, y9, y10, y11, y12, y13, y14, y15, y16, y17, y18, y19, y20, y21, y22, y23, y24, y25, y26, y27, y28, y29, y30, y31, y32, y33, y34, y35, y36, y37, y38, y39, y40, y41, y42, y43, y44, y45, y46, y47, y48, y49, y50, y51, y52, y53, y54, y55, y56, y57, y58, y59, y60, y61, y62, y63, y64, y65, y66, y67, y68, y69, y70, y71, y72, y73, y74, y75, y76, y77, y78, y79, y80, y81, y82, y83, y84, y85, y86], []⟩ w') := Lib.hid (by
          rintro r rfl y0 y1 y3 y4 y5 y6 y7 y8 y9 y10 y11 y12 y13 y14 y15 y16 y17 y18 y19 y20 y21 y22 y23 y24 y25 y26 y27 y28 y29 y30 y31 y32 y33 y34 y35 y36 y37 y38 y39 y40 y41 y42 y43 y44 y45 y46 y47 y48 y49 y50 y51 y52 y53 y54 y55 y56 y57 y58 y59 y60 y61 y62 y63 y64 y65 y66 y67 y68 y69 y70 y71 y72 y73 y74 y75 y76 y77 y78 y79 y80 y81 y82 y83 y84 y85 y86 w' hU'
          have HU' := Lib.hid hU'
          clear hU'
          refine hK _ _ ?_
          go_wp2
          go_ret
          exact ⟨rfl, HU'.out⟩)
        by_cases hk : k = 3
        · rw [show (k == 3) = true by simpa using hk]
          exact r4b_any (b4 := false) HC HN (Lib.hid (by rw [HE.out, lvlOk, HV.out, HDn.out]; first | rfl | simp)) hk (by simp) HU.out ((box_new w0 _ _).cell 0) ((box_new w0 _ _).cell 1) ((box_new w0 _ _).cell 2) ((box_new w0 _ _).cell 3) ((box_new w0 _ _).cell 4) ((box_new w0 _ _).cell 5) _ _ _ _ _ _ _ _ _ _ _ _ _ _ _ _ _ _ _ _ _ _ HQ
        · rw [show (k == 3) = false by simpa using hk]
          by_cases hk1 : k = 1
          · exact r4d_any (b4 := false) HC HN (Lib.hid (by rw [HE.out, lvlOk, HV.out, HDn.out]; first | rfl | simp)) hk1 (by simp) HU.out ((box_new w0 _ _).cell 0) ((box_new w0 _ _).cell 1) ((box_new w0 _ _).cell 2) ((box_new w0 _ _).cell 3) ((box_new w0 _ _).cell 4) ((box_new w0 _ _).cell 5) _ _ _ _ _ _ _ _ _ _ _ _ _ _ _ _ _ _ _ _ _ _ HQ
          · by_cases hk2 : k < 1
            · exact r4c_any (b4 := false) HC HN (Lib.hid (by rw [HE.out, lvlOk, HV.out, HDn.out]; first | rfl | simp)) hk2 (by simp) HU.out ((box_new w0 _ _).cell 0) ((box_new w0 _ _).cell 1) ((box_new w0 _ _).cell 2) ((box_new w0 _ _).cell 3) ((box_new w0 _ _).cell 4) ((box_new w0 _ _).cell 5) _ _ _ _ _ _ _ _ _ _ _ _ _ _ _ _ _ _ _ _ _ _ HQ
            · exact r4e_any (b4 := false) HC HN (Lib.hid (by rw [HE.out, lvlOk, HV.out, HDn.out]; first | rfl | simp)) ⟨by omega, hk⟩ (by simp) HU.out ((box_new w0 _ _).cell 0) ((box_new w0 _ _).cell 1) ((box_new w0 _ _).cell 2) ((box_new w0 _ _).cell 3) ((box_new w0 _ _).cell 4) ((box_new w0 _ _).cell 5) _ _ _ _ _ _ _ _ _ _ _ _ _ _ _ _ _ _ _ _ _ _ HQ
  · have HV : RowKit.Hid ((decide (1 ≤ l) && decide (l ≤ 9)) = false) := Lib.hid (by simp; omega)
    by_cases hn : 6 < (nc : Int)
    · have HDn : RowKit.Hid (decide (6 < (nc : Int)) = true) := Lib.hid (by simpa using hn)
      go_enter Tryd.func20, Tryd.ntmps20
      go_wp2_with fail
      rename_i Q' K hK
      have HQ : RowKit.Hid (∀ r : Int, r = de → ∀ (y0 y1 y3 y4 y5 y6 y7 y8 y9 y10 y11 y12 y13 y14 y15 y16 y17 y18 y19 y20 y21 y22 y23 y24 y25 y26 y27 y28 y29 y30 y31 y32 y33 y34 y35 y36 y37 y38 y39 y40 y41 y42 y43 y44 y45 y46 y47 y48 y49 y50 y51 y52 y53 y54 y55 y56 y57 y58 y59 y60 y61 y62 y63 y64 y65 y66 y67 y68 y69 y70 y71 y72 y73 y74 y75 y76 y77 y78 y79 y80 y81 y82 y83 y84 y85 y86 : Value) (w' : World), Under w0 w' → (Exit.then K Q') .normal ⟨#[y0, y1, .int .i64 r, y3, y4, y5, y6, y7, y8, y9, y10, y11, y12, y13, y14, y15, y16, y17, y18, y19, y20, y21, y22, y23, y24, y25, y26, y27, y28, y29, y30, y31, y32, y33, y34, y35, y36, y37, y38, y39, y40, y41, y42, y43, y44, y45, y46, y47, y48, y49, y50, y51, y52, y53, y54, y55, y56, y57, y58, y59, y60, y61, y62, y63, y64, y65, y66, y67, y68, y69, y70, y71, y72, y73, y74, y75, y76, y77, y78, y79, y80, y81, y82, y83, y84, y85, y86], []⟩ w') := Lib.hid (by
        rintro r rfl y0 y1 y3 y4 y5 y6 y7 y8 y9 y10 y11 y12 y13 y14 y15 y16 y17 y18 y19 y20 y21 y22 y23 y24 y25 y26 y27 y28 y29 y30 y31 y32 y33 y34 y35 y36 y37 y38 y39 y40 y41 y42 y43 y44 y45 y46 y47 y48 y49 y50 y51 y52 y53 y54 y55 y56 y57 y58 y59 y60 y61 y62 y63 y64 y65 y66 y67 y68 y69 y70 y71 y72 y73 y74 y75 y76 y77 y78 y79 y80 y81 y82 y83 y84 y85 y86 w' hU'
        have HU' := Lib.hid hU'
        clear hU'
        refine hK _ _ ?_
        go_wp2
        go_ret
        exact ⟨rfl, HU'.out⟩)
      by_cases hk : k = 3
      · rw [show (k == 3) = true by simpa using hk]
        exact r4b_any (b4 := false) HC HN (Lib.hid (by rw [HE.out, lvlOk, HV.out, HDn.out]; first | rfl | simp)) hk (by simp) HU.out ((box_new w0 _ _).cell 0) ((box_new w0 _ _).cell 1) ((box_new w0 _ _).cell 2) ((box_new w0 _ _).cell 3) ((box_new w0 _ _).cell 4) ((box_new w0 _ _).cell 5) _ _ _ _ _ _ _ _ _ _ _ _ _ _ _ _ _ _ _ _ _ _ HQ
      · rw [show (k == 3) = false by simpa using hk]
        by_cases hk1 : k = 1
        · exact r4d_any (b4 := false) HC HN (Lib.hid (by rw [HE.out, lvlOk, HV.out, HDn.out]; first | rfl | simp)) hk1 (by simp) HU.out ((box_new w0 _ _).cell 0) ((box_new w0 _ _).cell 1) ((box_new w0 _ _).cell 2) ((box_new w0 _ _).cell 3) ((box_new w0 _ _).cell 4) ((box_new w0 _ _).cell 5) _ _ _ _ _ _ _ _ _ _ _ _ _ _ _ _ _ _ _ _ _ _ HQ
        · by_cases hk2 : k < 1
          · exact r4c_any (b4 := false) HC HN (Lib.hid (by rw [HE.out, lvlOk, HV.out, HDn.out]; first | rfl | simp)) hk2 (by simp) HU.out ((box_new w0 _ _).cell 0) ((box_new w0 _ _).cell 1) ((box_new w0 _ _).cell 2) ((box_new w0 _ _).cell 3) ((box_new w0 _ _).cell 4) ((box_new w0 _ _).cell 5) _ _ _ _ _ _ _ _ _ _ _ _ _ _ _ _ _ _ _ _ _ _ HQ
          · exact r4e_any (b4 := false) HC HN (Lib.hid (by rw [HE.out, lvlOk, HV.out, HDn.out]; first | rfl | simp)) ⟨by omega, hk⟩ (by simp) HU.out ((box_new w0 _ _).cell 0) ((box_new w0 _ _).cell 1) ((box_new w0 _ _).cell 2) ((box_new w0 _ _).cell 3) ((box_new w0 _ _).cell 4) ((box_new w0 _ _).cell 5) _ _ _ _ _ _ _ _ _ _ _ _ _ _ _ _ _ _ _ _ _ _ HQ
    · have HDn : RowKit.Hid (decide (6 < (nc : Int)) = false) := Lib.hid (by simpa using hn)
      go_enter Tryd.func20, Tryd.ntmps20
      go_wp2_with fail
      refine HL.out.mono ?_
      rintro e w1 ⟨rfl, rfl⟩
      go_wp2_with fail
      rename_i Q' K hK
      have HQ : RowKit.Hid (∀ r : Int, r = de → ∀ (y0 y1 y3 y4 y5 y6 y7 y8 y9 y10 y11 y12 y13 y14 y15 y16 y17 y18 y19 y20 y21 y22 y23 y24 y25 y26 y27 y28 y29 y30 y31 y32 y33 y34 y35 y36 y37 y38 y39 y40 y41 y42 y43 y44 y45 y46 y47 y48 y49 y50 y51 y52 y53 y54 y55 y56 y57 y58 y59 y60 y61 y62 y63 y64 y65 y66 y67 y68 y69 y70 y71 y72 y73 y74 y75 y76 y77 y78 y79 y80 y81 y82 y83 y84 y85 y86 : Value) (w' : World), Under w0 w' → (Exit.then K Q') .normal ⟨#[y0, y1, .int .i64 r, y3, y4, y5, y6, y7, y8, y9, y10, y11, y12, y13, y14, y15, y16, y17, y18, y19, y20, y21, y22, y23, y24, y25, y26, y27, y28, y29, y30, y31, y32, y33, y34, y35, y36, y37, y38, y39, y40, y41, y42, y43, y44, y45, y46, y47, y48, y49, y50, y51, y52, y53, y54, y55, y56, y57, y58, y59, y60, y61, y62, y63, y64, y65, y66, y67, y68, y69, y70, y71, y72, y73, y74, y75, y76, y77, y78, y79, y80, y81, y82, y83, y84, y85, y86], []⟩ w') := Lib.hid (by
        rintro r rfl y0 y1 y3 y4 y5 y6 y7 y8 y9 y10 y11 y12 y13 y14 y15 y16 y17 y18 y19 y20 y21 y22 y23 y24 y25 y26 y27 y28 y29 y30 y31 y32 y33 y34 y35 y36 y37 y38 y39 y40 y41 y42 y43 y44 y45 y46 y47 y48 y49 y50 y51 y52 y53 y54 y55 y56 y57 y58 y59 y60 y61 y62 y63 y64 y65 y66 y67 y68 y69 y70 y71 y72 y73 y74 y75 y76 y77 y78 y79 y80 y81 y82 y83 y84 y85 y86 w' hU'
        have HU' := Lib.hid hU'
        clear hU'
        refine hK _ _ ?_
        go_wp2
        go_ret
        exact ⟨rfl, HU'.out⟩)
      by_cases hk : k = 3
      · rw [show (k == 3) = true by simpa using hk]
        exact r4b_any (b4 := false) HC HN (Lib.hid (by rw [HE.out, lvlOk, HV.out, HDn.out]; first | rfl | simp)) hk (by simp) HU.out ((box_new w0 _ _).cell 0) ((box_new w0 _ _).cell 1) ((box_new w0 _ _).cell 2) ((box_new w0 _ _).cell 3) ((box_new w0 _ _).cell 4) ((box_new w0 _ _).cell 5) _ _ _ _ _ _ _ _ _ _ _ _ _ _ _ _ _ _ _ _ _ _ HQ
      · rw [show (k == 3) = false by simpa using hk]
        by_cases hk1 : k = 1
        · exact r4d_any (b4 := false) HC HN (Lib.hid (by rw [HE.out, lvlOk, HV.out, HDn.out]; first | rfl | simp)) hk1 (by simp) HU.out ((box_new w0 _ _).cell 0) ((box_new w0 _ _).cell 1) ((box_new w0 _ _).cell 2) ((box_new w0 _ _).cell 3) ((box_new w0 _ _).cell 4) ((box_new w0 _ _).cell 5) _ _ _ _ _ _ _ _ _ _ _ _ _ _ _ _ _ _ _ _ _ _ HQ
        · by_cases hk2 : k < 1
          · exact r4c_any (b4 := false) HC HN (Lib.hid (by rw [HE.out, lvlOk, HV.out, HDn.out]; first | rfl | simp)) hk2 (by simp) HU.out ((box_new w0 _ _).cell 0) ((box_new w0 _ _).cell 1) ((box_new w0 _ _).cell 2) ((box_new w0 _ _).cell 3) ((box_new w0 _ _).cell 4) ((box_new w0 _ _).cell 5) _ _ _ _ _ _ _ _ _ _ _ _ _ _ _ _ _ _ _ _ _ _ HQ
          · exact r4e_any (b4 := false) HC HN (Lib.hid (by rw [HE.out, lvlOk, HV.out, HDn.out]; first | rfl | simp)) ⟨by omega, hk⟩ (by simp) HU.out ((box_new w0 _ _).cell 0) ((box_new w0 _ _).cell 1) ((box_new w0 _ _).cell 2) ((box_new w0 _ _).cell 3) ((box_new w0 _ _).cell 4) ((box_new w0 _ _).cell 5) _ _ _ _ _ _ _ _ _ _ _ _ _ _ _ _ _ _ _ _ _ _ HQ
end
end Go.Proofs.YtiibknlpeodejaaDoor
