/- Part 41 of what the proof rests on. -/
import Derived.Conc.CompanyMem
import Derived.Conc.WalkWords
import Derived.Lib.MinMax
import Derived.Test.YtggjbblgoddnjaaGreatDoorM12
import Derived.Test.YtggjbblgoddnjaaGreatDoorM13
import Derived.Test.YtggjbblgoddnjaaGreatDoorM21
import Derived.Test.YtggjbblgoddnjaaGreatDoorM29
import Derived.Test.YtggjbblgoddnjaaGreatDoorM30
import Derived.Test.YtggjbblgoddnjaaGreatDoorM31
set_option linter.unusedSimpArgs false
set_option linter.unusedVariables false
set_option maxRecDepth 100000
set_option maxHeartbeats 4000000
namespace Go.Proofs.YtggjbblgoddnjaaGreatDoor
open Go.Lx Go.RowKit
section
variable {w0 : World}
theorem eT(d:Dc){v v':Value}(hd:Lite d)(hv:DcV w0 v d)(hv':DcV w0 v' d):Calls Tryz.prog 13 #[v,v'] w0 fun e w=>e = .returned (.bool true)∧Under w0 w:=by
 obtain ⟨vt, vb, vc, rfl, h1, h2, h3⟩ := hv; obtain ⟨vt', vb', vc', rfl, h1', h2', h3'⟩ := hv'; have HT := Lib.hid (fun w (h : Under w0 w) => lBA (w0 := w) d.type d.type (by have := hd.type; simp only [maxLen]; omega) (TermV.mono _ _ _ _ h h1) (TermV.mono _ _ _ _ h h1')); have HB := Lib.hid (fun w (h : Under w0 w) => lBA (w0 := w) d.body d.body (by have := hd.body; simp only [maxLen]; omega) (TermV.mono _ _ _ _ h h2) (TermV.mono _ _ _ _ h h2')); rw [kY] at HT HB; obtain ⟨pt, ct, rfl, _⟩ := h1; obtain ⟨pb, cb, rfl, _⟩ := h2; obtain ⟨pc, cc, us, rfl, _, _, hrc, hzc⟩ := h3; obtain ⟨pt', ct', rfl, _⟩ := h1'; obtain ⟨pb', cb', rfl, _⟩ := h2'; obtain ⟨pc', cc', us', rfl, _, _, hrc', hzc'⟩ := h3'; have HR := Lib.hid (And.intro hrc hrc'); have HZ := Lib.hid (And.intro hzc hzc'); have HB1 := Lib.hid ((qA w0 #[.int .i64 d.kind, .int .i64 d.level, .string d.name, .slice pt d.type.length ct, .slice pb d.body.length cb, .slice pc d.cons.length cc] 37).alloc (.cells #[.int .i64 d.kind, .int .i64 d.level, .string d.name, .slice pt' d.type.length ct', .slice pb' d.body.length cb', .slice pc' d.cons.length cc'] 37)); have HU := Lib.hid (aA (aA (Under.refl w0) (.cells #[.int .i64 d.kind, .int .i64 d.level, .string d.name, .slice pt d.type.length ct, .slice pb d.body.length cb, .slice pc d.cons.length cc] 37)) (.cells #[.int .i64 d.kind, .int .i64 d.level, .string d.name, .slice pt' d.type.length ct', .slice pb' d.body.length cb', .slice pc' d.cons.length cc'] 37)); have HB2 := Lib.hid (show BoxAt ((w0.alloc (.cells #[.int .i64 d.kind, .int .i64 d.level, .string d.name, .slice pt d.type.length ct, .slice pb d.body.length cb, .slice pc d.cons.length cc] 37)).alloc (.cells #[.int .i64 d.kind, .int .i64 d.level, .string d.name, .slice pt' d.type.length ct', .slice pb' d.body.length cb', .slice pc' d.cons.length cc'] 37)) (w0.heap.size + 1) 37 #[.int .i64 d.kind, .int .i64 d.level, .string d.name, .slice pt' d.type.length ct', .slice pb' d.body.length cb', .slice pc' d.cons.length cc'] from by
   have:=qA (w0.alloc (.cells #[.int .i64 d.kind,.int .i64 d.level,.string d.name,.slice pt d.type.length ct,.slice pb d.body.length cb,.slice pc d.cons.length cc] 37)) #[.int .i64 d.kind,.int .i64 d.level,.string d.name,.slice pt' d.type.length ct',.slice pb' d.body.length cb',.slice pc' d.cons.length cc'] 37
   simpa using this)
 have HD:=Lib.hid hd;have hc9:(d.cons.length:Int)≤5864062014634:=by have:=hd.cons;omega
 have hc0:(0:Int)≤(d.cons.length:Int):=by omega
 clear hrc hrc' hzc hzc' hd;go_enter Tryz.func13,Tryz.ntmps13;go_wp2_with fail;refine(HT.out _ HU.out).mono ?_;rintro e w1 ⟨rfl,hU1⟩;have HBa:=Lib.hid (HB1.out.under hU1);have HBb:=Lib.hid (HB2.out.under hU1);have HUa:=Lib.hid (HU.out.trans hU1);clear hU1 HT HB1 HB2 HU;have b0:=HBa.out.cell 4;have b1:=HBb.out.cell 4;have b2:=HBa.out.cell 5;have b3:=HBb.out.cell 5;have bl:=HBa.out.lt;have bl2:=HBb.out.lt;go_wp2_with fail;refine(HB.out _ HUa.out).mono ?_;rintro e w2 ⟨rfl,hU2⟩;have HB1:=Lib.hid (HBa.out.under hU2);have HB2:=Lib.hid (HBb.out.under hU2);have HUb:=Lib.hid (HUa.out.trans hU2);clear hU2 HB HBa HBb HUa b0 b1 b2 b3 bl bl2;have b2:=HB1.out.cell 5;have b3:=HB2.out.cell 5;have bl:=HB1.out.lt;have bl2:=HB2.out.lt;go_wp2;clear b2 b3 bl bl2;go_loopw [5] (fun i wr=>∃ k:Nat,k≤d.cons.length∧i = .int .i64 (k:Int)∧Under w2 wr) (fun i _=>d.cons.length - (intOf i).toNat)
 case atStart=>exact⟨0,Nat.zero_le _,rfl,Under.refl _⟩
 case round =>
   obtain⟨k,hk,rfl,hU3⟩:=hrel;have HBc:=Lib.hid (HB1.out.under hU3);have HBd:=Lib.hid (HB2.out.under hU3);have HV:=Lib.hid hU3;have HU:=Lib.hid (HUb.out.trans hU3);have hk0:(0:Int)≤(k:Int):=by omega
   clear hU3;have b2:=HBc.out.cell 5;have b3:=HBd.out.cell 5;have bl:=HBc.out.lt;have bl2:=HBd.out.lt;by_cases hlt:k < d.cons.length
   · obtain ⟨u, hu, q, c', vs2, rfl, _, _, hr2, hz2⟩ := HZ.out.1.at (List.getElem?_eq_getElem hlt); obtain ⟨u', hu', q', c2', vs2', rfl, _, _, hr2', hz2'⟩ := HZ.out.2.at (List.getElem?_eq_getElem hlt); obtain ⟨b9, off9, rfl, hb9, hcs⟩ := HR.out.1 (fun e => by rw [e] at hu; simp at hu); obtain ⟨b8, off8, rfl, hb8, hcs'⟩ := HR.out.2 (fun e => by rw [e] at hu'; simp at hu'); have cc9 := hcs k _ hu; have cc8 := hcs' k _ hu'; have HC98 := Lib.hid (And.intro (And.intro hb9 cc9) (And.intro hb8 cc8)); rw [← dA HU.out hb9] at cc9; rw [← dA HU.out hb8] at cc8; have hb9' := Nat.lt_of_lt_of_le hb9 HU.out.size; have hb8' := Nat.lt_of_lt_of_le hb8 HU.out.size; have hlt' : (k : Int) < (d.cons.length : Int) := by omega
     obtain⟨hm,htl⟩:=HD.out.con _ (List.getElem_mem hlt);have HTl:=Lib.hid htl;have HR2:=Lib.hid (And.intro hr2 hr2');have HZ2:=Lib.hid (And.intro hz2 hz2');clear hcs hu hcs' hu' hr2 hr2' hz2 hz2' htl;generalize d.cons[k]=c at *;have hm0:(0:Int)≤(c.length:Int):=by omega
     have hm9:(c.length:Int)≤5864062014634:=by omega
     have b2':wr.cell? ⟨w0.heap.size,5,none⟩=some (.slice (some ⟨b9,off9,none⟩) d.cons.length cc):=b2;have b3':wr.cell? ⟨w0.heap.size+1,5,none⟩=some (.slice (some ⟨b8,off8,none⟩) d.cons.length cc'):=b3;go_wp2_with fail;rename_i K hK;refine wp_region_noPanic ?_;refine wp_region_held_drew (S:=fun w'=>w'.cell? ⟨w0.heap.size,5,none⟩=some (.slice (some ⟨b9,off9,none⟩) d.cons.length cc)∧w'.cell? ⟨w0.heap.size+1,5,none⟩=some (.slice (some ⟨b8,off8,none⟩) d.cons.length cc')∧w'.cell? ⟨b9,off9+k,none⟩=some (.slice q c.length c')∧w'.cell? ⟨b8,off8+k,none⟩=some (.slice q' c.length c2')) (by kernel_rfl) ⟨b2',b3',cc9,cc8⟩ (fun hHeld=>?_);co_applyP bA 0 rfl (by kernel_rfl) (by kernel_rfl) (fun _ _ _ h=>h) hHeld (fun w hSw=>?_) ?_;rotate_left
     · (try dsimp only at hSw);go_simp;try with_reducible rfl
     try walk_nrm
     co_applyP bA 1 rfl (by kernel_rfl) (by kernel_rfl) (fun _ _ _ h=>h) hHeld (fun w hSw=>?_) ?_;rotate_left
     · (try dsimp only at hSw);go_simp;try with_reducible rfl
     try walk_nrm
     co_applyP bA 2 rfl (by kernel_rfl) (by kernel_rfl) (fun _ _ _ h=>h) hHeld (fun w hSw=>?_) ?_;rotate_left
     · (try dsimp only at hSw);go_simp;try with_reducible rfl
     try walk_nrm
     co_applyP bA 3 rfl (by kernel_rfl) (by kernel_rfl) (fun _ _ _ h=>h) hHeld (fun w hSw=>?_) ?_;rotate_left
     · (try dsimp only at hSw);go_simp;try with_reducible rfl
     try walk_nrm
     co_applyP bA 4 rfl (by kernel_rfl) (by kernel_rfl) (fun _ _ _ h=>h) hHeld (fun w hSw=>?_) ?_;rotate_left
     · (try dsimp only at hSw);go_simp;try with_reducible rfl
     try walk_nrm
     co_applyP bA 5 rfl (by kernel_rfl) (by kernel_rfl) (fun _ _ _ h=>h) hHeld (fun w hSw=>?_) ?_;rotate_left
     · (try dsimp only at hSw);go_simp;try with_reducible rfl
     try walk_nrm
     co_applyP bA 6 rfl (by kernel_rfl) (by kernel_rfl) (fun _ _ _ h=>h) hHeld (fun w hSw=>?_) ?_;rotate_left
     · (try dsimp only at hSw);go_simp;try with_reducible rfl
     try walk_nrm
     co_applyP bA 7 rfl (by kernel_rfl) (by kernel_rfl) (fun _ _ _ h=>h) hHeld (fun w hSw=>?_) ?_;rotate_left
     · (try dsimp only at hSw);go_simp;try with_reducible rfl
     try walk_nrm
     co_applyP bA 8 rfl (by kernel_rfl) (by kernel_rfl) (fun _ _ _ h=>h) hHeld (fun w hSw=>?_) ?_;rotate_left
     · (try dsimp only at hSw);go_simp;try with_reducible rfl
     try walk_nrm
     co_applyP bA 9 rfl (by kernel_rfl) (by kernel_rfl) (fun _ _ _ h=>h) hHeld (fun w hSw=>?_) ?_;rotate_left
     · (try dsimp only at hSw);go_simp;try with_reducible rfl
     try walk_nrm
     co_applyP bA 10 rfl (by kernel_rfl) (by kernel_rfl) (fun _ _ _ h=>h) hHeld (fun w hSw=>?_) ?_;rotate_left
     · (try dsimp only at hSw);go_simp;try with_reducible rfl
     try walk_nrm
     co_applyP bA 11 rfl (by kernel_rfl) (by kernel_rfl) (fun _ _ _ h=>h) hHeld (fun w hSw=>?_) ?_;rotate_left
     · (try dsimp only at hSw);go_simp;try with_reducible rfl
     try walk_nrm
     co_applyP bA 12 rfl (by kernel_rfl) (by kernel_rfl) (fun _ _ _ h=>h) hHeld (fun w hSw=>?_) ?_;rotate_left
     · (try dsimp only at hSw);go_simp;try with_reducible rfl
     try walk_nrm
     refine wpAnyH_done (by kernel_rfl) ?_ _;refine NoPanic.normal ?_;refine hK _ _ ?_;have HVd:=Lib.hid (fA HV.out);clear hHeld hK K b2' b3' b2 b3 bl bl2 cc9 cc8 hb9' hb8';go_wp2;go_loopw [6] (fun i wi=>∃ j:Nat,j≤c.length∧i = .int .i64 (j:Int)∧Under w2 wi) (fun i _=>c.length - (intOf i).toNat)
     case atStart=>exact⟨0,Nat.zero_le _,rfl,HVd.out⟩
     case round =>
       obtain⟨j,hj,rfl,hU4⟩:=hrel;have HBe:=Lib.hid (HB1.out.under hU4);have HBf:=Lib.hid (HB2.out.under hU4);have HVi:=Lib.hid hU4;have HUi:=Lib.hid (HUb.out.trans hU4);have hj0:(0:Int)≤(j:Int):=by omega
       clear hU4;have b2:wr.cell? ⟨w0.heap.size,5,none⟩=some (.slice (some ⟨b9,off9,none⟩) d.cons.length cc):=HBe.out.cell 5;have b3:wr.cell? ⟨w0.heap.size+1,5,none⟩=some (.slice (some ⟨b8,off8,none⟩) d.cons.length cc'):=HBf.out.cell 5;have bl:=HBe.out.lt;have bl2:=HBf.out.lt;have cc9:=(dA HUi.out HC98.out.1.1 _).trans HC98.out.1.2;have cc8:=(dA HUi.out HC98.out.2.1 _).trans HC98.out.2.2;have hb9':=Nat.lt_of_lt_of_le HC98.out.1.1 HUi.out.size;have hb8':=Nat.lt_of_lt_of_le HC98.out.2.1 HUi.out.size;by_cases hlj:j < c.length
       · obtain ⟨u3, hu3, ht3⟩ := HZ2.out.1.at (List.getElem?_eq_getElem hlj); obtain ⟨u4', hu4, ht4⟩ := HZ2.out.2.at (List.getElem?_eq_getElem hlj); obtain ⟨b7, off7, rfl, hb7, hcs7⟩ := HR2.out.1 (fun e => by rw [e] at hu3; simp at hu3); obtain ⟨b6, off6, rfl, hb6, hcs6⟩ := HR2.out.2 (fun e => by rw [e] at hu4; simp at hu4); have cc7 := (dA HUi.out hb7 _).trans (hcs7 j _ hu3); have cc6 := (dA HUi.out hb6 _).trans (hcs6 j _ hu4); have hb7' := Nat.lt_of_lt_of_le hb7 HUi.out.size; have hb6' := Nat.lt_of_lt_of_le hb6 HUi.out.size; have hlj' : (j : Int) < (c.length : Int) := by omega
         have HS := Lib.hid (fun w (h : Under w0 w) => lBA (w0 := w) c[j] c[j] (by have := HTl.out _ (List.getElem_mem hlj); simp only [maxLen]; omega) (TermV.mono _ _ _ _ h ht3) (TermV.mono _ _ _ _ h ht4)); rw [kY] at HS; obtain ⟨p3, c3, rfl, _⟩ := ht3; obtain ⟨p4, c4, rfl, _⟩ := ht4; clear hcs7 hcs6 hu3 hu4; generalize c[j] = t at *; go_wp2_with fail; rename_i K0 hK0; have HX := Lib.hid (show ∀ w', Under wr w' → w'.cell? ⟨w0.heap.size, 5, none⟩ = some (.slice (some ⟨b9, off9, none⟩) d.cons.length cc) ∧ w'.cell? ⟨w0.heap.size + 1, 5, none⟩ = some (.slice (some ⟨b8, off8, none⟩) d.cons.length cc') ∧ w'.cell? ⟨b9, off9 + k, none⟩ = some (.slice (some ⟨b7, off7, none⟩) c.length c') ∧ w'.cell? ⟨b8, off8 + k, none⟩ = some (.slice (some ⟨b6, off6, none⟩) c.length c2') ∧ w'.cell? ⟨b7, off7 + j, none⟩ = some (.slice p3 t.length c3) ∧ w'.cell? ⟨b6, off6 + j, none⟩ = some (.slice p4 t.length c4) from fun w' h =>
           ⟨(dA h bl _).trans b2,(dA h bl2 _).trans b3,(dA h hb9' _).trans cc9,(dA h hb8' _).trans cc8,(dA h hb7' _).trans cc7,(dA h hb6' _).trans cc6⟩)
         refine wp_region_noPanic ?_;refine wp_region_held_drew (S:=fun w'=>w'.cell? ⟨w0.heap.size,5,none⟩=some (.slice (some ⟨b9,off9,none⟩) d.cons.length cc)∧w'.cell? ⟨w0.heap.size+1,5,none⟩=some (.slice (some ⟨b8,off8,none⟩) d.cons.length cc')∧w'.cell? ⟨b9,off9+k,none⟩=some (.slice (some ⟨b7,off7,none⟩) c.length c')∧w'.cell? ⟨b8,off8+k,none⟩=some (.slice (some ⟨b6,off6,none⟩) c.length c2')∧w'.cell? ⟨b7,off7+j,none⟩=some (.slice p3 t.length c3)∧w'.cell? ⟨b6,off6+j,none⟩=some (.slice p4 t.length c4)) (by kernel_rfl) (HX.out _ (fA (Under.refl _))) (fun hHeld=>?_);co_applyP bA 0 rfl (by kernel_rfl) (by kernel_rfl) (fun _ _ _ h=>h) hHeld (fun w hSw=>?_) ?_;rotate_left
         · (try dsimp only at hSw);go_simp;try with_reducible rfl
         try walk_nrm
         co_applyP bA 1 rfl (by kernel_rfl) (by kernel_rfl) (fun _ _ _ h=>h) hHeld (fun w hSw=>?_) ?_;rotate_left
         · (try dsimp only at hSw);go_simp;try with_reducible rfl
         try walk_nrm
         co_applyP bA 2 rfl (by kernel_rfl) (by kernel_rfl) (fun _ _ _ h=>h) hHeld (fun w hSw=>?_) ?_;rotate_left
         · (try dsimp only at hSw);go_simp;try with_reducible rfl
         try walk_nrm
         co_applyP bA 3 rfl (by kernel_rfl) (by kernel_rfl) (fun _ _ _ h=>h) hHeld (fun w hSw=>?_) ?_;rotate_left
         · (try dsimp only at hSw);go_simp;try with_reducible rfl
         try walk_nrm
         co_applyP bA 4 rfl (by kernel_rfl) (by kernel_rfl) (fun _ _ _ h=>h) hHeld (fun w hSw=>?_) ?_;rotate_left
         · (try dsimp only at hSw);go_simp;try with_reducible rfl
         try walk_nrm
         co_applyP bA 5 rfl (by kernel_rfl) (by kernel_rfl) (fun _ _ _ h=>h) hHeld (fun w hSw=>?_) ?_;rotate_left
         · (try dsimp only at hSw);go_simp;try with_reducible rfl
         try walk_nrm
         co_applyP bA 6 rfl (by kernel_rfl) (by kernel_rfl) (fun _ _ _ h=>h) hHeld (fun w hSw=>?_) ?_;rotate_left
         · (try dsimp only at hSw);go_simp;try with_reducible rfl
         try walk_nrm
         co_applyP bA 7 rfl (by kernel_rfl) (by kernel_rfl) (fun _ _ _ h=>h) hHeld (fun w hSw=>?_) ?_;rotate_left
         · (try dsimp only at hSw);go_simp;try with_reducible rfl
         try walk_nrm
         co_applyP bA 8 rfl (by kernel_rfl) (by kernel_rfl) (fun _ _ _ h=>h) hHeld (fun w hSw=>?_) ?_;rotate_left
         · (try dsimp only at hSw);go_simp;try with_reducible rfl
         try walk_nrm
         co_applyP bA 9 rfl (by kernel_rfl) (by kernel_rfl) (fun _ _ _ h=>h) hHeld (fun w hSw=>?_) ?_;rotate_left
         · (try dsimp only at hSw);go_simp;try with_reducible rfl
         try walk_nrm
         co_applyP bA 10 rfl (by kernel_rfl) (by kernel_rfl) (fun _ _ _ h=>h) hHeld (fun w hSw=>?_) ?_;rotate_left
         · (try dsimp only at hSw);go_simp;try with_reducible rfl
         try walk_nrm
         co_applyP bA 11 rfl (by kernel_rfl) (by kernel_rfl) (fun _ _ _ h=>h) hHeld (fun w hSw=>?_) ?_;rotate_left
         · (try dsimp only at hSw);go_simp;try with_reducible rfl
         try walk_nrm
         co_applyP bA 12 rfl (by kernel_rfl) (by kernel_rfl) (fun _ _ _ h=>h) hHeld (fun w hSw=>?_) ?_;rotate_left
         · (try dsimp only at hSw);go_simp;try with_reducible rfl
         try walk_nrm
         co_applyP bA 13 rfl (by kernel_rfl) (by kernel_rfl) (fun _ _ _ h=>h) hHeld (fun w hSw=>?_) ?_;rotate_left
         · (try dsimp only at hSw);go_simp;try with_reducible rfl
         try walk_nrm
         co_applyP bA 14 rfl (by kernel_rfl) (by kernel_rfl) (fun _ _ _ h=>h) hHeld (fun w hSw=>?_) ?_;rotate_left
         · (try dsimp only at hSw);go_simp;try with_reducible rfl
         try walk_nrm
         co_applyP bA 15 rfl (by kernel_rfl) (by kernel_rfl) (fun _ _ _ h=>h) hHeld (fun w hSw=>?_) ?_;rotate_left
         · (try dsimp only at hSw);go_simp;try with_reducible rfl
         try walk_nrm
         refine iA 16 (by kernel_rfl) rfl fun K hK=>?_
         go_simp;go_at_call 40;refine(HS.out _ (fA HUi.out)).mono ?_;rintro e w9 ⟨rfl,hU9⟩;refine hK.out _ _ (HX.out _ ((fA (Under.refl _)).trans hU9)) (fun _=>?_);clear hK K hHeld;rename_i hHeld
         try walk_nrm
         co_applyP bA 17 rfl (by kernel_rfl) (by kernel_rfl) (fun _ _ _ h=>h) hHeld (fun w hSw=>?_) ?_;rotate_left
         · (try dsimp only at hSw);go_simp;try with_reducible rfl
         try walk_nrm
         refine wpAnyH_done (by kernel_rfl) ?_ _;refine NoPanic.normal ?_;refine hK0 _ _ ?_;have HU9:=Lib.hid ((fA HVi.out).trans hU9);clear hHeld HX hK0 K0;go_wp2;go_roundw
         case rel=>exact⟨j+1,by omega,by go_num,HU9.out⟩
         case measure=>simp[intOf];omega
       · obtain rfl : j = c.length := by omega
         go_wp2;go_roundw
         case rel=>exact⟨k+1,by omega,by go_num,HVi.out⟩
         case measure=>simp[intOf];omega
   · obtain rfl : k = d.cons.length := by omega
     go_wp2;go_ret;exact⟨rfl,HU.out⟩
end
section
variable {w0 : World}
def l5A(w0:World)(t:List Nd)(n i:Value)(wr:World):Prop:=w0=wr∧∃(k:Nat) (z:Int),k≤t.length∧i = .int .i64 (k:Int)∧n = .int .i64 z∧0≤z∧z≤1049600∧(z≤2048→t.length≤2048)
theorem zAA(t:List Nd){v:Value}(hn:t.length≤maxLen)(hv:TermV w0 v t):Calls Tryz.prog 41 #[v] w0 fun e w=>w=w0∧∃ z:Int,e = .returned (.int .i64 z)∧0≤z∧z≤1049600∧(z≤2048→t.length≤2048):=by
 obtain⟨p,c,rfl,hc,h0,hr⟩:=hv;have HR:=Lib.hid hr;have hn9:(t.length:Int)≤9223372036854775807:=by simp only[maxLen]at hn;omega
 have hl0:(0:Int)≤(t.length:Int):=by omega
 clear hr hn hc h0;go_enter Tryz.func41,Tryz.ntmps41;go_wp2;go_loopw [3,4] (fun n i wr=>l5A w0 t n i wr) (fun _ i _=>t.length - (intOf i).toNat)
 case atStart=>exact⟨rfl,0,_,Nat.zero_le _,rfl,rfl,by omega,by omega,by omega⟩
 case round =>
   obtain⟨rfl,k,z,hk,rfl,rfl,hz0,hz1,hz2⟩:=hrel;have hk0:(0:Int)≤(k:Int):=by omega
   by_cases hlt:k < t.length
   · have hlt' : (k : Int) < (t.length : Int) := by omega
     by_cases hz:z≤8192
     · obtain ⟨b, off, rfl, hb, hcs⟩ := HR.out (fun e => by rw [yZ e] at hlt; exact absurd hlt (by simp)); have cc := hcs _ _ (mU (List.getElem?_eq_getElem hlt)).2.2.2; rw [← Nat.add_assoc] at cc; generalize t[k] = x at *; have hx0 : (0 : Int) ≤ (x.s.size : Int) := by omega
       clear hcs;go_wp2;go_roundw
       case rel=>exact⟨rfl,k+1,_,by omega,by go_num,rfl,by omega,by omega,by omega⟩
       case measure=>simp[intOf];omega
     · have hz' : 8192 < z := by omega
       clear hz;go_wp2;go_ret;exact⟨rfl,_,rfl,hz0,hz1,hz2⟩
   · have hlt' : ¬ (k : Int) < (t.length : Int) := by omega
     go_wp2;go_ret;exact⟨rfl,_,rfl,hz0,hz1,hz2⟩
def mV : List (List (List Nd)) → Nat
  | []=>0
  | c::l=>min c.length 1024+mV l
theorem iRA{l:List (List (List Nd))}{k:Nat}(h:k < l.length):mV (l.take (k+1))=mV (l.take k)+min l[k].length 1024:=by
 induction l generalizing k with
 | nil=>simp at h
 | cons c l ih =>
   cases k with
   | zero=>simp[mV]
   | succ k =>
     have:=ih (k:=k) (by simpa using h);simp only[List.take_succ_cons,mV,List.getElem_cons_succ];omega
structure WB (d:Dc):Prop where
 type:d.type.length≤2048
 body:d.body.length≤2048
 caps:mV d.cons≤2047
 terms:∀ c∈d.cons,∀ t∈c,t.length≤2048
def WtF(d:Dc)(k:Nat)(z:Int):Prop:=1≤z∧z≤3000000∧(z≤2048→d.type.length≤2048∧d.body.length≤2048∧(mV (d.cons.take k):Int) < z∧∀ c∈d.cons.take k,∀ t∈c,t.length≤2048)
def WtI(d:Dc)(k:Nat)(c:List (List Nd))(j:Nat)(z:Int):Prop:=1≤z∧z≤3000000∧(z≤2048→d.type.length≤2048∧d.body.length≤2048∧(mV (d.cons.take k):Int)+min (c.length:Int) 1024 < z∧(∀ c∈d.cons.take k,∀ t∈c,t.length≤2048)∧∀ t∈c.take j,t.length≤2048)
theorem mO{α:Type}{l:List α}{k:Nat}(h:k < l.length){x:α}(hx:x∈l.take (k+1)):x∈l.take k∨x=l[k]:=by
 rw[List.take_succ_eq_append_getElem h,List.mem_append,List.mem_singleton]at hx;exact hx
theorem WtF.out{d:Dc}{k:Nat}{z:Int}(h:WtF d k z)(hk:k=d.cons.length∨2048 < z):z≤2048→WB d:=by
 intro hz;obtain⟨_,_,h3⟩:=h;obtain⟨a,b,c,e⟩:=h3 hz;obtain rfl:k=d.cons.length:=by omega
 rw[List.take_length]at c e;exact⟨a,b,by omega,e⟩
theorem WtF.go{d:Dc}{k:Nat}{z:Int}(h:WtF d k z)(hz:z≤2048)(hk:k < d.cons.length):WtI d k d.cons[k] 0 (z+min (d.cons[k].length:Int) 1024):=by
 obtain⟨h1,h2,h3⟩:=h;obtain⟨a,b,c,e⟩:=h3 hz;exact⟨by omega,by omega,fun _=>⟨a,b,by omega,e,fun t ht=>by simp at ht⟩⟩
theorem WtI.out{d:Dc}{k j:Nat}{z:Int}(hk:k < d.cons.length)(h:WtI d k d.cons[k] j z)(hj:j=d.cons[k].length∨2048 < z):WtF d (k+1) z:=by
 obtain⟨h1,h2,h3⟩:=h;refine⟨h1,h2,fun hz=>?_⟩;obtain⟨a,b,c,e,f⟩:=h3 hz;obtain rfl:j=d.cons[k].length:=by omega
 rw[List.take_length]at f;refine⟨a,b,by rw[iRA hk];omega,fun x hx=>?_⟩;rcases mO hk hx with hx | rfl
 · exact e x hx
 · exact f
theorem WtI.go{d:Dc}{k j:Nat}{c:List (List Nd)}{z y:Int}(h:WtI d k c j z)(hz:z≤2048)(hj:j < c.length)(hy0:0≤y)(hy1:y≤1049600)(hy:y≤2048→c[j].length≤2048):WtI d k c (j+1) (z+y):=by
 obtain⟨h1,h2,h3⟩:=h;obtain⟨a,b,cc,e,f⟩:=h3 hz;refine⟨by omega,by omega,fun hzy=>⟨a,b,by omega,e,fun t ht=>?_⟩⟩;rcases mO hj ht with ht | rfl
 · exact f t ht
 · exact hy (by omega)
def z1A(db:Nat)(z:Int)(J:Nat→Value):Array Value:=#[J 0,.pointer (some ⟨db,0,none⟩),.int .i64 0,.int .i64 z,J 4,J 5,J 6,J 7,J 8,J 9,J 10,J 11,J 12,J 13,J 14,J 15,J 16,J 17,J 18,J 19,J 20,J 21,J 22,J 23,J 24,J 25,J 26,J 27,J 28,J 29,J 30,J 31,J 32,J 33,J 34,J 35,J 36,J 37,J 38,J 39,J 40,J 41,J 42,J 43,J 44,J 45,J 46,J 47,J 48,J 49,J 50,J 51,J 52,J 53,J 54,J 55,J 56,J 57,J 58,J 59,J 60,J 61,J 62,J 63,J 64,J 65,J 66,J 67,J 68,J 69]
def WtQ(w1:World)(db:Nat)(d:Dc)(e:Exit)(a':Act)(w':World):Prop:=e = .normal∧∃ z,WtF d 0 z∧(∃ J,a'=⟨z1A db z J,[]⟩)∧Under w1 w'
theorem eCA(d:Dc){v:Value}(hs:SzD d)(hv:DcV w0 v d):Calls Tryz.prog 15 #[v] w0 fun e w=>Under w0 w∧∃ z:Int,e = .returned (.int .i64 z)∧1≤z∧z≤3000000∧(z≤2048→WB d):=by
 obtain⟨vt,vb,vc,rfl,ht,hb,hc⟩:=hv;have HT:=Lib.hid (fun w (h:Under w0 w)=>zAA (w0:=w) d.type hs.type.1 (TermV.mono _ _ _ _ h ht));have HB:=Lib.hid (fun w (h:Under w0 w)=>zAA (w0:=w) d.body hs.body.1 (TermV.mono _ _ _ _ h hb));have HS:=Lib.hid hs;obtain⟨pt,ct,rfl,_⟩:=ht;obtain⟨pb,cb,rfl,_⟩:=hb;obtain⟨pc,cc,us,rfl,_,_,hrc,hzc⟩:=hc;have HRc:=Lib.hid hrc;have HZc:=Lib.hid hzc;have hn9:(d.name.size:Int)≤9223372036854775807:=by have:=hs.name;simp only[maxLen]at this;omega
 have hn0:(0:Int)≤(d.name.size:Int):=by omega
 have hc9:(d.cons.length:Int)≤5864062014634:=by have:=hs.cons;omega
 have hc0:(0:Int)≤(d.cons.length:Int):=by omega
 have HX:=Lib.hid (qA w0 #[.int .i64 d.kind,.int .i64 d.level,.string d.name,.slice pt d.type.length ct,.slice pb d.body.length cb,.slice pc d.cons.length cc] 33);have HU:=Lib.hid (aA (Under.refl w0) (.cells #[.int .i64 d.kind,.int .i64 d.level,.string d.name,.slice pt d.type.length ct,.slice pb d.body.length cb,.slice pc d.cons.length cc] 33));clear hrc hzc hs;go_enter Tryz.func15,Tryz.ntmps15;go_wp2;rename_i K0 hK0;obtain⟨w1,hw1⟩:∃ w1,w1=w0.alloc (.cells #[.int .i64 d.kind,.int .i64 d.level,.string d.name,.slice pt d.type.length ct,.slice pb d.body.length cb,.slice pc d.cons.length cc] 33):=⟨_,rfl⟩;rw[← hw1]at HX HU ⊢;clear hw1;refine wp_mono (Q:=WtQ w1 w0.heap.size d) ?_ ?_
 · clear hK0; have c2 := HX.out.cell 2; have c3 := HX.out.cell 3; have c4 := HX.out.cell 4; have c5 := HX.out.cell 5; have cl := HX.out.lt; refine wp_region_noPanic ?_; refine wp_region_held_drew (S := fun w' => w'.cell? ⟨w0.heap.size, 2, none⟩ = some (.string d.name) ∧ w'.cell? ⟨w0.heap.size, 3, none⟩ = some (.slice pt d.type.length ct) ∧ w'.cell? ⟨w0.heap.size, 4, none⟩ = some (.slice pb d.body.length cb) ∧ w'.cell? ⟨w0.heap.size, 5, none⟩ = some (.slice pc d.cons.length cc)) (by kernel_rfl) ⟨c2, c3, c4, c5⟩ (fun hHeld => ?_); co_applyP bA 0 rfl (by kernel_rfl) (by kernel_rfl) (fun _ _ _ h => h) hHeld (fun w hSw => ?_) ?_; rotate_left
   · (try dsimp only at hSw);go_simp;try with_reducible rfl
   try walk_nrm
   co_applyP bA 1 rfl (by kernel_rfl) (by kernel_rfl) (fun _ _ _ h=>h) hHeld (fun w hSw=>?_) ?_;rotate_left
   · (try dsimp only at hSw);go_simp;try with_reducible rfl
   try walk_nrm
   co_applyP bA 4 rfl (by kernel_rfl) (by kernel_rfl) (fun _ _ _ h=>h) hHeld (fun w hSw=>?_) ?_;rotate_left
   · (try dsimp only at hSw);go_simp;try with_reducible rfl
   try walk_nrm
   co_applyP bA 5 rfl (by kernel_rfl) (by kernel_rfl) (fun _ _ _ h=>h) hHeld (fun w hSw=>?_) ?_;rotate_left
   · (try dsimp only at hSw);go_simp;try with_reducible rfl
   try walk_nrm
   co_applyP bA 8 rfl (by kernel_rfl) (by kernel_rfl) (fun _ _ _ h=>h) hHeld (fun w hSw=>?_) ?_;rotate_left
   · (try dsimp only at hSw);go_simp;try with_reducible rfl
   try walk_nrm
   co_applyP bA 9 rfl (by kernel_rfl) (by kernel_rfl) (fun _ _ _ h=>h) hHeld (fun w hSw=>?_) ?_;rotate_left
   · (try dsimp only at hSw);go_simp;try with_reducible rfl
   try walk_nrm
   co_applyP bA 10 rfl (by kernel_rfl) (by kernel_rfl) (fun _ _ _ h=>h) hHeld (fun w hSw=>?_) ?_;rotate_left
   · (try dsimp only at hSw);go_simp;try with_reducible rfl
   try walk_nrm
   co_applyP bA 11 rfl (by kernel_rfl) (by kernel_rfl) (fun _ _ _ h=>h) hHeld (fun w hSw=>?_) ?_;rotate_left
   · (try dsimp only at hSw);go_simp;try with_reducible rfl
   try walk_nrm
   co_applyP bA 13 rfl (by kernel_rfl) (by kernel_rfl) (fun _ _ _ h=>h) hHeld (fun w hSw=>?_) ?_;rotate_left
   · (try dsimp only at hSw);go_simp;try with_reducible rfl
   try walk_nrm
   co_applyP bA 14 rfl (by kernel_rfl) (by kernel_rfl) (fun _ _ _ h=>h) hHeld (fun w hSw=>?_) ?_;rotate_left
   · (try dsimp only at hSw);go_simp;try with_reducible rfl
   try walk_nrm
   co_applyP bA 15 rfl (by kernel_rfl) (by kernel_rfl) (fun _ _ _ h=>h) hHeld (fun w hSw=>?_) ?_;rotate_left
   · (try dsimp only at hSw);go_simp;try with_reducible rfl
   try walk_nrm
   co_applyP bA 16 rfl (by kernel_rfl) (by kernel_rfl) (fun _ _ _ h=>h) hHeld (fun w hSw=>?_) ?_;rotate_left
   · (try dsimp only at hSw);go_simp;try with_reducible rfl
   try walk_nrm
   refine iA 2 (by kernel_rfl) rfl fun K hK=>?_
   go_simp;go_at_call 41;refine(HT.out _ (fA HU.out)).mono ?_;rintro e wx ⟨rfl,zHT,rfl,hzHT0,hzHT1,hzHT2⟩;refine hK.out _ _ ⟨c2,c3,c4,c5⟩ (fun _=>?_);clear hK K hHeld;rename_i hHeld
   try walk_nrm
   co_applyP bA 3 rfl (by kernel_rfl) (by kernel_rfl) (fun _ _ _ h=>h) hHeld (fun w hSw=>?_) ?_;rotate_left
   · (try dsimp only at hSw);go_simp;try with_reducible rfl
   try walk_nrm
   refine iA 6 (by kernel_rfl) rfl fun K hK=>?_
   go_simp;go_at_call 41;refine(HB.out _ (fA HU.out)).mono ?_;rintro e wx ⟨rfl,zHB,rfl,hzHB0,hzHB1,hzHB2⟩;refine hK.out _ _ ⟨c2,c3,c4,c5⟩ (fun _=>?_);clear hK K hHeld;rename_i hHeld
   try walk_nrm
   co_applyP bA 7 rfl (by kernel_rfl) (by kernel_rfl) (fun _ _ _ h=>h) hHeld (fun w hSw=>?_) ?_;rotate_left
   · (try dsimp only at hSw);go_simp;try with_reducible rfl
   try walk_nrm
   co_applyP bA 12 rfl (by kernel_rfl) (by kernel_rfl) (fun _ _ _ h=>h) hHeld (fun w hSw=>?_) ?_;rotate_left
   · (try dsimp only at hSw);go_simp;try with_reducible rfl
   try walk_nrm
   co_applyP bA 17 rfl (by kernel_rfl) (by kernel_rfl) (fun _ _ _ h=>h) hHeld (fun w hSw=>?_) ?_;rotate_left
   · (try dsimp only at hSw);go_simp;try with_reducible rfl
   try walk_nrm
   co_applyP bA 18 rfl (by kernel_rfl) (by kernel_rfl) (fun _ _ _ h=>h) hHeld (fun w hSw=>?_) ?_;rotate_left
   · (try dsimp only at hSw);go_simp;try with_reducible rfl
   try walk_nrm
   refine wpAnyH_done (by kernel_rfl) ?_ _;refine NoPanic.normal ?_;have e1:IntKind.i64.wrap (1+zHT)=1+zHT:=by rw[IntKind.wrap_i64];omega
   have e2:IntKind.i64.wrap (1+zHT+zHB)=1+zHT+zHB:=by rw[IntKind.wrap_i64];omega
   have e3:IntKind.i64.wrap (1+zHT+zHB+min (d.name.size:Int) 1024)=1+zHT+zHB+min (d.name.size:Int) 1024:=by rw[IntKind.wrap_i64];omega
   have e4:IntKind.i64.wrap (1+zHT+zHB+min (d.name.size:Int) 1024+min (d.cons.length:Int) 1024)=1+zHT+zHB+min (d.name.size:Int) 1024+min (d.cons.length:Int) 1024:=by rw[IntKind.wrap_i64];omega
   rw[e1,e2,e3,e4];refine⟨rfl,1+zHT+zHB+min (d.name.size:Int) 1024+min (d.cons.length:Int) 1024,⟨by omega,by omega,fun h=>⟨by omega,by omega,by simp[mV];omega,fun c hc=>by simp at hc⟩⟩,⟨_,zB (F:=z1A w0.heap.size _) (by rfl)⟩,fA (Under.refl _)⟩
 rintro e a' w2 ⟨rfl,z,hz,⟨J,rfl⟩,hU2⟩;refine hK0 _ _ ?_;have HX:=Lib.hid (HX.out.under hU2);have HU:=Lib.hid (HU.out.trans hU2);have HZ0:=Lib.hid hz;clear hU2 hK0 hz;have hbx:=HX.out;clear HT HB;unfold z1A;go_wp2;go_loopw [3,4] (fun n i wr=>w2=wr∧∃(k:Nat) (z:Int),k≤d.cons.length∧i = .int .i64 (k:Int)∧n = .int .i64 z∧WtF d k z) (fun _ i _=>d.cons.length - (intOf i).toNat)
 case atStart=>exact⟨rfl,0,z,Nat.zero_le _,rfl,rfl,HZ0.out⟩
 case round =>
   obtain⟨rfl,k,z,hk,rfl,rfl,hz⟩:=hrel;have c5:=hbx.cell 5;have cl:=hbx.lt;have hk0:(0:Int)≤(k:Int):=by omega
   have hz1:=hz.1;have hz2:=hz.2.1;have HF:=Lib.hid hz;clear hz;by_cases hlt:k < d.cons.length
   · have hlt' : (k : Int) < (d.cons.length : Int) := by omega
     by_cases hzz:z≤2048
     · obtain ⟨u, hu, q, c9, us9, rfl, hq1, hq2, hq3, hq4⟩ := HZc.out.at (List.getElem?_eq_getElem hlt); obtain ⟨b, off, rfl, hb, hcs⟩ := HRc.out (fun e => by rw [e] at hu; simp at hu); have cc' := hcs k _ hu; rw [← dA HU.out hb] at cc'; have hb' := Nat.lt_of_lt_of_le hb HU.out.size; have HG := Lib.hid (HF.out.go hzz hlt); have HQ3 := Lib.hid hq3; have HQ4 := Lib.hid hq4; have HSc := Lib.hid (fun t (ht : t ∈ d.cons[k]) => HS.out.terms _ (List.getElem_mem hlt) t ht); have HOut := Lib.hid (fun j z (h : WtI d k d.cons[k] j z) (hj : j = d.cons[k].length ∨ 2048 < z) => h.out hlt hj); have hm9 : (d.cons[k].length : Int) ≤ 5864062014634 := by have := HS.out.con _ (List.getElem_mem hlt); omega
       clear hcs hu hq1 hq2 hq3 hq4 hb HZ0;generalize d.cons[k]=c at *;have hm0:(0:Int)≤(c.length:Int):=by omega
       go_wp2;go_loopw [3,5] (fun n i wr=>w2=wr∧∃(j:Nat) (z:Int),j≤c.length∧i = .int .i64 (j:Int)∧n = .int .i64 z∧WtI d k c j z) (fun _ i _=>c.length - (intOf i).toNat)
       case atStart=>exact⟨rfl,0,_,Nat.zero_le _,rfl,rfl,HG.out⟩
       case round =>
         obtain⟨rfl,j,z,hj,rfl,rfl,hz⟩:=hrel;have hj0:(0:Int)≤(j:Int):=by omega
         have hz1:=hz.1;have hz2:=hz.2.1;have HI:=Lib.hid hz;clear hz;by_cases hjl:j < c.length
         · have hjl' : (j : Int) < (c.length : Int) := by omega
           by_cases hzz:z≤2048
           · obtain ⟨y, hy, hyt⟩ := HQ4.out.at (List.getElem?_eq_getElem hjl); have HBk := Lib.hid (zAA (w0 := w2) c[j] (HSc.out _ (List.getElem_mem hjl)).1 (TermV.mono _ _ _ _ HU.out hyt)); obtain ⟨qy, cy, rfl, _⟩ := hyt; obtain ⟨b9, off9, rfl, hb9, hcs9⟩ := HQ3.out (fun e => by rw [e] at hy; simp at hy); have cc9 := hcs9 j _ hy; rw [← dA HU.out hb9] at cc9; have hb9' := Nat.lt_of_lt_of_le hb9 HU.out.size; have HGo := Lib.hid (fun y (h0 : 0 ≤ y) (h1 : y ≤ 1049600) (h2 : y ≤ 2048 → c[j].length ≤ 2048) => HI.out.go hzz hjl h0 h1 h2); clear hcs9 hy hb9; generalize c[j] = t at *; go_wp2_with fail; refine HBk.out.mono ?_; rintro e wx ⟨rfl, y, rfl, hy0, hy1, hy2⟩; have HW := Lib.hid (HGo.out y hy0 hy1 hy2); clear HGo HBk; go_wp2; go_roundw
             case rel=>exact⟨trivial,j+1,_,by omega,by go_num,rfl,HW.out⟩
             case measure=>simp[intOf];omega
           · have hzz' : 2048 < z := by omega
             have HW:=Lib.hid (HOut.out j z HI.out (.inr hzz'));clear hzz;go_wp2;go_roundw
             case rel=>exact⟨trivial,k+1,_,by omega,by go_num,rfl,HW.out⟩
             case measure=>simp[intOf];omega
         · have hjl' : ¬ (j : Int) < (c.length : Int) := by omega
           have HW:=Lib.hid (HOut.out j z HI.out (.inl (by omega)));go_wp2;go_roundw
           case rel=>exact⟨trivial,k+1,_,by omega,by go_num,rfl,HW.out⟩
           case measure=>simp[intOf];omega
     · have hzz' : 2048 < z := by omega
       clear hzz;go_wp2;go_ret;exact⟨HU.out,_,rfl,hz1,hz2,HF.out.out (.inr hzz')⟩
   · have hlt' : ¬ (k : Int) < (d.cons.length : Int) := by omega
     go_wp2;go_ret;exact⟨HU.out,_,rfl,hz1,hz2,HF.out.out (.inl (by omega))⟩
def p4A(w0:World)(l:List Dc)(e:Ending)(w:World):Prop:=Under w0 w∧∃ b,e = .returned (.bool b)∧(b=false→l.length≤2048∧∀ d∈l,WB d)
theorem tCA(l:List Dc){p:Option Addr}{c:Nat}(hl:l.length≤9223372036854775807)(hs:∀ d∈l,SzD d)(hp:RowsV 6 DcRow w0 p l):Calls Tryz.prog 8 #[.slice p l.length c] w0 (p4A w0 l):=by
 have HP:=Lib.hid hp;have HS:=Lib.hid hs;have hl0:(0:Int)≤(l.length:Int):=by omega
 have hl9:(l.length:Int)≤9223372036854775807:=by omega
 clear hp hs hl;go_enter Tryz.func8,Tryz.ntmps8;go_wp2;go_loopw [3,4] (fun n i wr=>Under w0 wr∧∃(k:Nat) (z:Int),k≤l.length∧i = .int .i64 (k:Int)∧n = .int .i64 z∧0≤z∧z≤3100000∧(z≤2048→k≤2048∧(k:Int)≤z∧∀ d∈l.take k,WB d)) (fun _ i _=>l.length - (intOf i).toNat)
 case atStart=>exact⟨Under.refl _,0,0,Nat.zero_le _,rfl,rfl,by omega,by omega,fun _=>⟨by omega,by omega,fun d hd=>by simp at hd⟩⟩
 case round =>
   obtain⟨hU,k,z,hk,rfl,rfl,hz0,hz1,hz2⟩:=hrel;have HU:=Lib.hid hU;have HF:=Lib.hid hz2;have hk0:(0:Int)≤(k:Int):=by omega
   clear hU hz2;by_cases hlt:k < l.length
   · have hlt' : (k : Int) < (l.length : Int) := by omega
     by_cases hzz:z≤2048
     · obtain ⟨b, off, r, rfl, hb, hrl, hr, hc⟩ := HP.out.at (List.getElem?_eq_getElem hlt) (by decide); have HW := Lib.hid (eCA (w0 := wr) l[k] (HS.out _ (List.getElem_mem hlt)) (DcV.mono _ _ _ _ HU.out (DcRow.val hr))); obtain ⟨v1, v2, v3, rfl, ⟨p1, c1, rfl, _⟩, ⟨p2, c2, rfl, _⟩, ⟨p3, c3, us3, rfl, _⟩⟩ := hr; have cc0 := hc 0 _ rfl; have cc1 := hc 1 _ rfl; have cc2 := hc 2 _ rfl; have cc3 := hc 3 _ rfl; have cc4 := hc 4 _ rfl; have cc5 := hc 5 _ rfl; simp only [Nat.add_zero, ← Nat.add_assoc] at cc0 cc1 cc2 cc3 cc4 cc5; rw [← dA HU.out hb] at cc0 cc1 cc2 cc3 cc4 cc5; have hb' := Nat.lt_of_lt_of_le hb HU.out.size; have HG := Lib.hid (fun y (h1 : 1 ≤ y) (h2 : y ≤ 2048 → WB l[k]) => show z + y ≤ 2048 → k + 1 ≤ 2048 ∧ ((k + 1 : Nat) : Int) ≤ z + y ∧ ∀ d ∈ l.take (k + 1), WB d from fun h => by
         obtain⟨a1,a2,a3⟩:=HF.out (by omega);refine⟨by omega,by omega,fun d hd=>?_⟩;rcases mO hlt hd with hd | rfl
         · exact a3 d hd
         · exact h2 (by omega))
       clear hc hrl hb;generalize l[k]=x at *;go_wp2_with fail;refine HW.out.mono ?_;rintro e w9 ⟨hU9,y,rfl,hy1,hy2,hy3⟩;have HU:=Lib.hid (HU.out.trans hU9);have HN:=Lib.hid (HG.out y hy1 hy3);clear hU9 HG HW hy3;go_wp2;go_roundw
       case rel=>exact⟨HU.out,k+1,_,by omega,by go_num,rfl,by omega,by omega,HN.out⟩
       case measure=>simp[intOf];omega
     · have hzz' : 2048 < z := by omega
       clear hzz;go_wp2;go_ret;exact⟨HU.out,true,rfl,fun h=>by cases h⟩
   · obtain rfl : k = l.length := by omega
     by_cases hzz:z≤2048
     · have hzz' : ¬ 2048 < z := by omega
       go_wp2;go_ret;exact⟨HU.out,false,rfl,fun _=>⟨(HF.out hzz).1,fun d hd=>(HF.out hzz).2.2 d (by rw[List.take_length];exact hd)⟩⟩
     · have hzz' : 2048 < z := by omega
       go_wp2;go_ret;exact⟨HU.out,true,rfl,fun h=>by cases h⟩
end
end Go.Proofs.YtggjbblgoddnjaaGreatDoor
