/- Part 13 of what the proof rests on. -/
import Derived.Deep.RegionHeld3
import Derived.Conc.CompanyMem
import Derived.Conc.WalkWords
import Derived.Shelf.Strings.Builder1
import Derived.Test.YtggjbblgoddnjaaGreatDoorProg
import Derived.Lib.Hide
import Derived.Shelf.Strings.BuilderK
import Derived.Test.YtggjbblgoddnjaaGreatDoorM00
import Derived.Test.YtggjbblgoddnjaaGreatDoorM04
import Derived.Test.YtggjbblgoddnjaaGreatDoorM05
import Derived.Test.YtggjbblgoddnjaaGreatDoorM06
import Derived.Test.YtggjbblgoddnjaaGreatDoorM08
import Derived.Test.YtggjbblgoddnjaaGreatDoorM10
import Derived.Test.YtggjbblgoddnjaaGreatDoorM12
set_option linter.unusedSimpArgs false
set_option linter.unusedVariables false
set_option maxRecDepth 100000
set_option maxHeartbeats 8000000
namespace Go.Proofs.YtggjbblgoddnjaaGreatDoor
open Go.Lx Go.RowKit
noncomputable def r4:Code:=match Tryz.f20.body with
 | some (.seq _ (.seq _ (.seq _ (.seq _ (.seq c _)))))=>c
 | _=>.skip
theorem xSA {w1 w2 w3 w4 w5 w6 w7 w8 w9 : World} {v1 v2 v3 v4 v5 v6 v7 v8 : Value} {r1 r2 r3 r4 r5 r6 r7 r8 : Int} {T : TypeId}
    (h1:StepOk w1 v1 r1) (u1:Under w1 w2) (u2:Under w2 w3) (h2:StepOk w3 v2 r2) (u3:Under w3 w4) (h3:StepOk w4 v3 r3) (u4:Under w4 w5) (h4:StepOk w5 v4 r4) (u5:Under w5 w6) (h5:StepOk w6 v5 r5)
    (u6:Under w6 w7) (h6:StepOk w7 v6 r6) (u7:Under w7 w8) (h7:StepOk w8 v7 r7) (u8:Under w8 w9) (h8:StepOk w9 v8 r8) :
    Calls Tryz.prog 47 #[.slice (some ⟨w9.heap.size,0,none⟩) 8 8] (w9.alloc (.cells #[v1,v2,v3,v4,v5,v6,v7,v8] T)) fun e w=>e = .returned (.int .i64 (vD [r1,r2,r3,r4,r5,r6,r7,r8]))∧Under (w9.alloc (.cells #[v1,v2,v3,v4,v5,v6,v7,v8] T)) w:=by
  have hU:=bA (Under.refl w9) (.cells #[v1,v2,v3,v4,v5,v6,v7,v8] T);have a8:=h8.under hU;have a7:=h7.under (u8.trans hU);have a6:=h6.under (u7.trans (u8.trans hU));have a5:=h5.under (u6.trans (u7.trans (u8.trans hU)));have a4:=h4.under (u5.trans (u6.trans (u7.trans (u8.trans hU))));have a3:=h3.under (u4.trans (u5.trans (u6.trans (u7.trans (u8.trans hU)))));have a2:=h2.under (u3.trans (u4.trans (u5.trans (u6.trans (u7.trans (u8.trans hU))))));have a1:=h1.under (u1.trans (u2.trans (u3.trans (u4.trans (u5.trans (u6.trans (u7.trans (u8.trans hU))))))));refine fZA (w0:=w9.alloc (.cells #[v1,v2,v3,v4,v5,v6,v7,v8] T)) [(v1,r1),(v2,r2),(v3,r3),(v4,r4),(v5,r5),(v6,r6),(v7,r7),(v8,r8)] (c:=8) (by simp) (cO w9 [v1,v2,v3,v4,v5,v6,v7,v8] T (0,0)) fun x hx=>?_
  simp only[List.mem_cons,List.not_mem_nil,or_false]at hx;rcases hx with rfl | rfl | rfl | rfl | rfl | rfl | rfl | rfl<;>assumption
def eOA(b:Nat)(b3 b4 b5:Bool)(J:Nat→Value):Array Value:=#[J 0,.pointer (some ⟨b,0,none⟩),J 2,.bool b3,.bool b4,.bool b5,J 6,J 7,J 8,J 9,J 10,J 11,J 12,J 13,J 14,J 15,J 16,J 17,J 18,J 19,J 20,J 21,J 22,J 23,J 24,J 25,J 26,J 27,J 28,J 29,J 30,J 31,J 32,J 33,J 34,J 35,J 36,J 37,J 38,J 39,J 40,J 41,J 42,J 43,J 44,J 45,J 46,J 47,J 48,J 49,J 50,J 51,J 52,J 53,J 54,J 55,J 56,J 57,J 58,J 59,J 60,J 61,J 62,J 63,J 64,J 65,J 66,J 67,J 68,J 69,J 70,J 71,J 72,J 73,J 74,J 75,J 76,J 77,J 78,J 79,J 80,J 81,J 82,J 83,J 84,J 85,J 86]
def hDA(r:Int)(J:Nat→Value):Array Value:=#[J 0,J 1,.int .i64 r,J 3,J 4,J 5,J 6,J 7,J 8,J 9,J 10,J 11,J 12,J 13,J 14,J 15,J 16,J 17,J 18,J 19,J 20,J 21,J 22,J 23,J 24,J 25,J 26,J 27,J 28,J 29,J 30,J 31,J 32,J 33,J 34,J 35,J 36,J 37,J 38,J 39,J 40,J 41,J 42,J 43,J 44,J 45,J 46,J 47,J 48,J 49,J 50,J 51,J 52,J 53,J 54,J 55,J 56,J 57,J 58,J 59,J 60,J 61,J 62,J 63,J 64,J 65,J 66,J 67,J 68,J 69,J 70,J 71,J 72,J 73,J 74,J 75,J 76,J 77,J 78,J 79,J 80,J 81,J 82,J 83,J 84,J 85,J 86]
def DkS(W0:World)(b:Nat)(k l:Int)(s:ByteArray)(vt vb vc:Value)(w':World):Prop:=w'.cell? ⟨b,0,none⟩=some (.int .i64 k)∧w'.cell? ⟨b,1,none⟩=some (.int .i64 l)∧w'.cell? ⟨b,2,none⟩=some (.string s)∧w'.cell? ⟨b,3,none⟩=some vt∧w'.cell? ⟨b,4,none⟩=some vb∧w'.cell? ⟨b,5,none⟩=some vc∧b < w'.heap.size∧Under W0 w'
theorem fK{W0:World}{b:Nat}{k l:Int}{s:ByteArray}{vt vb vc:Value}{w w':World}(h:DkS W0 b k l s vt vb vc w)(hU:Under w w'):DkS W0 b k l s vt vb vc w':=by
 obtain⟨d0,d1,d2,d3,d4,d5,d6,d7⟩:=h;exact⟨(fA hU d6 _).trans d0,(fA hU d6 _).trans d1,(fA hU d6 _).trans d2,(fA hU d6 _).trans d3,(fA hU d6 _).trans d4,(fA hU d6 _).trans d5,Nat.lt_of_lt_of_le d6 hU.size,d7.trans hU⟩
section
variable {W0 : World}
theorem kCA {w : World} {b : Nat} {k l ce de : Int} {s : ByteArray} {nm b4 b5 : Bool} {pt pb pc : Option Addr} {nt nb nc ct cb cc : Nat}
    (HC:RowKit.Hid (∀ w,Under W0 w→Calls Tryz.prog 50 #[.agg #[.int .i64 k,.int .i64 l,.string s,.slice pt nt ct,.slice pb nb cb,.slice pc nc cc]] w fun x w'=>∃ b,x = .returned (.func (.func 84) #[] #[.pointer (some ⟨b,0,none⟩)])∧StepOk w' (.func (.func 84) #[] #[.pointer (some ⟨b,0,none⟩)]) ce∧Under w w'))
    (HN:RowKit.Hid (∀ w,Calls Tryz.prog 49 #[.string s] w fun e w'=>e = .returned (.bool nm)∧Under w w'))
    (HD:RowKit.Hid (de=vD [nC (decide (1≤k)&&decide (k≤3)) 1,nC nm 20,ce,nC ((k==3&&b4)||(!(k==3)&&(l==0))) 1,nC (k==3||((nc:Int)==0)) 1,nC (!(k==3)||((nt:Int)==0)) 1,nC (k==1||((nb:Int)==0)) 1,nC (!b5) 21]))
    (h:DkS W0 b k l s (.slice pt nt ct) (.slice pb nb cb) (.slice pc nc cc) w) (a:Act) (ha:∃ J,a=⟨eOA b (k==3) b4 b5 J,[]⟩) :
    r4.wp Tryz.prog (fun e a' w'=>e = .normal∧(∃ J,a'=⟨hDA de J,[]⟩)∧Under W0 w') a w:=by
  obtain⟨J,rfl⟩:=ha;have hX:((k==3)=true∧(k==1)=false∧(1≤k)∧k≤3∧b4=true∧(k==3&&b4)=true)∨((k==3)=true∧(k==1)=false∧(1≤k)∧k≤3∧b4=false∧(k==3&&b4)=false)∨((k==3)=false∧(k==1)=true∧(1≤k)∧k≤3∧b4=b4∧(k==3&&b4)=false)∨((k==3)=false∧(k==1)=false∧(1≤k)∧True∧b4=b4∧(k==3&&b4)=false)∨((k==3)=false∧(k==1)=false∧(¬ 1≤k)∧True∧b4=b4∧(k==3&&b4)=false):=by
   by_cases h3:k=3
   · subst h3;cases b4<;>simp
   · by_cases h1 : k = 1
     · subst h1;simp
     · by_cases h0:1≤k<;>simp[h3,h1,h0]
  unfold r4 Tryz.f20;dsimp only;unfold eOA;rcases hX with⟨f3,f1,f0,f9,fb,fg⟩ | ⟨f3,f1,f0,f9,fb,fg⟩ | ⟨f3,f1,f0,f9,fb,fg⟩ | ⟨f3,f1,f0,f9,fb,fg⟩ | ⟨f3,f1,f0,f9,fb,fg⟩
  all_goals
   rw[f3,fb];rw[fb]at HD;clear fb;refine wp_region_noPanic ?_;refine wp_region_held_drew (S:=fun w'=>w'.cell? ⟨b,0,none⟩=some (.int .i64 k)∧w'.cell? ⟨b,1,none⟩=some (.int .i64 l)∧w'.cell? ⟨b,2,none⟩=some (.string s)∧w'.cell? ⟨b,3,none⟩=some (.slice pt nt ct)∧w'.cell? ⟨b,4,none⟩=some (.slice pb nb cb)∧w'.cell? ⟨b,5,none⟩=some (.slice pc nc cc)∧b < w'.heap.size∧Under W0 w') (by kernel_rfl) (fK h (nA (Under.refl w))) (fun hHeld=>?_);refine dA 0 rfl ?_;refine dA 1 rfl ?_;refine dA 2 rfl ?_;refine dA 3 rfl ?_
   try walk_nrm
   first
    | (have _g := (f0 : 1 ≤ k)
       co_applyP qC 4 rfl (by kernel_rfl) (by kernel_rfl) (fun _ _ _ h=>h) hHeld (fun w hSw=>?_) ?_;rotate_left
       · (try dsimp only at hSw);go_simp;try with_reducible rfl
       clear _g)
    | co_applyP mD 4 rfl (by kernel_rfl) (by kernel_rfl) (fun _ _ _ h=>h) hHeld ?_
   try walk_nrm
   first
    | (have _g := (f0 : 1 ≤ k)
       co_applyP qC 5 rfl (by kernel_rfl) (by kernel_rfl) (fun _ _ _ h=>h) hHeld (fun w hSw=>?_) ?_;rotate_left
       · (try dsimp only at hSw);go_simp;try with_reducible rfl
       clear _g)
    | co_applyP mD 5 rfl (by kernel_rfl) (by kernel_rfl) (fun _ _ _ h=>h) hHeld ?_
   try walk_nrm
   first
    | (have _g := (f0 : 1 ≤ k)
       co_applyP qC 6 rfl (by kernel_rfl) (by kernel_rfl) (fun _ _ _ h=>h) hHeld (fun w hSw=>?_) ?_;rotate_left
       · (try dsimp only at hSw);go_simp;try with_reducible rfl
       clear _g)
    | co_applyP mD 6 rfl (by kernel_rfl) (by kernel_rfl) (fun _ _ _ h=>h) hHeld ?_
   try walk_nrm
   refine dA 7 rfl ?_;refine dA 9 rfl ?_;refine dA 10 rfl ?_;refine dA 13 rfl ?_;refine dA 15 rfl ?_;refine dA 29 rfl ?_;refine dA 37 rfl ?_;refine dA 38 rfl ?_;refine dA 46 rfl ?_;refine dA 47 rfl ?_;refine dA 48 rfl ?_;refine dA 56 rfl ?_;refine dA 57 rfl ?_
   try walk_nrm
   refine yA 8 (by kernel_rfl) rfl fun K hK=>?_
   go_simp;go_at_call 48;refine(qK _ _).mono ?_;rintro e w8 ⟨b8,c8,rfl,hS8,hU8⟩;refine hK.out _ _ (fK hHeld hU8) (fun _=>?_);clear hK K hHeld;rename_i hHeld
   try walk_nrm
   refine yA 11 (by kernel_rfl) rfl fun K hK=>?_
   go_simp;go_at_call 49;refine(HN.out _).mono ?_;rintro e w11 ⟨rfl,hU11⟩;refine hK.out _ _ (fK hHeld hU11) (fun _=>?_);clear hK K hHeld;rename_i hHeld
   try walk_nrm
   refine yA 12 (by kernel_rfl) rfl fun K hK=>?_
   go_simp;go_at_call 48;refine(qK _ _).mono ?_;rintro e w12 ⟨b12,c12,rfl,hS12,hU12⟩;refine hK.out _ _ (fK hHeld hU12) (fun _=>?_);clear hK K hHeld;rename_i hHeld
   try walk_nrm
   refine yA 14 (by kernel_rfl) rfl fun K hK=>?_
   go_simp;go_at_call 50;refine(HC.out _ hHeld.2.2.2.2.2.2.2).mono ?_;rintro e w14 ⟨b14,rfl,hS14,hU14⟩;refine hK.out _ _ (fK hHeld hU14) (fun _=>?_);clear hK K hHeld;rename_i hHeld
   try walk_nrm
   refine dA 16 rfl ?_
   try walk_nrm
   first
    | (have _g := (f3 : (k == 3) = true)
       co_applyP qC 17 rfl (by kernel_rfl) (by kernel_rfl) (fun _ _ _ h=>h) hHeld (fun w hSw=>?_) ?_;rotate_left
       · (try dsimp only at hSw);go_simp;try with_reducible rfl
       clear _g)
    | co_applyP mD 17 rfl (by kernel_rfl) (by kernel_rfl) (fun _ _ _ h=>h) hHeld ?_
   try walk_nrm
   refine dA 18 rfl ?_;refine dA 19 rfl ?_
   try walk_nrm
   first
    | (have _g := (fg : (k == 3 && b4) = false)
       co_applyP qC 20 rfl (by kernel_rfl) (by kernel_rfl) (fun _ _ _ h=>h) hHeld (fun w hSw=>?_) ?_;rotate_left
       · (try dsimp only at hSw);go_simp;try with_reducible rfl
       clear _g)
    | co_applyP mD 20 rfl (by kernel_rfl) (by kernel_rfl) (fun _ _ _ h=>h) hHeld ?_
   try walk_nrm
   first
    | (have _g := (fg : (k == 3 && b4) = false)
       co_applyP qC 21 rfl (by kernel_rfl) (by kernel_rfl) (fun _ _ _ h=>h) hHeld (fun w hSw=>?_) ?_;rotate_left
       · (try dsimp only at hSw);go_simp;try with_reducible rfl
       clear _g)
    | co_applyP mD 21 rfl (by kernel_rfl) (by kernel_rfl) (fun _ _ _ h=>h) hHeld ?_
   try walk_nrm
   first
    | (have _g := (fg : (k == 3 && b4) = false)
       co_applyP qC 22 rfl (by kernel_rfl) (by kernel_rfl) (fun _ _ _ h=>h) hHeld (fun w hSw=>?_) ?_;rotate_left
       · (try dsimp only at hSw);go_simp;try with_reducible rfl
       clear _g)
    | co_applyP mD 22 rfl (by kernel_rfl) (by kernel_rfl) (fun _ _ _ h=>h) hHeld ?_
   try walk_nrm
   first
    | (have _g := (f3 : (k == 3) = false)
       co_applyP qC 23 rfl (by kernel_rfl) (by kernel_rfl) (fun _ _ _ h=>h) hHeld (fun w hSw=>?_) ?_;rotate_left
       · (try dsimp only at hSw);go_simp;try with_reducible rfl
       clear _g)
    | co_applyP mD 23 rfl (by kernel_rfl) (by kernel_rfl) (fun _ _ _ h=>h) hHeld ?_
   try walk_nrm
   first
    | (have _g := (f3 : (k == 3) = false)
       co_applyP qC 24 rfl (by kernel_rfl) (by kernel_rfl) (fun _ _ _ h=>h) hHeld (fun w hSw=>?_) ?_;rotate_left
       · (try dsimp only at hSw);go_simp;try with_reducible rfl
       clear _g)
    | co_applyP mD 24 rfl (by kernel_rfl) (by kernel_rfl) (fun _ _ _ h=>h) hHeld ?_
   try walk_nrm
   first
    | (have _g := (f3 : (k == 3) = false)
       co_applyP qC 25 rfl (by kernel_rfl) (by kernel_rfl) (fun _ _ _ h=>h) hHeld (fun w hSw=>?_) ?_;rotate_left
       · (try dsimp only at hSw);go_simp;try with_reducible rfl
       clear _g)
    | co_applyP mD 25 rfl (by kernel_rfl) (by kernel_rfl) (fun _ _ _ h=>h) hHeld ?_
   try walk_nrm
   first
    | (have _g := (fg : (k == 3 && b4) = false)
       co_applyP qC 26 rfl (by kernel_rfl) (by kernel_rfl) (fun _ _ _ h=>h) hHeld (fun w hSw=>?_) ?_;rotate_left
       · (try dsimp only at hSw);go_simp;try with_reducible rfl
       clear _g)
    | co_applyP mD 26 rfl (by kernel_rfl) (by kernel_rfl) (fun _ _ _ h=>h) hHeld ?_
   try walk_nrm
   refine dA 27 rfl ?_
   try walk_nrm
   refine yA 28 (by kernel_rfl) rfl fun K hK=>?_
   go_simp;go_at_call 48;refine(qK _ _).mono ?_;rintro e w28 ⟨b28,c28,rfl,hS28,hU28⟩;refine hK.out _ _ (fK hHeld hU28) (fun _=>?_);clear hK K hHeld;rename_i hHeld
   try walk_nrm
   refine dA 30 rfl ?_
   try walk_nrm
   first
    | (have _g := (f3 : (k == 3) = false)
       co_applyP qC 31 rfl (by kernel_rfl) (by kernel_rfl) (fun _ _ _ h=>h) hHeld (fun w hSw=>?_) ?_;rotate_left
       · (try dsimp only at hSw);go_simp;try with_reducible rfl
       clear _g)
    | co_applyP mD 31 rfl (by kernel_rfl) (by kernel_rfl) (fun _ _ _ h=>h) hHeld ?_
   try walk_nrm
   first
    | (have _g := (f3 : (k == 3) = false)
       co_applyP qC 32 rfl (by kernel_rfl) (by kernel_rfl) (fun _ _ _ h=>h) hHeld (fun w hSw=>?_) ?_;rotate_left
       · (try dsimp only at hSw);go_simp;try with_reducible rfl
       clear _g)
    | co_applyP mD 32 rfl (by kernel_rfl) (by kernel_rfl) (fun _ _ _ h=>h) hHeld ?_
   try walk_nrm
   first
    | (have _g := (f3 : (k == 3) = false)
       co_applyP qC 33 rfl (by kernel_rfl) (by kernel_rfl) (fun _ _ _ h=>h) hHeld (fun w hSw=>?_) ?_;rotate_left
       · (try dsimp only at hSw);go_simp;try with_reducible rfl
       clear _g)
    | co_applyP mD 33 rfl (by kernel_rfl) (by kernel_rfl) (fun _ _ _ h=>h) hHeld ?_
   try walk_nrm
   first
    | (have _g := (f3 : (k == 3) = false)
       co_applyP qC 34 rfl (by kernel_rfl) (by kernel_rfl) (fun _ _ _ h=>h) hHeld (fun w hSw=>?_) ?_;rotate_left
       · (try dsimp only at hSw);go_simp;try with_reducible rfl
       clear _g)
    | co_applyP mD 34 rfl (by kernel_rfl) (by kernel_rfl) (fun _ _ _ h=>h) hHeld ?_
   try walk_nrm
   refine dA 35 rfl ?_
   try walk_nrm
   refine yA 36 (by kernel_rfl) rfl fun K hK=>?_
   go_simp;go_at_call 48;refine(qK _ _).mono ?_;rintro e w36 ⟨b36,c36,rfl,hS36,hU36⟩;refine hK.out _ _ (fK hHeld hU36) (fun _=>?_);clear hK K hHeld;rename_i hHeld
   try walk_nrm
   refine dA 39 rfl ?_
   try walk_nrm
   first
    | (have _g := (f3 : (k == 3) = true)
       co_applyP qC 40 rfl (by kernel_rfl) (by kernel_rfl) (fun _ _ _ h=>h) hHeld (fun w hSw=>?_) ?_;rotate_left
       · (try dsimp only at hSw);go_simp;try with_reducible rfl
       clear _g)
    | co_applyP mD 40 rfl (by kernel_rfl) (by kernel_rfl) (fun _ _ _ h=>h) hHeld ?_
   try walk_nrm
   first
    | (have _g := (f3 : (k == 3) = true)
       co_applyP qC 41 rfl (by kernel_rfl) (by kernel_rfl) (fun _ _ _ h=>h) hHeld (fun w hSw=>?_) ?_;rotate_left
       · (try dsimp only at hSw);go_simp;try with_reducible rfl
       clear _g)
    | co_applyP mD 41 rfl (by kernel_rfl) (by kernel_rfl) (fun _ _ _ h=>h) hHeld ?_
   try walk_nrm
   first
    | (have _g := (f3 : (k == 3) = true)
       co_applyP qC 42 rfl (by kernel_rfl) (by kernel_rfl) (fun _ _ _ h=>h) hHeld (fun w hSw=>?_) ?_;rotate_left
       · (try dsimp only at hSw);go_simp;try with_reducible rfl
       clear _g)
    | co_applyP mD 42 rfl (by kernel_rfl) (by kernel_rfl) (fun _ _ _ h=>h) hHeld ?_
   try walk_nrm
   first
    | (have _g := (f3 : (k == 3) = true)
       co_applyP qC 43 rfl (by kernel_rfl) (by kernel_rfl) (fun _ _ _ h=>h) hHeld (fun w hSw=>?_) ?_;rotate_left
       · (try dsimp only at hSw);go_simp;try with_reducible rfl
       clear _g)
    | co_applyP mD 43 rfl (by kernel_rfl) (by kernel_rfl) (fun _ _ _ h=>h) hHeld ?_
   try walk_nrm
   refine dA 44 rfl ?_
   try walk_nrm
   refine yA 45 (by kernel_rfl) rfl fun K hK=>?_
   go_simp;go_at_call 48;refine(qK _ _).mono ?_;rintro e w45 ⟨b45,c45,rfl,hS45,hU45⟩;refine hK.out _ _ (fK hHeld hU45) (fun _=>?_);clear hK K hHeld;rename_i hHeld
   try walk_nrm
   refine dA 49 rfl ?_
   try walk_nrm
   first
    | (have _g := (f1 : (k == 1) = false)
       co_applyP qC 50 rfl (by kernel_rfl) (by kernel_rfl) (fun _ _ _ h=>h) hHeld (fun w hSw=>?_) ?_;rotate_left
       · (try dsimp only at hSw);go_simp;try with_reducible rfl
       clear _g)
    | co_applyP mD 50 rfl (by kernel_rfl) (by kernel_rfl) (fun _ _ _ h=>h) hHeld ?_
   try walk_nrm
   first
    | (have _g := (f1 : (k == 1) = false)
       co_applyP qC 51 rfl (by kernel_rfl) (by kernel_rfl) (fun _ _ _ h=>h) hHeld (fun w hSw=>?_) ?_;rotate_left
       · (try dsimp only at hSw);go_simp;try with_reducible rfl
       clear _g)
    | co_applyP mD 51 rfl (by kernel_rfl) (by kernel_rfl) (fun _ _ _ h=>h) hHeld ?_
   try walk_nrm
   first
    | (have _g := (f1 : (k == 1) = false)
       co_applyP qC 52 rfl (by kernel_rfl) (by kernel_rfl) (fun _ _ _ h=>h) hHeld (fun w hSw=>?_) ?_;rotate_left
       · (try dsimp only at hSw);go_simp;try with_reducible rfl
       clear _g)
    | co_applyP mD 52 rfl (by kernel_rfl) (by kernel_rfl) (fun _ _ _ h=>h) hHeld ?_
   try walk_nrm
   first
    | (have _g := (f1 : (k == 1) = false)
       co_applyP qC 53 rfl (by kernel_rfl) (by kernel_rfl) (fun _ _ _ h=>h) hHeld (fun w hSw=>?_) ?_;rotate_left
       · (try dsimp only at hSw);go_simp;try with_reducible rfl
       clear _g)
    | co_applyP mD 53 rfl (by kernel_rfl) (by kernel_rfl) (fun _ _ _ h=>h) hHeld ?_
   try walk_nrm
   refine dA 54 rfl ?_
   try walk_nrm
   refine yA 55 (by kernel_rfl) rfl fun K hK=>?_
   go_simp;go_at_call 48;refine(qK _ _).mono ?_;rintro e w55 ⟨b55,c55,rfl,hS55,hU55⟩;refine hK.out _ _ (fK hHeld hU55) (fun _=>?_);clear hK K hHeld;rename_i hHeld
   try walk_nrm
   refine yA 58 (by kernel_rfl) rfl fun K hK=>?_
   go_simp;go_at_call 48;refine(qK _ _).mono ?_;rintro e w58 ⟨b58,c58,rfl,hS58,hU58⟩;refine hK.out _ _ (fK hHeld hU58) (fun _=>?_);clear hK K hHeld;rename_i hHeld
   try walk_nrm
   refine yA 59 (by kernel_rfl) rfl fun K hK=>?_
   go_simp;refine hK.out _ _ (fK hHeld (bA (Under.refl _) _)) (fun _=>?_);clear hK K hHeld;rename_i hHeld
   try walk_nrm
   refine yA 60 (by kernel_rfl) rfl fun K hK=>?_
   go_simp;go_at_call 47;refine(xSA hS8 hU11 hU12 hS12 hU14 hS14 hU28 hS28 hU36 hS36 hU45 hS45 hU55 hS55 hU58 hS58).mono ?_;rintro e w60 ⟨rfl,hU60⟩;refine hK.out _ _ (fK hHeld hU60) (fun _=>?_);clear hK K hHeld;rename_i hHeld
   try walk_nrm
   refine dA 61 rfl ?_
   try walk_nrm
   refine wpAnyH_done (by kernel_rfl) ?_ _;refine NoPanic.normal ?_;refine⟨rfl,?_,hHeld.2.2.2.2.2.2.2⟩;rw[HD.out]
   first
    | simp only[f9,fg,f0,f1,f3,decide_true,decide_false,Bool.true_and,Bool.and_true,Bool.false_and,Bool.true_or,Bool.false_or,Bool.not_true,Bool.not_false]
    | simp only[fg,f0,f1,f3,decide_true,decide_false,Bool.true_and,Bool.and_true,Bool.false_and,Bool.true_or,Bool.false_or,Bool.not_true,Bool.not_false]
   exact⟨_,nD (F:=hDA _) (by rfl)⟩
end
def tX(k l:Int):Bool:=(k==3&&(decide (1≤l)&&decide (l≤9)))||(!(k==3)&&(l==0))
def kJ(d:Dc):Int:=vD [
  nC (decide (1≤d.kind)&&decide (d.kind≤3)) 1,
  nC (tN d.name) 20,
  vD ((aB d).map sD),
  nC (tX d.kind d.level) 1,
  nC (d.kind==3||((d.cons.length:Int)==0)) 1,
  nC (!(d.kind==3)||((d.type.length:Int)==0)) 1,
  nC (d.kind==1||((d.body.length:Int)==0)) 1,
  nC (!(decide (6 < (d.cons.length:Int))||aK d.cons)) 21]
section
variable {w0 : World} {d : Dc} {v : Value}
theorem cSA(hd:Small d)(hv:DcV w0 v d)(hS:ShapesAt 3 w0):Calls Tryz.prog 20 #[v] w0 fun x w=>x = .returned (.int .i64 (kJ d))∧Under w0 w:=by
 have hv':=hv;obtain⟨vt,vb,vc,rfl,⟨pt,ct,rfl,g1⟩,⟨pb,cb,rfl,g2⟩,hc⟩:=hv;have hcon:=ConsV.mono _ _ _ _ (bA (Under.refl w0) (.cells #[.int .i64 d.kind,.int .i64 d.level,.string d.name,.slice pt d.type.length ct,.slice pb d.body.length cb,vc] 33)) hc;have HL:=aA (eQA d.cons hd.cons hcon);obtain⟨pc,cc,us,rfl,g3⟩:=hc;have hU:=bA (Under.refl w0) (.cells #[.int .i64 d.kind,.int .i64 d.level,.string d.name,.slice pt d.type.length ct,.slice pb d.body.length cb,.slice pc d.cons.length cc] 33);have HV:=aA hv';have HS:=aA hS;have HD:=aA hd;have HU:=aA hU;have hE:kJ d=vD [
 nC (decide (1≤d.kind)&&decide (d.kind≤3)) 1,
 nC (tN d.name) 20,
 vD ((aB d).map sD),
 nC (tX d.kind d.level) 1,
 nC (d.kind==3||((d.cons.length:Int)==0)) 1,
 nC (!(d.kind==3)||((d.type.length:Int)==0)) 1,
 nC (d.kind==1||((d.body.length:Int)==0)) 1,
 nC (!(decide (6 < (d.cons.length:Int))||aK d.cons)) 21]:=rfl
 have HE:=aA hE;have HC:=aA (fun w (h:Under w0 w)=>iSA (w0:=w) hd (DcV.mono _ _ _ _ h hv') (hS.under h));have HN:=aA (fun w=>iKA (w0:=w) d.name hd.name);clear hd hv' hS hU hcon hE HV HS HD g1 g2 g3 us;generalize aK d.cons=lg at *;generalize vD ((aB d).map sD)=ce at *;generalize tN d.name=nm at *;generalize d.type.length=nt at *;generalize d.body.length=nb at *;generalize d.cons.length=nc at *;generalize d.name=s at *;generalize d.level=l at *;generalize d.kind=k at *;generalize kJ d=de at *;by_cases hl:1≤l
 · by_cases hl2 : l ≤ 9
   · have HV : RowKit.Hid ((decide (1 ≤ l) && decide (l ≤ 9)) = true) := aA (by simp [hl, hl2]); by_cases hn : 6 < (nc : Int)
     · have HDn:RowKit.Hid (decide (6 < (nc:Int))=true):=aA (by simpa using hn);go_enter Tryz.func20,Tryz.ntmps20;go_wp2_with fail;rename_i Q' K hK;refine wp_mono (kCA (de:=de) (b4:=true) (b5:=true) HC HN (aA (by rw[HE.out,tX,HV.out,HDn.out];first | rfl | simp)) ⟨(rA w0 _ _).cell 0,(rA w0 _ _).cell 1,(rA w0 _ _).cell 2,(rA w0 _ _).cell 3,(rA w0 _ _).cell 4,(rA w0 _ _).cell 5,by simp,HU.out⟩ _ ⟨_,nD (F:=eOA w0.heap.size (k==3) true true) (by rfl)⟩) ?_;rintro e a' w' ⟨rfl,⟨J,rfl⟩,hU'⟩;have HU':=aA hU';clear hU';simp only[Exit.then];refine hK _ _ ?_;unfold hDA;go_wp2;go_ret;exact⟨rfl,HU'.out⟩
     · have HDn:RowKit.Hid (decide (6 < (nc:Int))=false):=aA (by simpa using hn);go_enter Tryz.func20,Tryz.ntmps20;go_wp2_with fail;refine HL.out.mono ?_;rintro e w1 ⟨rfl,rfl⟩;go_wp2_with fail;rename_i Q' K hK;refine wp_mono (kCA (de:=de) (b4:=true) (b5:=lg) HC HN (aA (by rw[HE.out,tX,HV.out,HDn.out];first | rfl | simp)) ⟨(rA w0 _ _).cell 0,(rA w0 _ _).cell 1,(rA w0 _ _).cell 2,(rA w0 _ _).cell 3,(rA w0 _ _).cell 4,(rA w0 _ _).cell 5,by simp,HU.out⟩ _ ⟨_,nD (F:=eOA w0.heap.size (k==3) true lg) (by rfl)⟩) ?_;rintro e a' w' ⟨rfl,⟨J,rfl⟩,hU'⟩;have HU':=aA hU';clear hU';simp only[Exit.then];refine hK _ _ ?_;unfold hDA;go_wp2;go_ret;exact⟨rfl,HU'.out⟩
   · have HV : RowKit.Hid ((decide (1 ≤ l) && decide (l ≤ 9)) = false) := aA (by simp; omega); by_cases hn : 6 < (nc : Int)
     · have HDn:RowKit.Hid (decide (6 < (nc:Int))=true):=aA (by simpa using hn);go_enter Tryz.func20,Tryz.ntmps20;go_wp2_with fail;rename_i Q' K hK;refine wp_mono (kCA (de:=de) (b4:=false) (b5:=true) HC HN (aA (by rw[HE.out,tX,HV.out,HDn.out];first | rfl | simp)) ⟨(rA w0 _ _).cell 0,(rA w0 _ _).cell 1,(rA w0 _ _).cell 2,(rA w0 _ _).cell 3,(rA w0 _ _).cell 4,(rA w0 _ _).cell 5,by simp,HU.out⟩ _ ⟨_,nD (F:=eOA w0.heap.size (k==3) false true) (by rfl)⟩) ?_;rintro e a' w' ⟨rfl,⟨J,rfl⟩,hU'⟩;have HU':=aA hU';clear hU';simp only[Exit.then];refine hK _ _ ?_;unfold hDA;go_wp2;go_ret;exact⟨rfl,HU'.out⟩
     · have HDn:RowKit.Hid (decide (6 < (nc:Int))=false):=aA (by simpa using hn);go_enter Tryz.func20,Tryz.ntmps20;go_wp2_with fail;refine HL.out.mono ?_;rintro e w1 ⟨rfl,rfl⟩;go_wp2_with fail;rename_i Q' K hK;refine wp_mono (kCA (de:=de) (b4:=false) (b5:=lg) HC HN (aA (by rw[HE.out,tX,HV.out,HDn.out];first | rfl | simp)) ⟨(rA w0 _ _).cell 0,(rA w0 _ _).cell 1,(rA w0 _ _).cell 2,(rA w0 _ _).cell 3,(rA w0 _ _).cell 4,(rA w0 _ _).cell 5,by simp,HU.out⟩ _ ⟨_,nD (F:=eOA w0.heap.size (k==3) false lg) (by rfl)⟩) ?_;rintro e a' w' ⟨rfl,⟨J,rfl⟩,hU'⟩;have HU':=aA hU';clear hU';simp only[Exit.then];refine hK _ _ ?_;unfold hDA;go_wp2;go_ret;exact⟨rfl,HU'.out⟩
 · have HV : RowKit.Hid ((decide (1 ≤ l) && decide (l ≤ 9)) = false) := aA (by simp; omega); by_cases hn : 6 < (nc : Int)
   · have HDn:RowKit.Hid (decide (6 < (nc:Int))=true):=aA (by simpa using hn);go_enter Tryz.func20,Tryz.ntmps20;go_wp2_with fail;rename_i Q' K hK;refine wp_mono (kCA (de:=de) (b4:=false) (b5:=true) HC HN (aA (by rw[HE.out,tX,HV.out,HDn.out];first | rfl | simp)) ⟨(rA w0 _ _).cell 0,(rA w0 _ _).cell 1,(rA w0 _ _).cell 2,(rA w0 _ _).cell 3,(rA w0 _ _).cell 4,(rA w0 _ _).cell 5,by simp,HU.out⟩ _ ⟨_,nD (F:=eOA w0.heap.size (k==3) false true) (by rfl)⟩) ?_;rintro e a' w' ⟨rfl,⟨J,rfl⟩,hU'⟩;have HU':=aA hU';clear hU';simp only[Exit.then];refine hK _ _ ?_;unfold hDA;go_wp2;go_ret;exact⟨rfl,HU'.out⟩
   · have HDn:RowKit.Hid (decide (6 < (nc:Int))=false):=aA (by simpa using hn);go_enter Tryz.func20,Tryz.ntmps20;go_wp2_with fail;refine HL.out.mono ?_;rintro e w1 ⟨rfl,rfl⟩;go_wp2_with fail;rename_i Q' K hK;refine wp_mono (kCA (de:=de) (b4:=false) (b5:=lg) HC HN (aA (by rw[HE.out,tX,HV.out,HDn.out];first | rfl | simp)) ⟨(rA w0 _ _).cell 0,(rA w0 _ _).cell 1,(rA w0 _ _).cell 2,(rA w0 _ _).cell 3,(rA w0 _ _).cell 4,(rA w0 _ _).cell 5,by simp,HU.out⟩ _ ⟨_,nD (F:=eOA w0.heap.size (k==3) false lg) (by rfl)⟩) ?_;rintro e a' w' ⟨rfl,⟨J,rfl⟩,hU'⟩;have HU':=aA hU';clear hU';simp only[Exit.then];refine hK _ _ ?_;unfold hDA;go_wp2;go_ret;exact⟨rfl,HU'.out⟩
end
end Go.Proofs.YtggjbblgoddnjaaGreatDoor
namespace Go.Proofs.YtggjbblgoddnjaaGreatDoor
open Go.Shelf Go.RowKit Go.Lx
def o8:Go.Shelf.Ren:=⟨fun | 167=>91 | 166=>93 | 169=>94 | 240=>117 | 276=>144 | n=>n,fun | 72=>150 | 70=>148 | 37=>115 | 75=>152 | 76=>155 | 127=>186 | 164=>224 | 5=>5 | 20=>20 | 3=>3 | 4=>4 | 9=>9 | 80=>157 | n=>n,fun n=>n⟩
theorem aQA : Go.Proofs.Lays.n167 Tryz.prog o8 := {
  mixed:=by kernel_rfl
  f167:=Tryz.func91.trans (congrArg some (by kernel_rfl))
  f240:=Tryz.func117.trans (congrArg some (by kernel_rfl))
  f276:=Tryz.func144.trans (congrArg some (by kernel_rfl))
  t0:=Tryz.underlying0
  a0:=Tryz.isAgg0
  z0:=Tryz.sizeOf0
  v0:=Tryz.zeroValue0
  t4:=Tryz.underlying4
  a4:=Tryz.isAgg4
  z4:=Tryz.sizeOf4
  v4:=Tryz.zeroValue4
  t5:=Tryz.underlying5
  a5:=Tryz.isAgg5
  z5:=Tryz.sizeOf5
  v5:=Tryz.zeroValue5
  t9:=Tryz.underlying9
  a9:=Tryz.isAgg9
  z9:=Tryz.sizeOf9
  v9:=Tryz.zeroValue9
  t20:=Tryz.underlying20
  a20:=Tryz.isAgg20
  z20:=Tryz.sizeOf20
  v20:=Tryz.zeroValue20
  t37:=Tryz.underlying115
  a37:=Tryz.isAgg115
  z37:=Tryz.sizeOf115
  v37:=Tryz.zeroValue115
  t70:=Tryz.underlying148
  a70:=Tryz.isAgg148
  z70:=Tryz.sizeOf148
  v70:=Tryz.zeroValue148
  t72:=Tryz.underlying150
  a72:=Tryz.isAgg150
  z72:=Tryz.sizeOf150
  v72:=Tryz.zeroValue150
  t75:=Tryz.underlying152
  a75:=Tryz.isAgg152
  z75:=Tryz.sizeOf152
  v75:=Tryz.zeroValue152
  t164:=Tryz.underlying224
  a164:=Tryz.isAgg224
  z164:=Tryz.sizeOf224
  v164:=Tryz.zeroValue224
  }
theorem wOA : Go.Proofs.Lays.n166 Tryz.prog o8 := {
  mixed:=by kernel_rfl
  f166:=Tryz.func93.trans (congrArg some (by kernel_rfl))
  f240:=Tryz.func117.trans (congrArg some (by kernel_rfl))
  f276:=Tryz.func144.trans (congrArg some (by kernel_rfl))
  t0:=Tryz.underlying0
  a0:=Tryz.isAgg0
  z0:=Tryz.sizeOf0
  v0:=Tryz.zeroValue0
  t3:=Tryz.underlying3
  a3:=Tryz.isAgg3
  z3:=Tryz.sizeOf3
  v3:=Tryz.zeroValue3
  t4:=Tryz.underlying4
  a4:=Tryz.isAgg4
  z4:=Tryz.sizeOf4
  v4:=Tryz.zeroValue4
  t9:=Tryz.underlying9
  a9:=Tryz.isAgg9
  z9:=Tryz.sizeOf9
  v9:=Tryz.zeroValue9
  t20:=Tryz.underlying20
  a20:=Tryz.isAgg20
  z20:=Tryz.sizeOf20
  v20:=Tryz.zeroValue20
  t37:=Tryz.underlying115
  a37:=Tryz.isAgg115
  z37:=Tryz.sizeOf115
  v37:=Tryz.zeroValue115
  t70:=Tryz.underlying148
  a70:=Tryz.isAgg148
  z70:=Tryz.sizeOf148
  v70:=Tryz.zeroValue148
  t72:=Tryz.underlying150
  a72:=Tryz.isAgg150
  z72:=Tryz.sizeOf150
  v72:=Tryz.zeroValue150
  t75:=Tryz.underlying152
  a75:=Tryz.isAgg152
  z75:=Tryz.sizeOf152
  v75:=Tryz.zeroValue152
  t164:=Tryz.underlying224
  a164:=Tryz.isAgg224
  z164:=Tryz.sizeOf224
  v164:=Tryz.zeroValue224
  }
theorem qOA : Go.Proofs.Lays.n169 Tryz.prog o8 := {
  mixed:=by kernel_rfl
  f169:=Tryz.func94.trans (congrArg some (by kernel_rfl))
  t0:=Tryz.underlying0
  a0:=Tryz.isAgg0
  z0:=Tryz.sizeOf0
  v0:=Tryz.zeroValue0
  t3:=Tryz.underlying3
  a3:=Tryz.isAgg3
  z3:=Tryz.sizeOf3
  v3:=Tryz.zeroValue3
  t9:=Tryz.underlying9
  a9:=Tryz.isAgg9
  z9:=Tryz.sizeOf9
  v9:=Tryz.zeroValue9
  t37:=Tryz.underlying115
  a37:=Tryz.isAgg115
  z37:=Tryz.sizeOf115
  v37:=Tryz.zeroValue115
  t70:=Tryz.underlying148
  a70:=Tryz.isAgg148
  z70:=Tryz.sizeOf148
  v70:=Tryz.zeroValue148
  t72:=Tryz.underlying150
  a72:=Tryz.isAgg150
  z72:=Tryz.sizeOf150
  v72:=Tryz.zeroValue150
  t127:=Tryz.underlying186
  a127:=Tryz.isAgg186
  z127:=Tryz.sizeOf186
  v127:=Tryz.zeroValue186
  }
theorem dCA : Builder.Extra Tryz.prog o8 := {
  sizeBuilder:=by kernel_rfl
  liesBuilder:=by kernel_rfl
  t5:=Tryz.underlying5
  a5:=Tryz.isAgg5
  z5:=Tryz.sizeOf5
  v5:=Tryz.zeroValue5
  infoByte:=by kernel_rfl
  cellsByte:=by kernel_rfl
  sizeByte:=by kernel_rfl
  neB5:=by decide }
theorem iIA(B b:Nat)(bs:List Value)(c:Int)(w:World)(h:Lib.IsBuilder 150 5 B b bs w)(hlen:bs.length+1≤140737488355328)(hBw:B≤w.heap.size) :
 Calls Tryz.prog 91 #[.pointer (some ⟨b,0,none⟩),.int .u8 c] w fun e w'=>e = .returned .nilIface∧(Lib.BuilderAt 150 5 B b (.pointer (some ⟨b,0,none⟩)) (bs++[.int .u8 c]) w'∧Below B w w'):=Any.Builder_WriteByte aQA dCA B b bs c w h hlen hBw
structure Bld (W:World) (b:Nat) (l:List UInt8) (w:World):Prop where
 is:Lib.IsBuilder 150 5 W.heap.size b (Lib.byteCells l) w
 under:Under W w
theorem sJ{W w w':World}(hU:Under W w)(h:Below W.heap.size w w'):Under W w' :=
 ⟨h.os.trans hU.os,h.output.trans hU.output,Nat.le_trans hU.size h.size,fun b hb=>(h.block b hb).trans (hU.low b hb)⟩
theorem Bld.new(W:World):Bld W W.heap.size [] (W.alloc (.cells #[.pointer none,.slice none 0 0] 150)) :=
 ⟨Lib.fresh_isBuilder _ _ W,bA (Under.refl W) _⟩
theorem vU{W w:World}{b:Nat}{l:List UInt8}(x:UInt8)(h:Bld W b l w)(hl:l.length≤10000000) :
 Calls Tryz.prog 91 #[.pointer (some ⟨b,0,none⟩),.int .u8 x.toNat] w fun e w'=>e = .returned .nilIface∧Bld W b (l++[x]) w':=by
 refine(iIA W.heap.size b (Lib.byteCells l) x.toNat w h.is (by simp[Lib.byteCells];omega) h.under.size).mono ?_;rintro e w' ⟨rfl,hb,hB⟩;exact⟨rfl,⟨.inr (by simpa [Lib.byteCells] using hb),sJ h.under hB⟩⟩
theorem lIA{W w:World}{b:Nat}{l:List UInt8}(s:ByteArray)(h:Bld W b l w)(hl:l.length≤1000000000)(hs:s.size≤10000000) :
 Calls Tryz.prog 93 #[.pointer (some ⟨b,0,none⟩),.string s] w fun e w'=>e = .returned (.tuple #[.int .i64 s.size,.nilIface])∧Bld W b (l++s.data.toList) w':=by
 refine(Any.Builder_WriteString wOA dCA W.heap.size b (Lib.byteCells l) s w h.is (by simp[Lib.byteCells];omega) h.under.size).mono ?_;rintro e w' ⟨rfl,hb,hB⟩;exact⟨rfl,⟨.inr (by have e:Lib.byteCells (l++s.data.toList)=Lib.byteCells l++Lib.strCells s:=(by simp[Lib.byteCells,Lib.strCells]);rw[e];exact hb),sJ h.under hB⟩⟩
theorem a6A{W w:World}{b:Nat}{l:List UInt8}(h:Bld W b l w) :
 Calls Tryz.prog 94 #[.pointer (some ⟨b,0,none⟩)] w fun e w'=>e = .returned (.string ⟨l.toArray⟩)∧Under W w':=by
 refine(Any.Builder_String_any qOA dCA W.heap.size b l w h.is h.under.size).mono ?_;rintro e w' ⟨rfl,hB⟩;exact⟨rfl,sJ h.under hB⟩
end Go.Proofs.YtggjbblgoddnjaaGreatDoor
namespace Go.Proofs.YtggjbblgoddnjaaGreatDoor
open Go.Lx Go.RowKit
def tF(n:Nat):UInt8:=UInt8.ofNat n
def yJ(n:Nat):List UInt8:=[tF n,tF (n / 256)]
theorem hAA(n:Nat):((tF n).toNat:Int)=((n % 256:Nat):Int):=by simp[tF]
theorem iWA{W w:World}{b:Nat}{l:List UInt8}(n:Nat)(hn:n≤1000000)(h:Bld W b l w)(hl:l.length≤9000000) :
 Calls Tryz.prog 92 #[.pointer (some ⟨b,0,none⟩),.int .i64 n] w fun e w'=>e = .returned (.tuple #[])∧Bld W b (l++yJ n) w':=by
 have e1:IntKind.u8.wrap (n:Int)=((tF n).toNat:Int):=by rw[hAA];simp[IntKind.wrap,IntKind.bits,IntKind.signed]
 have e2:IntKind.u8.wrap ((n:Int) / 256)=((tF (n / 256)).toNat:Int):=by rw[hAA];simp[IntKind.wrap,IntKind.bits,IntKind.signed]
 have H1:=aA (vU (tF n) h (by omega));have H2:=aA (fun w1 (h1:Bld W b (l++[tF n]) w1)=>vU (tF (n / 256)) h1 (by simp;omega));go_enter Tryz.func92,Tryz.ntmps92;go_wp2_with fail;refine H1.out.mono ?_;rintro e w1 ⟨rfl,h1⟩;have H2:=aA (H2.out w1 h1);clear h1;go_wp2_with fail;refine H2.out.mono ?_;rintro e w2 ⟨rfl,h2⟩;have H:=aA h2;clear h2;go_wp2
 go_end0
 exact⟨rfl,by simpa [yJ] using H.out⟩
def cK : List UInt8 → List ByteArray → Option (List UInt8)
  | acc,[]=>some acc
  | acc,s::r=>if 20000 < s.size then none else cK (acc++yJ s.size++s.data.toList) r
def gG(ss:List ByteArray):Option (List UInt8):=if 255 < ss.length then none else cK [tF ss.length] ss
def nLA : Option (List UInt8) → Ending
  | some l=>.returned (.tuple #[.string ⟨l.toArray⟩,.int .i64 0])
  | none=>.returned (.tuple #[.string ⟨#[]⟩,.int .i64 21])
theorem bY{ss:List ByteArray}{k:Nat}(hk:k < ss.length)(acc:List UInt8):cK acc (ss.drop k)=if 20000 < ss[k].size then none else cK (acc++yJ ss[k].size++ss[k].data.toList) (ss.drop (k+1)):=by
 rw[List.drop_eq_getElem_cons hk];rfl
theorem lQA{acc:List UInt8}{k:Nat}{s:ByteArray}(h:acc.length≤1+k * 20002)(hs:¬ 20000 < s.size):(acc++yJ s.size++s.data.toList).length≤1+(k+1) * 20002:=by
 have e:s.data.toList.length=s.size:=by rw[Array.length_toList];rfl
 rw[List.length_append,List.length_append,e];have:(yJ s.size).length=2:=rfl;omega
section
variable {w0 : World}
theorem yHA(ss:List ByteArray){p:Option Addr}{c:Nat}(hn:ss.length≤100000)(hp:RowArg w0 p (ss.map .string)) :
 Calls Tryz.prog 58 #[.slice p ss.length c] w0 fun e w=>e=nLA (gG ss)∧Under w0 w:=by
 have HP:=aA hp;have hO:gG ss=if 255 < ss.length then none else cK [tF ss.length] ss:=rfl
 clear hp;by_cases h255:255 < ss.length
 · rw [if_pos h255] at hO; have HO := aA hO; have h' : (255 : Int) < (ss.length : Int) := by omega
   clear hO h255;go_enter Tryz.func58,Tryz.ntmps58;go_wp2;go_ret2;exact⟨by rw[HO.out];rfl,Under.refl _⟩
 rw[if_neg h255]at hO;have HO:=aA hO;have h':¬(255:Int) < (ss.length:Int):=by omega
 have e1:IntKind.u8.wrap (ss.length:Int)=((tF ss.length).toNat:Int):=by rw[hAA];simp[IntKind.wrap,IntKind.bits,IntKind.signed]
 have H1:=aA (vU (tF ss.length) (Bld.new w0) (by simp));have h0:(0:Int)≤(ss.length:Int):=by omega
 clear hO;generalize hL:tF ss.length=L at *;clear hL;go_enter Tryz.func58,Tryz.ntmps58;go_wp2_with fail;refine H1.out.mono ?_;rintro e w1 ⟨rfl,hb⟩;have HB:=aA hb;clear hb H1;go_wp2;go_loopw [16] (fun i wr=>∃ k acc,k≤ss.length∧i = .int .i64 (k:Nat)∧acc.length≤1+k * 20002∧gG ss=cK acc (ss.drop k)∧Bld w0 w0.heap.size acc wr) (fun i _=>ss.length - (intOf i).toNat)
 case atStart=>exact⟨0,[L],Nat.zero_le _,rfl,by simp,by rw[HO.out];simp,by simpa using HB.out⟩
 case round =>
   obtain⟨k,acc,hk,rfl,hacc,hN,hB⟩:=hrel;have HN:=aA hN;have HBk:=aA hB;have HA:=aA hacc;clear hN hB hacc;by_cases hlt:k < ss.length
   · have hd := bY hlt acc; obtain ⟨b, off, rfl, hb, hcs⟩ := HP.out (fun e => by rw [List.map_eq_nil_iff] at e; rw [e] at hlt; simp at hlt); have cc := hcs k (.string ss[k]) (by simp [List.getElem?_eq_getElem hlt]); rw [← fA HBk.out.under hb] at cc; have hb' := Nat.lt_of_lt_of_le hb HBk.out.under.size; have HD := aA hd; clear hd hcs; generalize ss[k] = s at *; by_cases hs : 20000 < s.size
     · have hs' : (20000 : Int) < (s.size : Int) := by omega
       have HS:=aA hs;clear hs;go_wp2;go_ret2;exact⟨by rw[HN.out,HD.out,if_pos HS.out];rfl,HBk.out.under⟩
     · have hs' : ¬ (20000 : Int) < (s.size : Int) := by omega
       have HS:=aA hs;have H2:=aA (iWA s.size (by omega) HBk.out (by have:=HA.out;omega));have H3:=aA (fun w1 (h1:Bld w0 w0.heap.size (acc++yJ s.size) w1)=>lIA s h1 (by have:=HA.out;simp[yJ];omega) (by omega));clear hs;go_wp2_with fail;refine H2.out.mono ?_;rintro e w2 ⟨rfl,hb2⟩;have H3:=aA (H3.out w2 hb2);clear hb2;go_wp2_with fail;refine H3.out.mono ?_;rintro e w3 ⟨rfl,hb3⟩;have HB3:=aA hb3;clear hb3;go_wp2;go_roundw
       case rel=>exact⟨k+1,_,by omega,by go_num,lQA HA.out HS.out,by rw[HN.out,HD.out,if_neg HS.out],HB3.out⟩
       case measure=>simp[intOf];omega
   · obtain rfl : k = ss.length := by omega
     have H4:=aA (a6A HBk.out);go_wp2_with fail;refine H4.out.mono ?_;rintro e w4 ⟨rfl,hU4⟩;have HU4:=aA hU4;clear hU4;go_wp2;go_ret2;exact⟨by rw[HN.out,List.drop_length];rfl,HU4.out⟩
end
structure BldK (W:World) (b:Nat) (l:List UInt8) (w:World):Prop where
 is:Lib.IsBuilderF 150 5 W.heap.size b (Lib.byteCells l) w
 under:Under W w
def KeepsBox(b:Nat)(w w':World):Prop:=∀ x t cs,t≠5→x≠b→BoxAt w x t cs→BoxAt w' x t cs
theorem KeepsBox.of{b:Nat}{w w':World}(h:Lib.OthersKept 5 (some b) w w'):KeepsBox b w w' :=
 fun x t cs ht hx hb=>h x _ hb (by simpa using hx) (fun c fz e=>ht (by cases e;rfl))
theorem KeepsBox.trans{b:Nat}{w w1 w2:World}(h:KeepsBox b w w1)(k:KeepsBox b w1 w2):KeepsBox b w w2:=fun x t cs ht hx hb=>k x t cs ht hx (h x t cs ht hx hb)
section
variable {W w : World} {b : Nat} {l : List UInt8}
theorem BldK.of(h:Bld W b l w):BldK W b l w:=⟨Lib.IsBuilderF.of h.is,h.under⟩
theorem BldK.alloc(h:BldK W b l w)(o:Obj):BldK W b l (w.alloc o):=⟨h.is.alloc o,bA h.under o⟩
theorem BldK.lt(h:BldK W b l w):b < w.heap.size:=by
 rcases h.is with h | h
 · obtain⟨_,v,hb,_⟩:=h;exact(Array.getElem?_eq_some_iff.1 hb).1
 · obtain⟨_,v,hb,_⟩:=h;exact(Array.getElem?_eq_some_iff.1 hb).1
theorem jPA(x:UInt8)(h:BldK W b l w)(hl:l.length≤100000000) :
 Calls Tryz.prog 91 #[.pointer (some ⟨b,0,none⟩),.int .u8 x.toNat] w fun e w'=>e = .returned .nilIface∧BldK W b (l++[x]) w'∧KeepsBox b w w'∧w.heap.size≤w'.heap.size:=by
 refine(Any.Builder_WriteByte_k aQA dCA W.heap.size b (Lib.byteCells l) x.toNat w h.is (by simp[Lib.byteCells];omega) h.under.size).mono ?_;rintro e w' ⟨rfl,hb,hB,hK⟩;exact⟨rfl,⟨.inr (by have e:Lib.byteCells (l++[x])=Lib.byteCells l++[.int .u8 x.toNat]:=(by simp[Lib.byteCells]);rw[e];exact hb),sJ h.under hB⟩,.of hK,hB.size⟩
theorem jJA(s:ByteArray)(h:BldK W b l w)(hl:l.length≤1000000000)(hs:s.size≤10000000) :
 Calls Tryz.prog 93 #[.pointer (some ⟨b,0,none⟩),.string s] w fun e w'=>e = .returned (.tuple #[.int .i64 s.size,.nilIface])∧BldK W b (l++s.data.toList) w'∧KeepsBox b w w'∧w.heap.size≤w'.heap.size:=by
 refine(Any.Builder_WriteString_k wOA dCA W.heap.size b (Lib.byteCells l) s w h.is (by simp[Lib.byteCells];omega) h.under.size).mono ?_;rintro e w' ⟨rfl,hb,hB,hK⟩;exact⟨rfl,⟨.inr (by have e:Lib.byteCells (l++s.data.toList)=Lib.byteCells l++Lib.strCells s:=(by simp[Lib.byteCells,Lib.strCells]);rw[e];exact hb),sJ h.under hB⟩,.of hK,hB.size⟩
theorem f4A(h:BldK W b l w)(h0:l≠[]) :
 Calls Tryz.prog 94 #[.pointer (some ⟨b,0,none⟩)] w fun e w'=>e = .returned (.string ⟨l.toArray⟩)∧Under W w':=by
 refine(Any.Builder_String_k qOA dCA W.heap.size b l w h.is h0).mono ?_;rintro e w' ⟨rfl,_,hB,_⟩;exact⟨rfl,sJ h.under hB⟩
end
def zW(k:Nat):Nat:=(if fN k then 1 else 0)+(if fM k then 2 else 0)+(if fS k then 4 else 0)
structure FieldsAt (g:Nat) (w:World):Prop where
 lt:g < w.heap.size
 cell:∀ k,k < 30→w.cell? ⟨g,k,none⟩=some (.int .u8 (zW k:Nat))
theorem FieldsAt.under{g:Nat}{W w:World}(h:FieldsAt g W)(hU:Under W w):FieldsAt g w :=
 ⟨Nat.lt_of_lt_of_le h.lt hU.size,fun k hk=>(fA hU h.lt _).trans (h.cell k hk)⟩
def iE(n:Int):UInt8:=UInt8.ofNat (n % 256).toNat
def qE(x:Nd):List UInt8:=[iE x.k]++(if fN x.k.toNat then [iE x.n] else [])++(if fM x.k.toNat then [iE x.m] else [])++(if fS x.k.toNat then tF x.s.size::x.s.data.toList else [])
def kN(t:List Nd):List UInt8:=yJ t.length++(t.map qE).flatten
theorem gIA(n:Int):((iE n).toNat:Int)=IntKind.u8.wrap n:=by
 have h:0≤n % 256∧n % 256 < 256:=⟨Int.emod_nonneg _ (by decide),Int.emod_lt_of_pos _ (by decide)⟩;simp[iE,IntKind.wrap,IntKind.bits,IntKind.signed];omega
def wU(t:List Nd):Ending:=if gB t=0 then .returned (.tuple #[.string ⟨(kN t).toArray⟩,.int .i64 0]) else .returned (.tuple #[.string ⟨#[]⟩,.int .i64 (gB t)])
theorem f7A(s:ByteArray):((tF s.size).toNat:Int)=IntKind.u8.wrap (s.size:Int):=by
 rw[hAA];simp[IntKind.wrap,IntKind.bits,IntKind.signed]
theorem aYA{x:Nd}(h:x.s.size≤16∨fS x.k.toNat=false):(qE x).length≤20:=by
 unfold qE;have e:x.s.data.toList.length=x.s.size:=by rw[Array.length_toList];rfl
 rcases h with h | h
 · split<;>split<;>split<;>simp[e]<;>omega
 · rw[h];split<;>split<;>simp
theorem d1A{s:ByteArray}(h:uD s=true):s.size≤16:=by
 unfold uD at h;simp at h;exact h.2.2
theorem vS{x:Nd}(h:zA x=true):x.s.size≤16∨fS x.k.toNat=false:=by
 unfold zA at h
 split at h
 · cases h
 · split at h
   · cases h
   · split at h
     · cases h
     · split at h
       · cases h
       · split at h
         · cases h
         · rename_i hh
           cases hf:fS x.k.toNat
           · exact .inr rfl
           · left
             cases hb:uD x.s
             · exact absurd ⟨hf,hb⟩ hh
             · exact d1A hb
theorem tQ(k:Nat)(hk:k < 30):(fN k=false∧fM k=false∧fS k=false∧zW k=0)∨(fN k=true∧fM k=false∧fS k=false∧zW k=1)∨(fN k=false∧fM k=false∧fS k=true∧zW k=4) ∨
    (fN k=true∧fM k=true∧fS k=true∧zW k=7)∨(fN k=false∧fM k=true∧fS k=true∧zW k=6):=by
  revert hk;revert k;decide
structure AtNode (W:World) (b:Nat) (l:List UInt8) (xb:Nat) (x:Nd) (w:World):Prop where
 bld:BldK W b l w
 box:BoxAt w xb 112 #[.int .i64 x.k,.int .i64 x.n,.int .i64 x.m,.string x.s]
 ne:xb≠b
section
variable {W w : World} {b xb : Nat} {l : List UInt8} {x : Nd}
theorem AtNode.cells(h:AtNode W b l xb x w):w.cell? ⟨xb,0,none⟩=some (.int .i64 x.k)∧w.cell? ⟨xb,1,none⟩=some (.int .i64 x.n)∧w.cell? ⟨xb,2,none⟩=some (.int .i64 x.m)∧w.cell? ⟨xb,3,none⟩=some (.string x.s) :=
 ⟨h.box.cell 0,h.box.cell 1,h.box.cell 2,h.box.cell 3⟩
theorem AtNode.byte(y:UInt8)(h:AtNode W b l xb x w)(hl:l.length≤100000000) :
 Calls Tryz.prog 91 #[.pointer (some ⟨b,0,none⟩),.int .u8 y.toNat] w fun e w'=>e = .returned .nilIface∧AtNode W b (l++[y]) xb x w':=by
 refine(jPA y h.bld hl).mono ?_;rintro e w' ⟨rfl,hb,hk,_⟩;exact⟨rfl,hb,hk _ _ _ (by decide) h.ne h.box,h.ne⟩
theorem AtNode.text(s:ByteArray)(h:AtNode W b l xb x w)(hl:l.length≤100000000)(hs:s.size≤10000000) :
 Calls Tryz.prog 93 #[.pointer (some ⟨b,0,none⟩),.string s] w fun e w'=>e = .returned (.tuple #[.int .i64 s.size,.nilIface])∧AtNode W b (l++s.data.toList) xb x w':=by
 refine(jJA s h.bld (by omega) hs).mono ?_;rintro e w' ⟨rfl,hb,hk,_⟩;exact⟨rfl,hb,hk _ _ _ (by decide) h.ne h.box,h.ne⟩
end
theorem rM{acc:List UInt8}{k:Nat}{x:Nd}(h:acc.length≤2+k * 20)(hx:zA x=true):(acc++qE x).length≤2+(k+1) * 20:=by
 rw[List.length_append];have:=aYA (vS hx);omega
section
variable {w0 : World}
theorem xTA(t:List Nd){p:Option Addr}{c:Nat}(hn:t.length≤1000000)(hs:∀ x∈t,x.s.size≤maxLen)(hp:RowArg w0 p (wB t))(hS:ShapesAt 3 w0)(hF:FieldsAt 0 w0) :
 Calls Tryz.prog 95 #[.slice p t.length c] w0 fun e w=>e=wU t∧Under w0 w:=by
 have HC:=aA (qO (w0:=w0) (c:=c) t (by unfold maxLen;omega) hs hp hS);have HP:=aA hp;have HF:=aA hF;have HS:=aA hs;have hO:wU t=if gB t=0 then .returned (.tuple #[.string ⟨(kN t).toArray⟩,.int .i64 0]) else .returned (.tuple #[.string ⟨#[]⟩,.int .i64 (gB t)]):=rfl
 have HO:=aA hO;clear hp hS hF hO hs;by_cases hc:gB t=0
 · have HO : RowKit.Hid (wU t = .returned (.tuple #[.string ⟨(kN t).toArray⟩, .int .i64 0])) := aA (by rw [HO.out, if_pos hc]); have HR := aA (uK hc); have HT := aA (sW hc).2; rw [hc] at HC; clear hc; go_enter Tryz.func95, Tryz.ntmps95; go_wp2_with fail; refine HC.out.mono ?_; rintro e w1 ⟨rfl, hU1⟩; have HU1 := aA hU1; clear hU1; have h0 : (0 : Int) ≤ (t.length : Int) := by omega
   go_wp2_with fail;refine(iWA t.length hn (Bld.new w1) (by simp)).mono ?_;rintro e w2 ⟨rfl,h2⟩;have HB0:=aA (BldK.of h2);clear h2;go_wp2;go_loopw [18] (fun i wr=>∃ k acc,k≤t.length∧i = .int .i64 (k:Nat)∧acc.length≤2+k * 20∧kN t=acc++((t.drop k).map qE).flatten∧BldK w1 w1.heap.size acc wr) (fun i _=>t.length - (intOf i).toNat)
   case atStart=>exact⟨0,yJ t.length,Nat.zero_le _,rfl,by simp[yJ],by simp[kN],by simpa using HB0.out⟩
   case round =>
     obtain⟨k,acc,hk,rfl,hacc,hN,hB⟩:=hrel;have HN:=aA hN;have HBk:=aA hB;clear hN hB;by_cases hlt:k < t.length
     · have HA : RowKit.Hid (acc.length ≤ 100000) := aA (by have := HT.out; omega); have HX : RowKit.Hid (t[k].s.size ≤ maxLen) := aA (HS.out _ (List.getElem_mem hlt)); have HRx : RowKit.Hid (zA t[k] = true) := aA (HR.out _ (List.getElem_mem hlt)); have HJ : RowKit.Hid (∀ l, l = acc ++ qE t[k] → acc ++ ((t.drop k).map qE).flatten = l ++ ((t.drop (k + 1)).map qE).flatten) := aA (by
         rintro l rfl;rw[List.drop_eq_getElem_cons hlt,List.map_cons,List.flatten_cons,List.append_assoc])
       obtain⟨bb,off,rfl,hb,cc0,cc1,cc2,cc3⟩:=RowArg.node HP.out (List.getElem?_eq_getElem hlt);have hUr:=HU1.out.trans HBk.out.under;rw[← fA hUr hb]at cc0 cc1 cc2 cc3;have hb':=Nat.lt_of_lt_of_le hb hUr.size;have HKx:=pV HRx.out;have HK:RowKit.Hid (t[k].k.toNat < 30):=aA (by omega);have hk0:=HKx.1;have hk1:t[k].k < 256:=by omega
       have HG:RowKit.Hid (0 < wr.heap.size):=aA (Nat.lt_of_lt_of_le HF.out.lt hUr.size);have ek:IntKind.u8.wrap t[k].k=((iE t[k].k).toNat:Int):=(gIA _).symm;have en:IntKind.u8.wrap t[k].n=((iE t[k].n).toNat:Int):=(gIA _).symm;have em:IntKind.u8.wrap t[k].m=((iE t[k].m).toNat:Int):=(gIA _).symm;have es:IntKind.u8.wrap (t[k].s.size:Int)=((tF t[k].s.size).toNat:Int):=(f7A _).symm;have H1:RowKit.Hid (AtNode w1 w1.heap.size acc wr.heap.size t[k] (wr.alloc (.cells #[.int .i64 t[k].k,.int .i64 t[k].n,.int .i64 t[k].m,.string t[k].s] 112))) :=
        aA ⟨HBk.out.alloc _,rA _ _ _,Nat.ne_of_gt HBk.out.lt⟩
       have hlow:∀ z:Int,RowKit.Hid (iE z=iE z):=fun _=>aA rfl
       clear HKx hlow hUr;have HA':=aA hacc;generalize t[k]=x at *;rcases tQ x.k.toNat HK.out with hV | hV | hV | hV | hV
       all_goals
        have hff:=hV.2.2.2;have HV:=aA hV;clear hV
       · skip
         go_wp2_with fail;refine(H1.out.byte (iE x.k) (by have:=HA.out;simp;omega)).mono ?_;rintro e w2 ⟨rfl,h2⟩;obtain⟨c0,c1,c2,c3⟩:=h2.cells;have cf:=((HF.out.under HU1.out).under h2.bld.under).cell x.k.toNat HK.out;rw[hff]at cf;have H2:=aA h2;clear h2;go_wp2;go_roundw
         case rel=>exact⟨k+1,_,by omega,by go_num,rM HA'.out HRx.out,by rw[HN.out];exact HJ.out _ rfl,(by have hb:=H2.out.bld;simpa [qE,HV.out.1,HV.out.2.1,HV.out.2.2.1] using hb)⟩
         case measure=>simp[intOf];omega
       · skip
         go_wp2_with fail;refine(H1.out.byte (iE x.k) (by have:=HA.out;simp;omega)).mono ?_;rintro e w2 ⟨rfl,h2⟩;obtain⟨c0,c1,c2,c3⟩:=h2.cells;have cf:=((HF.out.under HU1.out).under h2.bld.under).cell x.k.toNat HK.out;rw[hff]at cf;have H2:=aA h2;clear h2;go_wp2_with fail;refine(H2.out.byte (iE x.n) (by have:=HA.out;simp;omega)).mono ?_;rintro e w2 ⟨rfl,h2⟩;obtain⟨c0,c1,c2,c3⟩:=h2.cells;have cf:=((HF.out.under HU1.out).under h2.bld.under).cell x.k.toNat HK.out;rw[hff]at cf;have H3:=aA h2;clear h2;go_wp2;go_roundw
         case rel=>exact⟨k+1,_,by omega,by go_num,rM HA'.out HRx.out,by rw[HN.out];exact HJ.out _ rfl,(by have hb:=H3.out.bld;simpa [qE,HV.out.1,HV.out.2.1,HV.out.2.2.1] using hb)⟩
         case measure=>simp[intOf];omega
       · skip
         go_wp2_with fail;refine(H1.out.byte (iE x.k) (by have:=HA.out;simp;omega)).mono ?_;rintro e w2 ⟨rfl,h2⟩;obtain⟨c0,c1,c2,c3⟩:=h2.cells;have cf:=((HF.out.under HU1.out).under h2.bld.under).cell x.k.toNat HK.out;rw[hff]at cf;have H2:=aA h2;clear h2;go_wp2_with fail;refine(H2.out.byte (tF x.s.size) (by have:=HA.out;simp;omega)).mono ?_;rintro e w2 ⟨rfl,h2⟩;obtain⟨c0,c1,c2,c3⟩:=h2.cells;have cf:=((HF.out.under HU1.out).under h2.bld.under).cell x.k.toNat HK.out;rw[hff]at cf;have H3:=aA h2;clear h2;go_wp2_with fail;refine(H3.out.text x.s (by have:=HA.out;simp;omega) (by have:=(vS HRx.out).resolve_right (by rw[HV.out.2.2.1];decide);omega)).mono ?_;rintro e w2 ⟨rfl,h2⟩;have H4:=aA h2;clear h2;go_wp2;go_roundw
         case rel=>exact⟨k+1,_,by omega,by go_num,rM HA'.out HRx.out,by rw[HN.out];exact HJ.out _ rfl,(by have hb:=H4.out.bld;simpa [qE,HV.out.1,HV.out.2.1,HV.out.2.2.1] using hb)⟩
         case measure=>simp[intOf];omega
       · skip
         go_wp2_with fail;refine(H1.out.byte (iE x.k) (by have:=HA.out;simp;omega)).mono ?_;rintro e w2 ⟨rfl,h2⟩;obtain⟨c0,c1,c2,c3⟩:=h2.cells;have cf:=((HF.out.under HU1.out).under h2.bld.under).cell x.k.toNat HK.out;rw[hff]at cf;have H2:=aA h2;clear h2;go_wp2_with fail;refine(H2.out.byte (iE x.n) (by have:=HA.out;simp;omega)).mono ?_;rintro e w2 ⟨rfl,h2⟩;obtain⟨c0,c1,c2,c3⟩:=h2.cells;have cf:=((HF.out.under HU1.out).under h2.bld.under).cell x.k.toNat HK.out;rw[hff]at cf;have H3:=aA h2;clear h2;go_wp2_with fail;refine(H3.out.byte (iE x.m) (by have:=HA.out;simp;omega)).mono ?_;rintro e w2 ⟨rfl,h2⟩;obtain⟨c0,c1,c2,c3⟩:=h2.cells;have cf:=((HF.out.under HU1.out).under h2.bld.under).cell x.k.toNat HK.out;rw[hff]at cf;have H4:=aA h2;clear h2;go_wp2_with fail;refine(H4.out.byte (tF x.s.size) (by have:=HA.out;simp;omega)).mono ?_;rintro e w2 ⟨rfl,h2⟩;obtain⟨c0,c1,c2,c3⟩:=h2.cells;have cf:=((HF.out.under HU1.out).under h2.bld.under).cell x.k.toNat HK.out;rw[hff]at cf;have H5:=aA h2;clear h2;go_wp2_with fail;refine(H5.out.text x.s (by have:=HA.out;simp;omega) (by have:=(vS HRx.out).resolve_right (by rw[HV.out.2.2.1];decide);omega)).mono ?_;rintro e w2 ⟨rfl,h2⟩;have H6:=aA h2;clear h2;go_wp2;go_roundw
         case rel=>exact⟨k+1,_,by omega,by go_num,rM HA'.out HRx.out,by rw[HN.out];exact HJ.out _ rfl,(by have hb:=H6.out.bld;simpa [qE,HV.out.1,HV.out.2.1,HV.out.2.2.1] using hb)⟩
         case measure=>simp[intOf];omega
       · skip
         go_wp2_with fail;refine(H1.out.byte (iE x.k) (by have:=HA.out;simp;omega)).mono ?_;rintro e w2 ⟨rfl,h2⟩;obtain⟨c0,c1,c2,c3⟩:=h2.cells;have cf:=((HF.out.under HU1.out).under h2.bld.under).cell x.k.toNat HK.out;rw[hff]at cf;have H2:=aA h2;clear h2;go_wp2_with fail;refine(H2.out.byte (iE x.m) (by have:=HA.out;simp;omega)).mono ?_;rintro e w2 ⟨rfl,h2⟩;obtain⟨c0,c1,c2,c3⟩:=h2.cells;have cf:=((HF.out.under HU1.out).under h2.bld.under).cell x.k.toNat HK.out;rw[hff]at cf;have H3:=aA h2;clear h2;go_wp2_with fail;refine(H3.out.byte (tF x.s.size) (by have:=HA.out;simp;omega)).mono ?_;rintro e w2 ⟨rfl,h2⟩;obtain⟨c0,c1,c2,c3⟩:=h2.cells;have cf:=((HF.out.under HU1.out).under h2.bld.under).cell x.k.toNat HK.out;rw[hff]at cf;have H4:=aA h2;clear h2;go_wp2_with fail;refine(H4.out.text x.s (by have:=HA.out;simp;omega) (by have:=(vS HRx.out).resolve_right (by rw[HV.out.2.2.1];decide);omega)).mono ?_;rintro e w2 ⟨rfl,h2⟩;have H5:=aA h2;clear h2;go_wp2;go_roundw
         case rel=>exact⟨k+1,_,by omega,by go_num,rM HA'.out HRx.out,by rw[HN.out];exact HJ.out _ rfl,(by have hb:=H5.out.bld;simpa [qE,HV.out.1,HV.out.2.1,HV.out.2.2.1] using hb)⟩
         case measure=>simp[intOf];omega
     · obtain rfl : k = t.length := by omega
       have H4 := aA (f4A HBk.out (by
         have e:=HN.out;rw[List.drop_length]at e;intro h;rw[h]at e;simp[kN,yJ]at e))
       go_wp2_with fail;refine H4.out.mono ?_;rintro e w4 ⟨rfl,hU4⟩;have HU4:=aA (hU4);clear hU4;go_wp2;go_ret2;exact⟨by rw[HO.out,HN.out,List.drop_length];simp,HU1.out.trans HU4.out⟩
 · have HCc := aA hc; generalize gB t = ce at *; have hce : (ce == 0) = false := by simpa using HCc.out
   clear hc;go_enter Tryz.func95,Tryz.ntmps95;go_wp2_with fail;refine HC.out.mono ?_;rintro e w1 ⟨rfl,hU1⟩;have HU1:=aA hU1;clear hU1;go_wp2;go_ret2;exact⟨by rw[HO.out,if_neg HCc.out];rfl,HU1.out⟩
end
def iC(t:List Nd):ByteArray:=if gB t=0 then⟨(kN t).toArray⟩ else⟨#[]⟩
theorem rJA(t:List Nd):wU t = .returned (.tuple #[.string (iC t),.int .i64 (gB t)]):=by
 unfold wU iC
 split
 · rename_i h;rw[h]
 · rfl
def StrsV(w:World)(v:Value)(ss:List ByteArray):Prop:=∃ p c,v = .slice p ss.length c∧ss.length≤c∧(p=none→c=0)∧RowArg w p (ss.map .string)
theorem StrsV.under{w w':World}{v:Value}{ss:List ByteArray}(h:StrsV w v ss)(hU:Under w w'):StrsV w' v ss:=by
 obtain⟨p,c,rfl,h1,h2,h3⟩:=h;exact⟨p,c,rfl,h1,h2,h3.under hU⟩
theorem StrsV.of_own{w:World}{base:Nat}{e:TypeId}{v:Value}{ss:List ByteArray}(h:w.ownsRow base e 1 v ss.length (ss.map .string)):StrsV w v ss:=by
 have hc:∀ q n c,v = .slice q n c→q=none→c=0:=by
  intro q n c e hq;subst hq;rcases h.2 with⟨rfl,_⟩ | ⟨g,cap,cur,e',_⟩
  · cases e;rfl
  · rw[e']at e;cases e
 obtain⟨q,c,rfl,h1,h2⟩:=RowArg.of_own h;exact⟨q,c,rfl,h1,hc q _ c rfl,h2⟩
theorem Tryz.infoStr:(Tryz.prog.info? 9).map (fun i=>(i.zero,i.size,i.bytes))=some (some (.string ⟨#[]⟩),1,16):=by kernel_rfl
def Fair(ts:List (List Nd)):Prop:=∀ t∈ts,t.length≤1000000∧∀ x∈t,x.s.size≤maxLen
def hBB(w0:World)(ts:List (List Nd))(v i:Value)(w:World):Prop:=∃ k:Nat,k≤ts.length∧i = .int .i64 (k:Int)∧w.ownsRow w0.heap.size 9 1 v ((ts.take k).map iC).length (((ts.take k).map iC).map .string)∧Under w0 w
section
variable {w0 : World}
theorem t0A(ts:List (List Nd)){v:Value}(hl:ts.length≤100000)(hv:TermsV w0 v ts)(ht:Fair ts)(hS:ShapesAt 3 w0)(hF:FieldsAt 0 w0) :
 Calls Tryz.prog 59 #[v] w0 fun e w=>∃ u,e = .returned u∧StrsV w u (ts.map iC)∧Under w0 w:=by
 obtain⟨p,c,vs,rfl,hc,h0,hr,hz⟩:=hv;obtain⟨i0,hi,hz0,hz1,hz2⟩:=info_parts Tryz.infoStr;have HR:=aA hr;have HZ:=aA hz;have HT:=aA ht;have HS:=aA hS;have HF:=aA hF;clear hr hz ht hS hF hc h0;have hl0:(0:Int)≤(ts.length:Int):=by omega
 go_enter Tryz.func59,Tryz.ntmps59;go_wp2;go_loopw [3,10] (fun v i wr=>hBB w0 ts v i wr) (fun _ i _=>ts.length - (intOf i).toNat)
 case atStart=>exact⟨0,Nat.zero_le _,rfl,⟨rfl,.inl ⟨rfl,rfl⟩⟩,Under.refl _⟩
 case round =>
   obtain⟨k,hk,rfl,hown,hU⟩:=hrel;by_cases hlt:k < ts.length
   · obtain ⟨u, hu, q, c', rfl, hc', h0', hr'⟩ := HZ.out.at (List.getElem?_eq_getElem hlt); obtain ⟨b, off, rfl, hb, hcs⟩ := HR.out (fun e => by rw [e] at hu; simp at hu); have cc := hcs k _ hu; rw [← fA hU hb] at cc; have hb' := Nat.lt_of_lt_of_le hb hU.size; have hlen : ((ts.take k).map iC).length = k := by simp; omega
     have htk:((ts.take (k+1)).map iC)=((ts.take k).map iC)++[iC ts[k]]:=by rw[List.take_succ_eq_append_getElem hlt,List.map_append];rfl
     have HTK:=aA htk;have HL:=aA hlen;have HO:=aA hown;have HU:=aA hU;have HE:=aA (xTA (w0:=wr) (c:=c') ts[k] (HT.out _ (List.getElem_mem hlt)).1 (HT.out _ (List.getElem_mem hlt)).2 (hr'.under hU) (HS.out.under hU) (HF.out.under hU));rw[rJA]at HE;have hmx:((ts.take k).map iC).length+1≤maxLen:=by rw[hlen];simp only[maxLen];omega
     have hby:(((ts.take k).map iC).length+1) * 16≤140737488355328:=by rw[hlen];omega
     clear hcs hu hr' h0' hc' hlen htk hown hU;generalize gB ts[k]=ce at *;generalize iC ts[k]=cd at *;generalize ts[k].length=m at *;generalize (ts.take k).map iC=done at *;go_wp2_with fail;refine HE.out.mono ?_;rintro e w1 ⟨rfl,hU1⟩;have HU1:=aA hU1;clear hU1;go_wp2_with (at_builtin;refine wpList_append_own_at _ rfl _ _ 50 rfl w0.heap.size 9 i0 _ 1 16 Tryz.underlying50 hi hz0 hz1 hz2 rfl (by decide) _ _ _ rfl ((uA HO.out HU1.out).alloc _) ⟨w1.heap.size,0,none⟩ 1 1 [.string cd] rfl rfl ?c1 ?c2 hmx hby ?c5 ?_)
     case c1 =>
       intro j u hj
       match j,hj with
       | 0,hj=>cases hj;simp[Addr.add]
     case c2=>intro u hu;simp at hu;rcases hu with rfl;rfl
     case c5=>have:=HU.out.size;have:=HU1.out.size;simp;omega
     intro v' w' hown hgrow hnil hat;have HW:=aA hown;have HU2:=aA (xA (bA (HU.out.trans HU1.out) _) hgrow fun g e=>(jB HO.out e).1);clear hown hgrow hnil hat;go_wp2;go_roundw
     case rel=>exact⟨k+1,by omega,by go_num,by rw[HTK.out,List.map_append,List.length_append];exact HW.out,HU2.out⟩
     case measure=>simp[intOf];omega
   · obtain rfl : k = ts.length := by omega
     have hS':StrsV wr u3 (ts.map iC):=by
      rw[List.take_length]at hown;exact .of_own hown
     obtain⟨q,c2,rfl,hc2,hn2,hr2⟩:=hS';have HX:=aA (show StrsV wr (.slice q (ts.map iC).length c2) (ts.map iC) from⟨q,c2,rfl,hc2,hn2,hr2⟩);have HU:=aA hU;clear hown hU hc2 hn2 hr2;generalize (ts.map iC).length=m at *;go_wp2;go_ret;exact⟨_,rfl,HX.out,HU.out⟩
end
def dQ : Option (List UInt8) → ByteArray
  | some l=>⟨l.toArray⟩
  | none=>⟨#[]⟩
def zN : Option (List UInt8) → Int
  | some _=>0
  | none=>21
theorem dM(o:Option (List UInt8)):nLA o = .returned (.tuple #[.string (dQ o),.int .i64 (zN o)]):=by cases o<;>rfl
def oH(d:Dc):List ByteArray:=[Utf8.encode (IntKind.i32.wrap d.kind),Utf8.encode (IntKind.i32.wrap d.level),d.name]
def lL : List ByteArray → List (List (List Nd)) → Option (List ByteArray)
  | acc,[]=>some acc
  | acc,c::r=>if zN (gG (c.map iC))=0 then lL (acc++[dQ (gG (c.map iC))]) r else none
theorem jDA{cs:List (List (List Nd))}{k:Nat}(hk:k < cs.length)(acc:List ByteArray):lL acc (cs.drop k)=if zN (gG (cs[k].map iC))=0 then lL (acc++[dQ (gG (cs[k].map iC))]) (cs.drop (k+1)) else none:=by
 rw[List.drop_eq_getElem_cons hk];rfl
def xL(d:Dc):Option (List UInt8):=if d.kind=3 then(lL (oH d) d.cons).bind gG else gG (oH d++(aB d).map iC)
def xD(d:Dc):ByteArray:=if kJ d=0 then dQ (xL d) else⟨#[]⟩
def kF(d:Dc):Int:=if kJ d=0 then zN (xL d) else kJ d
def yM(d:Dc):Ending:=.returned (.tuple #[.string (xD d),.int .i64 (kF d)])
theorem tCA{d:Dc}(h:kJ d≠0):yM d = .returned (.tuple #[.string ⟨#[]⟩,.int .i64 (kJ d)]):=by
 unfold yM xD kF;rw[if_neg h,if_neg h]
theorem bHA{d:Dc}(h:kJ d=0):yM d = .returned (.tuple #[.string (dQ (xL d)),.int .i64 (zN (xL d))]):=by
 unfold yM xD kF;rw[if_pos h,if_pos h]
theorem iDA(o:Option (List UInt8)):zN o=0∨zN o=21:=by cases o;exact .inr rfl;exact .inl rfl
theorem bCA(w:World)(base:Nat)(e:TypeId)(a b c:Value)(hb:base≤w.heap.size):(w.alloc (.cells #[a,b,c] e)).ownsRow base e 1 (.slice (some ⟨w.heap.size,0,none⟩) 3 3) 3 [a,b,c] :=
 ⟨rfl,.inr ⟨_,3,#[a,b,c],rfl,hb,rA w _ _,Nat.le_refl _,by unfold maxLen;omega,rfl,rfl⟩⟩
def fBB(w0:World)(d:Dc)(nc:Nat)(v i:Value)(wr:World):Prop:=∃(k:Nat) (acc:List ByteArray),k≤nc∧i = .int .i64 (k:Int)∧acc.length=3+k∧lL (oH d) d.cons=lL acc (d.cons.drop k)∧wr.ownsRow w0.heap.size 9 1 v acc.length (acc.map .string)∧Under w0 wr
theorem fI : ∀ {l : List Int}, vD l = 0 → ∀ x ∈ l, x = 0
  | [],_,x,hx=>(List.not_mem_nil hx).elim
  | r :: l, h, x, hx => by
    unfold vD at h
    split at h
    · exact absurd h ‹_›
    · rcases List.mem_cons.1 hx with rfl | hx
      · omega
      · exact fI h x hx
theorem pHA{d:Dc}(h:kJ d=0):d.cons.length≤6∧∀ c∈d.cons,c.length≤6:=by
 have h1:=fI h (nC (!(decide (6 < (d.cons.length:Int))||aK d.cons)) 21) (by simp);unfold nC at h1
 split at h1
 · rename_i hb; simp only [Bool.not_eq_true', Bool.or_eq_false_iff, decide_eq_false_iff_not] at hb; refine ⟨by omega, fun c hc => ?_⟩; have := List.any_eq_false.1 hb.2 c hc
   simpa using this
 · cases h1
section
variable {w0 : World} {d : Dc} {v : Value}
theorem eQ(hd:Small d)(hT:∀ t∈aB d,t.length≤1000000)(hv:DcV w0 v d)(hS:ShapesAt 3 w0)(hF:FieldsAt 0 w0) :
 Calls Tryz.prog 29 #[v] w0 fun e w=>e=yM d∧Under w0 w:=by
 have HV:=aA hv;have HCk:=aA (fun w (h:Under w0 w)=>cSA (w0:=w) hd (DcV.mono _ _ _ _ h hv) (hS.under h));have HTm:=aA (fun w (h:Under w0 w)=>jKA (w0:=w) hd (DcV.mono _ _ _ _ h hv));have HCd:=aA (fun w (h:Under w0 w) ts v hl hv ht=>t0A (w0:=w) ts (v:=v) hl hv ht (hS.under h) (hF.under h));have HD:=aA hd;have HT9:=aA hT;obtain⟨vt,vb,vc,rfl,⟨pt,ct,rfl,g1⟩,⟨pb,cb,rfl,g2⟩,⟨pc,cc,us,rfl,hcc,hpc,hrow,hzip⟩⟩:=hv;have HU:=aA (bA (Under.refl w0) (.cells #[.int .i64 d.kind,.int .i64 d.level,.string d.name,.slice pt d.type.length ct,.slice pb d.body.length cb,.slice pc d.cons.length cc] 33));have HX:=aA (rA w0 #[.int .i64 d.kind,.int .i64 d.level,.string d.name,.slice pt d.type.length ct,.slice pb d.body.length cb,.slice pc d.cons.length cc] 33);have HR:=aA hrow;have HZ:=aA hzip;clear g1 g2 hrow hzip hcc hpc hd hS hF hT;by_cases hc:kJ d=0
 · have HO := aA (bHA hc); have hfew := pHA hc; have HC9 := aA (show d.cons.length ≤ 90000 by have := hfew.1; omega); have HFw := aA hfew.2; rw [hc] at HCk; clear hc hfew; have hk : IntKind.i32.wrap d.kind = IntKind.i32.wrap d.kind := rfl; have HH : RowKit.Hid (oH d = [Utf8.encode (IntKind.i32.wrap d.kind), Utf8.encode (IntKind.i32.wrap d.level), d.name]) := aA rfl; clear hk; obtain ⟨i0, hi, hz0, hz1, hz2⟩ := info_parts Tryz.infoStr; generalize h32k : IntKind.i32.wrap d.kind = k32 at *; generalize h32l : IntKind.i32.wrap d.level = l32 at *; by_cases hk3 : d.kind = 3
   · have HE : RowKit.Hid (xL d = (lL (oH d) d.cons).bind gG) := aA (by unfold xL; rw [if_pos hk3]); have hk3' : (d.kind != 3) = false := by simpa using hk3
     have HFr : RowKit.Hid (d.cons.length ≤ 90000 ∧ ∀ c ∈ d.cons, c.length ≤ 100000 ∧ Fair c) := aA ⟨HC9.out, fun c hc => ⟨by
         have h1:=HFw.out c hc;omega,fun t ht=>by
         have htt:t∈aB d:=by unfold aB;rw[hk3];simp;exact⟨c,hc,ht⟩
         exact⟨HT9.out t htt,fun x hx=>(HD.out.terms t htt).2 x hx⟩⟩⟩
     have hn0:(0:Int)≤(d.cons.length:Int):=by omega
     clear hk3;generalize d.type.length=nt at *;generalize d.body.length=nb at *;generalize d.kind=k at *;generalize d.level=l at *;go_enter Tryz.func29,Tryz.ntmps29;go_wp2_with fail;refine(HCk.out _ HU.out).mono ?_;rintro e w1 ⟨rfl,hU1⟩;have hcn:w1.cell? ⟨w0.heap.size,5,none⟩=some (.slice pc d.cons.length cc):=(HX.out.under hU1).cell 5;generalize hnc:d.cons.length=nc at *;have HNC:=aA hnc;clear hnc hcn;have c0:w1.cell? ⟨w0.heap.size,0,none⟩=some (.int .i64 k):=(HX.out.under hU1).cell 0;have c1:w1.cell? ⟨w0.heap.size,1,none⟩=some (.int .i64 l):=(HX.out.under hU1).cell 1;have c2:w1.cell? ⟨w0.heap.size,2,none⟩=some (.string d.name):=(HX.out.under hU1).cell 2;have c3:w1.cell? ⟨w0.heap.size,3,none⟩=some (.slice pt nt ct):=(HX.out.under hU1).cell 3;have c4:w1.cell? ⟨w0.heap.size,4,none⟩=some (.slice pb nb cb):=(HX.out.under hU1).cell 4;have c5:w1.cell? ⟨w0.heap.size,5,none⟩=some (.slice pc nc cc):=(HX.out.under hU1).cell 5;have hlt:=(HX.out.under hU1).lt;have HU1:=aA (HU.out.trans hU1);clear hU1;go_wp2;have HO0:=aA (bCA w1 w0.heap.size 9 (.string (Utf8.encode k32)) (.string (Utf8.encode l32)) (.string d.name) HU1.out.size);have HU2:=aA (bA HU1.out (.cells #[.string (Utf8.encode k32),.string (Utf8.encode l32),.string d.name] 9));have h9:nc≤90000:=HC9.out;go_loopw [5,40] (fun v i wr=>fBB w0 d nc v i wr) (fun _ i _=>nc - (intOf i).toNat)
     case atStart=>exact⟨0,oH d,Nat.zero_le _,rfl,rfl,by rw[List.drop_zero],by rw[HH.out];exact HO0.out,HU2.out⟩
     case round =>
       obtain⟨k,acc,hk,rfl,hacc,hN,hown,hU⟩:=hrel;have HN:=aA hN;have HO1:=aA hown;have HUr:=aA hU;have HA:=aA hacc;clear hN hown hacc;by_cases hlt:k < nc
       · have hlt' : k < d.cons.length := by rw [HNC.out]; exact hlt
         obtain⟨u,hu,hterms⟩:=HZ.out.at (List.getElem?_eq_getElem hlt');obtain⟨q,cq,vs',rfl,hq1,hq2,hq3,hq4⟩:=id hterms;obtain⟨b,off,rfl,hb,hcs⟩:=HR.out (fun e=>by rw[e]at hu;simp at hu);have cc:=hcs k _ hu;rw[← fA hU hb]at cc;have hb':=Nat.lt_of_lt_of_le hb hU.size;have HCc:=aA (HCd.out wr hU _ _ (HFr.out.2 _ (List.getElem_mem hlt')).1 (TermsV.mono _ _ _ _ hU hterms) (HFr.out.2 _ (List.getElem_mem hlt')).2);have HS1:=aA (jDA hlt' acc);have HL:=aA (HFr.out.2 _ (List.getElem_mem hlt')).1;have HPk:=aA (fun w p c (hp:RowArg w p ((d.cons[k].map iC).map .string))=>yHA (w0:=w) (d.cons[k].map iC) (p:=p) (c:=c) (by simpa using HL.out) hp);have hpe:=iDA (gG (d.cons[k].map iC));simp only[dM]at HPk;clear hcs hu hq1 hq2 hq3 hq4 hU hterms;generalize d.cons[k]=cl at *;clear hlt';generalize dQ (gG (cl.map iC))=pB at *;generalize zN (gG (cl.map iC))=pE at *;have HM:=aA (show(cl.map iC).length=cl.length by simp);rw[HM.out]at HPk;generalize cl.length=m at *;go_wp2_with fail;refine HCc.out.mono ?_;rintro e w3 ⟨u,rfl,hu,hU3⟩;obtain⟨q3,c3',rfl,h31,h32,h33⟩:=hu;have HU3:=aA (HUr.out.trans hU3);have HU13:=aA hU3;have HP3:=aA (HPk.out w3 q3 c3' h33);rw[HM.out];clear hU3 h31 h32 h33;go_wp2_with fail;refine HP3.out.mono ?_;rintro e w4 ⟨rfl,hU4⟩;have HU4:=aA (HU3.out.trans hU4);have HO4:=aA (uA HO1.out (HU13.out.trans hU4));clear hU4;rcases hpe with rfl | rfl
         · have HS2 : RowKit.Hid (lL acc (d.cons.drop k) = lL (acc ++ [pB]) (d.cons.drop (k + 1))) := aA (by rw [HS1.out, if_pos rfl]); go_wp2_with (at_builtin; refine wpList_append_own_at _ rfl _ _ 50 rfl w0.heap.size 9 i0 _ 1 16 Tryz.underlying50 hi hz0 hz1 hz2 rfl (by decide) _ _ _ rfl (HO4.out.alloc _) ⟨w4.heap.size, 0, none⟩ 1 1 [.string pB] rfl rfl ?c1 ?c2 (by simp only [maxLen]; have := HA.out; have := HFr.out.1; have := HNC.out; omega) (by have := HA.out; have := HFr.out.1; have := HNC.out; omega) ?c5 ?_)
           case c1 =>
             intro j u hj
             match j,hj with
             | 0,hj=>cases hj;simp[Addr.add]
           case c2=>intro u hu;simp at hu;rcases hu with rfl;rfl
           case c5=>have:=HU4.out.size;simp;omega
           intro v' w' hown hgrow hnil hat;have HW:=aA hown;have HU5:=aA (xA (bA HU4.out _) hgrow fun g e=>(jB HO4.out e).1);clear hown hgrow hnil hat;go_wp2;go_roundw
           case rel=>exact⟨k+1,acc++[pB],by omega,by go_num,by rw[List.length_append,HA.out];simp;omega,by rw[HN.out,HS2.out],by rw[List.map_append,List.length_append];exact HW.out,HU5.out⟩
           case measure=>simp[intOf];omega
         · have HS2:RowKit.Hid (xL d=none):=aA (by rw[HE.out,HN.out,HS1.out,if_neg (by decide)];rfl);go_wp2;go_ret2;exact⟨by rw[HO.out,HS2.out];rfl,HU4.out⟩
       · obtain rfl : k = nc := by omega
         have HE2:RowKit.Hid (xL d=gG acc):=aA (by rw[HE.out,HN.out,← HNC.out,List.drop_length];rfl);obtain⟨q5,c5',rfl,hc5,hr5⟩:=RowArg.of_own HO1.out;have HP5:=aA (yHA (w0:=wr) acc (p:=q5) (c:=c5') (by have:=HA.out;have:=HFr.out.1;have:=HNC.out;omega) hr5);rw[dM,← HE2.out]at HP5;clear hr5 hU;go_wp2_with fail;refine HP5.out.mono ?_;rintro e w6 ⟨rfl,hU6⟩;have HU6:=aA (HUr.out.trans hU6);clear hU6;go_wp2;go_ret2;exact⟨by rw[HO.out];rfl,HU6.out⟩
   · have HE : RowKit.Hid (xL d = gG (oH d ++ (aB d).map iC)) := aA (by unfold xL; rw [if_neg hk3]); have hk3' : (d.kind == 3) = false := by simpa using hk3
     have HTs : RowKit.Hid ((aB d).length ≤ 2 ∧ Fair (aB d)) := aA ⟨by
         unfold aB;split<;>(try split)<;>(try split)<;>first | contradiction | simp,fun t ht=>⟨HT9.out t ht,fun x hx=>(HD.out.terms t ht).2 x hx⟩⟩
     clear hk3;generalize d.type.length=nt at *;generalize d.body.length=nb at *;generalize d.cons.length=nc at *;generalize d.kind=k at *;generalize d.level=l at *;go_enter Tryz.func29,Tryz.ntmps29;go_wp2_with fail;refine(HCk.out _ HU.out).mono ?_;rintro e w1 ⟨rfl,hU1⟩;have c0:w1.cell? ⟨w0.heap.size,0,none⟩=some (.int .i64 k):=(HX.out.under hU1).cell 0;have c1:w1.cell? ⟨w0.heap.size,1,none⟩=some (.int .i64 l):=(HX.out.under hU1).cell 1;have c2:w1.cell? ⟨w0.heap.size,2,none⟩=some (.string d.name):=(HX.out.under hU1).cell 2;have c3:w1.cell? ⟨w0.heap.size,3,none⟩=some (.slice pt nt ct):=(HX.out.under hU1).cell 3;have c4:w1.cell? ⟨w0.heap.size,4,none⟩=some (.slice pb nb cb):=(HX.out.under hU1).cell 4;have c5:w1.cell? ⟨w0.heap.size,5,none⟩=some (.slice pc nc cc):=(HX.out.under hU1).cell 5;have hlt:=(HX.out.under hU1).lt;have HU1:=aA (HU.out.trans hU1);clear hU1;go_wp2_with fail;have hU2:=bA HU1.out (.cells #[.string (Utf8.encode k32),.string (Utf8.encode l32),.string d.name] 9);refine(HTm.out _ hU2).mono ?_;rintro e w3 ⟨u,rfl,hu,hU3⟩;have HU3:=aA (hU2.trans hU3);have HU13:=aA hU3;obtain⟨pu,cu,us2,rfl,hu2,hu3,hu4,hu5⟩:=id hu;have HTV:=aA hu;clear hU2 hU3 hu hu2 hu3 hu4 hu5;go_wp2_with fail;refine(HCd.out _ HU3.out _ _ (by have:=HTs.out.1;omega) HTV.out HTs.out.2).mono ?_;rintro e w4 ⟨u,rfl,hu,hU4⟩;have HU4:=aA (HU3.out.trans hU4);have HO4:=aA (uA (bCA w1 w0.heap.size 9 (.string (Utf8.encode k32)) (.string (Utf8.encode l32)) (.string d.name) HU1.out.size) (HU13.out.trans hU4));obtain⟨q,qc,rfl,hqc,hq0,hqr⟩:=hu;have HQ:=aA hqr;have HM:=aA (show((aB d).map iC).length=(aB d).length by simp);have HT3:=HTs.out.1;clear hU4 hqr;rw[HM.out]at hqc;have HQ':RowKit.Hid (RowArg w4 q (((aB d).map iC).map .string)∧(((aB d).map iC).map Value.string).length=(aB d).length * 1∧∀ u∈((aB d).map iC).map Value.string,u.oneCell'=true) :=
      aA ⟨HQ.out,by simp,fun u hu=>by simp at hu;obtain⟨x,_,rfl⟩:=hu;rfl⟩
     have HP:=aA (fun w p c (hp:RowArg w p ((oH d++(aB d).map iC).map .string))=>yHA (w0:=w) (oH d++(aB d).map iC) (p:=p) (c:=c) (by simp[oH];omega) hp);rw[show(oH d++(aB d).map iC).length=3+(aB d).length by simp[oH];omega]at HP;rw[HM.out];have HHM:RowKit.Hid ((oH d++(aB d).map iC).map Value.string=[.string (Utf8.encode k32),.string (Utf8.encode l32),.string d.name]++((aB d).map iC).map Value.string):=aA (by rw[HH.out];rfl);rw[HHM.out,← HE.out,dM]at HP;generalize dQ (xL d)=pB at *;generalize zN (xL d)=pE at *;generalize ((aB d).map iC).map Value.string=news at *;generalize (aB d).length=m at *;go_wp2_with (at_builtin;refine nE rfl _ _ 50 rfl w0.heap.size 9 i0 _ 1 16 Tryz.underlying50 hi hz0 hz1 hz2 rfl (by decide) _ _ _ rfl HO4.out q m qc news rfl HQ'.out.2.1 hqc hq0 HQ'.out.1 HQ'.out.2.2 (by simp only[maxLen];omega) (by omega) HU4.out.size ?_);intro v' w5 hown hgrow;have HU5:=aA (xA HU4.out hgrow fun g e=>(jB HO4.out e).1);obtain⟨q5,c5',rfl,hc5,hr5⟩:=RowArg.of_own hown;have HP5:=aA (HP.out w5 q5 c5' hr5);clear hown hgrow hr5 hc5;go_wp2_with fail;refine HP5.out.mono ?_;rintro e w6 ⟨rfl,hU6⟩;have HU6:=aA (HU5.out.trans hU6);clear hU6;go_wp2;go_ret2;exact⟨by rw[HO.out];rfl,HU6.out⟩
 · have HO := aA (tCA hc); have hce : (kJ d == 0) = false := by simpa using hc
   clear hc;generalize kJ d=ce at *;go_enter Tryz.func29,Tryz.ntmps29;go_wp2_with fail;refine(HCk.out _ HU.out).mono ?_;rintro e w1 ⟨rfl,hU1⟩;have HU1:=aA hU1;clear hU1;go_wp2;go_ret2;exact⟨by rw[HO.out];rfl,HU.out.trans HU1.out⟩
end
def aY(t:List Nd):Prop:=t.length≤65535∧∀ x∈t,x.s.size≤255
theorem z7A(st:Left):(sI st).1.s.size≤255:=by
 unfold sI;simp only
 split
 · exact mW _
 · exact Nat.zero_le _
theorem sWA : ∀ (n : Nat) (st : Left) (acc : List Nd), (∀ x ∈ acc, x.s.size ≤ 255) → (lI n st acc).1.length ≤ acc.length + n ∧ ∀ x ∈ (lI n st acc).1, x.s.size ≤ 255
  | 0,st,acc,h=>⟨Nat.le_refl _,h⟩
  | n + 1, st, acc, h => by
    simp only[lI]
    split
    · exact⟨Nat.zero_le _,fun x hx=>(List.not_mem_nil hx).elim⟩
    · obtain ⟨h1, h2⟩ := sWA n (sI st).2 (acc ++ [(sI st).1]) (fun x hx => by
        rcases List.mem_append.1 hx with hx | hx
        · exact h x hx
        · rw[List.mem_singleton.1 hx];exact z7A st)
      exact⟨by simp at h1;omega,h2⟩
theorem uTA{s:ByteArray}{t:List Nd}(h:nG s=some t):aY t:=by
 unfold nG at h;simp only at h
 split at h
 · cases h
 · split at h
   · cases h
   · cases h;obtain⟨h1,h2⟩:=sWA (iB 2 (some s.data.toList)) (iA 2 (some s.data.toList)) [] (fun x hx=>(List.not_mem_nil hx).elim);have:=bPA (some s.data.toList);exact⟨by simp at h1;omega,h2⟩
theorem jAA : ∀ (l : List ByteArray) (acc ts : List (List Nd)), (∀ t ∈ acc, aY t) → aF acc l = some ts → (∀ t ∈ ts, aY t) ∧ ts.length = acc.length + l.length
  | [],acc,ts,h,e=>by cases e;exact⟨h,rfl⟩
  | s :: l, acc, ts, h, e => by
    simp only[aF]at e
    split at e
    · cases e
    · rename_i t ht; obtain ⟨h1, h2⟩ := jAA l (acc ++ [t]) ts (fun x hx => by
        rcases List.mem_append.1 hx with hx | hx
        · exact h x hx
        · rw[List.mem_singleton.1 hx];exact uTA ht) e
      exact⟨h1,by simp at h2 ⊢;omega⟩
def z5A(c:List (List Nd)):Prop:=c.length≤255∧∀ t∈c,aY t
theorem dIA : ∀ (l : List ByteArray) (acc cs : List (List (List Nd))), (∀ c ∈ acc, z5A c) → rH acc l = some cs → (∀ c ∈ cs, z5A c) ∧ cs.length = acc.length + l.length
  | [],acc,cs,h,e=>by cases e;exact⟨h,rfl⟩
  | s :: l, acc, cs, h, e => by
    simp only[rH]at e
    split at e
    · cases e
    · rename_i x hx; obtain ⟨u, hu, hd⟩ := Option.bind_eq_some_iff.1 hx; obtain ⟨k1, k2⟩ := jAA u [] x (fun t ht => (List.not_mem_nil ht).elim) hd; have := (kM hu).2; obtain ⟨h1, h2⟩ := dIA l (acc ++ [x]) cs (fun y hy => by
        rcases List.mem_append.1 hy with hy | hy
        · exact h y hy
        · rw[List.mem_singleton.1 hy];exact⟨by simp at k2;omega,k1⟩) e
      exact⟨h1,by simp at h2 ⊢;omega⟩
structure GoodD (d:Dc):Prop where
 name:d.name.size≤20000
 type:aY d.type
 body:aY d.body
 cons:d.cons.length≤255∧∀ c∈d.cons,z5A c
theorem wK:aY []:=⟨Nat.zero_le _,fun x hx=>(List.not_mem_nil hx).elim⟩
theorem j8A{l:List ByteArray}{d:Dc}(hl:(∀ x∈l,x.size≤20000)∧l.length≤255)(h:qU l=some d):GoodD d:=by
 unfold qU at h
 split at h
 · rename_i a b nm r; have hn : nm.size ≤ 20000 := hl.1 nm (by simp); have hr : r.length ≤ 255 := by have := hl.2; simp at this; omega
   split at h
   · obtain⟨c,hc,rfl⟩:=Option.map_eq_some_iff.1 h;obtain⟨k1,k2⟩:=dIA r [] c (fun t ht=>(List.not_mem_nil ht).elim) hc;exact⟨hn,wK,wK,(show c.length≤255 by simp at k2;omega),k1⟩
   · obtain ⟨x, hx, hb⟩ := Option.bind_eq_some_iff.1 h; obtain ⟨k1, k2⟩ := jAA r [] x (fun t ht => (List.not_mem_nil ht).elim) hx; unfold mQ at hb
     split at hb
     · split at hb
       · cases hb;exact⟨hn,k1 _ (by simp),wK,Nat.zero_le _,fun c hc=>(List.not_mem_nil hc).elim⟩
       · cases hb
     · split at hb
       · cases hb;exact⟨hn,k1 _ (by simp),k1 _ (by simp),Nat.zero_le _,fun c hc=>(List.not_mem_nil hc).elim⟩
       · cases hb
     · cases hb
 · cases h
theorem bWA{s:ByteArray}{d:Dc}(h:mV s=some d):GoodD d:=by
 obtain⟨l,h1,h2⟩:=Option.bind_eq_some_iff.1 h;exact j8A (kM h1) h2
theorem pW : ∀ (l : List (List (List Nd))) (n : Nat), (∀ c ∈ l, c.length ≤ n) → l.flatten.length ≤ l.length * n
  | [],n,_=>by simp
  | c :: l, n, h => by
    have h1:=pW l n fun x hx=>h x (List.mem_cons_of_mem _ hx)
    have h2:=h c (List.mem_cons_self ..);simp only[List.flatten_cons,List.length_append,List.length_cons,Nat.add_mul,Nat.one_mul];omega
theorem GoodD.terms{d:Dc}(h:GoodD d):∀ t∈aB d,aY t:=by
 intro t ht;unfold aB at ht
 split at ht
 · rcases List.mem_cons.1 ht with rfl | ht
   · exact h.type
   · rw[List.mem_singleton.1 ht];exact h.body
 · split at ht
   · rw[List.mem_singleton.1 ht];exact h.type
   · split at ht
     · obtain⟨c,hc,hx⟩:=List.mem_flatten.1 ht;exact(h.cons.2 c hc).2 t hx
     · cases ht
theorem GoodD.small{d:Dc}(h:GoodD d):Small d :=
 ⟨by have:=h.name;simp only[maxLen];omega,by have:=h.cons.1;omega,by have h1:=pW d.cons 255 fun c hc=>(h.cons.2 c hc).1;have:=h.cons.1;omega,fun t ht=>⟨by have:=(h.terms t ht).1;omega,fun x hx=>by have:=(h.terms t ht).2 x hx;simp only[maxLen];omega⟩⟩
theorem GoodD.lite{d:Dc}(h:GoodD d):Lite d :=
 ⟨by have:=h.type.1;omega,by have:=h.body.1;omega,by have:=h.cons.1;omega,fun c hc=>⟨by have:=(h.cons.2 c hc).1;omega,fun t ht=>by have:=((h.cons.2 c hc).2 t ht).1;omega⟩⟩
theorem rLA:GoodD dcNo:=⟨Nat.zero_le _,wK,wK,Nat.zero_le _,fun c hc=>(List.not_mem_nil hc).elim⟩
def vH(s:ByteArray):Option Dc:=(mV s).bind fun d=>if kF d=0∧(xD d).toList=s.toList then some d else none
def tT(w0:World)(R:Option Dc)(e:Ending)(w:World):Prop:=∃ v,e = .returned (.tuple #[v,.int .i64 (if R.isSome then 0 else 50)])∧DcV w v (R.getD dcNo)∧Under w0 w
theorem nO{g:Nat}{w:World}(h:FieldsAll g w):FieldsAt g w:=⟨h.lt,fun k hk=>h.cell k (by omega)⟩
section
variable {w0 : World}
theorem iO(s:ByteArray)(hs:s.size≤1000000)(hS:ShapesAt 3 w0)(hF:FieldsAll 0 w0):Calls Tryz.prog 31 #[.string s] w0 (tT w0 (vH s)):=by
 have HB0:=aA (rA w0 dcZ 33);have HU0:=aA (bA (Under.refl w0) (.cells dcZ 33));have HDe:=aA (uOA (w0:=w0.alloc (.cells dcZ 33)) s hs (hS.under HU0.out) (hF.under HU0.out));have HX0:=aA (And.intro hS (nO hF));have HG:=aA (show GoodD ((mV s).getD dcNo) by cases h:mV s with | none=>exact rLA | some d=>exact bWA h);have HD:RowKit.Hid (vH s=(mV s).bind fun d=>if kF d=0∧(xD d).toList=s.toList then some d else none):=aA rfl;generalize vH s=PD at *;unfold i7A at HDe;generalize hdd:mV s=R at *;clear hS hF hs hdd;go_enter Tryz.func31,Tryz.ntmps31;go_wp2_with fail;refine HDe.out.mono ?_;rintro e w1 ⟨v,rfl,hv,hU1⟩;have HPD:RowKit.Hid ((R.isSome=false→PD=none)∧(R.isSome=true→PD=if kF (R.getD dcNo)=0∧(xD (R.getD dcNo)).toList=s.toList then some (R.getD dcNo) else none)):=aA ⟨(fun h=>by rw[HD.out];cases R with | none=>rfl | some d=>cases h),(fun h=>by rw[HD.out];cases R with | none=>cases h | some d=>rfl)⟩;clear HD;generalize R.getD dcNo=d at *;generalize R.isSome=is at *;obtain⟨q,k,q',k',r,c,rfl⟩:=hv.agg;have HV:=aA hv.val;have HO:=aA (hv.base (B':=w0.heap.size+1) (by simp));have HB:=aA (HB0.out.under hU1);have HU:=aA (HU0.out.trans hU1);have hA:=bA (Under.refl w1) (.cells #[.int .i64 d.kind,.int .i64 d.level,.string d.name,.slice q d.type.length k,.slice q' d.body.length k',.slice r d.cons.length c] 33);have HBn:=aA (rA w1 #[.int .i64 d.kind,.int .i64 d.level,.string d.name,.slice q d.type.length k,.slice q' d.body.length k',.slice r d.cons.length c] 33);have HEn:=aA (eQ (w0:=w1.alloc (.cells #[.int .i64 d.kind,.int .i64 d.level,.string d.name,.slice q d.type.length k,.slice q' d.body.length k',.slice r d.cons.length c] 33)) HG.out.small (fun t ht=>by have:=(HG.out.terms t ht).1;omega) (DcV.mono _ _ _ _ hA HV.out) (HX0.out.1.under (HU.out.trans hA)) (HX0.out.2.under (HU.out.trans hA)));unfold yM at HEn;have HO2:=aA (HO.out.under hA);have HB2:=aA (HB.out.under hA);have HU2:=aA (HU.out.trans hA);clear hv hU1 hA HDe HB0 HU0 HB HU HV HG HO;go_wp2_with fail;refine HEn.out.mono ?_;rintro e w2 ⟨rfl,hU2⟩;have HB:=aA (HB2.out.under hU2);have HU:=aA (HU2.out.trans hU2);have HO:=aA (HO2.out.under hU2);have HBn:=aA (HBn.out.under hU2);clear hU2 HEn HB2 HU2 HO2;generalize kF d=E at *;generalize xD d=BB at *;have d0:=HB.out.cell 0;have d1:=HB.out.cell 1;have d2:=HB.out.cell 2;have d3:=HB.out.cell 3;have d4:=HB.out.cell 4;have d5:=HB.out.cell 5;have g0:=HB.out.free 0;have g1:=HB.out.free 1;have g2:=HB.out.free 2;have g3:=HB.out.free 3;have g4:=HB.out.free 4;have g5:=HB.out.free 5;have dl:=HB.out.lt;have n0:=HBn.out.cell 0;have n1:=HBn.out.cell 1;have n2:=HBn.out.cell 2;have n3:=HBn.out.cell 3;have n4:=HBn.out.cell 4;have n5:=HBn.out.cell 5;have nl:=HBn.out.lt
 cases is with
 | false =>
   have HPE:=aA (HPD.out.1 rfl);go_wp2;refine kV rfl rfl rfl HB.out fun wf HX=>?_
   rw[HPE.out];exact⟨_,rfl,kL _,jC HU.out HX.out fun b hb=>by omega⟩
 | true =>
   have HPF:=aA (HPD.out.2 rfl);by_cases hE:E=0
   · subst hE; by_cases hB : BB.toList = s.toList
     · have HPE := aA (show PD = some d by rw [HPF.out, if_pos ⟨rfl, hB⟩]); go_wp2; refine kV rfl rfl rfl HB.out fun wf HX => ?_
       rw[HPE.out];exact⟨_,rfl,(HO.out.ch HX.out fun b hb=>by omega).val,jC HU.out HX.out fun b hb=>by omega⟩
     · have HPE := aA (show PD = none by rw [HPF.out, if_neg (fun h => hB h.2)]); have hB' : (BB.toList == s.toList) = false := by simpa using hB
       clear hB;go_wp2;refine kV rfl rfl rfl HB.out fun wf HX=>?_
       rw[HPE.out];exact⟨_,rfl,kL _,jC HU.out HX.out fun b hb=>by omega⟩
   · have HPE := aA (show PD = none by rw [HPF.out, if_neg (fun h => hE h.1)]); have hE' : (E != 0) = true := by simpa using hE
     clear hE;go_wp2;refine kV rfl rfl rfl HB.out fun wf HX=>?_
     rw[HPE.out];exact⟨_,rfl,kL _,jC HU.out HX.out fun b hb=>by omega⟩
end
end Go.Proofs.YtggjbblgoddnjaaGreatDoor
