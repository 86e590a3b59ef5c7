/- Part 33 of what the proof rests on. -/
import Derived.Conc.CompanyMem
import Derived.Conc.WalkWords
import Derived.Test.YtggjbblgoddnjaaGreatDoorM12
import Derived.Test.YtggjbblgoddnjaaGreatDoorM13
import Derived.Test.YtggjbblgoddnjaaGreatDoorM21
import Derived.Test.YtggjbblgoddnjaaGreatDoorM29
import Derived.Test.YtggjbblgoddnjaaGreatDoorM31
import Derived.Test.YtggjbblgoddnjaaGreatDoorM32
set_option linter.unusedSimpArgs false
set_option linter.unusedVariables false
set_option maxRecDepth 100000
set_option maxHeartbeats 8000000
namespace Go.Proofs.YtggjbblgoddnjaaGreatDoor
open Go.Lx Go.RowKit
def hIA(b:Nat)(b3 b4 b5:Bool)(J:Nat→Value):Array Value:=#[J 0,.pointer (some ⟨b,0,none⟩),J 2,.bool b3,.bool b4,.bool b5,J 6,J 7,J 8,J 9,J 10,J 11,J 12,J 13,J 14,J 15,J 16,J 17,J 18,J 19,J 20,J 21,J 22,J 23,J 24,J 25,J 26,J 27,J 28,J 29,J 30,J 31,J 32,J 33,J 34,J 35,J 36,J 37,J 38,J 39,J 40,J 41,J 42,J 43,J 44,J 45,J 46,J 47,J 48,J 49,J 50,J 51,J 52,J 53,J 54,J 55,J 56,J 57,J 58,J 59,J 60,J 61,J 62,J 63,J 64,J 65,J 66,J 67,J 68,J 69,J 70,J 71,J 72,J 73,J 74,J 75,J 76,J 77,J 78,J 79,J 80,J 81,J 82,J 83,J 84,J 85,J 86]
def gZ(r:Int)(J:Nat→Value):Array Value:=#[J 0,J 1,.int .i64 r,J 3,J 4,J 5,J 6,J 7,J 8,J 9,J 10,J 11,J 12,J 13,J 14,J 15,J 16,J 17,J 18,J 19,J 20,J 21,J 22,J 23,J 24,J 25,J 26,J 27,J 28,J 29,J 30,J 31,J 32,J 33,J 34,J 35,J 36,J 37,J 38,J 39,J 40,J 41,J 42,J 43,J 44,J 45,J 46,J 47,J 48,J 49,J 50,J 51,J 52,J 53,J 54,J 55,J 56,J 57,J 58,J 59,J 60,J 61,J 62,J 63,J 64,J 65,J 66,J 67,J 68,J 69,J 70,J 71,J 72,J 73,J 74,J 75,J 76,J 77,J 78,J 79,J 80,J 81,J 82,J 83,J 84,J 85,J 86]
def DkS(W0:World)(b:Nat)(k l:Int)(s:ByteArray)(vt vb vc:Value)(w':World):Prop:=w'.cell? ⟨b,0,none⟩=some (.int .i64 k)∧w'.cell? ⟨b,1,none⟩=some (.int .i64 l)∧w'.cell? ⟨b,2,none⟩=some (.string s)∧w'.cell? ⟨b,3,none⟩=some vt∧w'.cell? ⟨b,4,none⟩=some vb∧w'.cell? ⟨b,5,none⟩=some vc∧b < w'.heap.size∧Under W0 w'
theorem sI{W0:World}{b:Nat}{k l:Int}{s:ByteArray}{vt vb vc:Value}{w w':World}(h:DkS W0 b k l s vt vb vc w)(hU:Under w w'):DkS W0 b k l s vt vb vc w':=by
 obtain⟨d0,d1,d2,d3,d4,d5,d6,d7⟩:=h;exact⟨(dA hU d6 _).trans d0,(dA hU d6 _).trans d1,(dA hU d6 _).trans d2,(dA hU d6 _).trans d3,(dA hU d6 _).trans d4,(dA hU d6 _).trans d5,Nat.lt_of_lt_of_le d6 hU.size,d7.trans hU⟩
section
variable {W0 : World}
theorem lX {w : World} {b : Nat} {k l ce de : Int} {s : ByteArray} {nm b4 b5 : Bool} {pt pb pc : Option Addr} {nt nb nc ct cb cc : Nat}
    (HC:RowKit.Hid (∀ w,Under W0 w→Calls Tryz.prog 50 #[.agg #[.int .i64 k,.int .i64 l,.string s,.slice pt nt ct,.slice pb nb cb,.slice pc nc cc]] w fun x w'=>∃ b,x = .returned (.func (.func 84) #[] #[.pointer (some ⟨b,0,none⟩)])∧StepOk w' (.func (.func 84) #[] #[.pointer (some ⟨b,0,none⟩)]) ce∧Under w w'))
    (HN:RowKit.Hid (∀ w,Calls Tryz.prog 49 #[.string s] w fun e w'=>e = .returned (.bool nm)∧Under w w'))
    (HD:RowKit.Hid (de=kD [jC (decide (1≤k)&&decide (k≤3)) 1,jC nm 20,ce,jC ((k==3&&b4)||(!(k==3)&&(l==0))) 1,jC (k==3||((nc:Int)==0)) 1,jC (!(k==3)||((nt:Int)==0)) 1,jC (k==1||((nb:Int)==0)) 1,jC (!b5) 21]))
    (h:DkS W0 b k l s (.slice pt nt ct) (.slice pb nb cb) (.slice pc nc cc) w) (a:Act) (ha:∃ J,a=⟨hIA b (k==3) b4 b5 J,[]⟩) :
    r4.wp Tryz.prog (fun e a' w'=>e = .normal∧(∃ J,a'=⟨gZ de J,[]⟩)∧Under W0 w') a w:=by
  obtain⟨J,rfl⟩:=ha;have hX:((k==3)=true∧(k==1)=false∧(1≤k)∧k≤3∧b4=true∧(k==3&&b4)=true)∨((k==3)=true∧(k==1)=false∧(1≤k)∧k≤3∧b4=false∧(k==3&&b4)=false)∨((k==3)=false∧(k==1)=true∧(1≤k)∧k≤3∧b4=b4∧(k==3&&b4)=false)∨((k==3)=false∧(k==1)=false∧(1≤k)∧True∧b4=b4∧(k==3&&b4)=false)∨((k==3)=false∧(k==1)=false∧(¬ 1≤k)∧True∧b4=b4∧(k==3&&b4)=false):=by
   by_cases h3:k=3
   · subst h3;cases b4<;>simp
   · by_cases h1 : k = 1
     · subst h1;simp
     · by_cases h0:1≤k<;>simp[h3,h1,h0]
  unfold r4 Tryz.f20;dsimp only;unfold hIA;rcases hX with⟨f3,f1,f0,f9,fb,fg⟩ | ⟨f3,f1,f0,f9,fb,fg⟩ | ⟨f3,f1,f0,f9,fb,fg⟩ | ⟨f3,f1,f0,f9,fb,fg⟩ | ⟨f3,f1,f0,f9,fb,fg⟩
  all_goals
   rw[f3,fb];rw[fb]at HD;clear fb;refine wp_region_noPanic ?_;refine wp_region_held_drew (S:=fun w'=>w'.cell? ⟨b,0,none⟩=some (.int .i64 k)∧w'.cell? ⟨b,1,none⟩=some (.int .i64 l)∧w'.cell? ⟨b,2,none⟩=some (.string s)∧w'.cell? ⟨b,3,none⟩=some (.slice pt nt ct)∧w'.cell? ⟨b,4,none⟩=some (.slice pb nb cb)∧w'.cell? ⟨b,5,none⟩=some (.slice pc nc cc)∧b < w'.heap.size∧Under W0 w') (by kernel_rfl) (sI h (fA (Under.refl w))) (fun hHeld=>?_);co_applyP bA 0 rfl (by kernel_rfl) (by kernel_rfl) (fun _ _ _ h=>h) hHeld (fun w hSw=>?_) ?_;rotate_left
   · (try dsimp only at hSw);go_simp;try with_reducible rfl
   try walk_nrm
   co_applyP bA 1 rfl (by kernel_rfl) (by kernel_rfl) (fun _ _ _ h=>h) hHeld (fun w hSw=>?_) ?_;rotate_left
   · (try dsimp only at hSw);go_simp;try with_reducible rfl
   try walk_nrm
   co_applyP bA 2 rfl (by kernel_rfl) (by kernel_rfl) (fun _ _ _ h=>h) hHeld (fun w hSw=>?_) ?_;rotate_left
   · (try dsimp only at hSw);go_simp;try with_reducible rfl
   try walk_nrm
   co_applyP bA 3 rfl (by kernel_rfl) (by kernel_rfl) (fun _ _ _ h=>h) hHeld (fun w hSw=>?_) ?_;rotate_left
   · (try dsimp only at hSw);go_simp;try with_reducible rfl
   try walk_nrm
   first
    | (have _g := (f0 : 1 ≤ k)
       co_applyP bA 4 rfl (by kernel_rfl) (by kernel_rfl) (fun _ _ _ h=>h) hHeld (fun w hSw=>?_) ?_;rotate_left
       · (try dsimp only at hSw);go_simp;try with_reducible rfl
       clear _g)
    | co_applyP gD 4 rfl (by kernel_rfl) (by kernel_rfl) (fun _ _ _ h=>h) hHeld ?_
   try walk_nrm
   first
    | (have _g := (f0 : 1 ≤ k)
       co_applyP bA 5 rfl (by kernel_rfl) (by kernel_rfl) (fun _ _ _ h=>h) hHeld (fun w hSw=>?_) ?_;rotate_left
       · (try dsimp only at hSw);go_simp;try with_reducible rfl
       clear _g)
    | co_applyP gD 5 rfl (by kernel_rfl) (by kernel_rfl) (fun _ _ _ h=>h) hHeld ?_
   try walk_nrm
   first
    | (have _g := (f0 : 1 ≤ k)
       co_applyP bA 6 rfl (by kernel_rfl) (by kernel_rfl) (fun _ _ _ h=>h) hHeld (fun w hSw=>?_) ?_;rotate_left
       · (try dsimp only at hSw);go_simp;try with_reducible rfl
       clear _g)
    | co_applyP gD 6 rfl (by kernel_rfl) (by kernel_rfl) (fun _ _ _ h=>h) hHeld ?_
   try walk_nrm
   co_applyP bA 7 rfl (by kernel_rfl) (by kernel_rfl) (fun _ _ _ h=>h) hHeld (fun w hSw=>?_) ?_;rotate_left
   · (try dsimp only at hSw);go_simp;try with_reducible rfl
   try walk_nrm
   co_applyP bA 9 rfl (by kernel_rfl) (by kernel_rfl) (fun _ _ _ h=>h) hHeld (fun w hSw=>?_) ?_;rotate_left
   · (try dsimp only at hSw);go_simp;try with_reducible rfl
   try walk_nrm
   co_applyP bA 10 rfl (by kernel_rfl) (by kernel_rfl) (fun _ _ _ h=>h) hHeld (fun w hSw=>?_) ?_;rotate_left
   · (try dsimp only at hSw);go_simp;try with_reducible rfl
   try walk_nrm
   co_applyP bA 13 rfl (by kernel_rfl) (by kernel_rfl) (fun _ _ _ h=>h) hHeld (fun w hSw=>?_) ?_;rotate_left
   · (try dsimp only at hSw);go_simp;try with_reducible rfl
   try walk_nrm
   co_applyP bA 15 rfl (by kernel_rfl) (by kernel_rfl) (fun _ _ _ h=>h) hHeld (fun w hSw=>?_) ?_;rotate_left
   · (try dsimp only at hSw);go_simp;try with_reducible rfl
   try walk_nrm
   co_applyP bA 29 rfl (by kernel_rfl) (by kernel_rfl) (fun _ _ _ h=>h) hHeld (fun w hSw=>?_) ?_;rotate_left
   · (try dsimp only at hSw);go_simp;try with_reducible rfl
   try walk_nrm
   co_applyP bA 37 rfl (by kernel_rfl) (by kernel_rfl) (fun _ _ _ h=>h) hHeld (fun w hSw=>?_) ?_;rotate_left
   · (try dsimp only at hSw);go_simp;try with_reducible rfl
   try walk_nrm
   co_applyP bA 38 rfl (by kernel_rfl) (by kernel_rfl) (fun _ _ _ h=>h) hHeld (fun w hSw=>?_) ?_;rotate_left
   · (try dsimp only at hSw);go_simp;try with_reducible rfl
   try walk_nrm
   co_applyP bA 46 rfl (by kernel_rfl) (by kernel_rfl) (fun _ _ _ h=>h) hHeld (fun w hSw=>?_) ?_;rotate_left
   · (try dsimp only at hSw);go_simp;try with_reducible rfl
   try walk_nrm
   co_applyP bA 47 rfl (by kernel_rfl) (by kernel_rfl) (fun _ _ _ h=>h) hHeld (fun w hSw=>?_) ?_;rotate_left
   · (try dsimp only at hSw);go_simp;try with_reducible rfl
   try walk_nrm
   co_applyP bA 48 rfl (by kernel_rfl) (by kernel_rfl) (fun _ _ _ h=>h) hHeld (fun w hSw=>?_) ?_;rotate_left
   · (try dsimp only at hSw);go_simp;try with_reducible rfl
   try walk_nrm
   co_applyP bA 56 rfl (by kernel_rfl) (by kernel_rfl) (fun _ _ _ h=>h) hHeld (fun w hSw=>?_) ?_;rotate_left
   · (try dsimp only at hSw);go_simp;try with_reducible rfl
   try walk_nrm
   co_applyP bA 57 rfl (by kernel_rfl) (by kernel_rfl) (fun _ _ _ h=>h) hHeld (fun w hSw=>?_) ?_;rotate_left
   · (try dsimp only at hSw);go_simp;try with_reducible rfl
   try walk_nrm
   refine iA 8 (by kernel_rfl) rfl fun K hK=>?_
   go_simp;go_at_call 48;refine(qG _ _).mono ?_;rintro e w8 ⟨b8,c8,rfl,hS8,hU8⟩;refine hK.out _ _ (sI hHeld hU8) (fun _=>?_);clear hK K hHeld;rename_i hHeld
   try walk_nrm
   refine iA 11 (by kernel_rfl) rfl fun K hK=>?_
   go_simp;go_at_call 49;refine(HN.out _).mono ?_;rintro e w11 ⟨rfl,hU11⟩;refine hK.out _ _ (sI hHeld hU11) (fun _=>?_);clear hK K hHeld;rename_i hHeld
   try walk_nrm
   refine iA 12 (by kernel_rfl) rfl fun K hK=>?_
   go_simp;go_at_call 48;refine(qG _ _).mono ?_;rintro e w12 ⟨b12,c12,rfl,hS12,hU12⟩;refine hK.out _ _ (sI hHeld hU12) (fun _=>?_);clear hK K hHeld;rename_i hHeld
   try walk_nrm
   refine iA 14 (by kernel_rfl) rfl fun K hK=>?_
   go_simp;go_at_call 50;refine(HC.out _ hHeld.2.2.2.2.2.2.2).mono ?_;rintro e w14 ⟨b14,rfl,hS14,hU14⟩;refine hK.out _ _ (sI hHeld hU14) (fun _=>?_);clear hK K hHeld;rename_i hHeld
   try walk_nrm
   co_applyP bA 16 rfl (by kernel_rfl) (by kernel_rfl) (fun _ _ _ h=>h) hHeld (fun w hSw=>?_) ?_;rotate_left
   · (try dsimp only at hSw);go_simp;try with_reducible rfl
   try walk_nrm
   first
    | (have _g := (f3 : (k == 3) = true)
       co_applyP bA 17 rfl (by kernel_rfl) (by kernel_rfl) (fun _ _ _ h=>h) hHeld (fun w hSw=>?_) ?_;rotate_left
       · (try dsimp only at hSw);go_simp;try with_reducible rfl
       clear _g)
    | co_applyP gD 17 rfl (by kernel_rfl) (by kernel_rfl) (fun _ _ _ h=>h) hHeld ?_
   try walk_nrm
   co_applyP bA 18 rfl (by kernel_rfl) (by kernel_rfl) (fun _ _ _ h=>h) hHeld (fun w hSw=>?_) ?_;rotate_left
   · (try dsimp only at hSw);go_simp;try with_reducible rfl
   try walk_nrm
   co_applyP bA 19 rfl (by kernel_rfl) (by kernel_rfl) (fun _ _ _ h=>h) hHeld (fun w hSw=>?_) ?_;rotate_left
   · (try dsimp only at hSw);go_simp;try with_reducible rfl
   try walk_nrm
   first
    | (have _g := (fg : (k == 3 && b4) = false)
       co_applyP bA 20 rfl (by kernel_rfl) (by kernel_rfl) (fun _ _ _ h=>h) hHeld (fun w hSw=>?_) ?_;rotate_left
       · (try dsimp only at hSw);go_simp;try with_reducible rfl
       clear _g)
    | co_applyP gD 20 rfl (by kernel_rfl) (by kernel_rfl) (fun _ _ _ h=>h) hHeld ?_
   try walk_nrm
   first
    | (have _g := (fg : (k == 3 && b4) = false)
       co_applyP bA 21 rfl (by kernel_rfl) (by kernel_rfl) (fun _ _ _ h=>h) hHeld (fun w hSw=>?_) ?_;rotate_left
       · (try dsimp only at hSw);go_simp;try with_reducible rfl
       clear _g)
    | co_applyP gD 21 rfl (by kernel_rfl) (by kernel_rfl) (fun _ _ _ h=>h) hHeld ?_
   try walk_nrm
   first
    | (have _g := (fg : (k == 3 && b4) = false)
       co_applyP bA 22 rfl (by kernel_rfl) (by kernel_rfl) (fun _ _ _ h=>h) hHeld (fun w hSw=>?_) ?_;rotate_left
       · (try dsimp only at hSw);go_simp;try with_reducible rfl
       clear _g)
    | co_applyP gD 22 rfl (by kernel_rfl) (by kernel_rfl) (fun _ _ _ h=>h) hHeld ?_
   try walk_nrm
   first
    | (have _g := (f3 : (k == 3) = false)
       co_applyP bA 23 rfl (by kernel_rfl) (by kernel_rfl) (fun _ _ _ h=>h) hHeld (fun w hSw=>?_) ?_;rotate_left
       · (try dsimp only at hSw);go_simp;try with_reducible rfl
       clear _g)
    | co_applyP gD 23 rfl (by kernel_rfl) (by kernel_rfl) (fun _ _ _ h=>h) hHeld ?_
   try walk_nrm
   first
    | (have _g := (f3 : (k == 3) = false)
       co_applyP bA 24 rfl (by kernel_rfl) (by kernel_rfl) (fun _ _ _ h=>h) hHeld (fun w hSw=>?_) ?_;rotate_left
       · (try dsimp only at hSw);go_simp;try with_reducible rfl
       clear _g)
    | co_applyP gD 24 rfl (by kernel_rfl) (by kernel_rfl) (fun _ _ _ h=>h) hHeld ?_
   try walk_nrm
   first
    | (have _g := (f3 : (k == 3) = false)
       co_applyP bA 25 rfl (by kernel_rfl) (by kernel_rfl) (fun _ _ _ h=>h) hHeld (fun w hSw=>?_) ?_;rotate_left
       · (try dsimp only at hSw);go_simp;try with_reducible rfl
       clear _g)
    | co_applyP gD 25 rfl (by kernel_rfl) (by kernel_rfl) (fun _ _ _ h=>h) hHeld ?_
   try walk_nrm
   first
    | (have _g := (fg : (k == 3 && b4) = false)
       co_applyP bA 26 rfl (by kernel_rfl) (by kernel_rfl) (fun _ _ _ h=>h) hHeld (fun w hSw=>?_) ?_;rotate_left
       · (try dsimp only at hSw);go_simp;try with_reducible rfl
       clear _g)
    | co_applyP gD 26 rfl (by kernel_rfl) (by kernel_rfl) (fun _ _ _ h=>h) hHeld ?_
   try walk_nrm
   co_applyP bA 27 rfl (by kernel_rfl) (by kernel_rfl) (fun _ _ _ h=>h) hHeld (fun w hSw=>?_) ?_;rotate_left
   · (try dsimp only at hSw);go_simp;try with_reducible rfl
   try walk_nrm
   refine iA 28 (by kernel_rfl) rfl fun K hK=>?_
   go_simp;go_at_call 48;refine(qG _ _).mono ?_;rintro e w28 ⟨b28,c28,rfl,hS28,hU28⟩;refine hK.out _ _ (sI hHeld hU28) (fun _=>?_);clear hK K hHeld;rename_i hHeld
   try walk_nrm
   co_applyP bA 30 rfl (by kernel_rfl) (by kernel_rfl) (fun _ _ _ h=>h) hHeld (fun w hSw=>?_) ?_;rotate_left
   · (try dsimp only at hSw);go_simp;try with_reducible rfl
   try walk_nrm
   first
    | (have _g := (f3 : (k == 3) = false)
       co_applyP bA 31 rfl (by kernel_rfl) (by kernel_rfl) (fun _ _ _ h=>h) hHeld (fun w hSw=>?_) ?_;rotate_left
       · (try dsimp only at hSw);go_simp;try with_reducible rfl
       clear _g)
    | co_applyP gD 31 rfl (by kernel_rfl) (by kernel_rfl) (fun _ _ _ h=>h) hHeld ?_
   try walk_nrm
   first
    | (have _g := (f3 : (k == 3) = false)
       co_applyP bA 32 rfl (by kernel_rfl) (by kernel_rfl) (fun _ _ _ h=>h) hHeld (fun w hSw=>?_) ?_;rotate_left
       · (try dsimp only at hSw);go_simp;try with_reducible rfl
       clear _g)
    | co_applyP gD 32 rfl (by kernel_rfl) (by kernel_rfl) (fun _ _ _ h=>h) hHeld ?_
   try walk_nrm
   first
    | (have _g := (f3 : (k == 3) = false)
       co_applyP bA 33 rfl (by kernel_rfl) (by kernel_rfl) (fun _ _ _ h=>h) hHeld (fun w hSw=>?_) ?_;rotate_left
       · (try dsimp only at hSw);go_simp;try with_reducible rfl
       clear _g)
    | co_applyP gD 33 rfl (by kernel_rfl) (by kernel_rfl) (fun _ _ _ h=>h) hHeld ?_
   try walk_nrm
   first
    | (have _g := (f3 : (k == 3) = false)
       co_applyP bA 34 rfl (by kernel_rfl) (by kernel_rfl) (fun _ _ _ h=>h) hHeld (fun w hSw=>?_) ?_;rotate_left
       · (try dsimp only at hSw);go_simp;try with_reducible rfl
       clear _g)
    | co_applyP gD 34 rfl (by kernel_rfl) (by kernel_rfl) (fun _ _ _ h=>h) hHeld ?_
   try walk_nrm
   co_applyP bA 35 rfl (by kernel_rfl) (by kernel_rfl) (fun _ _ _ h=>h) hHeld (fun w hSw=>?_) ?_;rotate_left
   · (try dsimp only at hSw);go_simp;try with_reducible rfl
   try walk_nrm
   refine iA 36 (by kernel_rfl) rfl fun K hK=>?_
   go_simp;go_at_call 48;refine(qG _ _).mono ?_;rintro e w36 ⟨b36,c36,rfl,hS36,hU36⟩;refine hK.out _ _ (sI hHeld hU36) (fun _=>?_);clear hK K hHeld;rename_i hHeld
   try walk_nrm
   co_applyP bA 39 rfl (by kernel_rfl) (by kernel_rfl) (fun _ _ _ h=>h) hHeld (fun w hSw=>?_) ?_;rotate_left
   · (try dsimp only at hSw);go_simp;try with_reducible rfl
   try walk_nrm
   first
    | (have _g := (f3 : (k == 3) = true)
       co_applyP bA 40 rfl (by kernel_rfl) (by kernel_rfl) (fun _ _ _ h=>h) hHeld (fun w hSw=>?_) ?_;rotate_left
       · (try dsimp only at hSw);go_simp;try with_reducible rfl
       clear _g)
    | co_applyP gD 40 rfl (by kernel_rfl) (by kernel_rfl) (fun _ _ _ h=>h) hHeld ?_
   try walk_nrm
   first
    | (have _g := (f3 : (k == 3) = true)
       co_applyP bA 41 rfl (by kernel_rfl) (by kernel_rfl) (fun _ _ _ h=>h) hHeld (fun w hSw=>?_) ?_;rotate_left
       · (try dsimp only at hSw);go_simp;try with_reducible rfl
       clear _g)
    | co_applyP gD 41 rfl (by kernel_rfl) (by kernel_rfl) (fun _ _ _ h=>h) hHeld ?_
   try walk_nrm
   first
    | (have _g := (f3 : (k == 3) = true)
       co_applyP bA 42 rfl (by kernel_rfl) (by kernel_rfl) (fun _ _ _ h=>h) hHeld (fun w hSw=>?_) ?_;rotate_left
       · (try dsimp only at hSw);go_simp;try with_reducible rfl
       clear _g)
    | co_applyP gD 42 rfl (by kernel_rfl) (by kernel_rfl) (fun _ _ _ h=>h) hHeld ?_
   try walk_nrm
   first
    | (have _g := (f3 : (k == 3) = true)
       co_applyP bA 43 rfl (by kernel_rfl) (by kernel_rfl) (fun _ _ _ h=>h) hHeld (fun w hSw=>?_) ?_;rotate_left
       · (try dsimp only at hSw);go_simp;try with_reducible rfl
       clear _g)
    | co_applyP gD 43 rfl (by kernel_rfl) (by kernel_rfl) (fun _ _ _ h=>h) hHeld ?_
   try walk_nrm
   co_applyP bA 44 rfl (by kernel_rfl) (by kernel_rfl) (fun _ _ _ h=>h) hHeld (fun w hSw=>?_) ?_;rotate_left
   · (try dsimp only at hSw);go_simp;try with_reducible rfl
   try walk_nrm
   refine iA 45 (by kernel_rfl) rfl fun K hK=>?_
   go_simp;go_at_call 48;refine(qG _ _).mono ?_;rintro e w45 ⟨b45,c45,rfl,hS45,hU45⟩;refine hK.out _ _ (sI hHeld hU45) (fun _=>?_);clear hK K hHeld;rename_i hHeld
   try walk_nrm
   co_applyP bA 49 rfl (by kernel_rfl) (by kernel_rfl) (fun _ _ _ h=>h) hHeld (fun w hSw=>?_) ?_;rotate_left
   · (try dsimp only at hSw);go_simp;try with_reducible rfl
   try walk_nrm
   first
    | (have _g := (f1 : (k == 1) = false)
       co_applyP bA 50 rfl (by kernel_rfl) (by kernel_rfl) (fun _ _ _ h=>h) hHeld (fun w hSw=>?_) ?_;rotate_left
       · (try dsimp only at hSw);go_simp;try with_reducible rfl
       clear _g)
    | co_applyP gD 50 rfl (by kernel_rfl) (by kernel_rfl) (fun _ _ _ h=>h) hHeld ?_
   try walk_nrm
   first
    | (have _g := (f1 : (k == 1) = false)
       co_applyP bA 51 rfl (by kernel_rfl) (by kernel_rfl) (fun _ _ _ h=>h) hHeld (fun w hSw=>?_) ?_;rotate_left
       · (try dsimp only at hSw);go_simp;try with_reducible rfl
       clear _g)
    | co_applyP gD 51 rfl (by kernel_rfl) (by kernel_rfl) (fun _ _ _ h=>h) hHeld ?_
   try walk_nrm
   first
    | (have _g := (f1 : (k == 1) = false)
       co_applyP bA 52 rfl (by kernel_rfl) (by kernel_rfl) (fun _ _ _ h=>h) hHeld (fun w hSw=>?_) ?_;rotate_left
       · (try dsimp only at hSw);go_simp;try with_reducible rfl
       clear _g)
    | co_applyP gD 52 rfl (by kernel_rfl) (by kernel_rfl) (fun _ _ _ h=>h) hHeld ?_
   try walk_nrm
   first
    | (have _g := (f1 : (k == 1) = false)
       co_applyP bA 53 rfl (by kernel_rfl) (by kernel_rfl) (fun _ _ _ h=>h) hHeld (fun w hSw=>?_) ?_;rotate_left
       · (try dsimp only at hSw);go_simp;try with_reducible rfl
       clear _g)
    | co_applyP gD 53 rfl (by kernel_rfl) (by kernel_rfl) (fun _ _ _ h=>h) hHeld ?_
   try walk_nrm
   co_applyP bA 54 rfl (by kernel_rfl) (by kernel_rfl) (fun _ _ _ h=>h) hHeld (fun w hSw=>?_) ?_;rotate_left
   · (try dsimp only at hSw);go_simp;try with_reducible rfl
   try walk_nrm
   refine iA 55 (by kernel_rfl) rfl fun K hK=>?_
   go_simp;go_at_call 48;refine(qG _ _).mono ?_;rintro e w55 ⟨b55,c55,rfl,hS55,hU55⟩;refine hK.out _ _ (sI hHeld hU55) (fun _=>?_);clear hK K hHeld;rename_i hHeld
   try walk_nrm
   refine iA 58 (by kernel_rfl) rfl fun K hK=>?_
   go_simp;go_at_call 48;refine(qG _ _).mono ?_;rintro e w58 ⟨b58,c58,rfl,hS58,hU58⟩;refine hK.out _ _ (sI hHeld hU58) (fun _=>?_);clear hK K hHeld;rename_i hHeld
   try walk_nrm
   refine iA 59 (by kernel_rfl) rfl fun K hK=>?_
   go_simp;refine hK.out _ _ (sI hHeld (aA (Under.refl _) _)) (fun _=>?_);clear hK K hHeld;rename_i hHeld
   try walk_nrm
   refine iA 60 (by kernel_rfl) rfl fun K hK=>?_
   go_simp;go_at_call 47;refine(rMA hS8 hU11 hU12 hS12 hU14 hS14 hU28 hS28 hU36 hS36 hU45 hS45 hU55 hS55 hU58 hS58).mono ?_;rintro e w60 ⟨rfl,hU60⟩;refine hK.out _ _ (sI hHeld hU60) (fun _=>?_);clear hK K hHeld;rename_i hHeld
   try walk_nrm
   co_applyP bA 61 rfl (by kernel_rfl) (by kernel_rfl) (fun _ _ _ h=>h) hHeld (fun w hSw=>?_) ?_;rotate_left
   · (try dsimp only at hSw);go_simp;try with_reducible rfl
   try walk_nrm
   refine wpAnyH_done (by kernel_rfl) ?_ _;refine NoPanic.normal ?_;refine⟨rfl,?_,hHeld.2.2.2.2.2.2.2⟩;rw[HD.out]
   first
    | simp only[f9,fg,f0,f1,f3,decide_true,decide_false,Bool.true_and,Bool.and_true,Bool.false_and,Bool.true_or,Bool.false_or,Bool.not_true,Bool.not_false]
    | simp only[fg,f0,f1,f3,decide_true,decide_false,Bool.true_and,Bool.and_true,Bool.false_and,Bool.true_or,Bool.false_or,Bool.not_true,Bool.not_false]
   exact⟨_,zB (F:=gZ _) (by rfl)⟩
end
def sZ(k l:Int):Bool:=(k==3&&(decide (1≤l)&&decide (l≤9)))||(!(k==3)&&(l==0))
def yH(d:Dc):Int:=kD [
  jC (decide (1≤d.kind)&&decide (d.kind≤3)) 1,
  jC (wK d.name) 20,
  kD ((nC d).map sD),
  jC (sZ d.kind d.level) 1,
  jC (d.kind==3||((d.cons.length:Int)==0)) 1,
  jC (!(d.kind==3)||((d.type.length:Int)==0)) 1,
  jC (d.kind==1||((d.body.length:Int)==0)) 1,
  jC (!(decide (6 < (d.cons.length:Int))||fJ d.cons)) 21]
section
variable {w0 : World} {d : Dc} {v : Value}
theorem jDA(hd:Small d)(hv:DcV w0 v d)(hS:ShapesAt 3 w0):Calls Tryz.prog 20 #[v] w0 fun x w=>x = .returned (.int .i64 (yH d))∧Under w0 w:=by
 have hv':=hv;obtain⟨vt,vb,vc,rfl,⟨pt,ct,rfl,g1⟩,⟨pb,cb,rfl,g2⟩,hc⟩:=hv;have hcon:=ConsV.mono _ _ _ _ (aA (Under.refl w0) (.cells #[.int .i64 d.kind,.int .i64 d.level,.string d.name,.slice pt d.type.length ct,.slice pb d.body.length cb,vc] 33)) hc;have HL:=Lib.hid (wKA d.cons hd.cons hcon);obtain⟨pc,cc,us,rfl,g3⟩:=hc;have hU:=aA (Under.refl w0) (.cells #[.int .i64 d.kind,.int .i64 d.level,.string d.name,.slice pt d.type.length ct,.slice pb d.body.length cb,.slice pc d.cons.length cc] 33);have HV:=Lib.hid hv';have HS:=Lib.hid hS;have HD:=Lib.hid hd;have HU:=Lib.hid hU;have hE:yH d=kD [
 jC (decide (1≤d.kind)&&decide (d.kind≤3)) 1,
 jC (wK d.name) 20,
 kD ((nC d).map sD),
 jC (sZ d.kind d.level) 1,
 jC (d.kind==3||((d.cons.length:Int)==0)) 1,
 jC (!(d.kind==3)||((d.type.length:Int)==0)) 1,
 jC (d.kind==1||((d.body.length:Int)==0)) 1,
 jC (!(decide (6 < (d.cons.length:Int))||fJ d.cons)) 21]:=rfl
 have HE:=Lib.hid hE;have HC:=Lib.hid (fun w (h:Under w0 w)=>fNA (w0:=w) hd (DcV.mono _ _ _ _ h hv') (hS.under h));have HN:=Lib.hid (fun w=>nEA (w0:=w) d.name hd.name);clear hd hv' hS hU hcon hE HV HS HD g1 g2 g3 us;generalize fJ d.cons=lg at *;generalize kD ((nC d).map sD)=ce at *;generalize wK d.name=nm at *;generalize d.type.length=nt at *;generalize d.body.length=nb at *;generalize d.cons.length=nc at *;generalize d.name=s at *;generalize d.level=l at *;generalize d.kind=k at *;generalize yH d=de at *;by_cases hl:1≤l
 · by_cases hl2 : l ≤ 9
   · have HV : RowKit.Hid ((decide (1 ≤ l) && decide (l ≤ 9)) = true) := Lib.hid (by simp [hl, hl2]); by_cases hn : 6 < (nc : Int)
     · have HDn:RowKit.Hid (decide (6 < (nc:Int))=true):=Lib.hid (by simpa using hn);go_enter Tryz.func20,Tryz.ntmps20;go_wp2_with fail;rename_i Q' K hK;refine wp_mono (lX (de:=de) (b4:=true) (b5:=true) HC HN (Lib.hid (by rw[HE.out,sZ,HV.out,HDn.out];first | rfl | simp)) ⟨(qA w0 _ _).cell 0,(qA w0 _ _).cell 1,(qA w0 _ _).cell 2,(qA w0 _ _).cell 3,(qA w0 _ _).cell 4,(qA w0 _ _).cell 5,by simp,HU.out⟩ _ ⟨_,zB (F:=hIA w0.heap.size (k==3) true true) (by rfl)⟩) ?_;rintro e a' w' ⟨rfl,⟨J,rfl⟩,hU'⟩;have HU':=Lib.hid hU';clear hU';simp only[Exit.then];refine hK _ _ ?_;unfold gZ;go_wp2;go_ret;exact⟨rfl,HU'.out⟩
     · have HDn:RowKit.Hid (decide (6 < (nc:Int))=false):=Lib.hid (by simpa using hn);go_enter Tryz.func20,Tryz.ntmps20;go_wp2_with fail;refine HL.out.mono ?_;rintro e w1 ⟨rfl,rfl⟩;go_wp2_with fail;rename_i Q' K hK;refine wp_mono (lX (de:=de) (b4:=true) (b5:=lg) HC HN (Lib.hid (by rw[HE.out,sZ,HV.out,HDn.out];first | rfl | simp)) ⟨(qA w0 _ _).cell 0,(qA w0 _ _).cell 1,(qA w0 _ _).cell 2,(qA w0 _ _).cell 3,(qA w0 _ _).cell 4,(qA w0 _ _).cell 5,by simp,HU.out⟩ _ ⟨_,zB (F:=hIA w0.heap.size (k==3) true lg) (by rfl)⟩) ?_;rintro e a' w' ⟨rfl,⟨J,rfl⟩,hU'⟩;have HU':=Lib.hid hU';clear hU';simp only[Exit.then];refine hK _ _ ?_;unfold gZ;go_wp2;go_ret;exact⟨rfl,HU'.out⟩
   · have HV : RowKit.Hid ((decide (1 ≤ l) && decide (l ≤ 9)) = false) := Lib.hid (by simp; omega); by_cases hn : 6 < (nc : Int)
     · have HDn:RowKit.Hid (decide (6 < (nc:Int))=true):=Lib.hid (by simpa using hn);go_enter Tryz.func20,Tryz.ntmps20;go_wp2_with fail;rename_i Q' K hK;refine wp_mono (lX (de:=de) (b4:=false) (b5:=true) HC HN (Lib.hid (by rw[HE.out,sZ,HV.out,HDn.out];first | rfl | simp)) ⟨(qA w0 _ _).cell 0,(qA w0 _ _).cell 1,(qA w0 _ _).cell 2,(qA w0 _ _).cell 3,(qA w0 _ _).cell 4,(qA w0 _ _).cell 5,by simp,HU.out⟩ _ ⟨_,zB (F:=hIA w0.heap.size (k==3) false true) (by rfl)⟩) ?_;rintro e a' w' ⟨rfl,⟨J,rfl⟩,hU'⟩;have HU':=Lib.hid hU';clear hU';simp only[Exit.then];refine hK _ _ ?_;unfold gZ;go_wp2;go_ret;exact⟨rfl,HU'.out⟩
     · have HDn:RowKit.Hid (decide (6 < (nc:Int))=false):=Lib.hid (by simpa using hn);go_enter Tryz.func20,Tryz.ntmps20;go_wp2_with fail;refine HL.out.mono ?_;rintro e w1 ⟨rfl,rfl⟩;go_wp2_with fail;rename_i Q' K hK;refine wp_mono (lX (de:=de) (b4:=false) (b5:=lg) HC HN (Lib.hid (by rw[HE.out,sZ,HV.out,HDn.out];first | rfl | simp)) ⟨(qA w0 _ _).cell 0,(qA w0 _ _).cell 1,(qA w0 _ _).cell 2,(qA w0 _ _).cell 3,(qA w0 _ _).cell 4,(qA w0 _ _).cell 5,by simp,HU.out⟩ _ ⟨_,zB (F:=hIA w0.heap.size (k==3) false lg) (by rfl)⟩) ?_;rintro e a' w' ⟨rfl,⟨J,rfl⟩,hU'⟩;have HU':=Lib.hid hU';clear hU';simp only[Exit.then];refine hK _ _ ?_;unfold gZ;go_wp2;go_ret;exact⟨rfl,HU'.out⟩
 · have HV : RowKit.Hid ((decide (1 ≤ l) && decide (l ≤ 9)) = false) := Lib.hid (by simp; omega); by_cases hn : 6 < (nc : Int)
   · have HDn:RowKit.Hid (decide (6 < (nc:Int))=true):=Lib.hid (by simpa using hn);go_enter Tryz.func20,Tryz.ntmps20;go_wp2_with fail;rename_i Q' K hK;refine wp_mono (lX (de:=de) (b4:=false) (b5:=true) HC HN (Lib.hid (by rw[HE.out,sZ,HV.out,HDn.out];first | rfl | simp)) ⟨(qA w0 _ _).cell 0,(qA w0 _ _).cell 1,(qA w0 _ _).cell 2,(qA w0 _ _).cell 3,(qA w0 _ _).cell 4,(qA w0 _ _).cell 5,by simp,HU.out⟩ _ ⟨_,zB (F:=hIA w0.heap.size (k==3) false true) (by rfl)⟩) ?_;rintro e a' w' ⟨rfl,⟨J,rfl⟩,hU'⟩;have HU':=Lib.hid hU';clear hU';simp only[Exit.then];refine hK _ _ ?_;unfold gZ;go_wp2;go_ret;exact⟨rfl,HU'.out⟩
   · have HDn:RowKit.Hid (decide (6 < (nc:Int))=false):=Lib.hid (by simpa using hn);go_enter Tryz.func20,Tryz.ntmps20;go_wp2_with fail;refine HL.out.mono ?_;rintro e w1 ⟨rfl,rfl⟩;go_wp2_with fail;rename_i Q' K hK;refine wp_mono (lX (de:=de) (b4:=false) (b5:=lg) HC HN (Lib.hid (by rw[HE.out,sZ,HV.out,HDn.out];first | rfl | simp)) ⟨(qA w0 _ _).cell 0,(qA w0 _ _).cell 1,(qA w0 _ _).cell 2,(qA w0 _ _).cell 3,(qA w0 _ _).cell 4,(qA w0 _ _).cell 5,by simp,HU.out⟩ _ ⟨_,zB (F:=hIA w0.heap.size (k==3) false lg) (by rfl)⟩) ?_;rintro e a' w' ⟨rfl,⟨J,rfl⟩,hU'⟩;have HU':=Lib.hid hU';clear hU';simp only[Exit.then];refine hK _ _ ?_;unfold gZ;go_wp2;go_ret;exact⟨rfl,HU'.out⟩
end
def iJ(l:List Dc)(d:Dc):Int:=if yH d≠0 then yH d else if(lD d.name l).isSome=true then 4 else if 40≤l.length then 21 else if(bG l d).isSome=true then 80 else 0
def wN(l:List Dc)(d:Dc):List Dc:=if iJ l d=0 then l++[d] else []
structure Fine (d:Dc):Prop where
 small:Small d
 lite:Lite d
 few:d.cons.length≤5864062014634∧d.cons.flatten.length≤5864062015658
 many:(nC d).length≤5864062015658
def qHA(w0:World)(l:List Dc)(d:Dc)(e:Ending)(w:World):Prop:=∃ q c,e = .returned (.tuple #[.slice q (wN l d).length c,.int .i64 (iJ l d)])∧(wN l d).length≤c∧(q=none→c=0)∧RowsV 6 DcRow w q (wN l d)∧Under w0 w
theorem kM{w0 w:World}{l:List Dc}{d:Dc}{r:Int}(h:iJ l d=r)(hr:r≠0)(hU:Under w0 w):qHA w0 l d (.returned (.tuple #[.slice none 0 0,.int .i64 r])) w:=by
 subst h;have:wN l d=[]:=if_neg hr;exact⟨none,0,by rw[this];rfl,by rw[this];exact Nat.le_refl _,fun _=>rfl,by rw[this];exact RowsV.nil,hU⟩
theorem sEA{w0 w:World}{l:List Dc}{d:Dc}{q:Option Addr}{n c:Nat}(h:iJ l d=0)(hn:n=(l++[d]).length)(hc:n≤c)(hq:q=none→c=0)(hr:RowsV 6 DcRow w q (l++[d]))(hU:Under w0 w):qHA w0 l d (.returned (.tuple #[.slice q n c,.int .i64 0])) w:=by
 have:wN l d=l++[d]:=if_pos h;subst hn;exact⟨q,c,by rw[this,h],by rw[this];exact hc,hq,by rw[this];exact hr,hU⟩
theorem BOut.empty{w0 w:World}{b:Bool}(a:Nat)(h:Under w0 w):BOut w0 [] b (.returned (.tuple #[.slice (some ⟨a,0,none⟩) 0 0,.bool b])) w:=⟨_,_,rfl,Nat.le_refl _,RowArg.nil,h⟩
section
variable {w0 : World}
theorem rZA(k n m:Int)(s:ByteArray)(h:k=10∨k=11∨k=14∨k=16∨k=17∨k=29):Calls Tryz.prog 142 #[ndV ⟨k,n,m,s⟩] w0 (BOut w0 [] (gQ ⟨k,n,m,s⟩)):=by
 have HPl:=Lib.hid (fun w=>qFA (w0:=w) ⟨k,n,m,s⟩);generalize gQ ⟨k,n,m,s⟩=pb at *;unfold ndV at *;simp only at HPl ⊢;rcases h with rfl | rfl | rfl | rfl | rfl | rfl
 all_goals
  go_enter Tryz.func142,Tryz.ntmps142;go_wp2_with fail;refine(HPl.out _).mono ?_;rintro e w3 ⟨rfl,rfl⟩;go_wp2;go_ret2;exact BOut.empty _ (aA (aA (aA (Under.refl _) _) _) _)
theorem tUA(k n m:Int)(s:ByteArray)(h:k=1∨k=25):Calls Tryz.prog 142 #[ndV ⟨k,n,m,s⟩] w0 (BOut w0 [] ((n==0)&&(m==0)&&rD s)):=by
 have HNm:=Lib.hid (fun w=>wL (w0:=w) s);generalize rD s=nb at *;unfold ndV;rcases h with rfl | rfl<;>cases h1:(n==0)<;>cases h2:(m==0)
 all_goals
  go_enter Tryz.func142,Tryz.ntmps142
  first
   | (go_wp2_with fail
      refine(HNm.out _).mono ?_;rintro e w3 ⟨rfl,rfl⟩;go_wp2;go_ret2;exact BOut.empty _ (aA (aA (Under.refl _) _) _))
   | (go_wp2
      go_ret2;exact BOut.empty _ (aA (aA (Under.refl _) _) _))
end
end Go.Proofs.YtggjbblgoddnjaaGreatDoor
