/- Part 43 of what the proof rests on. -/
import Derived.Laws.ResultCell
import Derived.Laws.EntriesVeiled
import Derived.Test.YtggjbblgoddnjaaGreatDoorM14
import Derived.Test.YtggjbblgoddnjaaGreatDoorM15
import Derived.Test.YtggjbblgoddnjaaGreatDoorM22
import Derived.Test.YtggjbblgoddnjaaGreatDoorM24
import Derived.Test.YtggjbblgoddnjaaGreatDoorM31
import Derived.Test.YtggjbblgoddnjaaGreatDoorM32
import Derived.Test.YtggjbblgoddnjaaGreatDoorM42
set_option linter.unusedSimpArgs false
set_option linter.unusedVariables false
set_option maxRecDepth 100000
set_option maxHeartbeats 2000000
namespace Go.Proofs.YtggjbblgoddnjaaGreatDoor
open Go.Lx Go.RowKit
def sLA(rb fb db b off pc:Nat)(p:Int)(J:Nat→Value):Array Value:=#[.pointer (some ⟨rb,0,none⟩),J 1,J 2,J 3,J 4,J 5,J 6,.int .i64 p,.slice (some ⟨b,off,none⟩) 3 pc,J 9,.pointer (some ⟨fb,0,none⟩),.pointer (some ⟨db,0,none⟩),J 12,.bool false,J 14,J 15,J 16,J 17,J 18,J 19,J 20,J 21,J 22,J 23,J 24,J 25,J 26,J 27,J 28,J 29,J 30,J 31,J 32,J 33,J 34,J 35,J 36,J 37,J 38,J 39,J 40,J 41,J 42,J 43,J 44,J 45,J 46,J 47,J 48,J 49,J 50,J 51,J 52,J 53,J 54,J 55,J 56,J 57,J 58,J 59,J 60,J 61,J 62,J 63,J 64,J 65,J 66,J 67,J 68,J 69,J 70,J 71,J 72,J 73,J 74,J 75,J 76,J 77,J 78,J 79,J 80,J 81,J 82,J 83,J 84,J 85,J 86,J 87,J 88,J 89,J 90,J 91,J 92,J 93,J 94,J 95,J 96,J 97,J 98,J 99,J 100,J 101,J 102,J 103,J 104,J 105,J 106,J 107,J 108,J 109,J 110,J 111,J 112,J 113,J 114,J 115,J 116,J 117,J 118,J 119,J 120,J 121,J 122,J 123,J 124,J 125,J 126,J 127,J 128,J 129,J 130,J 131,J 132]
def g0A(rb:Nat)(J:Nat→Value):Array Value:=#[.pointer (some ⟨rb,0,none⟩),J 1,J 2,J 3,J 4,J 5,J 6,J 7,J 8,J 9,J 10,J 11,J 12,J 13,J 14,J 15,J 16,J 17,J 18,J 19,J 20,J 21,J 22,J 23,J 24,J 25,J 26,J 27,J 28,J 29,J 30,J 31,J 32,J 33,J 34,J 35,J 36,J 37,J 38,J 39,J 40,J 41,J 42,J 43,J 44,J 45,J 46,J 47,J 48,J 49,J 50,J 51,J 52,J 53,J 54,J 55,J 56,J 57,J 58,J 59,J 60,J 61,J 62,J 63,J 64,J 65,J 66,J 67,J 68,J 69,J 70,J 71,J 72,J 73,J 74,J 75,J 76,J 77,J 78,J 79,J 80,J 81,J 82,J 83,J 84,J 85,J 86,J 87,J 88,J 89,J 90,J 91,J 92,J 93,J 94,J 95,J 96,J 97,J 98,J 99,J 100,J 101,J 102,J 103,J 104,J 105,J 106,J 107,J 108,J 109,J 110,J 111,J 112,J 113,J 114,J 115,J 116,J 117,J 118,J 119,J 120,J 121,J 122,J 123,J 124,J 125,J 126,J 127,J 128,J 129,J 130,J 131,J 132]
noncomputable def dtPush:Code:=xA (jA (jA (jA (jA (jA (jA (jA (jA (jA (Tryz.f36.body.getD .skip))))))))))
def DvQ(w9:World)(rb:Nat)(e:Exit)(a':Act)(w':World):Prop:=e = .normal∧(∃ J,a'=⟨g0A rb J,[]⟩)∧∃ g c wm,Under w9 wm∧w9.heap.size≤g∧wm.cell? ⟨g,0,none⟩=some (.int .i64 2)∧w'=wm.setCell ⟨rb,0,none⟩ (.slice (some ⟨g,0,none⟩) 1 c)
section
variable {w9 : World}
theorem q0A{rb fb db b off pc nu cu:Nat}{p:Int}{pu:Option Addr}(hr:BoxAt w9 rb 88 #[.slice none 0 0,.int .i64 0,.int .i64 0])(hd:BoxAt w9 db 33 #[.int .i64 2,.int .i64 0,.string ⟨#[97]⟩,.slice pu nu cu,.slice none 0 0,.slice none 0 0])(hne:rb≠db)(J:Nat→Value) :
 dtPush.wp Tryz.prog (DvQ w9 rb) ⟨sLA rb fb db b off pc p J,[]⟩ w9:=by
 obtain ⟨j0, hj, hy0, hy1, hy2⟩ := info_parts Tryz.infoDeclP; have HR := Lib.hid hr; have HS := Lib.hid (fun w (h : Under w9 w) => (show w.cell? ⟨db, 0, none⟩ = some (.int .i64 2) ∧ w.cell? ⟨db, 1, none⟩ = some (.int .i64 0) ∧ w.cell? ⟨db, 2, none⟩ = some (.string ⟨#[97]⟩) ∧ w.cell? ⟨db, 3, none⟩ = some (.slice pu nu cu) ∧ w.cell? ⟨db, 4, none⟩ = some (.slice none 0 0) ∧ w.cell? ⟨db, 5, none⟩ = some (.slice none 0 0) from ⟨(hd.under h).cell 0, (hd.under h).cell 1, (hd.under h).cell 2, (hd.under h).cell 3, (hd.under h).cell 4, (hd.under h).cell 5⟩)); have HSo := Lib.hid (fun w u (h : Under w9 w) => (show (w.setCell ⟨rb, 0, none⟩ u).cell? ⟨db, 0, none⟩ = some (.int .i64 2) ∧ (w.setCell ⟨rb, 0, none⟩ u).cell? ⟨db, 1, none⟩ = some (.int .i64 0) ∧ (w.setCell ⟨rb, 0, none⟩ u).cell? ⟨db, 2, none⟩ = some (.string ⟨#[97]⟩) ∧ (w.setCell ⟨rb, 0, none⟩ u).cell? ⟨db, 3, none⟩ = some (.slice pu nu cu) ∧ (w.setCell ⟨rb, 0, none⟩ u).cell? ⟨db, 4, none⟩ = some (.slice none 0 0) ∧ (w.setCell ⟨rb, 0, none⟩ u).cell? ⟨db, 5, none⟩ = some (.slice none 0 0) from by
   have k:=(hd.under h).other (g:=rb) (fun e=>hne e.symm) 0 u;exact⟨k.cell 0,k.cell 1,k.cell 2,k.cell 3,k.cell 4,k.cell 5⟩))
 have hS0:=HS.out w9 (Under.refl _);clear hr hd hne;unfold dtPush;simp only[Tryz.f36,Option.getD_some,xA,jA];unfold sLA;refine wp_region_noPanic ?_;refine wp_region_held_drew (S:=fun w=>w.cell? ⟨db,0,none⟩=some (.int .i64 2)∧w.cell? ⟨db,1,none⟩=some (.int .i64 0)∧w.cell? ⟨db,2,none⟩=some (.string ⟨#[97]⟩)∧w.cell? ⟨db,3,none⟩=some (.slice pu nu cu)∧w.cell? ⟨db,4,none⟩=some (.slice none 0 0)∧w.cell? ⟨db,5,none⟩=some (.slice none 0 0)) (by kernel_rfl) hS0 (fun hHeld=>?_);co_applyP bA 0 rfl (by kernel_rfl) (by kernel_rfl) (fun _ _ _ h=>h) hHeld (fun w hSw=>?_) ?_;rotate_left
 · (try dsimp only at hSw);go_simp;try with_reducible rfl
 try walk_nrm
 co_applyP bA 1 rfl (by kernel_rfl) (by kernel_rfl) (fun _ _ _ h=>h) hHeld (fun w hSw=>?_) ?_;rotate_left
 · (try dsimp only at hSw);go_simp;try with_reducible rfl
 try walk_nrm
 co_applyP bA 2 rfl (by kernel_rfl) (by kernel_rfl) (fun _ _ _ h=>h) hHeld (fun w hSw=>?_) ?_;rotate_left
 · (try dsimp only at hSw);go_simp;try with_reducible rfl
 try walk_nrm
 co_applyP bA 3 rfl (by kernel_rfl) (by kernel_rfl) (fun _ _ _ h=>h) hHeld (fun w hSw=>?_) ?_;rotate_left
 · (try dsimp only at hSw);go_simp;try with_reducible rfl
 try walk_nrm
 co_applyP bA 5 rfl (by kernel_rfl) (by kernel_rfl) (fun _ _ _ h=>h) hHeld (fun w hSw=>?_) ?_;rotate_left
 · (try dsimp only at hSw);go_simp;try with_reducible rfl
 try walk_nrm
 refine bH 4 6 (by kernel_rfl) rfl rfl (fun K hK=>?_) (fun K hK=>?_)
 · have r0 : (w9.drew).cell? ⟨rb, 0, none⟩ = some (.slice none 0 0) := HR.out.cell 0; go_simp; refine hK.out _ _ hHeld (fun _ => ?_); clear hK K hHeld; rename_i hHeld
   try walk_nrm
   refine iA 6 (by kernel_rfl) rfl fun K hK=>?_
   go_simp;have HUb:=Lib.hid (fA (aA (Under.refl w9) (.cells #[.int .i64 2,.int .i64 0,.string ⟨#[97]⟩,.slice pu nu cu,.slice none 0 0,.slice none 0 0] 33)));refine hK.out _ _ (HS.out _ HUb.out) (fun _=>?_);clear hK K hHeld;rename_i hHeld
   try walk_nrm
   refine iA 7 (by kernel_rfl) rfl fun K hK=>?_
   refine step_append_lies _ (by rfl) _ _ _ (by rfl) w9.heap.size 33 j0 _ 6 104 Tryz.underlying22 hj hy0 hy1 hy2 rfl (by omega) (.slice none 0 0) 0 [] (by rfl) (kX _ _ _ _)
     ⟨w9.heap.size,0,none⟩ 1 1 [.int .i64 2,.int .i64 0,.string ⟨#[97]⟩,.slice pu nu cu,.slice none 0 0,.slice none 0 0] (by rfl) (by rfl) (World.news_of_block (cs:=#[.int .i64 2,.int .i64 0,.string ⟨#[97]⟩,.slice pu nu cu,.slice none 0 0,.slice none 0 0]) (t:=33) (fr:=(0,0)) (heap_alloc_new _ _)) (by simp[Value.oneCell'])
     (by omega) (by decide) (by decide) (by simp) (w9.heap.size+1) (by simp) ?_
   intro gg cc w5 hown hgrow hat hlt;have HU5:=Lib.hid (rA HUb.out hgrow fun g e=>by cases e);have HG:=Lib.hid (And.intro (vB hown rfl).1 (yD (j:=0) hown rfl rfl));clear hown hgrow hat hlt;refine hK.out _ _ (HS.out _ HU5.out) (fun _=>?_);clear hK K hHeld;rename_i hHeld
   try walk_nrm
   co_applyP bA 8 rfl (by kernel_rfl) (by kernel_rfl) (fun _ _ _ h=>h) hHeld (fun w hSw=>?_) ?_;rotate_left
   · (try dsimp only at hSw);go_simp;try with_reducible rfl
   try walk_nrm
   co_applyP bA 9 rfl (by kernel_rfl) (by kernel_rfl) (fun _ _ _ h=>h) hHeld (fun w hSw=>?_) ?_;rotate_left
   · (try dsimp only at hSw);go_simp;try with_reducible rfl
   try walk_nrm
   have HRb:=Lib.hid (HR.out.under HU5.out);have y1:=HRb.out.lt;have y2:=HRb.out.free 0;have y3:=HRb.out.cell 0;refine iA 10 (by kernel_rfl) rfl fun K hK=>?_
   go_simp;refine hK.out _ _ (HSo.out _ _ HU5.out) (fun _=>?_);clear hK K hHeld;rename_i hHeld
   try walk_nrm
   refine wpAnyH_done (by kernel_rfl) ?_ _;refine NoPanic.normal ?_;exact⟨rfl,⟨_,zB (F:=g0A rb) (by rfl)⟩,gg,cc,w5,HU5.out,HG.out.1,HG.out.2,rfl⟩
 · go_simp; have HUb := Lib.hid (fA (aA (Under.refl w9) (.cells #[.int .i64 2, .int .i64 0, .string ⟨#[97]⟩, .slice pu nu cu, .slice none 0 0, .slice none 0 0] 33))); refine hK.out _ _ (HS.out _ HUb.out) (fun _ => ?_); clear hK K hHeld; rename_i hHeld
   try walk_nrm
   have r0:((w9.alloc (.cells #[.int .i64 2,.int .i64 0,.string ⟨#[97]⟩,.slice pu nu cu,.slice none 0 0,.slice none 0 0] 33)).drew).cell? ⟨rb,0,none⟩=some (.slice none 0 0):=(HR.out.under HUb.out).cell 0;refine iA 4 (by kernel_rfl) rfl fun K hK=>?_
   go_simp;refine hK.out _ _ (HS.out _ HUb.out) (fun _=>?_);clear hK K hHeld;rename_i hHeld
   try walk_nrm
   refine iA 7 (by kernel_rfl) rfl fun K hK=>?_
   refine step_append_lies _ (by rfl) _ _ _ (by rfl) w9.heap.size 33 j0 _ 6 104 Tryz.underlying22 hj hy0 hy1 hy2 rfl (by omega) (.slice none 0 0) 0 [] (by rfl) (kX _ _ _ _)
     ⟨w9.heap.size,0,none⟩ 1 1 [.int .i64 2,.int .i64 0,.string ⟨#[97]⟩,.slice pu nu cu,.slice none 0 0,.slice none 0 0] (by rfl) (by rfl) (World.news_of_block (cs:=#[.int .i64 2,.int .i64 0,.string ⟨#[97]⟩,.slice pu nu cu,.slice none 0 0,.slice none 0 0]) (t:=33) (fr:=(0,0)) (heap_alloc_new _ _)) (by simp[Value.oneCell'])
     (by omega) (by decide) (by decide) (by simp) (w9.heap.size+1) (by simp) ?_
   intro gg cc w5 hown hgrow hat hlt;have HU5:=Lib.hid (rA HUb.out hgrow fun g e=>by cases e);have HG:=Lib.hid (And.intro (vB hown rfl).1 (yD (j:=0) hown rfl rfl));clear hown hgrow hat hlt;refine hK.out _ _ (HS.out _ HU5.out) (fun _=>?_);clear hK K hHeld;rename_i hHeld
   try walk_nrm
   co_applyP bA 8 rfl (by kernel_rfl) (by kernel_rfl) (fun _ _ _ h=>h) hHeld (fun w hSw=>?_) ?_;rotate_left
   · (try dsimp only at hSw);go_simp;try with_reducible rfl
   try walk_nrm
   co_applyP bA 9 rfl (by kernel_rfl) (by kernel_rfl) (fun _ _ _ h=>h) hHeld (fun w hSw=>?_) ?_;rotate_left
   · (try dsimp only at hSw);go_simp;try with_reducible rfl
   try walk_nrm
   have HRb:=Lib.hid (HR.out.under HU5.out);have y1:=HRb.out.lt;have y2:=HRb.out.free 0;have y3:=HRb.out.cell 0;refine iA 10 (by kernel_rfl) rfl fun K hK=>?_
   go_simp;refine hK.out _ _ (HSo.out _ _ HU5.out) (fun _=>?_);clear hK K hHeld;rename_i hHeld
   try walk_nrm
   refine wpAnyH_done (by kernel_rfl) ?_ _;refine NoPanic.normal ?_;exact⟨rfl,⟨_,zB (F:=g0A rb) (by rfl)⟩,gg,cc,w5,HU5.out,HG.out.1,HG.out.2,rfl⟩
end
def qAA(k n:Int)(f:Nat):Value:=.agg #[.int .i64 k,.int .i64 n,.func (.func f) #[] #[]]
def vGA:xG:=[(⟨#[100,101,102]⟩,qAA 1 4 71),(⟨#[97,120,105,111,109]⟩,qAA 2 3 73),(⟨#[105,110,100,117,99,116,105,118,101]⟩,qAA 3 3 74)]
section
variable {w0 : World}
theorem zNA:Calls Tryz.prog 37 #[] w0 fun e w=>e = .returned (.map (some w0.heap.size))∧MapAt w w0.heap.size vGA∧Under w0 w:=by
 have hmm:=@run_makeMap Tryz.prog;have hM:=eHA w0;have hU:=aA (Under.refl w0) (.map #[] 0);go_enter Tryz.func37,Tryz.ntmps37;go_wp2_with (refine vH rfl _ _ _ (.inl rfl) Tryz.underlying90 Tryz.underlying9 rfl hM rfl rfl ?_;intro w1 hM1 hT1;replace hU:=hT1.under hU (Nat.le_refl _);replace hM:=hM1;clear hM1 hT1);go_ret;exact⟨rfl,hM,hU⟩
end
section
variable {w0 : World}
theorem wY(T:ST){q:Option Addr}{cap:Nat}(hn:(xB T).length≤1000000)(hq:SxArg w0 q (xB T)):Calls Tryz.prog 68 #[.slice q (xB T).length cap] w0 fun e w=>e = .returned (sxV T.last)∧Under w0 w:=by
 obtain⟨init,hi⟩:=dV T;obtain⟨b,off,rfl,hb,ht⟩:=hq (by rw[hi];simp);obtain⟨c0,c1,c2⟩:=ht init.length T.last (by rw[hi];simp);have hl:(xB T).length=init.length+1:=by rw[hi];simp
 rw[hl]at hn ⊢;generalize T.last=x at *;generalize init.length=m at *;have hmi:((m:Int)+1 - 1)=(m:Int):=by omega
 have hm1:(m:Int)≤1000000:=by omega
 have hm0:(0:Int)≤(m:Int):=by omega
 clear hi ht hl hn;go_enter Tryz.func68,Tryz.ntmps68;go_wp2;refine bodyPost_ret (v:=sxV x) ?_ rfl ⟨rfl,aA (Under.refl _) _⟩;simp[results,Tryz.f68,go_sem,sxV]
end
def dI(p p1 p2 p3:Int):ST:=.list p [.word p1 ⟨#[97,120,105,111,109]⟩,.word p2 ⟨#[97]⟩,xK p3]
theorem y1A(w:World):(zeroValue 131).run Tryz.prog w = .ok (.agg #[.int .i64 0,.int .i64 0,.nilFunc]) w:=by kernel_rfl
def a0A(rb fb db b off pc:Nat)(p:Int)(J:Nat→Value):Array Value:=#[.pointer (some ⟨rb,0,none⟩),J 1,J 2,J 3,J 4,J 5,J 6,.int .i64 p,.slice (some ⟨b,off,none⟩) 3 pc,J 9,.pointer (some ⟨fb,0,none⟩),.pointer (some ⟨db,0,none⟩),J 12,J 13,J 14,J 15,J 16,J 17,J 18,J 19,J 20,J 21,J 22,J 23,J 24,J 25,J 26,J 27,J 28,J 29,J 30,J 31,J 32,J 33,J 34,J 35,J 36,J 37,J 38,J 39,J 40,J 41,J 42,J 43,J 44,J 45,J 46,J 47,J 48,J 49,J 50,J 51,J 52,J 53,J 54,J 55,J 56,J 57,J 58,J 59,J 60,J 61,J 62,J 63,J 64,J 65,J 66,J 67,J 68,J 69,J 70,J 71,J 72,J 73,J 74,J 75,J 76,J 77,J 78,J 79,J 80,J 81,J 82,J 83,J 84,J 85,J 86,J 87,J 88,J 89,J 90,J 91,J 92,J 93,J 94,J 95,J 96,J 97,J 98,J 99,J 100,J 101,J 102,J 103,J 104,J 105,J 106,J 107,J 108,J 109,J 110,J 111,J 112,J 113,J 114,J 115,J 116,J 117,J 118,J 119,J 120,J 121,J 122,J 123,J 124,J 125,J 126,J 127,J 128,J 129,J 130,J 131,J 132]
def o3A:Array Value:=#[.int .i64 2,.int .i64 0,.string ⟨#[97]⟩,.slice none 0 0,.slice none 0 0,.slice none 0 0]
def DtQ(w4:World)(rb fb b off pc:Nat)(p:Int)(e:Exit)(a':Act)(w':World):Prop:=e = .normal∧∃ db,(∃ J,a'=⟨a0A rb fb db b off pc p J,[]⟩)∧BoxAt w' db 33 o3A∧Under w4 w'∧w4.heap.size≤db
def DuQ(w4:World)(rb fb db b off pc:Nat)(p:Int)(e:Exit)(a':Act)(w':World):Prop:=e = .normal∧(∃ J,a'=⟨sLA rb fb db b off pc p J,[]⟩)∧Under w4 w'
section
variable {w0 : World}
theorem wOA{rb mb cap:Nat}{p p1 p2 p3:Int}{q:Option Addr}(hr:BoxAt w0 rb 88 #[.slice none 0 0,.int .i64 0,.int .i64 0])(hm:MapAt w0 mb vGA)(hcap:4≤cap)(hq:SxArg w0 q (xB (dI p p1 p2 p3)))(hE:StrcAt w0)(hS:ShapesAt 3 w0) :
 Calls Tryz.prog 36 #[.pointer (some ⟨rb,0,none⟩),.map (some mb),.slice q 4 cap] w0 fun e w=>e = .returned (.bool true)∧∃ g c wm,Under w0 wm∧g≠rb∧w0.heap.size≤g∧wm.cell? ⟨g,0,none⟩=some (.int .i64 2)∧w=wm.setCell ⟨rb,0,none⟩ (.slice (some ⟨g,0,none⟩) 1 c):=by
 have hf:(xB (dI p p1 p2 p3)).length=4:=rfl;have HL:=Lib.hid (wY (w0:=w0) (cap:=cap) (dI p p1 p2 p3) (q:=q) (by rw[hf];omega) hq);rw[hf,show(dI p p1 p2 p3).last=⟨3,p,⟨#[]⟩⟩ from rfl]at HL;have HP:=Lib.hid (fun w (h:Under w0 w)=>aSA (w0:=w) (cap:=cap) (xB (dI p p1 p2 p3)) (p:=q) (by rw[hf];omega) hcap (hq.under h));have hpl:mK (xB (dI p p1 p2 p3))=some [xB (.word p1 ⟨#[97,120,105,111,109]⟩),xB (.word p2 ⟨#[97]⟩),xB (xK p3)]:=hNA (by simp only[gHA,okS,xK];decide);rw[hf,hpl]at HP;clear hf hpl hq;have HF1:=fun(a b:Int) (s:ByteArray) (w:World)=>(show(Instr.field 28 (.agg #[.int .i64 a,.int .i64 b,.string s]) 1).run Tryz.prog w = .ok (.int .i64 b) w by kernel_rfl)
 have HF2:=fun(a b:Int) (s:ByteArray) (w:World)=>(show(Instr.field 28 (.agg #[.int .i64 a,.int .i64 b,.string s]) 2).run Tryz.prog w = .ok (.string s) w by kernel_rfl)
 have HR:=Lib.hid hr;have HM:=Lib.hid hm;go_enter Tryz.func36,Tryz.ntmps36;go_wp2_with fail;refine HL.out.mono ?_;rintro e w1 ⟨rfl,hU1⟩;simp only[sxV];have HU:=Lib.hid hU1;clear hU1 HL;go_wp2_with fail;refine(HP.out _ HU.out).mono ?_;rintro e w2 ⟨hU2,vo,vs,rfl,h1,h2⟩;obtain⟨pq,pc,rfl,hrows⟩:=fIA h1 h2;obtain⟨b,off,rfl,hb,hcs⟩:=hrows (by simp);obtain⟨q0,c0,a0,ac0,aq0⟩:=hcs 0 _ rfl;obtain⟨q1,c1,a1,ac1,aq1⟩:=hcs 1 _ rfl;obtain⟨q2,c2,a2,ac2,aq2⟩:=hcs 2 _ rfl;have HU2:=Lib.hid (HU.out.trans hU2);have HA:=Lib.hid (fun w (h:Under w2 w)=>And.intro ((dA h hb _).trans a0) (And.intro ((dA h hb _).trans a1) ((dA h hb _).trans a2)));have HQ0:=Lib.hid (fun w (h:Under w2 w)=>wY (w0:=w) (cap:=c0) (.word p1 ⟨#[97,120,105,111,109]⟩) (q:=q0) (by simp[xB]) (aq0.under h));have HQ1:=Lib.hid (fun w (h:Under w2 w)=>wY (w0:=w) (cap:=c1) (.word p2 ⟨#[97]⟩) (q:=q1) (by simp[xB]) (aq1.under h));have HQ2:=Lib.hid (And.intro ac2 aq2);have hl3:([xB (.word p1 ⟨#[97,120,105,111,109]⟩),xB (.word p2 ⟨#[97]⟩),xB (xK p3)]:List (List Sx)).length=3:=rfl;have hn0:(xB (.word p1 ⟨#[97,120,105,111,109]⟩)).length=1:=rfl;have hn1:(xB (.word p2 ⟨#[97]⟩)).length=1:=rfl;have hn2:(xB (xK p3)).length=1:=rfl;rw[hl3];rw[hn0]at a0 HQ0;rw[hn1]at a1 HQ1;rw[hn2]at a2;have HMU:=Lib.hid (HM.out.under HU2.out);have HRU:=Lib.hid (HR.out.under HU2.out);rw[Nat.add_zero]at a0;have HES:=Lib.hid (And.intro hE hS);clear hr hm hE hS hcap;clear h1 h2 hrows hcs ac0 aq0 ac1 aq1 ac2 aq2 hU2 HP HM HR HU hl3;go_wp2_with fail;refine(HQ0.out _ (Under.refl _)).mono ?_;rintro e w3 ⟨rfl,hU3⟩;simp only[sxV,ST.last];have HU3:=Lib.hid hU3;have a1':=(dA hU3 hb _).trans a1;have hb3:=Nat.lt_of_lt_of_le hb hU3.size;clear hU3 a0 a1 a2 HQ0;have HFrm:=Lib.hid (qA w3 #[.int .i64 2,.int .i64 3,.func (.func 73) #[] #[]] 131);have HMU3:=Lib.hid (HMU.out.under HU3.out);go_wp2_with (refine qD rfl _ _ true rfl Tryz.underlying90 Tryz.underlying9 (y1A _) rfl HMU3.out rfl ?_;rw[show dK vGA ⟨#[97,120,105,111,109]⟩=some (qAA 2 3 73) by kernel_rfl];simp only[Option.getD_some,Option.isSome_some,if_true,qAA]);have HU4:=Lib.hid (aA HU3.out (.cells #[.int .i64 2,.int .i64 3,.func (.func 73) #[] #[]] 131));obtain⟨w4,hw4⟩:∃ w4,w4=w3.alloc (.cells #[.int .i64 2,.int .i64 3,.func (.func 73) #[] #[]] 131):=⟨_,rfl⟩;have HF4:=Lib.hid (show BoxAt w4 w3.heap.size 131 #[.int .i64 2,.int .i64 3,.func (.func 73) #[] #[]] by rw[hw4];exact HFrm.out);rw[← hw4]at HU4 ⊢;clear hw4;generalize w3.heap.size=fb at *;clear HU3 HFrm HMU3 HMU a1' hb3;have f0:=HF4.out.cell 0;have fl:=HF4.out.lt;have a1':w4.cell? ⟨b,off+1,none⟩=some (.slice q1 1 c1):=(HA.out _ HU4.out).2.1;have hb4:=Nat.lt_of_lt_of_le hb HU4.out.size;rename_i K0 hK0;refine wp_mono (Q:=DtQ w4 rb fb b off pc p) ?_ ?_
 · clear hK0 HA HQ2 HRU HES HU2 hn0 hn1 hn2 HF1; refine wp_region_noPanic ?_; refine wp_region_held_drew (S := fun w' => w'.cell? ⟨fb, 0, none⟩ = some (.int .i64 2) ∧ w'.cell? ⟨b, off + 1, none⟩ = some (.slice q1 1 c1)) (by kernel_rfl) ⟨f0, a1'⟩ (fun hHeld => ?_); co_applyP bA 0 rfl (by kernel_rfl) (by kernel_rfl) (fun _ _ _ h => h) hHeld (fun w hSw => ?_) ?_; rotate_left
   · (try dsimp only at hSw);go_simp;try with_reducible rfl
   try walk_nrm
   co_applyP bA 1 rfl (by kernel_rfl) (by kernel_rfl) (fun _ _ _ h=>h) hHeld (fun w hSw=>?_) ?_;rotate_left
   · (try dsimp only at hSw);go_simp;try with_reducible rfl
   try walk_nrm
   co_applyP bA 2 rfl (by kernel_rfl) (by kernel_rfl) (fun _ _ _ h=>h) hHeld (fun w hSw=>?_) ?_;rotate_left
   · (try dsimp only at hSw);go_simp;try with_reducible rfl
   try walk_nrm
   co_applyP bA 3 rfl (by kernel_rfl) (by kernel_rfl) (fun _ _ _ h=>h) hHeld (fun w hSw=>?_) ?_;rotate_left
   · (try dsimp only at hSw);go_simp;try with_reducible rfl
   try walk_nrm
   co_applyP bA 4 rfl (by kernel_rfl) (by kernel_rfl) (fun _ _ _ h=>h) hHeld (fun w hSw=>?_) ?_;rotate_left
   · (try dsimp only at hSw);go_simp;try with_reducible rfl
   try walk_nrm
   refine bH 5 8 (by kernel_rfl) rfl rfl (fun K hK=>?_) (fun K hK=>?_)
   · go_simp; go_at_call 68; refine (HQ1.out _ (fA HU4.out)).mono ?_; rintro e w5 ⟨rfl, HU5⟩; simp only [sxV, ST.last]; have HU5' := Lib.hid ((fA (Under.refl w4)).trans HU5); clear HU5; refine hK.out _ _ ⟨(dA HU5'.out fl 0).trans f0, (dA HU5'.out hb4 _).trans a1'⟩ (fun _ => ?_); clear hK K hHeld; rename_i hHeld
     try walk_nrm
     co_applyP bA 6 rfl (by kernel_rfl) (by kernel_rfl) (fun _ _ _ h=>h) hHeld (fun w hSw=>?_) ?_;rotate_left
     · (try dsimp only at hSw);go_simp;try with_reducible rfl
     try walk_nrm
     co_applyP bA 7 rfl (by kernel_rfl) (by kernel_rfl) (fun _ _ _ h=>h) hHeld (fun w hSw=>?_) ?_;rotate_left
     · (try dsimp only at hSw);go_simp;try with_reducible rfl
     try walk_nrm
     refine iA 8 (by kernel_rfl) rfl fun K hK=>?_
     go_simp;refine hK.out _ _ ⟨(dA (aA HU5'.out _) fl 0).trans f0,(dA (aA HU5'.out _) hb4 _).trans a1'⟩ (fun _=>?_);clear hK K hHeld;rename_i hHeld
     try walk_nrm
     refine iA 9 (by kernel_rfl) rfl fun K hK=>?_
     go_simp;refine hK.out _ _ ⟨(dA (aA HU5'.out _) fl 0).trans f0,(dA (aA HU5'.out _) hb4 _).trans a1'⟩ (fun _=>?_);clear hK K hHeld;rename_i hHeld
     try walk_nrm
     refine wpAnyH_done (by kernel_rfl) ?_ _;refine NoPanic.normal ?_;exact⟨rfl,w5.heap.size,⟨_,zB (F:=a0A rb fb w5.heap.size b off pc p) (by rfl)⟩,qA w5 _ _,aA HU5'.out _,HU5'.out.size⟩
   · go_simp; have HUa := Lib.hid (fA (aA (Under.refl w4) (.cells #[.int .i64 0, .int .i64 0, .string ⟨#[]⟩, .slice none 0 0, .slice none 0 0, .slice none 0 0] 33))); refine hK.out _ _ ⟨(dA HUa.out fl 0).trans f0, (dA HUa.out hb4 _).trans a1'⟩ (fun _ => ?_); clear hK K hHeld; rename_i hHeld
     try walk_nrm
     refine iA 5 (by kernel_rfl) rfl fun K hK=>?_
     go_simp;go_at_call 68;refine(HQ1.out _ (HU4.out.trans HUa.out)).mono ?_;rintro e w5 ⟨rfl,HU5⟩;simp only[sxV,ST.last];have HU5':=Lib.hid (HUa.out.trans HU5);have HB:=Lib.hid (((qA w4 #[.int .i64 0,.int .i64 0,.string ⟨#[]⟩,.slice none 0 0,.slice none 0 0,.slice none 0 0] 33).under (fA (Under.refl _))).under HU5);clear HU5;refine hK.out _ _ ⟨(dA HU5'.out fl 0).trans f0,(dA HU5'.out hb4 _).trans a1'⟩ (fun _=>?_);clear hK K hHeld;rename_i hHeld
     try walk_nrm
     co_applyP bA 6 rfl (by kernel_rfl) (by kernel_rfl) (fun _ _ _ h=>h) hHeld (fun w hSw=>?_) ?_;rotate_left
     · (try dsimp only at hSw);go_simp;try with_reducible rfl
     try walk_nrm
     co_applyP bA 7 rfl (by kernel_rfl) (by kernel_rfl) (fun _ _ _ h=>h) hHeld (fun w hSw=>?_) ?_;rotate_left
     · (try dsimp only at hSw);go_simp;try with_reducible rfl
     try walk_nrm
     refine iA 9 (by kernel_rfl) rfl fun K hK=>?_
     have d0:=HB.out.cell 0;have d1:=HB.out.cell 1;have d2:=HB.out.cell 2;have d3:=HB.out.cell 3;have d4:=HB.out.cell 4;have d5:=HB.out.cell 5;have g0:=HB.out.free 0;have g1:=HB.out.free 1;have g2:=HB.out.free 2;have g3:=HB.out.free 3;have g4:=HB.out.free 4;have g5:=HB.out.free 5;have dl:=HB.out.lt;go_simp;clear d0 d1 d2 d3 d4 d5 g0 g1 g2 g3 g4 g5 dl;obtain⟨wf,hwf⟩:∃ wf,wf=(((((w5.setCell ⟨w4.heap.size,0,none⟩ (.int .i64 2)).setCell ⟨w4.heap.size,1,none⟩ (.int .i64 0)).setCell ⟨w4.heap.size,2,none⟩ (.string ⟨#[97]⟩)).setCell ⟨w4.heap.size,3,none⟩ (.slice none 0 0)).setCell ⟨w4.heap.size,4,none⟩ (.slice none 0 0)).setCell ⟨w4.heap.size,5,none⟩ (.slice none 0 0):=⟨_,rfl⟩;have HF:=Lib.hid (show BoxAt wf w4.heap.size 33 o3A by rw[hwf];exact(((((HB.out.set 0 _).set 1 _).set 2 _).set 3 _).set 4 _).set 5 _);have HUf:=Lib.hid (show Under w4 wf by rw[hwf];exact uA (uA (uA (uA (uA (uA HU5'.out (Nat.le_refl _) _ _) (Nat.le_refl _) _ _) (Nat.le_refl _) _ _) (Nat.le_refl _) _ _) (Nat.le_refl _) _ _) (Nat.le_refl _) _ _);rw[← hwf];clear hwf;refine hK.out _ _ ⟨(dA HUf.out fl 0).trans f0,(dA HUf.out hb4 _).trans a1'⟩ (fun _=>?_);clear hK K hHeld;rename_i hHeld
     try walk_nrm
     refine wpAnyH_done (by kernel_rfl) ?_ _;refine NoPanic.normal ?_;exact⟨rfl,w4.heap.size,⟨_,zB (F:=a0A rb fb w4.heap.size b off pc p) (by rfl)⟩,HF.out,HUf.out,Nat.le_refl _⟩
 rintro e a' w6 ⟨rfl,db,⟨J,rfl⟩,hdb,hU6,hge⟩;have HDb:=Lib.hid hdb;have HU6:=Lib.hid (HU4.out.trans hU6);have HF6:=Lib.hid (HF4.out.under hU6);have HGe:=Lib.hid (Nat.le_trans HU4.out.size hge);refine hK0 _ _ ?_;clear hU6 hge hdb hK0 f0 fl a1' hb4 HQ1;unfold a0A;go_wp2_with fail;rename_i K0 hK0;refine wp_mono (Q:=DuQ w6 rb fb db b off pc p) ?_ ?_
 · clear hK0 HA HQ2 HES HU2 hn0 hn1 hn2 HF1; have HRw := Lib.hid (HRU.out.under HU6.out); have r0 := HRw.out.cell 0; have rl := HRw.out.lt; have d2 := HDb.out.cell 2; have dl := HDb.out.lt; have HFd := Lib.hid (fun w => jP (w0 := w) (p := none) (c := 0) [] ⟨#[97]⟩ (by simp) (by simp) RowsV.nil); refine wp_region_noPanic ?_; refine wp_region_held_drew (S := fun w' => w'.cell? ⟨rb, 0, none⟩ = some (.slice none 0 0) ∧ w'.cell? ⟨db, 2, none⟩ = some (.string ⟨#[97]⟩)) (by kernel_rfl) ⟨r0, d2⟩ (fun hHeld => ?_); co_applyP bA 0 rfl (by kernel_rfl) (by kernel_rfl) (fun _ _ _ h => h) hHeld (fun w hSw => ?_) ?_; rotate_left
   · (try dsimp only at hSw);go_simp;try with_reducible rfl
   try walk_nrm
   co_applyP bA 1 rfl (by kernel_rfl) (by kernel_rfl) (fun _ _ _ h=>h) hHeld (fun w hSw=>?_) ?_;rotate_left
   · (try dsimp only at hSw);go_simp;try with_reducible rfl
   try walk_nrm
   co_applyP bA 2 rfl (by kernel_rfl) (by kernel_rfl) (fun _ _ _ h=>h) hHeld (fun w hSw=>?_) ?_;rotate_left
   · (try dsimp only at hSw);go_simp;try with_reducible rfl
   try walk_nrm
   co_applyP bA 3 rfl (by kernel_rfl) (by kernel_rfl) (fun _ _ _ h=>h) hHeld (fun w hSw=>?_) ?_;rotate_left
   · (try dsimp only at hSw);go_simp;try with_reducible rfl
   try walk_nrm
   co_applyP bA 4 rfl (by kernel_rfl) (by kernel_rfl) (fun _ _ _ h=>h) hHeld (fun w hSw=>?_) ?_;rotate_left
   · (try dsimp only at hSw);go_simp;try with_reducible rfl
   try walk_nrm
   co_applyP bA 5 rfl (by kernel_rfl) (by kernel_rfl) (fun _ _ _ h=>h) hHeld (fun w hSw=>?_) ?_;rotate_left
   · (try dsimp only at hSw);go_simp;try with_reducible rfl
   try walk_nrm
   refine bH 6 10 (by kernel_rfl) rfl rfl (fun K hK=>?_) (fun K hK=>?_)
   · go_simp; go_at_call 16; refine (HFd.out _).mono ?_; rintro e w7 ⟨v7, rfl, ⟨vt, vb, vc, rfl, ⟨x1, y1, rfl, _⟩, ⟨x2, y2, rfl, _⟩, ⟨x3, y3, us3, rfl, _⟩⟩, hU7⟩; simp only [show lD ⟨#[97]⟩ [] = none from rfl, Option.isSome_none, Option.getD_none, uT, List.length_nil] at *; have HU7 := Lib.hid ((fA (Under.refl w6)).trans hU7); clear hU7; refine hK.out _ _ ⟨(dA HU7.out rl 0).trans r0, (dA HU7.out dl _).trans d2⟩ (fun _ => ?_); clear hK K hHeld; rename_i hHeld
     try walk_nrm
     co_applyP bA 7 rfl (by kernel_rfl) (by kernel_rfl) (fun _ _ _ h=>h) hHeld (fun w hSw=>?_) ?_;rotate_left
     · (try dsimp only at hSw);go_simp;try with_reducible rfl
     try walk_nrm
     co_applyP bA 8 rfl (by kernel_rfl) (by kernel_rfl) (fun _ _ _ h=>h) hHeld (fun w hSw=>?_) ?_;rotate_left
     · (try dsimp only at hSw);go_simp;try with_reducible rfl
     try walk_nrm
     co_applyP bA 9 rfl (by kernel_rfl) (by kernel_rfl) (fun _ _ _ h=>h) hHeld (fun w hSw=>?_) ?_;rotate_left
     · (try dsimp only at hSw);go_simp;try with_reducible rfl
     try walk_nrm
     refine iA 10 (by kernel_rfl) rfl fun K hK=>?_
     go_simp;refine hK.out _ _ ⟨(dA (aA HU7.out _) rl 0).trans r0,(dA (aA HU7.out _) dl _).trans d2⟩ (fun _=>?_);clear hK K hHeld;rename_i hHeld
     try walk_nrm
     refine iA 11 (by kernel_rfl) rfl fun K hK=>?_
     go_simp;refine hK.out _ _ ⟨(dA (aA HU7.out _) rl 0).trans r0,(dA (aA HU7.out _) dl _).trans d2⟩ (fun _=>?_);clear hK K hHeld;rename_i hHeld
     try walk_nrm
     co_applyP bA 12 rfl (by kernel_rfl) (by kernel_rfl) (fun _ _ _ h=>h) hHeld (fun w hSw=>?_) ?_;rotate_left
     · (try dsimp only at hSw);go_simp;try with_reducible rfl
     try walk_nrm
     refine wpAnyH_done (by kernel_rfl) ?_ _;refine NoPanic.normal ?_;exact⟨rfl,⟨_,zB (F:=sLA rb fb db b off pc p) (by rfl)⟩,aA HU7.out _⟩
   · go_simp; have HUa := Lib.hid (fA (aA (Under.refl w6) (.cells #[.int .i64 0, .int .i64 0, .string ⟨#[]⟩, .slice none 0 0, .slice none 0 0, .slice none 0 0] 33))); refine hK.out _ _ ⟨(dA HUa.out rl 0).trans r0, (dA HUa.out dl _).trans d2⟩ (fun _ => ?_); clear hK K hHeld; rename_i hHeld
     try walk_nrm
     refine iA 6 (by kernel_rfl) rfl fun K hK=>?_
     go_simp;go_at_call 16;refine(HFd.out _).mono ?_;rintro e w7 ⟨v7,rfl,⟨vt,vb,vc,rfl,⟨x1,y1,rfl,_⟩,⟨x2,y2,rfl,_⟩,⟨x3,y3,us3,rfl,_⟩⟩,hU7⟩;simp only[show lD ⟨#[97]⟩ []=none from rfl,Option.isSome_none,Option.getD_none,uT,List.length_nil]at *;have HU7:=Lib.hid (HUa.out.trans hU7);have HB:=Lib.hid (((qA w6 #[.int .i64 0,.int .i64 0,.string ⟨#[]⟩,.slice none 0 0,.slice none 0 0,.slice none 0 0] 33).under (fA (Under.refl _))).under hU7);clear hU7;refine hK.out _ _ ⟨(dA HU7.out rl 0).trans r0,(dA HU7.out dl _).trans d2⟩ (fun _=>?_);clear hK K hHeld;rename_i hHeld
     try walk_nrm
     co_applyP bA 7 rfl (by kernel_rfl) (by kernel_rfl) (fun _ _ _ h=>h) hHeld (fun w hSw=>?_) ?_;rotate_left
     · (try dsimp only at hSw);go_simp;try with_reducible rfl
     try walk_nrm
     co_applyP bA 8 rfl (by kernel_rfl) (by kernel_rfl) (fun _ _ _ h=>h) hHeld (fun w hSw=>?_) ?_;rotate_left
     · (try dsimp only at hSw);go_simp;try with_reducible rfl
     try walk_nrm
     co_applyP bA 9 rfl (by kernel_rfl) (by kernel_rfl) (fun _ _ _ h=>h) hHeld (fun w hSw=>?_) ?_;rotate_left
     · (try dsimp only at hSw);go_simp;try with_reducible rfl
     try walk_nrm
     refine iA 11 (by kernel_rfl) rfl fun K hK=>?_
     have d0:=HB.out.cell 0;have d1:=HB.out.cell 1;have d2':=HB.out.cell 2;have d3:=HB.out.cell 3;have d4:=HB.out.cell 4;have d5:=HB.out.cell 5;have g0:=HB.out.free 0;have g1:=HB.out.free 1;have g2:=HB.out.free 2;have g3:=HB.out.free 3;have g4:=HB.out.free 4;have g5:=HB.out.free 5;have dl':=HB.out.lt;go_simp;have HUf:=Lib.hid (uA (uA (uA (uA (uA (uA HU7.out (Nat.le_refl _) 0 (.int .i64 0)) (Nat.le_refl _) 1 (.int .i64 0)) (Nat.le_refl _) 2 (.string ⟨#[]⟩)) (Nat.le_refl _) 3 (.slice x1 0 y1)) (Nat.le_refl _) 4 (.slice x2 0 y2)) (Nat.le_refl _) 5 (.slice x3 0 y3));refine hK.out _ _ ⟨(dA HUf.out rl 0).trans r0,(dA HUf.out dl _).trans d2⟩ (fun _=>?_);clear hK K hHeld;rename_i hHeld
     try walk_nrm
     co_applyP bA 12 rfl (by kernel_rfl) (by kernel_rfl) (fun _ _ _ h=>h) hHeld (fun w hSw=>?_) ?_;rotate_left
     · (try dsimp only at hSw);go_simp;try with_reducible rfl
     try walk_nrm
     refine wpAnyH_done (by kernel_rfl) ?_ _;refine NoPanic.normal ?_;exact⟨rfl,⟨_,zB (F:=sLA rb fb db b off pc p) (by rfl)⟩,HUf.out⟩
 rintro e a' w7 ⟨rfl,⟨J,rfl⟩,hU7⟩;have HU7:=Lib.hid (HU6.out.trans hU7);have HDb:=Lib.hid (HDb.out.under hU7);have HF7:=Lib.hid (HF6.out.under hU7);refine hK0 _ _ ?_;clear hU7 hK0 HF4 HF6 HU4 HU6;unfold sLA;have HNm:=Lib.hid (fun w=>nEA (w0:=w) ⟨#[97]⟩ (by decide));rw[show wK ⟨#[97]⟩=true by kernel_rfl]at HNm;have d2:w7.cell? ⟨db,2,none⟩=some (.string ⟨#[97]⟩):=HDb.out.cell 2;have dl:=HDb.out.lt;go_wp2_with fail;refine(HNm.out _).mono ?_;rintro e w8 ⟨rfl,hU8⟩;have HU8:=Lib.hid (HU7.out.trans hU8);have HD8:=Lib.hid (HDb.out.under hU8);have HF8:=Lib.hid (HF7.out.under hU8);clear hU8 d2 dl HNm HDb HF7 HU7;have HR8:=Lib.hid (HRU.out.under HU8.out);have r0:w8.cell? ⟨rb,0,none⟩=some (.slice none 0 0):=HR8.out.cell 0;have rl:=HR8.out.lt;have f2:w8.cell? ⟨fb,2,none⟩=some (.func (.func 73) #[] #[]):=HF8.out.cell 2;have fl:=HF8.out.lt;have HFm:=Lib.hid (fOA (at0:=p) (m:=3) (c:=pc) HR8.out HD8.out (by decide) (by have:=HRU.out.lt;have:=HGe.out;omega) (by have:=HGe.out;omega) (by decide) ((HA.out _ HU8.out).2.2) (Nat.lt_of_lt_of_le hb HU8.out.size) (by have:=HQ2.out.1;omega) (HQ2.out.2.under HU8.out) (HES.out.1.under (HU2.out.trans HU8.out)) (HES.out.2.under (HU2.out.trans HU8.out)));go_wp2_with fail;refine HFm.out.mono ?_;rintro e w9 ⟨rfl,u,wm,hUm,⟨pu,cu,rfl,_⟩,rfl⟩;have HUm:=Lib.hid (show Under w0 (wm.setCell ⟨db,3,none⟩ (.slice pu unitT.length cu)) from uA (HU2.out.trans (HU8.out.trans hUm)) (Nat.le_trans HU2.out.size HGe.out) _ _);have HD9:=Lib.hid (show BoxAt (wm.setCell ⟨db,3,none⟩ (.slice pu unitT.length cu)) db 33 #[.int .i64 2,.int .i64 0,.string ⟨#[97]⟩,.slice pu unitT.length cu,.slice none 0 0,.slice none 0 0] from(HD8.out.under hUm).set 3 _);have HR9:=Lib.hid ((HR8.out.under hUm).other (g:=db) (by have:=HRU.out.lt;have:=HGe.out;omega) 3 (.slice pu unitT.length cu));generalize wm.setCell ⟨db,3,none⟩ (.slice pu unitT.length cu)=w9 at *;have HNe:=Lib.hid (show rb≠db by have:=HRU.out.lt;have:=HGe.out;omega);clear hUm HFm r0 rl f2 fl HD8 HF8 HR8 HES HU8 HRU HGe HA HQ2 HDb;generalize unitT.length=nu at *;have HPu:=Lib.hid (fun J=>q0A (fb:=fb) (b:=b) (off:=off) (pc:=pc) (p:=p) HR9.out HD9.out HNe.out J);go_wp2_with fail;rename_i K0 hK0;refine wp_mono (Q:=DvQ w9 rb) ?_ ?_
 · exact fO (F:=sLA rb fb db b off pc p) (by rfl) HPu.out
 rintro e a' w' ⟨rfl,⟨J,rfl⟩,g,c,wp,hUp,hg,hc,rfl⟩;have HUp:=Lib.hid (HUm.out.trans hUp);have HG:=Lib.hid (And.intro hg (And.intro hc HR9.out.lt));have HGz:=Lib.hid HUm.out.size;clear hUp hg hc;refine hK0 _ _ ?_;unfold g0A;go_wp2;go_ret;exact⟨rfl,g,c,wp,HUp.out,by have:=HG.out.1;have:=HG.out.2.2;omega,Nat.le_trans HGz.out HG.out.1,HG.out.2.1,rfl⟩
end
end Go.Proofs.YtggjbblgoddnjaaGreatDoor
