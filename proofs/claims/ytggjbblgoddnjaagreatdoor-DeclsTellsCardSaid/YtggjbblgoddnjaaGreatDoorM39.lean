/- Part 39 of what the proof rests on. -/
import Derived.Deep.RegionHeld3
import Derived.Deep.AppendLies
import Derived.Test.YtggjbblgoddnjaaGreatDoorM32
set_option linter.unusedSimpArgs false
set_option linter.unusedVariables false
set_option maxRecDepth 100000
set_option maxHeartbeats 4000000
namespace Go.Proofs.YtggjbblgoddnjaaGreatDoor
open Go.Lx Go.RowKit
def zDA(a:Nat)(v:Value)(k:Nat)(J:Nat→Value):Array Value:=#[v,undef,.pointer (some ⟨a,0,none⟩),.pointer (some ⟨a+1,0,none⟩),.int .i64 (k:Int),.agg #[.slice none 0 0,.slice none 0 0],J 6,J 7,J 8,J 9,J 10,J 11,J 12,J 13,J 14,J 15,J 16,J 17,J 18,J 19,J 20,J 21,J 22,J 23,J 24,J 25,J 26,J 27,J 28,J 29,J 30,J 31,J 32,J 33,J 34,J 35,J 36,J 37,J 38,J 39,J 40,J 41,J 42,J 43,J 44,J 45,J 46,J 47,J 48,J 49,J 50,J 51,undef]
def RkQ(w0:World)(l:List Dc)(v:Value)(k:Nat)(e:Exit)(a':Act)(w':World):Prop:=e = .normal∧(∃ J,a'=⟨zDA w0.heap.size v k J,[]⟩)∧KnR 54 w0 l (k+1) w'
section
variable {w0 : World}
theorem nCA(l:List Dc){p:Option Addr}{c:Nat}(hl:l.length≤100000)(hp:RowsV 6 DcRow w0 p l):Calls Tryz.prog 19 #[.slice p l.length c] w0 (i1A w0 l):=by
 obtain⟨i0,hi,hz0,hz1,hz2⟩:=info_parts Tryz.infoStrK;have HP:=Lib.hid hp;have HL:=Lib.hid hl;have hn9:(l.length:Int)≤100000:=by omega
 have hn0:(0:Int)≤(l.length:Int):=by omega
 clear hp hl; go_enter Tryz.func19, Tryz.ntmps19; go_wp2; have HK0 := Lib.hid (show KnR 54 w0 l 0 ((w0.alloc (.cells #[.slice none 0 0, .slice none 0 0] 54)).alloc (.cells #[.slice none 0 0, .slice none 0 0] 54)) from by
   have hb:=qA (w0.alloc (.cells #[.slice none 0 0,.slice none 0 0] 54)) #[.slice none 0 0,.slice none 0 0] 54;exact⟨⟨_,_,by simpa using hb,World.ownsRow_nil _ _ _ _,World.ownsRow_nil _ _ _ _,.inl rfl⟩,(qA w0 _ _).alloc _,aA (aA (Under.refl w0) _) _⟩)
 generalize (w0.alloc (.cells #[.slice none 0 0,.slice none 0 0] 54)).alloc (.cells #[.slice none 0 0,.slice none 0 0] 54)=w1 at *;go_loopw [4] (fun i wr=>∃ k:Nat,k≤l.length∧i = .int .i64 k∧KnR 54 w0 l k wr) (fun i _=>l.length - (intOf i).toNat)
 case atStart=>exact⟨0,Nat.zero_le _,rfl,HK0.out⟩
 case round =>
   obtain⟨k,hk,rfl,hK⟩:=hrel;have HK:=Lib.hid hK;have hk0:(0:Int)≤(k:Int):=by omega
   by_cases hlt:k < l.length
   · have HN := Lib.hid (oPA l hlt); obtain ⟨b, off, r, rfl, hb, hrl, hr, hc⟩ := HP.out.at (List.getElem?_eq_getElem hlt) (by decide); obtain ⟨v1, v2, v3, rfl, ⟨p1, c1, rfl, _⟩, ⟨p2, c2, rfl, _⟩, ⟨p3, c3, us3, rfl, _⟩⟩ := hr; have cc0 := hc 0 _ rfl; have cc2 := hc 2 _ rfl; simp only [Nat.add_zero, ← Nat.add_assoc] at cc0 cc2; rw [← dA hK.und hb] at cc0 cc2; have hb' := Nat.lt_of_lt_of_le hb hK.und.size; have hlt' : (k : Int) < (l.length : Int) := by omega
     clear hc hrl hK;generalize l[k]=d at *;obtain⟨⟨vc,vd,hBn,hT⟩,hR,hUr⟩:=HK.out;have hlc:=(yN (l.take k)).1;have hld:=(yN (l.take k)).2;rw[List.length_take]at hlc hld;have hl8:=HL.out;have hlc9:(knC (l.take k)).length≤100000:=by omega
     have hld9:(knD (l.take k)).length≤100000:=by omega
     have HC:=Lib.hid hT.one;have HD:=Lib.hid hT.two;have HNe:=Lib.hid hT.ne;obtain⟨qc,kc,rfl,_,_⟩:=RowArg.of_own hT.one;obtain⟨qd,kd,rfl,_,_⟩:=RowArg.of_own hT.two;have HBn:=Lib.hid hBn;have HRs:=Lib.hid hR;have HUr:=Lib.hid hUr;have n0:=HBn.out.cell 0;have n1:=HBn.out.cell 1;have nl:=HBn.out.lt;have HUs:=Lib.hid hUr.size;clear hBn hR hUr hT hlc hld hl8;have HCC:=Lib.hid (fun w' (h:Under w0 w')=>(dA h hb (off+k * 6+2)).trans ((dA HUr.out hb _).symm.trans cc2))
     cases h3:(d.kind==3)
     · cases h1 : (d.kind == 1)
       · cases h2 : (d.kind == 2)
         · rw [h1, h2, h3] at HN; go_wp2; go_roundw
           case rel=>exact⟨k+1,by omega,by go_num,KnR.same HN.out.1 HN.out.2 HK.out⟩
           case measure=>simp[intOf];omega
         · rw [h1, h2, h3] at HN; generalize knC (l.take k) = cs at *; generalize knD (l.take k) = ds at *; go_wp2_with fail; rename_i K hK; refine wp_mono (Q := RkQ w0 l (.slice (some ⟨b, off, none⟩) l.length c) k) ?_ ?_
           · have hk9 : (k : Int) ≤ 100000 := by omega
             refine wp_region_noPanic ?_;refine wp_region_held_drew (S:=fun w'=>w'.cell? ⟨b,off+k * 6+2,none⟩=some (.string d.name)) (by kernel_rfl) (HCC.out _ (fA HUr.out)) (fun hHeld=>?_);co_applyP bA 0 rfl (by kernel_rfl) (by kernel_rfl) (fun _ _ _ h=>h) hHeld (fun w hSw=>?_) ?_;rotate_left
             · (try dsimp only at hSw);go_simp;try with_reducible rfl
             try walk_nrm
             co_applyP bA 2 rfl (by kernel_rfl) (by kernel_rfl) (fun _ _ _ h=>h) hHeld (fun w hSw=>?_) ?_;rotate_left
             · (try dsimp only at hSw);go_simp;try with_reducible rfl
             try walk_nrm
             co_applyP bA 3 rfl (by kernel_rfl) (by kernel_rfl) (fun _ _ _ h=>h) hHeld (fun w hSw=>?_) ?_;rotate_left
             · (try dsimp only at hSw);go_simp;try with_reducible rfl
             try walk_nrm
             co_applyP bA 4 rfl (by kernel_rfl) (by kernel_rfl) (fun _ _ _ h=>h) hHeld (fun w hSw=>?_) ?_;rotate_left
             · (try dsimp only at hSw);go_simp;try with_reducible rfl
             try walk_nrm
             co_applyP bA 5 rfl (by kernel_rfl) (by kernel_rfl) (fun _ _ _ h=>h) hHeld (fun w hSw=>?_) ?_;rotate_left
             · (try dsimp only at hSw);go_simp;try with_reducible rfl
             try walk_nrm
             co_applyP bA 6 rfl (by kernel_rfl) (by kernel_rfl) (fun _ _ _ h=>h) hHeld (fun w hSw=>?_) ?_;rotate_left
             · (try dsimp only at hSw);go_simp;try with_reducible rfl
             try walk_nrm
             refine bH 1 7 (by kernel_rfl) rfl rfl (fun K hK=>?_) (fun K hK=>?_)
             · go_simp; refine hK.out _ _ (HCC.out _ (fA HUr.out)) (fun _ => ?_); clear hK K hHeld; rename_i hHeld
               try walk_nrm
               refine iA 7 (by kernel_rfl) rfl fun K hK=>?_
               go_simp;refine hK.out _ _ (HCC.out _ (aA (fA HUr.out) _)) (fun _=>?_);clear hK K hHeld;rename_i hHeld
               try walk_nrm
               refine iA 8 (by kernel_rfl) rfl fun K hK=>?_
               refine step_append_lies _ (by rfl) _ _ _ (by rfl) (w0.heap.size+2) 9 i0 _ 1 16 Tryz.underlying50 hi hz0 hz1 hz2 rfl (by omega) _ (cs).length ((cs).map .string) (by rfl) (HC.out.drew.alloc _) ⟨wr.heap.size,0,none⟩ 1 1 [.string d.name] (by rfl) (by rfl) (World.news_of_block (cs:=#[.string d.name]) (t:=9) (fr:=(0,0)) (qA wr.drew _ _)) (by first | (simp[Value.oneCell'];done) | rfl) (by omega) (by simp only[maxLen];omega) (by omega) (by have:=HBn.out.lt;first | omega | (simp;omega)) (wr.heap.size+1) (by first | rfl | simp) ?_;intro gg cg w6 hown hgrow hat hlt6;have HAs:=Lib.hid hown;have hbk:=fun g e=>(vB HC.out (g:=g) e).1
               have HBs := Lib.hid ((HBn.out.drew.alloc _).grown hgrow (fun e => by have := hbk _ e.symm; omega)); have HRe := Lib.hid ((HRs.out.drew.alloc _).grown hgrow (fun e => by have := hbk _ e.symm; omega)); have HOs := Lib.hid (oC (HD.out.drew.alloc _) hgrow (uG HNe.out)); have HUe := Lib.hid (rA (aA (fA HUr.out) _) hgrow (fun g e => by have := hbk _ e; omega)); have HNs := Lib.hid (show (.slice qd ds.length kd : Value).ownBlock = none ∨ (.slice qd ds.length kd : Value).ownBlock ≠ some gg from by
                 rcases hat with e | rfl
                 · rw[← e];exact uG HNe.out
                 · cases hv : (.slice qd ds.length kd : Value).ownBlock with
                   | none=>exact .inl rfl
                   | some g'=>right;intro e;cases e;have:=(vB HD.out hv).2;omega)
               clear hown hgrow hat hlt6 hbk;refine hK.out _ _ (HCC.out _ HUe.out) (fun _=>?_);clear hK K hHeld;rename_i hHeld
               try walk_nrm
               have n0:=HBs.out.cell 0;have n1:=HBs.out.cell 1;have f0:=HBs.out.free 0;have nl:=HBs.out.lt;co_applyP bA 9 rfl (by kernel_rfl) (by kernel_rfl) (fun _ _ _ h=>h) hHeld (fun w hSw=>?_) ?_;rotate_left
               · (try dsimp only at hSw);go_simp;try with_reducible rfl
               try walk_nrm
               refine iA 10 (by kernel_rfl) rfl fun K hK=>?_
               go_simp;refine hK.out _ _ (HCC.out _ (uA HUe.out (by omega) _ _)) (fun _=>?_);clear hK K hHeld;rename_i hHeld
               try walk_nrm
               refine wpAnyH_done (by kernel_rfl) ?_ _;refine NoPanic.normal ?_;exact⟨rfl,⟨_,zB (F:=zDA w0.heap.size _ k) (by rfl)⟩,lQ (HBs.out.set 0 _) (HRe.out.other (by omega) _ _) (uA HUe.out (by omega) _ _) HN.out.1 HN.out.2 (by simpa using yB HAs.out (gB HBs.out HAs.out (by decide)) _ _) (by simpa using yB HOs.out (gB HBs.out HOs.out (by decide)) _ _) (uG HNs.out)⟩
             · go_simp; refine hK.out _ _ (HCC.out _ (aA (fA HUr.out) _)) (fun _ => ?_); clear hK K hHeld; rename_i hHeld
               try walk_nrm
               refine iA 1 (by kernel_rfl) rfl fun K hK=>?_
               go_simp;refine hK.out _ _ (HCC.out _ (aA (fA HUr.out) _)) (fun _=>?_);clear hK K hHeld;rename_i hHeld
               try walk_nrm
               refine iA 8 (by kernel_rfl) rfl fun K hK=>?_
               refine step_append_lies _ (by rfl) _ _ _ (by rfl) (w0.heap.size+2) 9 i0 _ 1 16 Tryz.underlying50 hi hz0 hz1 hz2 rfl (by omega) _ (cs).length ((cs).map .string) (by rfl) (HC.out.drew.alloc _) ⟨wr.heap.size,0,none⟩ 1 1 [.string d.name] (by rfl) (by rfl) (World.news_of_block (cs:=#[.string d.name]) (t:=9) (fr:=(0,0)) (qA wr.drew _ _)) (by first | (simp[Value.oneCell'];done) | rfl) (by omega) (by simp only[maxLen];omega) (by omega) (by have:=HBn.out.lt;first | omega | (simp;omega)) (wr.heap.size+1) (by first | rfl | simp) ?_;intro gg cg w6 hown hgrow hat hlt6;have HAs:=Lib.hid hown;have hbk:=fun g e=>(vB HC.out (g:=g) e).1
               have HBs := Lib.hid ((HBn.out.drew.alloc _).grown hgrow (fun e => by have := hbk _ e.symm; omega)); have HRe := Lib.hid ((HRs.out.drew.alloc _).grown hgrow (fun e => by have := hbk _ e.symm; omega)); have HOs := Lib.hid (oC (HD.out.drew.alloc _) hgrow (uG HNe.out)); have HUe := Lib.hid (rA (aA (fA HUr.out) _) hgrow (fun g e => by have := hbk _ e; omega)); have HNs := Lib.hid (show (.slice qd ds.length kd : Value).ownBlock = none ∨ (.slice qd ds.length kd : Value).ownBlock ≠ some gg from by
                 rcases hat with e | rfl
                 · rw[← e];exact uG HNe.out
                 · cases hv : (.slice qd ds.length kd : Value).ownBlock with
                   | none=>exact .inl rfl
                   | some g'=>right;intro e;cases e;have:=(vB HD.out hv).2;omega)
               clear hown hgrow hat hlt6 hbk;refine hK.out _ _ (HCC.out _ HUe.out) (fun _=>?_);clear hK K hHeld;rename_i hHeld
               try walk_nrm
               have n0:=HBs.out.cell 0;have n1:=HBs.out.cell 1;have f0:=HBs.out.free 0;have nl:=HBs.out.lt;co_applyP bA 9 rfl (by kernel_rfl) (by kernel_rfl) (fun _ _ _ h=>h) hHeld (fun w hSw=>?_) ?_;rotate_left
               · (try dsimp only at hSw);go_simp;try with_reducible rfl
               try walk_nrm
               refine iA 10 (by kernel_rfl) rfl fun K hK=>?_
               go_simp;refine hK.out _ _ (HCC.out _ (uA HUe.out (by omega) _ _)) (fun _=>?_);clear hK K hHeld;rename_i hHeld
               try walk_nrm
               refine wpAnyH_done (by kernel_rfl) ?_ _;refine NoPanic.normal ?_;exact⟨rfl,⟨_,zB (F:=zDA w0.heap.size _ k) (by rfl)⟩,lQ (HBs.out.set 0 _) (HRe.out.other (by omega) _ _) (uA HUe.out (by omega) _ _) HN.out.1 HN.out.2 (by simpa using yB HAs.out (gB HBs.out HAs.out (by decide)) _ _) (by simpa using yB HOs.out (gB HBs.out HOs.out (by decide)) _ _) (uG HNs.out)⟩
           rintro e a' w7 ⟨rfl,⟨J,rfl⟩,hK7⟩;have HK7:=Lib.hid hK7;clear hK7
           try simp only[Exit.then]
           refine hK _ _ ?_;unfold zDA;go_wp2;go_roundw
           case rel=>exact⟨k+1,by omega,by go_num,HK7.out⟩
           case measure=>simp[intOf];omega
       · rw [h1, h3] at HN; generalize knC (l.take k) = cs at *; generalize knD (l.take k) = ds at *; go_wp2_with fail; rename_i K hK; refine wp_mono (Q := RkQ w0 l (.slice (some ⟨b, off, none⟩) l.length c) k) ?_ ?_
         · have hk9 : (k : Int) ≤ 100000 := by omega
           refine wp_region_noPanic ?_;refine wp_region_held_drew (S:=fun w'=>w'.cell? ⟨b,off+k * 6+2,none⟩=some (.string d.name)) (by kernel_rfl) (HCC.out _ (fA HUr.out)) (fun hHeld=>?_);co_applyP bA 0 rfl (by kernel_rfl) (by kernel_rfl) (fun _ _ _ h=>h) hHeld (fun w hSw=>?_) ?_;rotate_left
           · (try dsimp only at hSw);go_simp;try with_reducible rfl
           try walk_nrm
           co_applyP bA 2 rfl (by kernel_rfl) (by kernel_rfl) (fun _ _ _ h=>h) hHeld (fun w hSw=>?_) ?_;rotate_left
           · (try dsimp only at hSw);go_simp;try with_reducible rfl
           try walk_nrm
           co_applyP bA 3 rfl (by kernel_rfl) (by kernel_rfl) (fun _ _ _ h=>h) hHeld (fun w hSw=>?_) ?_;rotate_left
           · (try dsimp only at hSw);go_simp;try with_reducible rfl
           try walk_nrm
           co_applyP bA 4 rfl (by kernel_rfl) (by kernel_rfl) (fun _ _ _ h=>h) hHeld (fun w hSw=>?_) ?_;rotate_left
           · (try dsimp only at hSw);go_simp;try with_reducible rfl
           try walk_nrm
           co_applyP bA 5 rfl (by kernel_rfl) (by kernel_rfl) (fun _ _ _ h=>h) hHeld (fun w hSw=>?_) ?_;rotate_left
           · (try dsimp only at hSw);go_simp;try with_reducible rfl
           try walk_nrm
           co_applyP bA 6 rfl (by kernel_rfl) (by kernel_rfl) (fun _ _ _ h=>h) hHeld (fun w hSw=>?_) ?_;rotate_left
           · (try dsimp only at hSw);go_simp;try with_reducible rfl
           try walk_nrm
           refine bH 1 7 (by kernel_rfl) rfl rfl (fun K hK=>?_) (fun K hK=>?_)
           · go_simp; refine hK.out _ _ (HCC.out _ (fA HUr.out)) (fun _ => ?_); clear hK K hHeld; rename_i hHeld
             try walk_nrm
             refine iA 7 (by kernel_rfl) rfl fun K hK=>?_
             go_simp;refine hK.out _ _ (HCC.out _ (aA (fA HUr.out) _)) (fun _=>?_);clear hK K hHeld;rename_i hHeld
             try walk_nrm
             refine iA 8 (by kernel_rfl) rfl fun K hK=>?_
             refine step_append_lies _ (by rfl) _ _ _ (by rfl) (w0.heap.size+2) 9 i0 _ 1 16 Tryz.underlying50 hi hz0 hz1 hz2 rfl (by omega) _ (cs).length ((cs).map .string) (by rfl) (HC.out.drew.alloc _) ⟨wr.heap.size,0,none⟩ 1 1 [.string d.name] (by rfl) (by rfl) (World.news_of_block (cs:=#[.string d.name]) (t:=9) (fr:=(0,0)) (qA wr.drew _ _)) (by first | (simp[Value.oneCell'];done) | rfl) (by omega) (by simp only[maxLen];omega) (by omega) (by have:=HBn.out.lt;first | omega | (simp;omega)) (wr.heap.size+1) (by first | rfl | simp) ?_;intro gg cg w6 hown hgrow hat hlt6;have HAs:=Lib.hid hown;have hbk:=fun g e=>(vB HC.out (g:=g) e).1
             have HBs := Lib.hid ((HBn.out.drew.alloc _).grown hgrow (fun e => by have := hbk _ e.symm; omega)); have HRe := Lib.hid ((HRs.out.drew.alloc _).grown hgrow (fun e => by have := hbk _ e.symm; omega)); have HOs := Lib.hid (oC (HD.out.drew.alloc _) hgrow (uG HNe.out)); have HUe := Lib.hid (rA (aA (fA HUr.out) _) hgrow (fun g e => by have := hbk _ e; omega)); have HNs := Lib.hid (show (.slice qd ds.length kd : Value).ownBlock = none ∨ (.slice qd ds.length kd : Value).ownBlock ≠ some gg from by
               rcases hat with e | rfl
               · rw[← e];exact uG HNe.out
               · cases hv : (.slice qd ds.length kd : Value).ownBlock with
                 | none=>exact .inl rfl
                 | some g'=>right;intro e;cases e;have:=(vB HD.out hv).2;omega)
             clear hown hgrow hat hlt6 hbk;refine hK.out _ _ (HCC.out _ HUe.out) (fun _=>?_);clear hK K hHeld;rename_i hHeld
             try walk_nrm
             have n0:=HBs.out.cell 0;have n1:=HBs.out.cell 1;have f0:=HBs.out.free 0;have nl:=HBs.out.lt;co_applyP bA 9 rfl (by kernel_rfl) (by kernel_rfl) (fun _ _ _ h=>h) hHeld (fun w hSw=>?_) ?_;rotate_left
             · (try dsimp only at hSw);go_simp;try with_reducible rfl
             try walk_nrm
             refine iA 10 (by kernel_rfl) rfl fun K hK=>?_
             go_simp;refine hK.out _ _ (HCC.out _ (uA HUe.out (by omega) _ _)) (fun _=>?_);clear hK K hHeld;rename_i hHeld
             try walk_nrm
             refine wpAnyH_done (by kernel_rfl) ?_ _;refine NoPanic.normal ?_;exact⟨rfl,⟨_,zB (F:=zDA w0.heap.size _ k) (by rfl)⟩,lQ (HBs.out.set 0 _) (HRe.out.other (by omega) _ _) (uA HUe.out (by omega) _ _) HN.out.1 HN.out.2 (by simpa using yB HAs.out (gB HBs.out HAs.out (by decide)) _ _) (by simpa using yB HOs.out (gB HBs.out HOs.out (by decide)) _ _) (uG HNs.out)⟩
           · go_simp; refine hK.out _ _ (HCC.out _ (aA (fA HUr.out) _)) (fun _ => ?_); clear hK K hHeld; rename_i hHeld
             try walk_nrm
             refine iA 1 (by kernel_rfl) rfl fun K hK=>?_
             go_simp;refine hK.out _ _ (HCC.out _ (aA (fA HUr.out) _)) (fun _=>?_);clear hK K hHeld;rename_i hHeld
             try walk_nrm
             refine iA 8 (by kernel_rfl) rfl fun K hK=>?_
             refine step_append_lies _ (by rfl) _ _ _ (by rfl) (w0.heap.size+2) 9 i0 _ 1 16 Tryz.underlying50 hi hz0 hz1 hz2 rfl (by omega) _ (cs).length ((cs).map .string) (by rfl) (HC.out.drew.alloc _) ⟨wr.heap.size,0,none⟩ 1 1 [.string d.name] (by rfl) (by rfl) (World.news_of_block (cs:=#[.string d.name]) (t:=9) (fr:=(0,0)) (qA wr.drew _ _)) (by first | (simp[Value.oneCell'];done) | rfl) (by omega) (by simp only[maxLen];omega) (by omega) (by have:=HBn.out.lt;first | omega | (simp;omega)) (wr.heap.size+1) (by first | rfl | simp) ?_;intro gg cg w6 hown hgrow hat hlt6;have HAs:=Lib.hid hown;have hbk:=fun g e=>(vB HC.out (g:=g) e).1
             have HBs := Lib.hid ((HBn.out.drew.alloc _).grown hgrow (fun e => by have := hbk _ e.symm; omega)); have HRe := Lib.hid ((HRs.out.drew.alloc _).grown hgrow (fun e => by have := hbk _ e.symm; omega)); have HOs := Lib.hid (oC (HD.out.drew.alloc _) hgrow (uG HNe.out)); have HUe := Lib.hid (rA (aA (fA HUr.out) _) hgrow (fun g e => by have := hbk _ e; omega)); have HNs := Lib.hid (show (.slice qd ds.length kd : Value).ownBlock = none ∨ (.slice qd ds.length kd : Value).ownBlock ≠ some gg from by
               rcases hat with e | rfl
               · rw[← e];exact uG HNe.out
               · cases hv : (.slice qd ds.length kd : Value).ownBlock with
                 | none=>exact .inl rfl
                 | some g'=>right;intro e;cases e;have:=(vB HD.out hv).2;omega)
             clear hown hgrow hat hlt6 hbk;refine hK.out _ _ (HCC.out _ HUe.out) (fun _=>?_);clear hK K hHeld;rename_i hHeld
             try walk_nrm
             have n0:=HBs.out.cell 0;have n1:=HBs.out.cell 1;have f0:=HBs.out.free 0;have nl:=HBs.out.lt;co_applyP bA 9 rfl (by kernel_rfl) (by kernel_rfl) (fun _ _ _ h=>h) hHeld (fun w hSw=>?_) ?_;rotate_left
             · (try dsimp only at hSw);go_simp;try with_reducible rfl
             try walk_nrm
             refine iA 10 (by kernel_rfl) rfl fun K hK=>?_
             go_simp;refine hK.out _ _ (HCC.out _ (uA HUe.out (by omega) _ _)) (fun _=>?_);clear hK K hHeld;rename_i hHeld
             try walk_nrm
             refine wpAnyH_done (by kernel_rfl) ?_ _;refine NoPanic.normal ?_;exact⟨rfl,⟨_,zB (F:=zDA w0.heap.size _ k) (by rfl)⟩,lQ (HBs.out.set 0 _) (HRe.out.other (by omega) _ _) (uA HUe.out (by omega) _ _) HN.out.1 HN.out.2 (by simpa using yB HAs.out (gB HBs.out HAs.out (by decide)) _ _) (by simpa using yB HOs.out (gB HBs.out HOs.out (by decide)) _ _) (uG HNs.out)⟩
         rintro e a' w7 ⟨rfl,⟨J,rfl⟩,hK7⟩;have HK7:=Lib.hid hK7;clear hK7
         try simp only[Exit.then]
         refine hK _ _ ?_;unfold zDA;go_wp2;go_roundw
         case rel=>exact⟨k+1,by omega,by go_num,HK7.out⟩
         case measure=>simp[intOf];omega
     · rw [show (d.kind == 1) = false from by simp at h3 ⊢; omega, show (d.kind == 2) = false from by simp at h3 ⊢; omega, h3] at HN; generalize knC (l.take k) = cs at *; generalize knD (l.take k) = ds at *; go_wp2_with fail; rename_i K hK; refine wp_mono (Q := RkQ w0 l (.slice (some ⟨b, off, none⟩) l.length c) k) ?_ ?_
       · have hk9 : (k : Int) ≤ 100000 := by omega
         refine wp_region_noPanic ?_;refine wp_region_held_drew (S:=fun w'=>w'.cell? ⟨b,off+k * 6+2,none⟩=some (.string d.name)) (by kernel_rfl) (HCC.out _ (fA HUr.out)) (fun hHeld=>?_);co_applyP bA 0 rfl (by kernel_rfl) (by kernel_rfl) (fun _ _ _ h=>h) hHeld (fun w hSw=>?_) ?_;rotate_left
         · (try dsimp only at hSw);go_simp;try with_reducible rfl
         try walk_nrm
         co_applyP bA 2 rfl (by kernel_rfl) (by kernel_rfl) (fun _ _ _ h=>h) hHeld (fun w hSw=>?_) ?_;rotate_left
         · (try dsimp only at hSw);go_simp;try with_reducible rfl
         try walk_nrm
         co_applyP bA 3 rfl (by kernel_rfl) (by kernel_rfl) (fun _ _ _ h=>h) hHeld (fun w hSw=>?_) ?_;rotate_left
         · (try dsimp only at hSw);go_simp;try with_reducible rfl
         try walk_nrm
         co_applyP bA 4 rfl (by kernel_rfl) (by kernel_rfl) (fun _ _ _ h=>h) hHeld (fun w hSw=>?_) ?_;rotate_left
         · (try dsimp only at hSw);go_simp;try with_reducible rfl
         try walk_nrm
         co_applyP bA 5 rfl (by kernel_rfl) (by kernel_rfl) (fun _ _ _ h=>h) hHeld (fun w hSw=>?_) ?_;rotate_left
         · (try dsimp only at hSw);go_simp;try with_reducible rfl
         try walk_nrm
         co_applyP bA 6 rfl (by kernel_rfl) (by kernel_rfl) (fun _ _ _ h=>h) hHeld (fun w hSw=>?_) ?_;rotate_left
         · (try dsimp only at hSw);go_simp;try with_reducible rfl
         try walk_nrm
         refine bH 1 7 (by kernel_rfl) rfl rfl (fun K hK=>?_) (fun K hK=>?_)
         · go_simp; refine hK.out _ _ (HCC.out _ (fA HUr.out)) (fun _ => ?_); clear hK K hHeld; rename_i hHeld
           try walk_nrm
           refine iA 7 (by kernel_rfl) rfl fun K hK=>?_
           go_simp;refine hK.out _ _ (HCC.out _ (aA (fA HUr.out) _)) (fun _=>?_);clear hK K hHeld;rename_i hHeld
           try walk_nrm
           refine iA 8 (by kernel_rfl) rfl fun K hK=>?_
           refine step_append_lies _ (by rfl) _ _ _ (by rfl) (w0.heap.size+2) 9 i0 _ 1 16 Tryz.underlying50 hi hz0 hz1 hz2 rfl (by omega) _ (ds).length ((ds).map .string) (by rfl) (HD.out.drew.alloc _) ⟨wr.heap.size,0,none⟩ 1 1 [.string d.name] (by rfl) (by rfl) (World.news_of_block (cs:=#[.string d.name]) (t:=9) (fr:=(0,0)) (qA wr.drew _ _)) (by first | (simp[Value.oneCell'];done) | rfl) (by omega) (by simp only[maxLen];omega) (by omega) (by have:=HBn.out.lt;first | omega | (simp;omega)) (wr.heap.size+1) (by first | rfl | simp) ?_;intro gg cg w6 hown hgrow hat hlt6;have HAs:=Lib.hid hown;have hbk:=fun g e=>(vB HD.out (g:=g) e).1
           have HBs := Lib.hid ((HBn.out.drew.alloc _).grown hgrow (fun e => by have := hbk _ e.symm; omega)); have HRe := Lib.hid ((HRs.out.drew.alloc _).grown hgrow (fun e => by have := hbk _ e.symm; omega)); have HOs := Lib.hid (oC (HC.out.drew.alloc _) hgrow (HNe.out)); have HUe := Lib.hid (rA (aA (fA HUr.out) _) hgrow (fun g e => by have := hbk _ e; omega)); have HNs := Lib.hid (show (.slice qc cs.length kc : Value).ownBlock = none ∨ (.slice qc cs.length kc : Value).ownBlock ≠ some gg from by
             rcases hat with e | rfl
             · rw[← e];exact HNe.out
             · cases hv : (.slice qc cs.length kc : Value).ownBlock with
               | none=>exact .inl rfl
               | some g'=>right;intro e;cases e;have:=(vB HC.out hv).2;omega)
           clear hown hgrow hat hlt6 hbk;refine hK.out _ _ (HCC.out _ HUe.out) (fun _=>?_);clear hK K hHeld;rename_i hHeld
           try walk_nrm
           have n0:=HBs.out.cell 0;have n1:=HBs.out.cell 1;have f0:=HBs.out.free 1;have nl:=HBs.out.lt;co_applyP bA 9 rfl (by kernel_rfl) (by kernel_rfl) (fun _ _ _ h=>h) hHeld (fun w hSw=>?_) ?_;rotate_left
           · (try dsimp only at hSw);go_simp;try with_reducible rfl
           try walk_nrm
           refine iA 10 (by kernel_rfl) rfl fun K hK=>?_
           go_simp;refine hK.out _ _ (HCC.out _ (uA HUe.out (by omega) _ _)) (fun _=>?_);clear hK K hHeld;rename_i hHeld
           try walk_nrm
           refine wpAnyH_done (by kernel_rfl) ?_ _;refine NoPanic.normal ?_;exact⟨rfl,⟨_,zB (F:=zDA w0.heap.size _ k) (by rfl)⟩,lQ (HBs.out.set 1 _) (HRe.out.other (by omega) _ _) (uA HUe.out (by omega) _ _) HN.out.1 HN.out.2 (by simpa using yB HOs.out (gB HBs.out HOs.out (by decide)) _ _) (by simpa using yB HAs.out (gB HBs.out HAs.out (by decide)) _ _) HNs.out⟩
         · go_simp; refine hK.out _ _ (HCC.out _ (aA (fA HUr.out) _)) (fun _ => ?_); clear hK K hHeld; rename_i hHeld
           try walk_nrm
           refine iA 1 (by kernel_rfl) rfl fun K hK=>?_
           go_simp;refine hK.out _ _ (HCC.out _ (aA (fA HUr.out) _)) (fun _=>?_);clear hK K hHeld;rename_i hHeld
           try walk_nrm
           refine iA 8 (by kernel_rfl) rfl fun K hK=>?_
           refine step_append_lies _ (by rfl) _ _ _ (by rfl) (w0.heap.size+2) 9 i0 _ 1 16 Tryz.underlying50 hi hz0 hz1 hz2 rfl (by omega) _ (ds).length ((ds).map .string) (by rfl) (HD.out.drew.alloc _) ⟨wr.heap.size,0,none⟩ 1 1 [.string d.name] (by rfl) (by rfl) (World.news_of_block (cs:=#[.string d.name]) (t:=9) (fr:=(0,0)) (qA wr.drew _ _)) (by first | (simp[Value.oneCell'];done) | rfl) (by omega) (by simp only[maxLen];omega) (by omega) (by have:=HBn.out.lt;first | omega | (simp;omega)) (wr.heap.size+1) (by first | rfl | simp) ?_;intro gg cg w6 hown hgrow hat hlt6;have HAs:=Lib.hid hown;have hbk:=fun g e=>(vB HD.out (g:=g) e).1
           have HBs := Lib.hid ((HBn.out.drew.alloc _).grown hgrow (fun e => by have := hbk _ e.symm; omega)); have HRe := Lib.hid ((HRs.out.drew.alloc _).grown hgrow (fun e => by have := hbk _ e.symm; omega)); have HOs := Lib.hid (oC (HC.out.drew.alloc _) hgrow (HNe.out)); have HUe := Lib.hid (rA (aA (fA HUr.out) _) hgrow (fun g e => by have := hbk _ e; omega)); have HNs := Lib.hid (show (.slice qc cs.length kc : Value).ownBlock = none ∨ (.slice qc cs.length kc : Value).ownBlock ≠ some gg from by
             rcases hat with e | rfl
             · rw[← e];exact HNe.out
             · cases hv : (.slice qc cs.length kc : Value).ownBlock with
               | none=>exact .inl rfl
               | some g'=>right;intro e;cases e;have:=(vB HC.out hv).2;omega)
           clear hown hgrow hat hlt6 hbk;refine hK.out _ _ (HCC.out _ HUe.out) (fun _=>?_);clear hK K hHeld;rename_i hHeld
           try walk_nrm
           have n0:=HBs.out.cell 0;have n1:=HBs.out.cell 1;have f0:=HBs.out.free 1;have nl:=HBs.out.lt;co_applyP bA 9 rfl (by kernel_rfl) (by kernel_rfl) (fun _ _ _ h=>h) hHeld (fun w hSw=>?_) ?_;rotate_left
           · (try dsimp only at hSw);go_simp;try with_reducible rfl
           try walk_nrm
           refine iA 10 (by kernel_rfl) rfl fun K hK=>?_
           go_simp;refine hK.out _ _ (HCC.out _ (uA HUe.out (by omega) _ _)) (fun _=>?_);clear hK K hHeld;rename_i hHeld
           try walk_nrm
           refine wpAnyH_done (by kernel_rfl) ?_ _;refine NoPanic.normal ?_;exact⟨rfl,⟨_,zB (F:=zDA w0.heap.size _ k) (by rfl)⟩,lQ (HBs.out.set 1 _) (HRe.out.other (by omega) _ _) (uA HUe.out (by omega) _ _) HN.out.1 HN.out.2 (by simpa using yB HOs.out (gB HBs.out HOs.out (by decide)) _ _) (by simpa using yB HAs.out (gB HBs.out HAs.out (by decide)) _ _) HNs.out⟩
       rintro e a' w7 ⟨rfl,⟨J,rfl⟩,hK7⟩;have HK7:=Lib.hid hK7;clear hK7
       try simp only[Exit.then]
       refine hK _ _ ?_;unfold zDA;go_wp2;go_roundw
       case rel=>exact⟨k+1,by omega,by go_num,HK7.out⟩
       case measure=>simp[intOf];omega
   · obtain rfl : k = l.length := by omega
     obtain⟨⟨vc,vd,hBn,hT⟩,hR,hUr⟩:=HK.out;rw[List.take_length]at hT;obtain⟨qc,kc,rfl,_,_⟩:=RowArg.of_own hT.one;obtain⟨qd,kd,rfl,_,_⟩:=RowArg.of_own hT.two;have HT:=Lib.hid hT;have HR:=Lib.hid hR;have HU:=Lib.hid hUr;have n0:=hBn.cell 0;have n1:=hBn.cell 1;have nl:=hBn.lt;have r0:=hR.cell 0;have r1:=hR.cell 1;have g0:=hR.free 0;have g1:=hR.free 1;have rl:=hR.lt;clear hBn hT hR hUr;go_wp2;obtain⟨wf,hwf⟩:∃ wf,wf=(wr.setCell ⟨w0.heap.size,0,none⟩ (.slice qc (knC l).length kc)).setCell ⟨w0.heap.size,1,none⟩ (.slice qd (knD l).length kd):=⟨_,rfl⟩;have HF:=Lib.hid (show BoxAt wf w0.heap.size 54 #[.slice qc (knC l).length kc,.slice qd (knD l).length kd] by rw[hwf];exact(HR.out.set 0 _).set 1 _);have HC:=Lib.hid (show Ch (fun b=>b=w0.heap.size) wr wf by rw[hwf];exact((Ch.refl (C:=fun b=>b=w0.heap.size) wr).set (fun _=>rfl) _ _).set (fun _=>rfl) _ _);rw[← hwf];clear hwf n0 n1 r0 r1 g0 g1;have e0:=HF.out.cell 0;have e1:=HF.out.cell 1;refine bodyPost_ret (v:=.agg #[.slice qc (knC l).length kc,.slice qd (knD l).length kd]) ((oO rfl _ _ _).trans (by simp[go_sem,e0,e1])) rfl ⟨_,_,rfl,⟨oD (qO HT.out.one HC.out fun g hg hc=>by have:=(vB HT.out.one hg).1;omega) (by omega),oD (qO HT.out.two HC.out fun g hg hc=>by have:=(vB HT.out.two hg).1;omega) (by omega),HT.out.ne⟩,uK HU.out HC.out fun b hb=>by omega⟩
end
end Go.Proofs.YtggjbblgoddnjaaGreatDoor
