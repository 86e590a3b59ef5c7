/- Part 34 of what the proof rests on. -/
import Derived.Deep.QuietTactic
import Derived.Test.YtggjbblgoddnjaaGreatDoorM12
import Derived.Test.YtggjbblgoddnjaaGreatDoorM14
import Derived.Test.YtggjbblgoddnjaaGreatDoorM25
import Derived.Test.YtggjbblgoddnjaaGreatDoorM29
import Derived.Test.YtggjbblgoddnjaaGreatDoorM33
set_option linter.unusedSimpArgs false
set_option linter.unusedVariables false
set_option maxRecDepth 100000
set_option maxHeartbeats 16000000
namespace Go.Proofs.YtggjbblgoddnjaaGreatDoor
open Go.Lx Go.RowKit
section
variable {w0 : World}
theorem eYA(n m:Int)(s:ByteArray)(h:rD s=false∨n < 0∨6≤n∨m < 0∨6 < m):Calls Tryz.prog 142 #[ndV ⟨26,n,m,s⟩] w0 (BOut w0 [] false):=by
 have HNm:=Lib.hid (fun w=>wL (w0:=w) s);unfold ndV;generalize rD s=nb at *
 cases nb
 · clear h;go_enter Tryz.func142,Tryz.ntmps142;go_wp2_with fail;refine(HNm.out _).mono ?_;rintro e w3 ⟨rfl,rfl⟩;go_wp2;go_ret2;exact BOut.empty _ (aA (aA (Under.refl _) _) _)
 · by_cases h1 : n < 0
   · clear h;go_enter Tryz.func142,Tryz.ntmps142;go_wp2_with fail;refine(HNm.out _).mono ?_;rintro e w3 ⟨rfl,rfl⟩;go_wp2;go_ret2;exact BOut.empty _ (aA (aA (Under.refl _) _) _)
   · by_cases h2 : 6 ≤ n
     · clear h;go_enter Tryz.func142,Tryz.ntmps142;go_wp2_with fail;refine(HNm.out _).mono ?_;rintro e w3 ⟨rfl,rfl⟩;go_wp2;go_ret2;exact BOut.empty _ (aA (aA (Under.refl _) _) _)
     · by_cases h3 : m < 0
       · clear h;go_enter Tryz.func142,Tryz.ntmps142;go_wp2_with fail;refine(HNm.out _).mono ?_;rintro e w3 ⟨rfl,rfl⟩;go_wp2;go_ret2;exact BOut.empty _ (aA (aA (Under.refl _) _) _)
       · have h4 : 6 < m := by simp at h; omega
         clear h;go_enter Tryz.func142,Tryz.ntmps142;go_wp2_with fail;refine(HNm.out _).mono ?_;rintro e w3 ⟨rfl,rfl⟩;go_wp2;go_ret2;exact BOut.empty _ (aA (aA (Under.refl _) _) _)
theorem zTA(n:Int)(m:Nat)(s:ByteArray)(hs:rD s=true)(h1:0≤n)(h2:n < 6)(h3:m≤6):Calls Tryz.prog 142 #[ndV ⟨26,n,m,s⟩] w0 (BOut w0 (List.replicate m 0) true):=by
 have HNm:=Lib.hid (fun w=>wL (w0:=w) s);rw[hs]at HNm;obtain⟨i0,hi,hz0,hz1,hz2⟩:=info_parts Tryz.infoInt;unfold ndV;have m0:(0:Int)≤m:=Int.natCast_nonneg _;have m6:(m:Int)≤6:=by omega
 clear hs;go_enter Tryz.func142,Tryz.ntmps142;go_wp2_with fail;refine(HNm.out _).mono ?_;rintro e w3 ⟨rfl,rfl⟩;obtain⟨W1,hW1⟩:∃ W,W=(w0.alloc (.cells #[.int .i64 26,.int .i64 n,.int .i64 m,.string s] 112)).alloc (.cells #[] 3):=⟨_,rfl⟩;have c1:W1.cell? ⟨w0.heap.size,1,none⟩=some (.int .i64 n):=by rw[hW1];exact((qA w0 _ _).alloc _).cell 1
 have c2:W1.cell? ⟨w0.heap.size,2,none⟩=some (.int .i64 m):=by rw[hW1];exact((qA w0 _ _).alloc _).cell 2
 have hsz:w0.heap.size < W1.heap.size:=by rw[hW1];simp;omega
 have HU:=Lib.hid (show Under w0 W1 by rw[hW1];exact aA (aA (Under.refl _) _) _);rw[← hW1];clear hW1;go_wp2_with (at_make;refine wpList_make_full _ rfl _ _ _ rfl w0.heap.size 3 i0 _ 1 Tryz.underlying123 hi hz0 hz1 .i64 .i64 _ _ m rfl rfl rfl rfl ?c1 ?c2 ?c3 ?_)
 case c1=>rw[hz2];omega
 case c2=>simp only[maxLen];omega
 case c3=>omega
 intro w2 hown hgrow;have HO:=Lib.hid hown;have HU2:=Lib.hid (rA HU.out hgrow fun g e=>by cases e);clear hown hgrow;go_wp2;go_ret2;have hcs:(madeCells #[Value.int .i64 0] m).toList=bE (List.replicate m 0):=by
  apply List.ext_getElem
  · simp[bE,madeCells]
  · intro j h1 h2;simp[bE,madeCells,Nat.mod_one]
 obtain⟨q,c,hv,hc,hr⟩:=RowArg.of_own HO.out
 cases hv;exact⟨_,_,by rw[List.length_replicate];rfl,by rw[List.length_replicate];exact hc,by rw[← hcs];exact hr,HU2.out⟩
theorem hZA(k n m:Int)(s:ByteArray)(h:k < 0∨29 < k):Calls Tryz.prog 142 #[ndV ⟨k,n,m,s⟩] w0 (BOut w0 [] false):=by
 unfold ndV;have e:∀ j:Int,0≤j→j≤29→(k==j)=false:=fun j h1 h2=>by simp;omega
 have e0:=e 0 (by decide) (by decide);have e1:=e 1 (by decide) (by decide);have e2:=e 2 (by decide) (by decide);have e3:=e 3 (by decide) (by decide);have e4:=e 4 (by decide) (by decide);have e5:=e 5 (by decide) (by decide);have e6:=e 6 (by decide) (by decide);have e7:=e 7 (by decide) (by decide);have e8:=e 8 (by decide) (by decide);have e9:=e 9 (by decide) (by decide);have e10:=e 10 (by decide) (by decide);have e11:=e 11 (by decide) (by decide);have e12:=e 12 (by decide) (by decide);have e13:=e 13 (by decide) (by decide);have e14:=e 14 (by decide) (by decide);have e15:=e 15 (by decide) (by decide);have e16:=e 16 (by decide) (by decide);have e17:=e 17 (by decide) (by decide);have e18:=e 18 (by decide) (by decide);have e19:=e 19 (by decide) (by decide);have e20:=e 20 (by decide) (by decide);have e21:=e 21 (by decide) (by decide);have e22:=e 22 (by decide) (by decide);have e23:=e 23 (by decide) (by decide);have e24:=e 24 (by decide) (by decide);have e25:=e 25 (by decide) (by decide);have e26:=e 26 (by decide) (by decide);have e27:=e 27 (by decide) (by decide);have e28:=e 28 (by decide) (by decide);have e29:=e 29 (by decide) (by decide);clear e h;go_enter Tryz.func142,Tryz.ntmps142;go_wp2;go_ret2;exact BOut.empty _ (aA (aA (Under.refl _) _) _)
end
def mXA(n m:Int)(s:ByteArray):Bool:=((decide (0≤n)&&decide (n≤99))&&(m==0))&&s.toList.isEmpty
section
variable {w0 : World}
theorem q5A(n m:Int)(s:ByteArray):Calls Tryz.prog 142 #[ndV ⟨0,n,m,s⟩] w0 (BOut w0 [] (mXA n m s)):=by
 have HO:RowKit.Hid (mXA n m s=(((decide (0≤n)&&decide (n≤99))&&(m==0))&&s.toList.isEmpty)):=Lib.hid rfl;generalize mXA n m s=vb at *;unfold ndV;by_cases h1:0≤n
 · by_cases h2 : n ≤ 99
   · cases h3 : (m == 0)
     · have HO:RowKit.Hid (vb=false):=Lib.hid (by rw[HO.out,h3];simp);go_enter Tryz.func142,Tryz.ntmps142;go_wp2_with fail;go_quiet (fail);go_wp2;go_ret2;rw[HO.out];exact BOut.empty _ (aB (aA (aA (Under.refl _) _) _) _)
     · cases h4 : s.toList.isEmpty
       · have HO:RowKit.Hid (vb=false):=Lib.hid (by rw[HO.out,h4];simp);go_enter Tryz.func142,Tryz.ntmps142;go_wp2_with fail;go_quiet (fail);go_wp2;go_ret2;rw[HO.out];exact BOut.empty _ (aB (aA (aA (Under.refl _) _) _) _)
       · have HO:RowKit.Hid (vb=true):=Lib.hid (by rw[HO.out,h3,h4];simp[h1,h2]);go_enter Tryz.func142,Tryz.ntmps142;go_wp2_with fail;go_quiet (fail);go_wp2;go_ret2;rw[HO.out];exact BOut.empty _ (aB (aA (aA (Under.refl _) _) _) _)
   · have HO:RowKit.Hid (vb=false):=Lib.hid (by rw[HO.out];simp[h2]);go_enter Tryz.func142,Tryz.ntmps142;go_wp2_with fail;have hb:(n≤99)=False:=eq_false (by omega);go_quiet (fail);go_wp2;go_ret2;rw[HO.out];exact BOut.empty _ (aB (aA (aA (Under.refl _) _) _) _)
 · have HO:RowKit.Hid (vb=false):=Lib.hid (by rw[HO.out];simp[h1]);go_enter Tryz.func142,Tryz.ntmps142;go_wp2_with fail;have hb:(0≤n)=False:=eq_false (by omega);go_quiet (fail);go_wp2;go_ret2;rw[HO.out];exact BOut.empty _ (aB (aA (aA (Under.refl _) _) _) _)
theorem t5A(n m:Int)(s:ByteArray):Calls Tryz.prog 142 #[ndV ⟨2,n,m,s⟩] w0 (BOut w0 [] ((o7 n&&(m==0))&&s.toList.isEmpty)):=by
 have HO:RowKit.Hid (((o7 n&&(m==0))&&s.toList.isEmpty)=((o7 n&&(m==0))&&s.toList.isEmpty)):=Lib.hid rfl;have HC:=Lib.hid (fun w=>fJA (w0:=w) n);generalize hvb:((o7 n&&(m==0))&&s.toList.isEmpty)=vb at HO ⊢;have HV:=Lib.hid hvb;clear hvb HO;unfold ndV;generalize o7 n=lb at *
 cases lb
 · have HO:RowKit.Hid (vb=false):=Lib.hid (by rw[← HV.out];simp);rw[if_neg (by decide)]at HC;go_enter Tryz.func142,Tryz.ntmps142;go_wp2_with fail;go_quiet (first | (go_at_call 163;exact Calls.quiet_of_same (HC.out _)));go_wp2;go_ret2;rw[HO.out];exact BOut.empty _ (aB (aA (aA (Under.refl _) _) _) _)
 · rw [if_pos rfl] at HC
   cases h3:(m==0)
   · have HO:RowKit.Hid (vb=false):=Lib.hid (by rw[← HV.out,h3];simp);go_enter Tryz.func142,Tryz.ntmps142;go_wp2_with fail;go_quiet (first | (go_at_call 163;exact Calls.quiet_of_same (HC.out _)));go_wp2;go_ret2;rw[HO.out];exact BOut.empty _ (aB (aA (aA (Under.refl _) _) _) _)
   · cases h4 : s.toList.isEmpty
     · have HO:RowKit.Hid (vb=false):=Lib.hid (by rw[← HV.out,h4];simp);go_enter Tryz.func142,Tryz.ntmps142;go_wp2_with fail;go_quiet (first | (go_at_call 163;exact Calls.quiet_of_same (HC.out _)));go_wp2;go_ret2;rw[HO.out];exact BOut.empty _ (aB (aA (aA (Under.refl _) _) _) _)
     · have HO:RowKit.Hid (vb=true):=Lib.hid (by rw[← HV.out,h3,h4];rfl);go_enter Tryz.func142,Tryz.ntmps142;go_wp2_with fail;go_quiet (first | (go_at_call 163;exact Calls.quiet_of_same (HC.out _)));go_wp2;go_ret2;rw[HO.out];exact BOut.empty _ (aB (aA (aA (Under.refl _) _) _) _)
end
def piB(n m:Int)(s:ByteArray):Bool:=((decide (0≤n)&&decide (n≤3))&&(m==0))&&s.toList.isEmpty
section
variable {w0 : World}
theorem y3A(k n m:Int)(s:ByteArray)(h:k=3∨k=6):Calls Tryz.prog 142 #[ndV ⟨k,n,m,s⟩] w0 (BOut w0 [0,1] (piB n m s)):=by
 obtain⟨i0,hi,hz0,hz1,hz2⟩:=info_parts Tryz.infoInt;obtain⟨x,Hx⟩:∃ x,RowKit.Hid (x=k):=⟨k,Lib.hid rfl⟩;obtain⟨B,hB⟩:∃ B,piB n m s=B:=⟨_,rfl⟩;have hC:((0≤n)=False∧B=false)∨((0≤n)∧(n≤3)=False∧B=false)∨((0≤n)∧(n≤3)∧(m==0)=false∧B=false)∨((0≤n)∧(n≤3)∧(m==0)=true∧s.toList.isEmpty=false∧B=false)∨((0≤n)∧(n≤3)∧(m==0)=true∧s.toList.isEmpty=true∧B=true):=by
  subst hB;unfold piB;by_cases h1:0≤n<;>by_cases h2:n≤3<;>cases h3:(m==0)<;>cases h4:s.toList.isEmpty<;>simp[h1,h2]
 rw[hB];clear hB;unfold ndV at *;simp only;obtain⟨WN,HW⟩:∃ WN,RowKit.Hid (WN=w0.alloc (.cells #[.int .i64 x,.int .i64 n,.int .i64 m,.string s] 112)):=⟨_,Lib.hid rfl⟩;obtain⟨hs,HBx,HU⟩:WN.heap.size=w0.heap.size+1∧RowKit.Hid (BoxAt (WN.alloc (.cells #[] 3)) w0.heap.size 112 #[.int .i64 x,.int .i64 n,.int .i64 m,.string s])∧RowKit.Hid (Under w0 (WN.alloc (.cells #[] 3))):=by
  rw[HW.out];exact⟨by simp,(qA w0 _ _).alloc _,aA (aA (Under.refl _) _) _⟩
 have HR:=Lib.hid (hs▸yJ WN (w0.heap.size+1) 3 1 (by omega));rcases h with rfl | rfl<;>rcases hC with⟨h1,rfl⟩ | ⟨h1,h2,rfl⟩ | ⟨h1,h2,h3,rfl⟩ | ⟨h1,h2,h3,h4,rfl⟩ | ⟨h1,h2,h3,h4,rfl⟩
 all_goals
  go_enter Tryz.func142,Tryz.ntmps142;go_wp2_with fail;rw[Hx.out]at HW;rw[← HW.out];have Hs:=Lib.hid hs;clear hs Hx HW;generalize WN.alloc (.cells #[] 3)=W1 at *;have c0:=HBx.out.cell 0;have c1:=HBx.out.cell 1;have c2:=HBx.out.cell 2;have c3:=HBx.out.cell 3;refine wp_region_noPanic ?_;refine wp_region_held_drew (S:=(fun w'=>w'.cell? ⟨w0.heap.size,0,none⟩=some (.int .i64 x)∧w'.cell? ⟨w0.heap.size,1,none⟩=some (.int .i64 n)∧w'.cell? ⟨w0.heap.size,2,none⟩=some (.int .i64 m)∧w'.cell? ⟨w0.heap.size,3,none⟩=some (.string s))) (by kernel_rfl) ⟨c0,c1,c2,c3⟩ (fun hHeld=>?_)
  repeat (
    first
    | (first
        | refine jD 0 (v:=?_) rfl (by decide +kernel) (fun _ _ _ h=>h) ?_ (by assumption) ?_ | refine jD 3 (v:=?_) rfl (by decide +kernel) (fun _ _ _ h=>h) ?_ (by assumption) ?_ | refine jD 4 (v:=?_) rfl (by decide +kernel) (fun _ _ _ h=>h) ?_ (by assumption) ?_ | refine jD 5 (v:=?_) rfl (by decide +kernel) (fun _ _ _ h=>h) ?_ (by assumption) ?_ | refine jD 6 (v:=?_) rfl (by decide +kernel) (fun _ _ _ h=>h) ?_ (by assumption) ?_ | refine jD 7 (v:=?_) rfl (by decide +kernel) (fun _ _ _ h=>h) ?_ (by assumption) ?_ | refine jD 8 (v:=?_) rfl (by decide +kernel) (fun _ _ _ h=>h) ?_ (by assumption) ?_ | refine jD 9 (v:=?_) rfl (by decide +kernel) (fun _ _ _ h=>h) ?_ (by assumption) ?_ | refine jD 10 (v:=?_) rfl (by decide +kernel) (fun _ _ _ h=>h) ?_ (by assumption) ?_ | refine jD 11 (v:=?_) rfl (by decide +kernel) (fun _ _ _ h=>h) ?_ (by assumption) ?_ | refine jD 12 (v:=?_) rfl (by decide +kernel) (fun _ _ _ h=>h) ?_ (by assumption) ?_ | refine jD 13 (v:=?_) rfl (by decide +kernel) (fun _ _ _ h=>h) ?_ (by assumption) ?_ | refine jD 14 (v:=?_) rfl (by decide +kernel) (fun _ _ _ h=>h) ?_ (by assumption) ?_ | refine jD 15 (v:=?_) rfl (by decide +kernel) (fun _ _ _ h=>h) ?_ (by assumption) ?_ | refine jD 16 (v:=?_) rfl (by decide +kernel) (fun _ _ _ h=>h) ?_ (by assumption) ?_ | refine jD 17 (v:=?_) rfl (by decide +kernel) (fun _ _ _ h=>h) ?_ (by assumption) ?_ | refine jD 18 (v:=?_) rfl (by decide +kernel) (fun _ _ _ h=>h) ?_ (by assumption) ?_ | refine jD 19 (v:=?_) rfl (by decide +kernel) (fun _ _ _ h=>h) ?_ (by assumption) ?_ | refine jD 20 (v:=?_) rfl (by decide +kernel) (fun _ _ _ h=>h) ?_ (by assumption) ?_ | refine jD 21 (v:=?_) rfl (by decide +kernel) (fun _ _ _ h=>h) ?_ (by assumption) ?_ | refine jD 22 (v:=?_) rfl (by decide +kernel) (fun _ _ _ h=>h) ?_ (by assumption) ?_
       rotate_left
       (first | (refine Or.inl ⟨by rfl,?_⟩;intro w hSw;(try dsimp only at hSw);go_simp;with_reducible rfl) | (refine Or.inr ⟨by rfl,?_⟩;with_reducible rfl)))
    | (refine wpAnyH_ready (rs := [1]) (by decide +kernel) (by simp) (AllReadyH.cons rfl (fun K hK => ?_) AllReadyH.nil)
       go_simp;refine hK.out _ _ ⟨(HBx.out.alloc _).drew.cell 0,(HBx.out.alloc _).drew.cell 1,(HBx.out.alloc _).drew.cell 2,(HBx.out.alloc _).drew.cell 3⟩ (fun hHeld'=>?_);clear hK K)
    | (refine wpAnyH_ready (rs := [2]) (by decide +kernel) (by simp) (AllReadyH.cons rfl (fun K hK => ?_) AllReadyH.nil)
       refine step_append_lies _ (by rfl) _ _ _ (by rfl) (w0.heap.size+1) 3 i0 _ 1 8 Tryz.underlying123 hi hz0 hz1 hz2 rfl (by omega) _ 0 [] (by rfl) (HR.out.alloc _).drew ⟨W1.heap.size,0,none⟩ _ _ _ (by rfl) (by rfl) (World.news_of_block (fr:=(0,0)) (heap_alloc_new W1 _)) (by simp[Value.oneCell']) (by omega) (by simp[maxLen]) (by simp) (by have:=HBx.out.lt;simp;omega) (W1.heap.size+1) (by simp) ?_;intro gg cc w2 hown2 hgrow hat hlt;have HB2:=Lib.hid (BoxAt.grown ((HBx.out.alloc (.cells _ 3)).drew) hgrow (fun e=>by simp[Value.ownBlock]at e));have HU2:=Lib.hid (rA (fA (aA HU.out (.cells _ 3))) hgrow (fun g e=>by have:=HBx.out.lt;simp[Value.ownBlock]at e;omega));have HO2:=Lib.hid hown2;clear hown2 hgrow hat hlt;refine hK.out _ _ ⟨HB2.out.cell 0,HB2.out.cell 1,HB2.out.cell 2,HB2.out.cell 3⟩ (fun hHeld'=>?_);clear hK K)
    try simp only[Act.put,List.getElem_toArray,List.getElem_cons_succ,List.getElem_cons_zero,List.setIfInBounds_toArray,List.set_cons_zero,List.set_cons_succ])
  refine wpAnyH_done (by decide +kernel) ?_ _;refine NoPanic.normal ?_;obtain⟨q,c,hv,hc,hr⟩:=RowArg.of_own HO2.out
  cases hv;go_wp2;go_ret2;exact⟨_,_,rfl,hc,hr,HU2.out⟩
end
section
variable {w0 : World}
theorem mWA(n m:Int)(s:ByteArray)(h:rD s=false∨n≠0∨m < 0∨6 < m):Calls Tryz.prog 142 #[ndV ⟨27,n,m,s⟩] w0 (BOut w0 [] false):=by
 have HNm:=Lib.hid (fun w=>wL (w0:=w) s);unfold ndV;generalize rD s=nb at *
 cases nb
 · clear h;go_enter Tryz.func142,Tryz.ntmps142;go_wp2_with fail;refine(HNm.out _).mono ?_;rintro e w3 ⟨rfl,rfl⟩;go_wp2;go_ret2;exact BOut.empty _ (aA (aA (Under.refl _) _) _)
 · by_cases h1 : n = 0
   · subst h1; by_cases h3 : m < 0
     · clear h;go_enter Tryz.func142,Tryz.ntmps142;go_wp2_with fail;refine(HNm.out _).mono ?_;rintro e w3 ⟨rfl,rfl⟩;go_wp2;go_ret2;exact BOut.empty _ (aA (aA (Under.refl _) _) _)
     · have h4 : 6 < m := by
         simp at h;omega
       clear h;go_enter Tryz.func142,Tryz.ntmps142;go_wp2_with fail;refine(HNm.out _).mono ?_;rintro e w3 ⟨rfl,rfl⟩;go_wp2;go_ret2;exact BOut.empty _ (aA (aA (Under.refl _) _) _)
   · clear h;go_enter Tryz.func142,Tryz.ntmps142;go_wp2_with fail;refine(HNm.out _).mono ?_;rintro e w3 ⟨rfl,rfl⟩;go_wp2;go_ret2;exact BOut.empty _ (aA (aA (Under.refl _) _) _)
theorem jTA(m:Nat)(s:ByteArray)(hs:rD s=true)(h3:m≤6):Calls Tryz.prog 142 #[ndV ⟨27,0,m,s⟩] w0 (BOut w0 (1::List.replicate (m+1) 0) true):=by
 have HNm:=Lib.hid (fun w=>wL (w0:=w) s);rw[hs]at HNm;obtain⟨i0,hi,hz0,hz1,hz2⟩:=info_parts Tryz.infoInt;unfold ndV;have HE:=Lib.hid (yJ (w0.alloc (.cells #[.int .i64 27,.int .i64 0,.int .i64 m,.string s] 112)) (w0.heap.size+1) 3 1 (by simp));rw[show(w0.alloc (.cells #[.int .i64 27,.int .i64 0,.int .i64 m,.string s] 112)).heap.size=w0.heap.size+1 by simp]at HE;have m0:(0:Int)≤m:=Int.natCast_nonneg _;have m6:(m:Int)≤6:=by omega
 clear hs;go_enter Tryz.func142,Tryz.ntmps142;go_wp2_with fail;refine(HNm.out _).mono ?_;rintro e w3 ⟨rfl,rfl⟩;obtain⟨W1,hW1⟩:∃ W,W=(w0.alloc (.cells #[.int .i64 27,.int .i64 0,.int .i64 m,.string s] 112)).alloc (.cells #[] 3):=⟨_,rfl⟩;have HB:=Lib.hid (show BoxAt W1 w0.heap.size 112 #[.int .i64 27,.int .i64 0,.int .i64 m,.string s] by rw[hW1];exact(qA w0 _ _).alloc _);have c1:=HB.out.cell 1;have c2:=HB.out.cell 2;have hsz:w0.heap.size+2=W1.heap.size:=by rw[hW1];simp
 have HU:=Lib.hid (show Under w0 W1 by rw[hW1];exact aA (aA (Under.refl _) _) _);have HR:=Lib.hid (show W1.ownsRow (w0.heap.size+1) 3 1 (.slice (some ⟨w0.heap.size+1,0,none⟩) 0 0) 0 [] by rw[hW1];exact HE.out);rw[← hW1];clear hW1 HE;have HS:=Lib.hid hsz;clear hsz;go_wp2_with (at_builtin;refine wpList_append_lies _ rfl _ _ 123 rfl (w0.heap.size+1) 3 i0 _ 1 8 Tryz.underlying123 hi hz0 hz1 hz2 rfl (by decide) _ _ _ rfl (HR.out.alloc _) ⟨W1.heap.size,0,none⟩ 1 1 [.int .i64 1] rfl rfl ?c1 ?c2 (by decide) (by simp[maxLen]) (by simp) ?c5 (W1.heap.size+1) (by simp) ?_)
 case c1=>exact cell_one_new _ _ _
 case c2=>simp[Value.oneCell']
 case c5=>have:=HS.out;simp;omega
 intro g cap w2 hown hgrow hat hlt;have HO:=Lib.hid hown;have HB2:=Lib.hid (BoxAt.grown (HB.out.alloc (.cells #[.int .i64 1] 3)) hgrow (fun e=>by simp[Value.ownBlock]at e));have HU2:=Lib.hid (rA (aA HU.out (.cells #[.int .i64 1] 3)) hgrow (fun g e=>by simp[Value.ownBlock]at e;omega));have HS2:=Lib.hid hlt;have d2:=HB2.out.cell 2;have HZ:=Lib.hid (show w0.heap.size+1≤w2.heap.size from Nat.le_of_lt (Nat.lt_of_le_of_lt (HO.out.lt _ rfl).1 HS2.out));clear hown hgrow hat hlt c1 c2;go_wp2_with (at_builtin;refine eP rfl _ _ (w0.heap.size+1) 123 3 3 rfl i0 Tryz.underlying123 Tryz.underlying3 hi hz0 hz1 hz2 _ _ _ (m+1) rfl ?c0 HO.out (by decide) (by omega) (by omega) HZ.out ?_)
 case c0=>exact congrArg (Value.int .i64) (by omega)
 intro v w4 hown hgrow;have HO4:=Lib.hid hown;have HU4:=Lib.hid (rA HU2.out hgrow fun k e=>by have:=(HO.out.lt k e).1;omega);clear hown hgrow;obtain⟨q,c,hv,hc,hr⟩:=RowArg.of_own HO4.out
 cases hv;go_wp2;go_ret2;have hcs:[]++[Value.int .i64 1]++List.replicate (m+1) (.int .i64 0)=bE (1::List.replicate (m+1) 0):=by simp[bE]
 have hl:(1::List.replicate (m+1) 0).length=1+(m+1):=by simp;omega
 exact⟨_,_,by rw[hl];rfl,by rw[hl];exact hc,by rw[← hcs];exact hr,HU4.out⟩
end
theorem tZ{k n m:Int}{s:ByteArray}(h1:¬(k < 0∨30≤k))(h2:fN k.toNat=false)(h3:fM k.toNat=false)(h4:fS k.toNat=false)(h5:k≠2)(h6:k≠26)(h7:k≠27):yA ⟨k,n,m,s⟩=gQ ⟨k,n,m,s⟩:=by
 unfold yA gQ;rw[lJ,if_neg h1];simp only[h2,h3,h4,if_neg h5,if_neg h6,if_neg h7];by_cases a:n=0<;>by_cases b:m=0<;>by_cases c:s.size=0<;>simp[a,b,c]
theorem oRA{n m:Int}{s:ByteArray}:yA ⟨0,n,m,s⟩=mXA n m s:=by
 unfold yA mXA;rw[lJ];by_cases b:m=0<;>by_cases c:s.size=0<;>simp[fN,fM,fS,bX,b,c]
theorem iXA{k n m:Int}{s:ByteArray}(hk:k=3∨k=6):yA ⟨k,n,m,s⟩=piB n m s:=by
 unfold yA piB;rw[lJ];rcases hk with rfl | rfl<;>by_cases b:m=0<;>by_cases c:s.size=0<;>simp[fN,fM,fS,bX,b,c]
theorem uLA{n m:Int}{s:ByteArray}:yA ⟨2,n,m,s⟩=((o7 n&&(m==0))&&s.toList.isEmpty):=by
 unfold yA o7;rw[lJ];by_cases b:m=0<;>by_cases c:s.size=0<;>simp[fN,fM,fS,b,c]
theorem dKA{k n m:Int}{s:ByteArray}(hk:k=1∨k=25):yA ⟨k,n,m,s⟩=((n==0)&&(m==0)&&rD s):=by
 unfold yA;rcases hk with rfl | rfl<;>by_cases a:n=0<;>by_cases b:m=0<;>cases c:rD s<;>simp[fN,fM,fS,a,b,c]
theorem rEA{n m:Int}{s:ByteArray}:yA ⟨26,n,m,s⟩=(rD s&&(decide (0≤n)&&decide (n≤5)&&decide (0≤m)&&decide (m≤6))):=by
 unfold yA
 cases c:rD s<;>simp[fN,fM,fS,c]
theorem yBA{n m:Int}{s:ByteArray}:yA ⟨27,n,m,s⟩=(rD s&&(n==0)&&(decide (0≤m)&&decide (m≤6))):=by
 unfold yA
 cases c:rD s<;>by_cases a:n=0<;>simp[fN,fM,fS,a,c]
def ROut(w0:World)(x:Nd)(e:Ending)(w:World):Prop:=∃ l,(yA x=true→l=binds x)∧BOut w0 l (yA x) e w
section
variable {w0 : World}
theorem ROut.of{w:World}{e:Ending}{x:Nd}{l:List Nat}{b:Bool}(h:BOut w0 l b e w)(hb:yA x=b)(hl:b=true→l=binds x):ROut w0 x e w:=⟨l,fun h=>hl (hb▸h),by rw[hb];exact h⟩
theorem l4A(n m:Int)(s:ByteArray):Calls Tryz.prog 142 #[ndV ⟨26,n,m,s⟩] w0 (ROut w0 ⟨26,n,m,s⟩):=by
 by_cases h:rD s=false∨n < 0∨6≤n∨m < 0∨6 < m
 · refine (eYA n m s h).mono fun e w hb => ROut.of hb ?_ (fun h => by cases h)
   rw[rEA];rcases h with h | h | h | h | h
   · rw[h];rfl
   all_goals
    rw[Bool.and_eq_false_iff]
    right
    rw[Bool.eq_false_iff];intro c;simp only[Bool.and_eq_true,decide_eq_true_eq]at c;omega
 · have hs : rD s = true := by cases c : rD s; exact (h (.inl c)).elim; rfl
   have h':0≤n∧n < 6∧0≤m∧m≤6:=by
    refine⟨?_,?_,?_,?_⟩<;>(refine Classical.byContradiction fun c=>h ?_;omega)
   obtain⟨m',rfl⟩:∃ m':Nat,m=m':=⟨m.toNat,by omega⟩;refine(zTA n m' s hs h'.1 h'.2.1 (by omega)).mono fun e w hb=>ROut.of hb ?_ (fun _=>?_)
   · rw[rEA,hs];simp only[Bool.true_and,Bool.and_eq_true,decide_eq_true_eq];omega
   · unfold binds;rw[if_pos rfl];rfl
theorem a4A(n m:Int)(s:ByteArray):Calls Tryz.prog 142 #[ndV ⟨27,n,m,s⟩] w0 (ROut w0 ⟨27,n,m,s⟩):=by
 by_cases h:rD s=false∨n≠0∨m < 0∨6 < m
 · refine (mWA n m s h).mono fun e w hb => ROut.of hb ?_ (fun h => by cases h)
   rw[yBA];rcases h with h | h | h | h
   · rw[h];rfl
   · have : (n == 0) = false := by simpa using h
     rw[this];simp
   all_goals
    rw[Bool.and_eq_false_iff]
    right
    rw[Bool.eq_false_iff];intro c;simp only[Bool.and_eq_true,decide_eq_true_eq]at c;omega
 · have hs : rD s = true := by cases c : rD s; exact (h (.inl c)).elim; rfl
   have h':n=0∧0≤m∧m≤6:=by
    refine⟨?_,?_,?_⟩<;>(refine Classical.byContradiction fun c=>h ?_;omega)
   obtain⟨m',rfl⟩:∃ m':Nat,m=m':=⟨m.toNat,by omega⟩;obtain rfl:=h'.1;refine(jTA m' s hs (by omega)).mono fun e w hb=>ROut.of hb ?_ (fun _=>?_)
   · rw[yBA,hs];simp;omega
   · unfold binds;rw[if_neg (by simp),if_pos rfl];rfl
theorem jM(x:Nd):Calls Tryz.prog 142 #[ndV x] w0 (ROut w0 x):=by
 obtain⟨k,n,m,s⟩:=x;by_cases h:k < 0∨29 < k
 · refine (hZA k n m s h).mono fun e w hb => ROut.of hb ?_ (fun h => by cases h)
   unfold yA;rw[if_pos (by simp only;omega)]
 have hk:k=0∨k=2∨k=26∨k=27∨(k=3∨k=6)∨(k=1∨k=25)∨(k=10∨k=11∨k=14∨k=16∨k=17∨k=29)∨(k=4∨k=5∨k=7∨k=8∨k=9∨k=12∨k=13∨k=15∨k=18∨k=19∨k=20∨k=21∨k=22∨k=23∨k=24∨k=28):=by omega
 rcases hk with rfl | rfl | rfl | rfl | hk | hk | hk | hk
 · exact(q5A n m s).mono fun e w h=>ROut.of h oRA (fun _=>rfl)
 · exact(t5A n m s).mono fun e w h=>ROut.of h uLA (fun _=>rfl)
 · exact l4A n m s
 · exact a4A n m s
 · refine (y3A k n m s hk).mono fun e w h => ROut.of h (iXA hk) ?_
   rcases hk with rfl | rfl<;>exact fun _=>rfl
 · refine (tUA k n m s hk).mono fun e w h => ROut.of h (dKA hk) ?_
   rcases hk with rfl | rfl<;>exact fun _=>rfl
 · refine (rZA k n m s hk).mono fun e w h => ?_
   rcases hk with rfl | rfl | rfl | rfl | rfl | rfl<;>exact ROut.of (l:=[]) h (tZ (by decide) rfl rfl rfl (by decide) (by decide) (by decide)) (fun _=>rfl)
 · rcases hk with rfl | rfl | rfl | rfl | rfl | rfl | rfl | rfl | rfl | rfl | rfl | rfl | rfl | rfl | rfl | rfl
   all_goals exact(zZA _ n m s _ (by simp only[uXA,List.mem_cons,Prod.mk.injEq,Int.reduceEq,true_and,false_and,false_or,List.not_mem_nil,or_false];rfl)).mono fun e w h=>ROut.of h (tZ (by decide) rfl rfl rfl (by decide) (by decide) (by decide)) (fun _=>rfl)
end
def aF : List Nd → Nat → Bool
  | [],d=>d==1
  | x::t,d=>if yA x=false∨d < (binds x).length then false else aF t (d - (binds x).length+1)
def e5A(w0:World)(t:List Nd)(d i:Value)(wr:World):Prop:=∃ k D:Nat,k≤t.length∧D≤k∧d = .int .i64 (D:Int)∧i = .int .i64 (k:Int)∧(aF t 0=aF (t.drop k) D)∧Under w0 wr
section
variable {w0 : World}
theorem vTA(t:List Nd){v:Value}(hn:t.length≤1000000)(hv:TermV w0 v t):Calls Tryz.prog 136 #[v] w0 fun e w=>e = .returned (.bool (aF t 0))∧Under w0 w:=by
 obtain⟨p,c,rfl,_,_,hr⟩:=hv;have HR:=Lib.hid hr;have HN:=Lib.hid hn;have hn':(t.length:Int)≤1000000:=by omega
 have hn0:(0:Int)≤(t.length:Int):=by omega
 clear hr hn;go_enter Tryz.func136,Tryz.ntmps136;go_wp2;go_loopw [3,4] (fun d i wr=>e5A w0 t d i wr) (fun _ i _=>t.length - (intOf i).toNat)
 case atStart=>exact⟨0,0,Nat.zero_le _,Nat.le_refl _,rfl,rfl,by simp,Under.refl _⟩
 case round =>
   obtain⟨k,D,hk,hD,rfl,rfl,hG,hU⟩:=hrel;have HG:=Lib.hid hG;clear hG;have hD0:(0:Int)≤(D:Int):=by omega
   have hk0:(0:Int)≤(k:Int):=by omega
   have hDk:(D:Int)≤(k:Int):=by omega
   by_cases hlt:k < t.length
   · obtain ⟨b1, off1, rfl, hb1, c0, c1, c2, c3⟩ := RowArg.node HR.out (List.getElem?_eq_getElem hlt); rw [← dA hU hb1] at c0 c1 c2 c3; have hb1' := Nat.lt_of_lt_of_le hb1 hU.size; have HD := Lib.hid (show aF (t.drop k) D = if yA t[k] = false ∨ D < (binds t[k]).length then false else aF (t.drop (k + 1)) (D - (binds t[k]).length + 1) by rw [List.drop_eq_getElem_cons hlt]; rfl); have HU := Lib.hid hU; clear hU; generalize t[k] = x at *; have HC := Lib.hid (fun w => jM (w0 := w) x); have hlt' : (k : Int) < (t.length : Int) := by omega
     go_wp2_with fail;refine(HC.out _).mono ?_;rintro e w1 ⟨l,hl,q,c',rfl,hlc,hrl,hU1⟩;have HU1:=Lib.hid (HU.out.trans hU1);clear hU1 hlc hrl HC c0 c1 c2 c3
     cases hx:yA x
     · have HF:RowKit.Hid (aF t 0=false):=Lib.hid (by rw[HG.out,HD.out,if_pos (.inl hx)]);clear hl hx;go_wp2;go_ret;exact⟨by rw[HF.out];rfl,HU1.out⟩
     · obtain rfl := hl hx; have HX := Lib.hid hx; have hB8 := gK hx; clear hl hx; generalize (binds x).length = N at *; have hN0 : (0 : Int) ≤ (N : Int) := by omega
       have hN8:(N:Int)≤8:=by omega
       by_cases hc:D < N
       · have hc' : (D : Int) < (N : Int) := by omega
         have HF:RowKit.Hid (aF t 0=false):=Lib.hid (by rw[HG.out,HD.out,if_pos (.inr hc)]);clear hc;go_wp2;go_ret;exact⟨by rw[HF.out];rfl,HU1.out⟩
       · have hc' : (N : Int) ≤ (D : Int) := by omega
         have HF:RowKit.Hid (aF t 0=aF (t.drop (k+1)) (D - N+1)):=Lib.hid (by rw[HG.out,HD.out,if_neg (by rw[HX.out];simp;omega)]);clear hc;go_wp2;go_roundw
         case rel=>exact⟨k+1,D - N+1,by omega,by omega,by go_num,by go_num,HF.out,HU1.out⟩
         case measure=>simp[intOf];omega
   · obtain rfl : k = t.length := by omega
     have HF:RowKit.Hid (aF t 0=(D==1)):=Lib.hid (by rw[HG.out,List.drop_length];rfl);have HU:=Lib.hid hU;clear hU;by_cases h1:D=1
     · subst h1;have HF:RowKit.Hid (aF t 0=true):=Lib.hid (by rw[HF.out];rfl);go_wp2;go_ret;exact⟨by rw[HF.out];rfl,HU.out⟩
     · have h1' : ((D : Int) == 1) = false := by simp; omega
       have HF:RowKit.Hid (aF t 0=false):=Lib.hid (by rw[HF.out];simpa using h1);clear h1;go_wp2;go_ret;exact⟨by rw[HF.out];rfl,HU.out⟩
end
end Go.Proofs.YtggjbblgoddnjaaGreatDoor
