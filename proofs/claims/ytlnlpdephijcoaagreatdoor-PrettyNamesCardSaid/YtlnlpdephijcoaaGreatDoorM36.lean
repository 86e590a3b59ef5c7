/- Part 36 of what the proof rests on. -/
import Derived.Deep.QuietTactic
import Derived.Deep.AppendLies
import Derived.Test.YtlnlpdephijcoaaGreatDoorM11
import Derived.Test.YtlnlpdephijcoaaGreatDoorM13
import Derived.Test.YtlnlpdephijcoaaGreatDoorM31
import Derived.Test.YtlnlpdephijcoaaGreatDoorM35
set_option linter.unusedSimpArgs false
set_option linter.unusedVariables false
set_option maxRecDepth 100000
set_option maxHeartbeats 16000000
namespace Go.Proofs.YtlnlpdephijcoaaGreatDoor
open Go.Lx Go.RowKit
def e3A(n m:Int)(s:ByteArray):Bool:=((decide (0≤n)&&decide (n≤99))&&(m==0))&&s.toList.isEmpty
section
variable {w0 : World}
theorem yDB(n m:Int)(s:ByteArray):Calls Tryz.prog 88 #[ndV ⟨0,n,m,s⟩] w0 (BOut w0 [] (e3A n m s)):=by
 have HO:RowKit.Hid (e3A n m s=(((decide (0≤n)&&decide (n≤99))&&(m==0))&&s.toList.isEmpty)):=Lib.hid rfl;generalize e3A n m s=vb at *;unfold ndV;by_cases h1:0≤n
 · by_cases h2 : n ≤ 99
   · cases h3 : (m == 0)
     · have HO:RowKit.Hid (vb=false):=Lib.hid (by rw[HO.out,h3];simp);go_enter Tryz.func88,Tryz.ntmps88;go_wp2_with fail;go_quiet (fail);go_wp2;go_ret2;rw[HO.out];exact BOut.empty _ (bB (aA (aA (Under.refl _) _) _) _)
     · cases h4 : s.toList.isEmpty
       · have HO:RowKit.Hid (vb=false):=Lib.hid (by rw[HO.out,h4];simp);go_enter Tryz.func88,Tryz.ntmps88;go_wp2_with fail;go_quiet (fail);go_wp2;go_ret2;rw[HO.out];exact BOut.empty _ (bB (aA (aA (Under.refl _) _) _) _)
       · have HO:RowKit.Hid (vb=true):=Lib.hid (by rw[HO.out,h3,h4];simp[h1,h2]);go_enter Tryz.func88,Tryz.ntmps88;go_wp2_with fail;go_quiet (fail);go_wp2;go_ret2;rw[HO.out];exact BOut.empty _ (bB (aA (aA (Under.refl _) _) _) _)
   · have HO:RowKit.Hid (vb=false):=Lib.hid (by rw[HO.out];simp[h2]);go_enter Tryz.func88,Tryz.ntmps88;go_wp2_with fail;have hb:(n≤99)=False:=eq_false (by omega);go_quiet (fail);go_wp2;go_ret2;rw[HO.out];exact BOut.empty _ (bB (aA (aA (Under.refl _) _) _) _)
 · have HO:RowKit.Hid (vb=false):=Lib.hid (by rw[HO.out];simp[h1]);go_enter Tryz.func88,Tryz.ntmps88;go_wp2_with fail;have hb:(0≤n)=False:=eq_false (by omega);go_quiet (fail);go_wp2;go_ret2;rw[HO.out];exact BOut.empty _ (bB (aA (aA (Under.refl _) _) _) _)
theorem vDB(n m:Int)(s:ByteArray):Calls Tryz.prog 88 #[ndV ⟨2,n,m,s⟩] w0 (BOut w0 [] ((tCA n&&(m==0))&&s.toList.isEmpty)):=by
 have HO:RowKit.Hid (((tCA n&&(m==0))&&s.toList.isEmpty)=((tCA n&&(m==0))&&s.toList.isEmpty)):=Lib.hid rfl;have HC:=Lib.hid (fun w=>zMA (w0:=w) n);generalize hvb:((tCA n&&(m==0))&&s.toList.isEmpty)=vb at HO ⊢;have HV:=Lib.hid hvb;clear hvb HO;unfold ndV;generalize tCA n=lb at *
 cases lb
 · have HO:RowKit.Hid (vb=false):=Lib.hid (by rw[← HV.out];simp);rw[if_neg (by decide)]at HC;go_enter Tryz.func88,Tryz.ntmps88;go_wp2_with fail;go_quiet (first | (go_at_call 116;exact Calls.quiet_of_same (HC.out _)));go_wp2;go_ret2;rw[HO.out];exact BOut.empty _ (bB (aA (aA (Under.refl _) _) _) _)
 · rw [if_pos rfl] at HC
   cases h3:(m==0)
   · have HO:RowKit.Hid (vb=false):=Lib.hid (by rw[← HV.out,h3];simp);go_enter Tryz.func88,Tryz.ntmps88;go_wp2_with fail;go_quiet (first | (go_at_call 116;exact Calls.quiet_of_same (HC.out _)));go_wp2;go_ret2;rw[HO.out];exact BOut.empty _ (bB (aA (aA (Under.refl _) _) _) _)
   · cases h4 : s.toList.isEmpty
     · have HO:RowKit.Hid (vb=false):=Lib.hid (by rw[← HV.out,h4];simp);go_enter Tryz.func88,Tryz.ntmps88;go_wp2_with fail;go_quiet (first | (go_at_call 116;exact Calls.quiet_of_same (HC.out _)));go_wp2;go_ret2;rw[HO.out];exact BOut.empty _ (bB (aA (aA (Under.refl _) _) _) _)
     · have HO:RowKit.Hid (vb=true):=Lib.hid (by rw[← HV.out,h3,h4];rfl);go_enter Tryz.func88,Tryz.ntmps88;go_wp2_with fail;go_quiet (first | (go_at_call 116;exact Calls.quiet_of_same (HC.out _)));go_wp2;go_ret2;rw[HO.out];exact BOut.empty _ (bB (aA (aA (Under.refl _) _) _) _)
end
def piB(n m:Int)(s:ByteArray):Bool:=((decide (0≤n)&&decide (n≤3))&&(m==0))&&s.toList.isEmpty
section
variable {w0 : World}
theorem nDB(k n m:Int)(s:ByteArray)(h:k=3∨k=6):Calls Tryz.prog 88 #[ndV ⟨k,n,m,s⟩] w0 (BOut w0 [0,1] (piB n m s)):=by
 obtain⟨i0,hi,hz0,hz1,hz2⟩:=info_parts Tryz.infoInt;obtain⟨x,Hx⟩:∃ x,RowKit.Hid (x=k):=⟨k,Lib.hid rfl⟩;obtain⟨B,hB⟩:∃ B,piB n m s=B:=⟨_,rfl⟩;have hC:((0≤n)=False∧B=false)∨((0≤n)∧(n≤3)=False∧B=false)∨((0≤n)∧(n≤3)∧(m==0)=false∧B=false)∨((0≤n)∧(n≤3)∧(m==0)=true∧s.toList.isEmpty=false∧B=false)∨((0≤n)∧(n≤3)∧(m==0)=true∧s.toList.isEmpty=true∧B=true):=by
  subst hB;unfold piB;by_cases h1:0≤n<;>by_cases h2:n≤3<;>cases h3:(m==0)<;>cases h4:s.toList.isEmpty<;>simp[h1,h2]
 rw[hB];clear hB;unfold ndV at *;simp only;obtain⟨WN,HW⟩:∃ WN,RowKit.Hid (WN=w0.alloc (.cells #[.int .i64 x,.int .i64 n,.int .i64 m,.string s] 76)):=⟨_,Lib.hid rfl⟩;obtain⟨hs,HBx,HU⟩:WN.heap.size=w0.heap.size+1∧RowKit.Hid (BoxAt (WN.alloc (.cells #[] 3)) w0.heap.size 76 #[.int .i64 x,.int .i64 n,.int .i64 m,.string s])∧RowKit.Hid (Under w0 (WN.alloc (.cells #[] 3))):=by
  rw[HW.out];exact⟨by simp,(yA w0 _ _).alloc _,aA (aA (Under.refl _) _) _⟩
 have HR:=Lib.hid (hs▸aK WN (w0.heap.size+1) 3 1 (by omega));rcases h with rfl | rfl<;>rcases hC with⟨h1,rfl⟩ | ⟨h1,h2,rfl⟩ | ⟨h1,h2,h3,rfl⟩ | ⟨h1,h2,h3,h4,rfl⟩ | ⟨h1,h2,h3,h4,rfl⟩
 all_goals
  go_enter Tryz.func88,Tryz.ntmps88;go_wp2_with fail;rw[Hx.out]at HW;rw[← HW.out];have Hs:=Lib.hid hs;clear hs Hx HW;generalize WN.alloc (.cells #[] 3)=W1 at *;have c0:=HBx.out.cell 0;have c1:=HBx.out.cell 1;have c2:=HBx.out.cell 2;have c3:=HBx.out.cell 3;refine wp_region_noPanic ?_;refine wp_region_held_drew (S:=(fun w'=>w'.cell? ⟨w0.heap.size,0,none⟩=some (.int .i64 x)∧w'.cell? ⟨w0.heap.size,1,none⟩=some (.int .i64 n)∧w'.cell? ⟨w0.heap.size,2,none⟩=some (.int .i64 m)∧w'.cell? ⟨w0.heap.size,3,none⟩=some (.string s))) (by kernel_rfl) ⟨c0,c1,c2,c3⟩ (fun hHeld=>?_)
  repeat (
    first
    | (first
        | refine nD 0 (v:=?_) rfl (by decide +kernel) (fun _ _ _ h=>h) ?_ (by assumption) ?_ | refine nD 3 (v:=?_) rfl (by decide +kernel) (fun _ _ _ h=>h) ?_ (by assumption) ?_ | refine nD 4 (v:=?_) rfl (by decide +kernel) (fun _ _ _ h=>h) ?_ (by assumption) ?_ | refine nD 5 (v:=?_) rfl (by decide +kernel) (fun _ _ _ h=>h) ?_ (by assumption) ?_ | refine nD 6 (v:=?_) rfl (by decide +kernel) (fun _ _ _ h=>h) ?_ (by assumption) ?_ | refine nD 7 (v:=?_) rfl (by decide +kernel) (fun _ _ _ h=>h) ?_ (by assumption) ?_ | refine nD 8 (v:=?_) rfl (by decide +kernel) (fun _ _ _ h=>h) ?_ (by assumption) ?_ | refine nD 9 (v:=?_) rfl (by decide +kernel) (fun _ _ _ h=>h) ?_ (by assumption) ?_ | refine nD 10 (v:=?_) rfl (by decide +kernel) (fun _ _ _ h=>h) ?_ (by assumption) ?_ | refine nD 11 (v:=?_) rfl (by decide +kernel) (fun _ _ _ h=>h) ?_ (by assumption) ?_ | refine nD 12 (v:=?_) rfl (by decide +kernel) (fun _ _ _ h=>h) ?_ (by assumption) ?_ | refine nD 13 (v:=?_) rfl (by decide +kernel) (fun _ _ _ h=>h) ?_ (by assumption) ?_ | refine nD 14 (v:=?_) rfl (by decide +kernel) (fun _ _ _ h=>h) ?_ (by assumption) ?_ | refine nD 15 (v:=?_) rfl (by decide +kernel) (fun _ _ _ h=>h) ?_ (by assumption) ?_ | refine nD 16 (v:=?_) rfl (by decide +kernel) (fun _ _ _ h=>h) ?_ (by assumption) ?_ | refine nD 17 (v:=?_) rfl (by decide +kernel) (fun _ _ _ h=>h) ?_ (by assumption) ?_ | refine nD 18 (v:=?_) rfl (by decide +kernel) (fun _ _ _ h=>h) ?_ (by assumption) ?_ | refine nD 19 (v:=?_) rfl (by decide +kernel) (fun _ _ _ h=>h) ?_ (by assumption) ?_ | refine nD 20 (v:=?_) rfl (by decide +kernel) (fun _ _ _ h=>h) ?_ (by assumption) ?_ | refine nD 21 (v:=?_) rfl (by decide +kernel) (fun _ _ _ h=>h) ?_ (by assumption) ?_ | refine nD 22 (v:=?_) rfl (by decide +kernel) (fun _ _ _ h=>h) ?_ (by assumption) ?_
       rotate_left
       (first | (refine Or.inl ⟨by rfl,?_⟩;intro w hSw;(try dsimp only at hSw);go_simp;with_reducible rfl) | (refine Or.inr ⟨by rfl,?_⟩;with_reducible rfl)))
    | (refine wpAnyH_ready (rs := [1]) (by decide +kernel) (by simp) (AllReadyH.cons rfl (fun K hK => ?_) AllReadyH.nil)
       go_simp;refine hK.out _ _ ⟨(HBx.out.alloc _).drew.cell 0,(HBx.out.alloc _).drew.cell 1,(HBx.out.alloc _).drew.cell 2,(HBx.out.alloc _).drew.cell 3⟩ (fun hHeld'=>?_);clear hK K)
    | (refine wpAnyH_ready (rs := [2]) (by decide +kernel) (by simp) (AllReadyH.cons rfl (fun K hK => ?_) AllReadyH.nil)
       refine step_append_lies _ (by rfl) _ _ _ (by rfl) (w0.heap.size+1) 3 i0 _ 1 8 Tryz.underlying105 hi hz0 hz1 hz2 rfl (by omega) _ 0 [] (by rfl) (HR.out.alloc _).drew ⟨W1.heap.size,0,none⟩ _ _ _ (by rfl) (by rfl) (World.news_of_block (fr:=(0,0)) (heap_alloc_new W1 _)) (by simp[Value.oneCell']) (by omega) (by simp[maxLen]) (by simp) (by have:=HBx.out.lt;simp;omega) (W1.heap.size+1) (by simp) ?_;intro gg cc w2 hown2 hgrow hat hlt;have HB2:=Lib.hid (BoxAt.grown ((HBx.out.alloc (.cells _ 3)).drew) hgrow (fun e=>by simp[Value.ownBlock]at e));have HU2:=Lib.hid (eB (bA (aA HU.out (.cells _ 3))) hgrow (fun g e=>by have:=HBx.out.lt;simp[Value.ownBlock]at e;omega));have HO2:=Lib.hid hown2;clear hown2 hgrow hat hlt;refine hK.out _ _ ⟨HB2.out.cell 0,HB2.out.cell 1,HB2.out.cell 2,HB2.out.cell 3⟩ (fun hHeld'=>?_);clear hK K)
    try simp only[Act.put,List.getElem_toArray,List.getElem_cons_succ,List.getElem_cons_zero,List.setIfInBounds_toArray,List.set_cons_zero,List.set_cons_succ])
  refine wpAnyH_done (by decide +kernel) ?_ _;refine NoPanic.normal ?_;obtain⟨q,c,hv,hc,hr⟩:=RowArg.of_own HO2.out
  cases hv;go_wp2;go_ret2;exact⟨_,_,rfl,hc,hr,HU2.out⟩
end
section
variable {w0 : World}
theorem v2A(n m:Int)(s:ByteArray)(h:qD s=false∨n≠0∨m < 0∨6 < m):Calls Tryz.prog 88 #[ndV ⟨27,n,m,s⟩] w0 (BOut w0 [] false):=by
 have HNm:=Lib.hid (fun w=>xR (w0:=w) s);unfold ndV;generalize qD s=nb at *
 cases nb
 · clear h;go_enter Tryz.func88,Tryz.ntmps88;go_wp2_with fail;refine(HNm.out _).mono ?_;rintro e w3 ⟨rfl,rfl⟩;go_wp2;go_ret2;exact BOut.empty _ (aA (aA (Under.refl _) _) _)
 · by_cases h1 : n = 0
   · subst h1; by_cases h3 : m < 0
     · clear h;go_enter Tryz.func88,Tryz.ntmps88;go_wp2_with fail;refine(HNm.out _).mono ?_;rintro e w3 ⟨rfl,rfl⟩;go_wp2;go_ret2;exact BOut.empty _ (aA (aA (Under.refl _) _) _)
     · have h4 : 6 < m := by
         simp at h;omega
       clear h;go_enter Tryz.func88,Tryz.ntmps88;go_wp2_with fail;refine(HNm.out _).mono ?_;rintro e w3 ⟨rfl,rfl⟩;go_wp2;go_ret2;exact BOut.empty _ (aA (aA (Under.refl _) _) _)
   · clear h;go_enter Tryz.func88,Tryz.ntmps88;go_wp2_with fail;refine(HNm.out _).mono ?_;rintro e w3 ⟨rfl,rfl⟩;go_wp2;go_ret2;exact BOut.empty _ (aA (aA (Under.refl _) _) _)
theorem rWA(m:Nat)(s:ByteArray)(hs:qD s=true)(h3:m≤6):Calls Tryz.prog 88 #[ndV ⟨27,0,m,s⟩] w0 (BOut w0 (1::List.replicate (m+1) 0) true):=by
 have HNm:=Lib.hid (fun w=>xR (w0:=w) s);rw[hs]at HNm;obtain⟨i0,hi,hz0,hz1,hz2⟩:=info_parts Tryz.infoInt;unfold ndV;have HE:=Lib.hid (aK (w0.alloc (.cells #[.int .i64 27,.int .i64 0,.int .i64 m,.string s] 76)) (w0.heap.size+1) 3 1 (by simp));rw[show(w0.alloc (.cells #[.int .i64 27,.int .i64 0,.int .i64 m,.string s] 76)).heap.size=w0.heap.size+1 by simp]at HE;have m0:(0:Int)≤m:=Int.natCast_nonneg _;have m6:(m:Int)≤6:=by omega
 clear hs;go_enter Tryz.func88,Tryz.ntmps88;go_wp2_with fail;refine(HNm.out _).mono ?_;rintro e w3 ⟨rfl,rfl⟩;obtain⟨W1,hW1⟩:∃ W,W=(w0.alloc (.cells #[.int .i64 27,.int .i64 0,.int .i64 m,.string s] 76)).alloc (.cells #[] 3):=⟨_,rfl⟩;have HB:=Lib.hid (show BoxAt W1 w0.heap.size 76 #[.int .i64 27,.int .i64 0,.int .i64 m,.string s] by rw[hW1];exact(yA w0 _ _).alloc _);have c1:=HB.out.cell 1;have c2:=HB.out.cell 2;have hsz:w0.heap.size+2=W1.heap.size:=by rw[hW1];simp
 have HU:=Lib.hid (show Under w0 W1 by rw[hW1];exact aA (aA (Under.refl _) _) _);have HR:=Lib.hid (show W1.ownsRow (w0.heap.size+1) 3 1 (.slice (some ⟨w0.heap.size+1,0,none⟩) 0 0) 0 [] by rw[hW1];exact HE.out);rw[← hW1];clear hW1 HE;have HS:=Lib.hid hsz;clear hsz;go_wp2_with (at_builtin;refine wpList_append_lies _ rfl _ _ 105 rfl (w0.heap.size+1) 3 i0 _ 1 8 Tryz.underlying105 hi hz0 hz1 hz2 rfl (by decide) _ _ _ rfl (HR.out.alloc _) ⟨W1.heap.size,0,none⟩ 1 1 [.int .i64 1] rfl rfl ?c1 ?c2 (by decide) (by simp[maxLen]) (by simp) ?c5 (W1.heap.size+1) (by simp) ?_)
 case c1=>exact cell_one_new _ _ _
 case c2=>simp[Value.oneCell']
 case c5=>have:=HS.out;simp;omega
 intro g cap w2 hown hgrow hat hlt;have HO:=Lib.hid hown;have HB2:=Lib.hid (BoxAt.grown (HB.out.alloc (.cells #[.int .i64 1] 3)) hgrow (fun e=>by simp[Value.ownBlock]at e));have HU2:=Lib.hid (eB (aA HU.out (.cells #[.int .i64 1] 3)) hgrow (fun g e=>by simp[Value.ownBlock]at e;omega));have HS2:=Lib.hid hlt;have d2:=HB2.out.cell 2;have HZ:=Lib.hid (show w0.heap.size+1≤w2.heap.size from Nat.le_of_lt (Nat.lt_of_le_of_lt (HO.out.lt _ rfl).1 HS2.out));clear hown hgrow hat hlt c1 c2;go_wp2_with (at_builtin;refine pR rfl _ _ (w0.heap.size+1) 105 3 3 rfl i0 Tryz.underlying105 Tryz.underlying3 hi hz0 hz1 hz2 _ _ _ (m+1) rfl ?c0 HO.out (by decide) (by omega) (by omega) HZ.out ?_)
 case c0=>exact congrArg (Value.int .i64) (by omega)
 intro v w4 hown hgrow;have HO4:=Lib.hid hown;have HU4:=Lib.hid (eB HU2.out hgrow fun k e=>by have:=(HO.out.lt k e).1;omega);clear hown hgrow;obtain⟨q,c,hv,hc,hr⟩:=RowArg.of_own HO4.out
 cases hv;go_wp2;go_ret2;have hcs:[]++[Value.int .i64 1]++List.replicate (m+1) (.int .i64 0)=iE (1::List.replicate (m+1) 0):=by simp[iE]
 have hl:(1::List.replicate (m+1) 0).length=1+(m+1):=by simp;omega
 exact⟨_,_,by rw[hl];rfl,by rw[hl];exact hc,by rw[← hcs];exact hr,HU4.out⟩
end
theorem kCA{k n m:Int}{s:ByteArray}(h1:¬(k < 0∨30≤k))(h2:fN k.toNat=false)(h3:fM k.toNat=false)(h4:fS k.toNat=false)(h5:k≠2)(h6:k≠26)(h7:k≠27):nA ⟨k,n,m,s⟩=lT ⟨k,n,m,s⟩:=by
 unfold nA lT;rw[aL,if_neg h1];simp only[h2,h3,h4,if_neg h5,if_neg h6,if_neg h7];by_cases a:n=0<;>by_cases b:m=0<;>by_cases c:s.size=0<;>simp[a,b,c]
theorem aWA{n m:Int}{s:ByteArray}:nA ⟨0,n,m,s⟩=e3A n m s:=by
 unfold nA e3A;rw[aL];by_cases b:m=0<;>by_cases c:s.size=0<;>simp[fN,fM,fS,yT,b,c]
theorem o4A{k n m:Int}{s:ByteArray}(hk:k=3∨k=6):nA ⟨k,n,m,s⟩=piB n m s:=by
 unfold nA piB;rw[aL];rcases hk with rfl | rfl<;>by_cases b:m=0<;>by_cases c:s.size=0<;>simp[fN,fM,fS,yT,b,c]
theorem gTA{n m:Int}{s:ByteArray}:nA ⟨2,n,m,s⟩=((tCA n&&(m==0))&&s.toList.isEmpty):=by
 unfold nA tCA;rw[aL];by_cases b:m=0<;>by_cases c:s.size=0<;>simp[fN,fM,fS,b,c]
theorem vPA{k n m:Int}{s:ByteArray}(hk:k=1∨k=25):nA ⟨k,n,m,s⟩=((n==0)&&(m==0)&&qD s):=by
 unfold nA;rcases hk with rfl | rfl<;>by_cases a:n=0<;>by_cases b:m=0<;>cases c:qD s<;>simp[fN,fM,fS,a,b,c]
theorem zJA{n m:Int}{s:ByteArray}:nA ⟨26,n,m,s⟩=(qD s&&(decide (0≤n)&&decide (n≤5)&&decide (0≤m)&&decide (m≤6))):=by
 unfold nA
 cases c:qD s<;>simp[fN,fM,fS,c]
theorem nDA{n m:Int}{s:ByteArray}:nA ⟨27,n,m,s⟩=(qD s&&(n==0)&&(decide (0≤m)&&decide (m≤6))):=by
 unfold nA
 cases c:qD s<;>by_cases a:n=0<;>simp[fN,fM,fS,a,c]
def ROut(w0:World)(x:Nd)(e:Ending)(w:World):Prop:=∃ l,(nA x=true→l=binds x)∧BOut w0 l (nA x) e w
section
variable {w0 : World}
theorem ROut.of{w:World}{e:Ending}{x:Nd}{l:List Nat}{b:Bool}(h:BOut w0 l b e w)(hb:nA x=b)(hl:b=true→l=binds x):ROut w0 x e w:=⟨l,fun h=>hl (hb▸h),by rw[hb];exact h⟩
theorem aDB(n m:Int)(s:ByteArray):Calls Tryz.prog 88 #[ndV ⟨26,n,m,s⟩] w0 (ROut w0 ⟨26,n,m,s⟩):=by
 by_cases h:qD s=false∨n < 0∨6≤n∨m < 0∨6 < m
 · refine (l1A n m s h).mono fun e w hb => ROut.of hb ?_ (fun h => by cases h)
   rw[zJA];rcases h with h | h | h | h | h
   · rw[h];rfl
   all_goals
    rw[Bool.and_eq_false_iff]
    right
    rw[Bool.eq_false_iff];intro c;simp only[Bool.and_eq_true,decide_eq_true_eq]at c;omega
 · have hs : qD s = true := by cases c : qD s; exact (h (.inl c)).elim; rfl
   have h':0≤n∧n < 6∧0≤m∧m≤6:=by
    refine⟨?_,?_,?_,?_⟩<;>(refine Classical.byContradiction fun c=>h ?_;omega)
   obtain⟨m',rfl⟩:∃ m':Nat,m=m':=⟨m.toNat,by omega⟩;refine(cZA n m' s hs h'.1 h'.2.1 (by omega)).mono fun e w hb=>ROut.of hb ?_ (fun _=>?_)
   · rw[zJA,hs];simp only[Bool.true_and,Bool.and_eq_true,decide_eq_true_eq];omega
   · unfold binds;rw[if_pos rfl];rfl
theorem pDB(n m:Int)(s:ByteArray):Calls Tryz.prog 88 #[ndV ⟨27,n,m,s⟩] w0 (ROut w0 ⟨27,n,m,s⟩):=by
 by_cases h:qD s=false∨n≠0∨m < 0∨6 < m
 · refine (v2A n m s h).mono fun e w hb => ROut.of hb ?_ (fun h => by cases h)
   rw[nDA];rcases h with h | h | h | h
   · rw[h];rfl
   · have : (n == 0) = false := by simpa using h
     rw[this];simp
   all_goals
    rw[Bool.and_eq_false_iff]
    right
    rw[Bool.eq_false_iff];intro c;simp only[Bool.and_eq_true,decide_eq_true_eq]at c;omega
 · have hs : qD s = true := by cases c : qD s; exact (h (.inl c)).elim; rfl
   have h':n=0∧0≤m∧m≤6:=by
    refine⟨?_,?_,?_⟩<;>(refine Classical.byContradiction fun c=>h ?_;omega)
   obtain⟨m',rfl⟩:∃ m':Nat,m=m':=⟨m.toNat,by omega⟩;obtain rfl:=h'.1;refine(rWA m' s hs (by omega)).mono fun e w hb=>ROut.of hb ?_ (fun _=>?_)
   · rw[nDA,hs];simp;omega
   · unfold binds;rw[if_neg (by simp),if_pos rfl];rfl
theorem eP(x:Nd):Calls Tryz.prog 88 #[ndV x] w0 (ROut w0 x):=by
 obtain⟨k,n,m,s⟩:=x;by_cases h:k < 0∨29 < k
 · refine (t6A k n m s h).mono fun e w hb => ROut.of hb ?_ (fun h => by cases h)
   unfold nA;rw[if_pos (by simp only;omega)]
 have hk:k=0∨k=2∨k=26∨k=27∨(k=3∨k=6)∨(k=1∨k=25)∨(k=10∨k=11∨k=14∨k=16∨k=17∨k=29)∨(k=4∨k=5∨k=7∨k=8∨k=9∨k=12∨k=13∨k=15∨k=18∨k=19∨k=20∨k=21∨k=22∨k=23∨k=24∨k=28):=by omega
 rcases hk with rfl | rfl | rfl | rfl | hk | hk | hk | hk
 · exact(yDB n m s).mono fun e w h=>ROut.of h aWA (fun _=>rfl)
 · exact(vDB n m s).mono fun e w h=>ROut.of h gTA (fun _=>rfl)
 · exact aDB n m s
 · exact pDB n m s
 · refine (nDB k n m s hk).mono fun e w h => ROut.of h (o4A hk) ?_
   rcases hk with rfl | rfl<;>exact fun _=>rfl
 · refine (k3A k n m s hk).mono fun e w h => ROut.of h (vPA hk) ?_
   rcases hk with rfl | rfl<;>exact fun _=>rfl
 · refine (y7A k n m s hk).mono fun e w h => ?_
   rcases hk with rfl | rfl | rfl | rfl | rfl | rfl<;>exact ROut.of (l:=[]) h (kCA (by decide) rfl rfl rfl (by decide) (by decide) (by decide)) (fun _=>rfl)
 · rcases hk with rfl | rfl | rfl | rfl | rfl | rfl | rfl | rfl | rfl | rfl | rfl | rfl | rfl | rfl | rfl | rfl
   all_goals exact(i9A _ n m s _ (by simp only[p5A,List.mem_cons,Prod.mk.injEq,Int.reduceEq,true_and,false_and,false_or,List.not_mem_nil,or_false];rfl)).mono fun e w h=>ROut.of h (kCA (by decide) rfl rfl rfl (by decide) (by decide) (by decide)) (fun _=>rfl)
end
def lF : List Nd → Nat → Bool
  | [],d=>d==1
  | x::t,d=>if nA x=false∨d < (binds x).length then false else lF t (d - (binds x).length+1)
def fDB(w0:World)(t:List Nd)(d i:Value)(wr:World):Prop:=∃ k D:Nat,k≤t.length∧D≤k∧d = .int .i64 (D:Int)∧i = .int .i64 (k:Int)∧(lF t 0=lF (t.drop k) D)∧Under w0 wr
section
variable {w0 : World}
theorem v0A(t:List Nd){v:Value}(hn:t.length≤1000000)(hv:TermV w0 v t):Calls Tryz.prog 71 #[v] w0 fun e w=>e = .returned (.bool (lF t 0))∧Under w0 w:=by
 obtain⟨p,c,rfl,_,_,hr⟩:=hv;have HR:=Lib.hid hr;have HN:=Lib.hid hn;have hn':(t.length:Int)≤1000000:=by omega
 have hn0:(0:Int)≤(t.length:Int):=by omega
 clear hr hn;go_enter Tryz.func71,Tryz.ntmps71;go_wp2;go_loopw [3,4] (fun d i wr=>fDB w0 t d i wr) (fun _ i _=>t.length - (intOf i).toNat)
 case atStart=>exact⟨0,0,Nat.zero_le _,Nat.le_refl _,rfl,rfl,by simp,Under.refl _⟩
 case round =>
   obtain⟨k,D,hk,hD,rfl,rfl,hG,hU⟩:=hrel;have HG:=Lib.hid hG;clear hG;have hD0:(0:Int)≤(D:Int):=by omega
   have hk0:(0:Int)≤(k:Int):=by omega
   have hDk:(D:Int)≤(k:Int):=by omega
   by_cases hlt:k < t.length
   · obtain ⟨b1, off1, rfl, hb1, c0, c1, c2, c3⟩ := RowArg.node HR.out (List.getElem?_eq_getElem hlt); rw [← jA hU hb1] at c0 c1 c2 c3; have hb1' := Nat.lt_of_lt_of_le hb1 hU.size; have HD := Lib.hid (show lF (t.drop k) D = if nA t[k] = false ∨ D < (binds t[k]).length then false else lF (t.drop (k + 1)) (D - (binds t[k]).length + 1) by rw [List.drop_eq_getElem_cons hlt]; rfl); have HU := Lib.hid hU; clear hU; generalize t[k] = x at *; have HC := Lib.hid (fun w => eP (w0 := w) x); have hlt' : (k : Int) < (t.length : Int) := by omega
     go_wp2_with fail;refine(HC.out _).mono ?_;rintro e w1 ⟨l,hl,q,c',rfl,hlc,hrl,hU1⟩;have HU1:=Lib.hid (HU.out.trans hU1);clear hU1 hlc hrl HC c0 c1 c2 c3
     cases hx:nA x
     · have HF:RowKit.Hid (lF t 0=false):=Lib.hid (by rw[HG.out,HD.out,if_pos (.inl hx)]);clear hl hx;go_wp2;go_ret;exact⟨by rw[HF.out];rfl,HU1.out⟩
     · obtain rfl := hl hx; have HX := Lib.hid hx; have hB8 := gG hx; clear hl hx; generalize (binds x).length = N at *; have hN0 : (0 : Int) ≤ (N : Int) := by omega
       have hN8:(N:Int)≤8:=by omega
       by_cases hc:D < N
       · have hc' : (D : Int) < (N : Int) := by omega
         have HF:RowKit.Hid (lF t 0=false):=Lib.hid (by rw[HG.out,HD.out,if_pos (.inr hc)]);clear hc;go_wp2;go_ret;exact⟨by rw[HF.out];rfl,HU1.out⟩
       · have hc' : (N : Int) ≤ (D : Int) := by omega
         have HF:RowKit.Hid (lF t 0=lF (t.drop (k+1)) (D - N+1)):=Lib.hid (by rw[HG.out,HD.out,if_neg (by rw[HX.out];simp;omega)]);clear hc;go_wp2;go_roundw
         case rel=>exact⟨k+1,D - N+1,by omega,by omega,by go_num,by go_num,HF.out,HU1.out⟩
         case measure=>simp[intOf];omega
   · obtain rfl : k = t.length := by omega
     have HF:RowKit.Hid (lF t 0=(D==1)):=Lib.hid (by rw[HG.out,List.drop_length];rfl);have HU:=Lib.hid hU;clear hU;by_cases h1:D=1
     · subst h1;have HF:RowKit.Hid (lF t 0=true):=Lib.hid (by rw[HF.out];rfl);go_wp2;go_ret;exact⟨by rw[HF.out];rfl,HU.out⟩
     · have h1' : ((D : Int) == 1) = false := by simp; omega
       have HF:RowKit.Hid (lF t 0=false):=Lib.hid (by rw[HF.out];simpa using h1);clear h1;go_wp2;go_ret;exact⟨by rw[HF.out];rfl,HU.out⟩
end
def zP(l:List Nat):Nat:=l.foldr max 0
theorem m7A{l:List Nat}{b:Nat}(h:∀ a∈l,a≤b):zP l≤b:=by
 induction l with
 | nil=>exact Nat.zero_le _
 | cons a l ih =>
   have:=ih fun x hx=>h x (List.mem_cons_of_mem _ hx)
   have:=h a (List.mem_cons_self ..)
   show max a (zP l)≤b
   omega
def eH : List Nd → List Nat → Bool
  | [],_=>false
  | x::t,st=>if 60 < zP (st.drop (st.length - (binds x).length))+1 then true else eH t (st.take (st.length - (binds x).length)++[zP (st.drop (st.length - (binds x).length))+1])
structure DpRel (w0:World) (t:List Nd) (st:List Nat) (k g c:Nat) (wr:World):Prop where
 len:st.length≤k
 low:∀ a∈st,a≤60
 whole:lF (t.drop k) st.length=true
 deep:eH t []=eH (t.drop k) st
 own:wr.ownsRow w0.heap.size 3 1 (.slice (some ⟨g,0,none⟩) st.length c) st.length (iE st)
 under:Under w0 wr
def DpR(w0:World)(t:List Nd)(l i:Value)(wr:World):Prop:=∃(k:Nat) (st:List Nat) (g c:Nat),k≤t.length∧l = .slice (some ⟨g,0,none⟩) st.length c∧i = .int .i64 (k:Int)∧DpRel w0 t st k g c wr
def DiR(W:World)(st:List Nat)(g c N:Nat)(l n i:Value)(wr:World):Prop:=W=wr∧∃ j M:Nat,j≤N∧j+M=st.length∧l = .slice (some ⟨g,0,none⟩) M c∧n = .int .i64 (zP (st.drop M):Nat)∧i = .int .i64 (j:Int)
theorem bHA{l:List Nat}{k n:Nat}(h:l[k]? = some n):(iE l)[k]? = some (.int .i64 (n:Int)):=by
 unfold iE;rw[List.getElem?_map,h];rfl
section
variable {w0 : World}
theorem mSA(t:List Nd){v:Value}(hn:t.length≤1000000)(hv:TermV w0 v t)(hw:lF t 0=true):Calls Tryz.prog 72 #[v] w0 fun e w=>e = .returned (.bool (eH t []))∧Under w0 w:=by
 obtain⟨p,c,rfl,_,_,hr⟩:=hv;obtain⟨i0,hi,hz0,hz1,hz2⟩:=info_parts Tryz.infoInt;have HR:=Lib.hid hr;have HN:=Lib.hid hn;have HW:=Lib.hid hw;have hn':(t.length:Int)≤1000000:=by omega
 have hn0:(0:Int)≤(t.length:Int):=by omega
 clear hr hn hw;go_enter Tryz.func72,Tryz.ntmps72;go_wp2;go_loopw [3,4] (fun l i wr=>DpR w0 t l i wr) (fun _ i _=>t.length - (intOf i).toNat)
 case atStart=>exact⟨0,[],w0.heap.size,0,Nat.zero_le _,rfl,rfl,⟨Nat.le_refl _,by simp,HW.out,by simp,aK w0 _ _ _ (Nat.le_refl _),aA (Under.refl _) _⟩⟩
 case round =>
   obtain⟨k,st,g,c2,hk,rfl,rfl,hD⟩:=hrel;have hL:=hD.len;have HD:=Lib.hid hD;clear hD;have hk0:(0:Int)≤(k:Int):=by omega
   have hL0:(0:Int)≤(st.length:Int):=by omega
   have hLk:(st.length:Int)≤(k:Int):=by omega
   by_cases hlt:k < t.length
   · obtain ⟨b1, off1, rfl, hb1, c0, c1, c2', c3⟩ := RowArg.node HR.out (List.getElem?_eq_getElem hlt); rw [← jA HD.out.under hb1] at c0 c1 c2' c3; have hb1' := Nat.lt_of_lt_of_le hb1 HD.out.under.size; have hlt' : (k : Int) < (t.length : Int) := by omega
     have HX:=Lib.hid (show lF (t[k]::t.drop (k+1)) st.length=true by rw[← List.drop_eq_getElem_cons hlt];exact HD.out.whole);have HG:=Lib.hid (show eH t []=eH (t[k]::t.drop (k+1)) st by rw[← List.drop_eq_getElem_cons hlt];exact HD.out.deep);generalize t[k]=x at *;have HC:=Lib.hid (fun w=>eP (w0:=w) x);have hx:nA x=true∧(binds x).length≤st.length∧lF (t.drop (k+1)) (st.length - (binds x).length+1)=true:=by
      have:=HX.out;unfold lF at this
      split at this
      · cases this
      · rename_i h;exact⟨by cases hh:nA x;exact(h (.inl hh)).elim;rfl,by omega,this⟩
     obtain⟨hx1,hx2,hx3⟩:=hx;have HX1:=Lib.hid hx1;have HX3:=Lib.hid hx3;have hB8:=gG hx1;clear hx1 hx3 HX;go_wp2_with fail;refine(HC.out _).mono ?_;rintro e w1 ⟨l,hl,q,c',rfl,hlc,hrl,hU1⟩;obtain rfl:=hl HX1.out;have HU1:=Lib.hid hU1;clear hU1 hlc hrl HC c0 c1 c2' c3 hl;have HO:=Lib.hid (uA HD.out.own HU1.out);have hG:eH t []=if 60 < zP (st.drop (st.length - (binds x).length))+1 then true else eH (t.drop (k+1)) (st.take (st.length - (binds x).length)++[zP (st.drop (st.length - (binds x).length))+1]):=by rw[HG.out];rfl
     have HG:=Lib.hid hG;clear hG;generalize (binds x).length=N at *;have hN0:(0:Int)≤(N:Int):=by omega
     have hN8:(N:Int)≤8:=by omega
     obtain⟨_,_,hge,_,hgb,hgl,hgc,hcm⟩:∃ g' cap,(Value.slice (some ⟨g,0,none⟩) st.length c2 = .slice (some ⟨g',0,none⟩) st.length cap)∧w0.heap.size≤g∧w0.heap.size≤g∧g < w1.heap.size∧st.length≤c2∧c2≤maxLen:=by
      rcases HO.out.2 with⟨h0,_⟩ | ⟨g',cap,cur,h0,hb,hg,h1,h2,_⟩
      · cases h0
      · cases h0;exact⟨_,_,rfl,hb,hb,(Array.getElem?_eq_some_iff.1 hg).1,h1,h2⟩
     clear hge;have hgc':(st.length:Int)≤(c2:Int):=by omega
     go_wp2;go_loopw [3,7,8] (fun l n i wr=>DiR w1 st g c2 N l n i wr) (fun _ _ i _=>N - (intOf i).toNat)
     case atStart=>exact⟨rfl,0,st.length,Nat.zero_le _,by omega,rfl,by rw[List.drop_length];rfl,rfl⟩
     case round =>
       obtain⟨rfl,j,M,hj,hjM,rfl,rfl,rfl⟩:=hrel;have hj0:(0:Int)≤(j:Int):=by omega
       have hM0:(0:Int)≤(M:Int):=by omega
       have HMX:=Lib.hid (m7A (l:=st.drop M) (b:=60) fun a ha=>HD.out.low a (List.mem_of_mem_drop ha));by_cases hjN:j < N
       · obtain ⟨M, rfl⟩ : ∃ m, M = m + 1 := ⟨M - 1, by omega⟩; have hst : M < st.length := by omega
         have HMC:=Lib.hid (show zP (st.drop M)=max st[M] (zP (st.drop (M+1))) by rw[List.drop_eq_getElem_cons hst];rfl);have hcell:=lC HO.out (g:=g) rfl (bHA (List.getElem?_eq_getElem hst));have ha60:=HD.out.low _ (List.getElem_mem hst);generalize st[M]=a at *;have hjN':(j:Int) < (N:Int):=by omega
         have hMc:(M:Int)≤(c2:Int):=by omega
         have hm60:=HMX.out;generalize zP (st.drop (M+1))=mx at *;clear HMX;have hMe:((M:Int)+1 - 1)=(M:Int):=by omega
         by_cases hma:a≤mx
         · have hma' : (a : Int) ≤ (mx : Int) := by omega
           go_wp2
           all_goals
            go_roundw
            case rel=>exact⟨rfl,j+1,M,by omega,by omega,by go_num,by rw[HMC.out];exact congrArg (Value.int .i64) (by omega),by go_num⟩
            case measure=>simp[intOf];omega
         · have hma' : (mx : Int) < (a : Int) := by omega
           go_wp2
           all_goals
            go_roundw
            case rel=>exact⟨rfl,j+1,M,by omega,by omega,by go_num,by rw[HMC.out];exact congrArg (Value.int .i64) (by omega),by go_num⟩
            case measure=>simp[intOf];omega
       · obtain rfl : j = N := by omega
         have hMe:M=st.length - j:=by omega
         have HMe:=Lib.hid hMe;rw[← hMe]at HG HX3;clear hMe;have hm60:=HMX.out;have HMv:RowKit.Hid (zP (st.drop M)=zP (st.drop M)):=Lib.hid rfl;generalize hmx:zP (st.drop M)=mx at *;clear hmx HMv HMX;have hmx0:(0:Int)≤(mx:Int):=by omega
         by_cases hd:60 < mx+1
         · have hd' : (60 : Int) < (mx : Int) + 1 := by omega
           have HF:RowKit.Hid (eH t []=true):=Lib.hid (by rw[HG.out,if_pos hd]);clear hd;go_wp2;go_ret;exact⟨by rw[HF.out];rfl,HD.out.under.trans HU1.out⟩
         · have hd' : (mx : Int) + 1 ≤ 60 := by omega
           have HF:RowKit.Hid (eH t []=eH (t.drop (k+1)) (st.take M++[mx+1])):=Lib.hid (by rw[HG.out,if_neg hd]);have HMs:=Lib.hid (show M≤st.length by omega);have hM1:M≤1000000:=by omega
           clear hd;go_wp2_with (at_builtin;refine wpList_append_lies _ rfl _ _ 105 rfl w0.heap.size 3 i0 _ 1 8 Tryz.underlying105 hi hz0 hz1 hz2 rfl (by decide) _ _ _ rfl ((nO HO.out HMs.out).alloc _) ⟨w1.heap.size,0,none⟩ 1 1 [.int .i64 ((mx+1:Nat):Int)] rfl rfl ?c1 ?c2 (by decide) (by simp only[maxLen];omega) (by omega) ?c5 (w1.heap.size+1) (by simp) ?_)
           case c1=>exact cell_one_new _ _ _
           case c2=>simp[Value.oneCell']
           case c5=>have:=(HD.out.under.trans HU1.out).size;simp;omega
           intro g3 c3 w3 hown hgrow hat hlt3;have HO3:=Lib.hid hown;have HU3:=Lib.hid (eB (aA (HD.out.under.trans HU1.out) _) hgrow fun z e=>by cases e;exact hgb);clear hown hgrow hat hlt3;go_wp2;go_roundw
           case rel =>
             have hlen:(st.take M++[mx+1]).length=M+1:=by rw[List.length_append,List.length_take,Nat.min_eq_left HMs.out];rfl
             have hcs:(iE st).take M++[Value.int .i64 ((mx:Int)+1)]=iE (st.take M++[mx+1]):=by simp[iE,List.map_take]
             refine⟨k+1,st.take M++[mx+1],g3,c3,by omega,by rw[hlen],by go_num,⟨by rw[hlen];omega,?_,by rw[hlen];exact HX3.out,HF.out,by rw[hlen,← hcs];exact HO3.out,HU3.out⟩⟩;intro a ha;rcases List.mem_append.1 ha with ha | ha
             · exact HD.out.low a (List.mem_of_mem_take ha)
             · rw[List.mem_singleton.1 ha];omega
           case measure=>simp[intOf];omega
   · obtain rfl : k = t.length := by omega
     have HF:RowKit.Hid (eH t []=false):=Lib.hid (by rw[HD.out.deep,List.drop_length];rfl);go_wp2;go_ret;exact⟨by rw[HF.out];rfl,HD.out.under⟩
end
end Go.Proofs.YtlnlpdephijcoaaGreatDoor
