/- Part 40 of what the proof rests on. -/
import Derived.Test.YtggjbblgoddnjaaGreatDoorM31
import Derived.Test.YtggjbblgoddnjaaGreatDoorM33
import Derived.Test.YtggjbblgoddnjaaGreatDoorM37
import Derived.Test.YtggjbblgoddnjaaGreatDoorM38
import Derived.Test.YtggjbblgoddnjaaGreatDoorM39
set_option linter.unusedSimpArgs false
set_option linter.unusedVariables false
set_option maxRecDepth 100000
set_option maxHeartbeats 8000000
namespace Go.Proofs.YtggjbblgoddnjaaGreatDoor
open Go.Lx Go.RowKit
section
variable {w0 : World}
theorem aGA(l:List Dc)(d:Dc){p:Option Addr}{c:Nat}{v:Value}(hl:l.length≤100000)(hp:RowsV 6 DcRow w0 p l)(hd:Small d)(hf:d.cons.length≤5864062014634∧d.cons.flatten.length≤5864062015658)(hn:(nC d).length≤5864062015658)(hv:DcV w0 v d):Calls Tryz.prog 24 #[.slice p l.length c,v] w0 (zVA w0 l d):=by
 obtain⟨i0,hi,hz0,hz1,hz2⟩:=info_parts Tryz.infoStrK;have HT:=Lib.hid (fun w (h:Under w0 w)=>hBA (w0:=w) hf.1 hf.2 (DcV.mono _ _ _ _ h hv));have HTm:=Lib.hid hd.terms;have HK:=Lib.hid (fun w (h:Under w0 w)=>nCA (w0:=w) (c:=c) l hl (RowsV.under DcRow.mono hp h));have HKl:=Lib.hid (yN l);obtain⟨vt,vb,vc,rfl,⟨pt,ct,rfl,_⟩,⟨pb,cb,rfl,_⟩,⟨pc,cc,us,rfl,_⟩⟩:=hv;have HB0:=Lib.hid (qA w0 #[.int .i64 d.kind,.int .i64 d.level,.string d.name,.slice pt d.type.length ct,.slice pb d.body.length cb,.slice pc d.cons.length cc] 37);have HU0:=Lib.hid (aA (Under.refl w0) (.cells #[.int .i64 d.kind,.int .i64 d.level,.string d.name,.slice pt d.type.length ct,.slice pb d.body.length cb,.slice pc d.cons.length cc] 37));have HL:=Lib.hid hl;have HO:=Lib.hid (show bG l d=opT (knC l) (mI l d) (nC d) from rfl);have HDl:=Lib.hid (rJA l d);have hts9:((nC d).length:Int)≤5864062015658:=by omega
 have hts0:(0:Int)≤((nC d).length:Int):=by omega
 clear hp hd hn hl;go_enter Tryz.func24,Tryz.ntmps24;go_wp2_with fail;refine(HK.out _ HU0.out).mono ?_;rintro e w1 ⟨wc,wd,rfl,hT,hU1⟩;obtain⟨qc,kc,rfl,_,_⟩:=RowArg.of_own hT.one;obtain⟨qd,kd,rfl,_,_⟩:=RowArg.of_own hT.two;have HB1:=Lib.hid ((HB0.out.under hU1).alloc (.cells #[.slice qc (knC l).length kc,.slice qd (knD l).length kd] 54));have HN1:=Lib.hid (qA w1 #[.slice qc (knC l).length kc,.slice qd (knD l).length kd] 54);have HC1:=Lib.hid ((oD (base':=w0.heap.size) hT.one (by simp)).alloc (.cells #[.slice qc (knC l).length kc,.slice qd (knD l).length kd] 54));have HD1:=Lib.hid ((oD (base':=w0.heap.size) hT.two (by simp)).alloc (.cells #[.slice qc (knC l).length kc,.slice qd (knD l).length kd] 54));have HNe:=Lib.hid hT.ne;have HU1:=Lib.hid (aA (HU0.out.trans hU1) (.cells #[.slice qc (knC l).length kc,.slice qd (knD l).length kd] 54));have HSz:=Lib.hid (And.intro (HU0.out.trans hU1).size hU1.size);clear hT hU1
 cases h3:(d.kind==3)
 case' false =>
   have b0:=HB1.out.cell 0;have b1:=HB1.out.cell 1;have b2:=HB1.out.cell 2;have b3:=HB1.out.cell 3;have b4:=HB1.out.cell 4;have b5:=HB1.out.cell 5;have bl:=HB1.out.lt;have HH:=Lib.hid (show OpH 54 w0 (knC l) (mI l d) w1.heap.size _ _ _ from⟨HN1.out,TextsV.of_own HC1.out,by unfold mI;rw[h3];simpa using TextsV.of_own HD1.out,HU1.out⟩);go_wp2_with fail;clear HN1 HC1 HD1
 case' true =>
   have b0:=HB1.out.cell 0;have b1:=HB1.out.cell 1;have b2:=HB1.out.cell 2;have b3:=HB1.out.cell 3;have b4:=HB1.out.cell 4;have b5:=HB1.out.cell 5;have bl:=HB1.out.lt;have n1:=HN1.out.cell 1;have nl:=HN1.out.lt;have hs1:=HSz.out.1;have hl9:(knD l).length≤100000:=by have:=HKl.out.2;have:=HL.out;omega
   go_wp2_with (at_builtin;refine wpList_append_own_at _ rfl _ _ 50 rfl w0.heap.size 9 i0 _ 1 16 Tryz.underlying50 hi hz0 hz1 hz2 rfl (by decide) _ _ _ rfl (HD1.out.alloc _) ⟨w1.heap.size+1,0,none⟩ 1 1 [.string d.name] rfl rfl (by intro j u hj;rcases j with _ | j<;>simp at hj;subst hj;simp[Addr.add]) (fun u hu=>by simp at hu;subst hu;rfl) (by simp only[maxLen];omega) (by omega) (by simp;omega) ?_);intro v' w6 hown hgrow hnil hat;have hbk:=fun g e=>(vB HD1.out (g:=g) e).1
   have HB6:=Lib.hid ((HB1.out.alloc _).grown hgrow (fun e=>by have:=gB HB1.out HD1.out (by decide) e.symm;exact this));have HN6:=Lib.hid ((HN1.out.alloc _).grown hgrow (fun e=>by have:=gB HN1.out HD1.out (by decide) e.symm;exact this));have HC6:=Lib.hid (oC (HC1.out.alloc _) hgrow HNe.out);have HU6:=Lib.hid (rA (aA HU1.out _) hgrow hbk);have HD6:=Lib.hid hown;obtain⟨q',k',rfl,_,_⟩:=RowArg.of_own hown;clear hown hgrow hat hnil hbk b0 b1 b2 b3 b4 b5 bl n1 nl;have n1:=HN6.out.cell 1;have f1:=HN6.out.free 1;have nl:=HN6.out.lt;obtain⟨w7,hw7⟩:∃ w7,w7=w6.setCell ⟨w1.heap.size,1,none⟩ (.slice q' ((knD l).length+1) k'):=⟨_,rfl⟩;have hne:w0.heap.size≠w1.heap.size:=by have:=HSz.out.2;simp at this;omega
   have HB1 := Lib.hid (show BoxAt w7 w0.heap.size 37 #[.int .i64 d.kind, .int .i64 d.level, .string d.name, .slice pt d.type.length ct, .slice pb d.body.length cb, .slice pc d.cons.length cc] by rw [hw7]; exact HB6.out.other hne _ _); have HH := Lib.hid (show OpH 54 w0 (knC l) (mI l d) w1.heap.size (.slice qc (knC l).length kc) (.slice q' ((knD l).length + 1) k') w7 from ⟨by rw [hw7]; exact HN6.out.set 1 _, by rw [hw7]; exact TextsV.of_own (yB HC6.out (gB HN6.out HC6.out (by decide)) _ _), by
     rw[hw7];have:=TextsV.of_own (ss:=knD l++[d.name]) (by simpa using yB HD6.out (gB HN6.out HD6.out (by decide)) 1 (.slice q' ((knD l).length+1) k'));unfold mI;rw[h3];exact this,by rw[hw7];exact uA HU6.out HSz.out.1 _ _⟩)
   have HW7:=Lib.hid hw7;have b0:=HB6.out.cell 0;have b1:=HB6.out.cell 1;have b2:=HB6.out.cell 2;have b3:=HB6.out.cell 3;have b4:=HB6.out.cell 4;have b5:=HB6.out.cell 5;have bl:=HB6.out.lt;have hne':w1.heap.size≠w0.heap.size:=fun e=>hne e.symm
   go_wp2_with fail;rw[← HW7.out];clear n1 f1 nl HB6 HN6 HC6 HU6 HD6 HW7 hw7 hl9 hs1
 all_goals
  refine(HT.out _ HH.out.und).mono ?_;rintro e w4 ⟨u,rfl,⟨q4,k4,vs4,rfl,_,_,hr4,hz4⟩,hU4⟩;have HR4:=Lib.hid hr4;have HZ4:=Lib.hid hz4;have HH4:=Lib.hid (HH.out.under hU4);have HKc:=Lib.hid (fun w' (h:Under w4 w') (s:ByteArray)=>y9 (w0:=w') (knC l) s (by simp only[maxLen];have:=HKl.out.1;have:=HL.out;omega) (HH4.out.con.under h));have HKd:=Lib.hid (fun w' (h:Under w4 w') (s:ByteArray)=>y9 (w0:=w') (mI l d) s (by simp only[maxLen];have:=HDl.out;have:=HL.out;omega) (HH4.out.dat.under h));have HU4:=Lib.hid HH4.out.und;clear hr4 hz4 hU4 b0 b1 b2 b3 b4 b5 bl HK HB0 HU0 HNe;have n0:=HH4.out.box.cell 0;have n1:=HH4.out.box.cell 1;have nl:=HH4.out.box.lt;have HNx:=Lib.hid (And.intro n0 (And.intro n1 nl));clear n0 n1 nl HT;generalize nC d=ts at *;go_wp2;go_loopw [8] (fun i wr=>∃ k:Nat,k≤ts.length∧i = .int .i64 (k:Int)∧bG l d=opT (knC l) (mI l d) (ts.drop k)∧Under w4 wr) (fun i _=>ts.length - (intOf i).toNat)
  case atStart=>exact⟨0,Nat.zero_le _,rfl,by rw[HO.out];simp,Under.refl _⟩
  case round =>
    obtain⟨k,hk,rfl,hN,hU⟩:=hrel;have HN:=Lib.hid hN;have HU:=Lib.hid hU;have hk0:(0:Int)≤(k:Int):=by omega
    clear hN hU;by_cases hlt:k < ts.length
    · obtain ⟨u, hu, qt, ct4, rfl, _, _, hrt⟩ := HZ4.out.at (List.getElem?_eq_getElem hlt); obtain ⟨b5, off5, rfl, hb5, hcs5⟩ := HR4.out (fun e => by rw [e] at hu; simp at hu); have cc := hcs5 k _ hu; have HC5 := Lib.hid (And.intro hb5 cc); rw [← dA HU.out hb5] at cc; have hb5' := Nat.lt_of_lt_of_le hb5 HU.out.size; have HRt := Lib.hid hrt; have htl := (HTm.out _ (List.getElem_mem hlt)).1; have HN := Lib.hid (HN.out.trans (oKA hlt)); have hlt' : (k : Int) < (ts.length : Int) := by omega
      clear hcs5 hu hrt;generalize ts[k]=t at *;have ht0:(0:Int)≤(t.length:Int):=by omega
      have ht9:(t.length:Int)≤2000000:=by omega
      go_wp2;generalize wr=wo at *;go_loopw [9] (fun j wi=>∃ j':Nat,j'≤t.length∧j = .int .i64 (j':Int)∧bG l d=opM (opN (knC l) (mI l d) (t.drop j')) (opT (knC l) (mI l d) (ts.drop (k+1)))∧Under w4 wi) (fun j _=>t.length - (intOf j).toNat)
      case atStart=>exact⟨0,Nat.zero_le _,rfl,by rw[HN.out];simp,HU.out⟩
      case round =>
        obtain⟨j,hj,rfl,hN2,hU2⟩:=hrel;have HN2:=Lib.hid hN2;have HU2:=Lib.hid hU2;have hj0:(0:Int)≤(j:Int):=by omega
        clear hN2 hU2 cc hb5';have cc:=(dA HU2.out HC5.out.1 _).trans HC5.out.2;have hb5':=Nat.lt_of_lt_of_le HC5.out.1 HU2.out.size;by_cases hlj:j < t.length
        · obtain ⟨b6, off6, rfl, hb6, c0, c1, c2, c3⟩ := RowArg.node HRt.out (List.getElem?_eq_getElem hlj); rw [← dA HU2.out hb6] at c0 c1 c2 c3; have hb6' := Nat.lt_of_lt_of_le hb6 HU2.out.size; have HN2 := Lib.hid (HN2.out.trans (congrArg (fun z => opM z _) (vKA hlj))); have hlj' : (j : Int) < (t.length : Int) := by omega
          generalize t[j]=x at *;have n0:=(dA HU2.out HNx.out.2.2 0).trans HNx.out.1;have n1:=(dA HU2.out HNx.out.2.2 1).trans HNx.out.2.1;have nl:=Nat.lt_of_lt_of_le HNx.out.2.2 HU2.out.size;have HU3:=Lib.hid (aA HU2.out (.cells #[.int .i64 x.k,.int .i64 x.n,.int .i64 x.m,.string x.s] 112));have HCc:=Lib.hid (HKc.out _ HU3.out x.s);have HCd:=Lib.hid (HKd.out _ HU3.out x.s);have hB:tZA (knC l) (mI l d) x=((x.k==1 && !hasB (knC l) x.s)||((x.k==25||x.k==26||x.k==27) && !hasB (mI l d) x.s)):=rfl;have HBd:=Lib.hid hB;clear hB
          cases k1:(x.k==1)
          · cases k5 : (x.k == 25)
            · cases k6 : (x.k == 26)
              · cases k7 : (x.k == 27)
                · rw [k1, k5, k6, k7] at HBd; go_wp2; go_roundw
                  case rel=>exact⟨j+1,by omega,by go_num,by rw[HN2.out,if_neg (by rw[HBd.out];simp)],HU3.out⟩
                  case measure=>simp[intOf];omega
                · cases hb : hasB (mI l d) x.s
                  · have hbad := HBd.out; simp only [k1, k5, hb, Bool.true_and, Bool.false_and, Bool.true_or, Bool.or_true, Bool.false_or, Bool.or_false, Bool.not_false, Bool.and_true] at hbad
                    try simp only[k6,Bool.true_and,Bool.false_and,Bool.true_or,Bool.or_true,Bool.false_or,Bool.or_false]at hbad
                    try simp only[k7,Bool.true_and,Bool.false_and,Bool.true_or,Bool.or_true,Bool.false_or,Bool.or_false]at hbad
                    rw[hb]at HCd;have HBb:=Lib.hid hbad;clear hbad hb;go_wp2_with fail;refine HCd.out.mono ?_;rintro e w8 ⟨rfl,rfl⟩;go_wp2;go_ret2;exact⟨by rw[HN2.out,if_pos HBb.out];rfl,HU4.out.trans HU3.out⟩
                  · have hbad := HBd.out; simp only [k1, k5, hb, Bool.true_and, Bool.false_and, Bool.true_or, Bool.or_true, Bool.false_or, Bool.or_false, Bool.not_true, Bool.and_false] at hbad
                    try simp only[k6,Bool.true_and,Bool.false_and,Bool.true_or,Bool.or_true,Bool.false_or,Bool.or_false]at hbad
                    try simp only[k7,Bool.true_and,Bool.false_and,Bool.true_or,Bool.or_true,Bool.false_or,Bool.or_false]at hbad
                    rw[hb]at HCd;have HBb:=Lib.hid hbad;clear hbad hb;go_wp2_with fail;refine HCd.out.mono ?_;rintro e w8 ⟨rfl,rfl⟩;go_wp2;go_roundw
                    case rel=>exact⟨j+1,by omega,by go_num,by rw[HN2.out,if_neg (by rw[HBb.out];simp)],HU3.out⟩
                    case measure=>simp[intOf];omega
              · cases hb : hasB (mI l d) x.s
                · have hbad := HBd.out; simp only [k1, k5, hb, Bool.true_and, Bool.false_and, Bool.true_or, Bool.or_true, Bool.false_or, Bool.or_false, Bool.not_false, Bool.and_true] at hbad
                  try simp only[k6,Bool.true_and,Bool.false_and,Bool.true_or,Bool.or_true,Bool.false_or,Bool.or_false]at hbad
                  try simp only[k7,Bool.true_and,Bool.false_and,Bool.true_or,Bool.or_true,Bool.false_or,Bool.or_false]at hbad
                  rw[hb]at HCd;have HBb:=Lib.hid hbad;clear hbad hb;go_wp2_with fail;refine HCd.out.mono ?_;rintro e w8 ⟨rfl,rfl⟩;go_wp2;go_ret2;exact⟨by rw[HN2.out,if_pos HBb.out];rfl,HU4.out.trans HU3.out⟩
                · have hbad := HBd.out; simp only [k1, k5, hb, Bool.true_and, Bool.false_and, Bool.true_or, Bool.or_true, Bool.false_or, Bool.or_false, Bool.not_true, Bool.and_false] at hbad
                  try simp only[k6,Bool.true_and,Bool.false_and,Bool.true_or,Bool.or_true,Bool.false_or,Bool.or_false]at hbad
                  try simp only[k7,Bool.true_and,Bool.false_and,Bool.true_or,Bool.or_true,Bool.false_or,Bool.or_false]at hbad
                  rw[hb]at HCd;have HBb:=Lib.hid hbad;clear hbad hb;go_wp2_with fail;refine HCd.out.mono ?_;rintro e w8 ⟨rfl,rfl⟩;go_wp2;go_roundw
                  case rel=>exact⟨j+1,by omega,by go_num,by rw[HN2.out,if_neg (by rw[HBb.out];simp)],HU3.out⟩
                  case measure=>simp[intOf];omega
            · cases hb : hasB (mI l d) x.s
              · have hbad := HBd.out; simp only [k1, k5, hb, Bool.true_and, Bool.false_and, Bool.true_or, Bool.or_true, Bool.false_or, Bool.or_false, Bool.not_false, Bool.and_true] at hbad
                try simp only[k6,Bool.true_and,Bool.false_and,Bool.true_or,Bool.or_true,Bool.false_or,Bool.or_false]at hbad
                try simp only[k7,Bool.true_and,Bool.false_and,Bool.true_or,Bool.or_true,Bool.false_or,Bool.or_false]at hbad
                rw[hb]at HCd;have HBb:=Lib.hid hbad;clear hbad hb;go_wp2_with fail;refine HCd.out.mono ?_;rintro e w8 ⟨rfl,rfl⟩;go_wp2;go_ret2;exact⟨by rw[HN2.out,if_pos HBb.out];rfl,HU4.out.trans HU3.out⟩
              · have hbad := HBd.out; simp only [k1, k5, hb, Bool.true_and, Bool.false_and, Bool.true_or, Bool.or_true, Bool.false_or, Bool.or_false, Bool.not_true, Bool.and_false] at hbad
                try simp only[k6,Bool.true_and,Bool.false_and,Bool.true_or,Bool.or_true,Bool.false_or,Bool.or_false]at hbad
                try simp only[k7,Bool.true_and,Bool.false_and,Bool.true_or,Bool.or_true,Bool.false_or,Bool.or_false]at hbad
                rw[hb]at HCd;have HBb:=Lib.hid hbad;clear hbad hb;go_wp2_with fail;refine HCd.out.mono ?_;rintro e w8 ⟨rfl,rfl⟩;go_wp2;go_roundw
                case rel=>exact⟨j+1,by omega,by go_num,by rw[HN2.out,if_neg (by rw[HBb.out];simp)],HU3.out⟩
                case measure=>simp[intOf];omega
          · have k5 : (x.k == 25) = false := by simp at k1 ⊢; omega
            have k6:(x.k==26)=false:=by simp at k1 ⊢;omega
            have k7:(x.k==27)=false:=by simp at k1 ⊢;omega
            cases hb:hasB (knC l) x.s
            · have hbad := HBd.out; simp only [k1, k5, hb, Bool.true_and, Bool.false_and, Bool.true_or, Bool.or_true, Bool.false_or, Bool.or_false, Bool.not_false, Bool.and_true] at hbad
              try simp only[k6,Bool.true_and,Bool.false_and,Bool.true_or,Bool.or_true,Bool.false_or,Bool.or_false]at hbad
              try simp only[k7,Bool.true_and,Bool.false_and,Bool.true_or,Bool.or_true,Bool.false_or,Bool.or_false]at hbad
              rw[hb]at HCc;have HBb:=Lib.hid hbad;clear hbad hb;go_wp2_with fail;refine HCc.out.mono ?_;rintro e w8 ⟨rfl,rfl⟩;go_wp2;go_ret2;exact⟨by rw[HN2.out,if_pos HBb.out];rfl,HU4.out.trans HU3.out⟩
            · have hbad := HBd.out; simp only [k1, k5, hb, Bool.true_and, Bool.false_and, Bool.true_or, Bool.or_true, Bool.false_or, Bool.or_false, Bool.not_true, Bool.and_false] at hbad
              try simp only[k6,Bool.true_and,Bool.false_and,Bool.true_or,Bool.or_true,Bool.false_or,Bool.or_false]at hbad
              try simp only[k7,Bool.true_and,Bool.false_and,Bool.true_or,Bool.or_true,Bool.false_or,Bool.or_false]at hbad
              rw[hb]at HCc;have HBb:=Lib.hid hbad;clear hbad hb;go_wp2_with fail;refine HCc.out.mono ?_;rintro e w8 ⟨rfl,rfl⟩;go_wp2;go_roundw
              case rel=>exact⟨j+1,by omega,by go_num,by rw[HN2.out,if_neg (by rw[HBb.out];simp)],HU3.out⟩
              case measure=>simp[intOf];omega
        · obtain rfl : j = t.length := by omega
          have HN3:=Lib.hid (show bG l d=opT (knC l) (mI l d) (ts.drop (k+1)) by rw[HN2.out,List.drop_length];rfl);go_wp2;go_roundw
          case rel=>exact⟨k+1,by omega,by go_num,HN3.out,HU2.out⟩
          case measure=>simp[intOf];omega
    · obtain rfl : k = ts.length := by omega
      have HE:=Lib.hid (show bG l d=none by rw[HN.out,List.drop_length];rfl);go_wp2;go_ret2;exact⟨by rw[HE.out];rfl,HU4.out.trans HU.out⟩
end
section
variable {w0 : World}
theorem bFA(l:List Dc)(d:Dc){p:Option Addr}{c:Nat}{v:Value}(hl:l.length≤100000)(hlc:l.length≤c)(hp0:p=none→c=0)(hp:RowsV 6 DcRow w0 p l)(hd:Fine d)(hv:DcV w0 v d):Calls Tryz.prog 26 #[.slice p l.length c,v] w0 (qHA w0 l d):=by
 obtain ⟨i0, hi, hz0, hz1, hz2⟩ := info_parts Tryz.infoDecl10; have HC := Lib.hid (fun w (h : Under w0 w) => vZ (w0 := w) d hd.few hd.many (fun t ht => by have := (hd.small.terms t ht).1; simp only [maxLen]; omega) (DcV.mono _ _ _ _ h hv)); have HF := Lib.hid (fun w (h : Under w0 w) => yEA (w0 := w) (c := c) l d.name hl (RowsV.under DcRow.mono hp h)); have HO := Lib.hid (fun w (h : Under w0 w) => aGA (w0 := w) (c := c) l d hl (RowsV.under DcRow.mono hp h) hd.small hd.few (by have := hd.many; omega) (DcV.mono _ _ _ _ h hv)); have HE := Lib.hid (show iJ l d = if yH d ≠ 0 then yH d else if (lD d.name l).isSome = true then 4 else if 40 ≤ l.length then 21 else if (bG l d).isSome = true then 80 else 0 from rfl); have hvr := hv.row; obtain ⟨vt, vb, vc, rfl, ⟨pt, ct, rfl, _⟩, ⟨pb, cb, rfl, _⟩, ⟨pc, cc, us, rfl, _⟩⟩ := hv; obtain ⟨rc, hrc, hrow⟩ := hvr; have HR := Lib.hid (show DcRow w0 [.int .i64 d.kind, .int .i64 d.level, .string d.name, .slice pt d.type.length ct, .slice pb d.body.length cb, .slice pc d.cons.length cc] d from by
   have:=congrArg (fun z=>match z with | Value.agg cs=>cs.toList | _=>[]) hrc;simp only at this;rw[this]
   simpa using hrow)
 have HP:=Lib.hid (And.intro hlc (And.intro hp0 hp));have HB:=Lib.hid (qA w0 #[.int .i64 d.kind,.int .i64 d.level,.string d.name,.slice pt d.type.length ct,.slice pb d.body.length cb,.slice pc d.cons.length cc] 37);have HU0:=Lib.hid (aA (Under.refl w0) (.cells #[.int .i64 d.kind,.int .i64 d.level,.string d.name,.slice pt d.type.length ct,.slice pb d.body.length cb,.slice pc d.cons.length cc] 37));have hl0:(0:Int)≤(l.length:Int):=by omega
 have hl9:(l.length:Int)≤100000:=by omega
 have HL:=Lib.hid hl;clear hrc hrow hlc hp0 hp hd hl;go_enter Tryz.func26,Tryz.ntmps26;go_wp2_with fail;refine(HC.out _ HU0.out).mono ?_;rintro e w1 ⟨rfl,hU1⟩;have HU:=Lib.hid (HU0.out.trans hU1);have HB1:=Lib.hid (HB.out.under hU1);clear hU1 HC HU0 HB;by_cases he:yH d=0;rotate_left
 · have he' : (yH d != 0) = true := by simpa using he
   have HEe:=Lib.hid (show iJ l d=yH d∧yH d≠0 from⟨by rw[HE.out,if_pos he],he⟩);clear he;generalize yH d=ee at *;go_wp2;go_ret2;exact kM HEe.out.1 HEe.out.2 HU.out
 rw[he]at HE;rw[he];have b0:=HB1.out.cell 0;have b1:=HB1.out.cell 1;have b2:=HB1.out.cell 2;have b3:=HB1.out.cell 3;have b4:=HB1.out.cell 4;have b5:=HB1.out.cell 5;have bl:=HB1.out.lt;clear he;go_wp2_with fail;refine(HF.out _ HU.out).mono ?_;rintro e w2 ⟨fv,rfl,hfv,hU2⟩;obtain⟨ft,fb,fc,rfl,⟨fpt,fct,rfl,_⟩,⟨fpb,fcb,rfl,_⟩,⟨fpc,fcc,fus,rfl,_⟩⟩:=hfv;have HU2:=Lib.hid (HU.out.trans hU2);have HB2:=Lib.hid (HB1.out.under hU2);clear hU2 HU HB1 HF b0 b1 b2 b3 b4 b5 bl;generalize (lD d.name l).getD uT=fd at *
 cases hf:(lD d.name l).isSome;rotate_left
 · rw[hf]at HE;go_wp2;go_ret2;exact kM (r:=4) (by rw[HE.out];rfl) (by decide) (aA HU2.out _)
 rw[hf]at HE;by_cases h40:(40:Int)≤(l.length:Int)
 · go_wp2;go_ret2;exact kM (r:=21) (by rw[HE.out,if_neg (by decide),if_neg (by decide),if_pos (by omega)]) (by decide) (aA HU2.out _)
 have HU3:=Lib.hid (aA HU2.out (.cells #[.int .i64 fd.kind,.int .i64 fd.level,.string fd.name,.slice fpt fd.type.length fct,.slice fpb fd.body.length fcb,.slice fpc fd.cons.length fcc] 37));have b0:=HB2.out.cell 0;have b1:=HB2.out.cell 1;have b2:=HB2.out.cell 2;have b3:=HB2.out.cell 3;have b4:=HB2.out.cell 4;have b5:=HB2.out.cell 5;have bl:=HB2.out.lt;go_wp2_with fail;refine(HO.out _ HU3.out).mono ?_;rintro e w4 ⟨rfl,hU4⟩;have HU4:=Lib.hid (HU3.out.trans hU4);have HB4:=Lib.hid ((HB2.out.alloc _).under hU4);clear hU4 HO b0 b1 b2 b3 b4 b5 bl HU3 HU2 HB2;generalize (bG l d).getD ⟨#[]⟩=os at *
 cases ho:(bG l d).isSome;rotate_left
 · rw[ho]at HE;go_wp2;go_ret2;exact kM (r:=80) (by rw[HE.out,if_neg (by decide),if_neg (by decide),if_neg (by omega)];rfl) (by decide) HU4.out
 rw [ho] at HE; have HE0 := Lib.hid (show iJ l d = 0 by rw [HE.out, if_neg (by decide), if_neg (by decide), if_neg (by omega)]; rfl); have b0 := HB4.out.cell 0; have b1 := HB4.out.cell 1; have b2 := HB4.out.cell 2; have b3 := HB4.out.cell 3; have b4 := HB4.out.cell 4; have b5 := HB4.out.cell 5; have bl := HB4.out.lt; obtain ⟨hlc, hp0, rows, hr1, hr2, hr3⟩ := HP.out; have HRw := Lib.hid (And.intro hr1 (And.intro hr2 hr3)); have HW5 := Lib.hid (aA HU4.out (.cells #[] 37)); clear HE hr1 hr2 hr3; go_wp2_with (at_builtin; refine vC rfl _ _ 40 rfl w4.heap.size 37 i0 _ 6 104 Tryz.underlying40 hi hz0 hz1 hz2 rfl (by decide) _ _ _ rfl (iY w4 w4.heap.size _ _ (Nat.le_refl _)) p l.length c rows.flatten rfl (by rw [wP HRw.out.2.1, HRw.out.2.2.1]) hlc hp0 (HRw.out.1.under HW5.out) (iYA HRw.out.2.2) (by simp only [maxLen]; omega) (by omega) (by simp) ?_); intro v5 w5 hown hgrow; have HO5 := Lib.hid hown; have HU5 := Lib.hid (rA HW5.out hgrow fun g e => by cases e; exact HU4.out.size); have HB5 := Lib.hid ((HB4.out.alloc (.cells #[] 37)).grown hgrow (fun e => by have h : w0.heap.size = w4.heap.size := Option.some.inj e; omega)); have HS5 := Lib.hid (Nat.le_trans (by simp : w4.heap.size ≤ (w4.alloc (.cells #[] 37)).heap.size) hgrow.size); obtain ⟨q5, k5, rfl, _, _⟩ := RowArg.of_own hown; clear hown hgrow b0 b1 b2 b3 b4 b5 bl; have b0 := HB5.out.cell 0; have b1 := HB5.out.cell 1; have b2 := HB5.out.cell 2; have b3 := HB5.out.cell 3; have b4 := HB5.out.cell 4; have b5 := HB5.out.cell 5; have bl := HB5.out.lt; go_wp2_with (at_builtin; refine vC rfl _ _ 40 rfl w4.heap.size 37 i0 _ 6 104 Tryz.underlying40 hi hz0 hz1 hz2 rfl (by decide) _ _ _ rfl (HO5.out.alloc _) _ 1 1 _ rfl rfl (Nat.le_refl _) (fun h => by cases h) (pQA w5 [.int .i64 d.kind, .int .i64 d.level, .string d.name, .slice pt d.type.length ct, .slice pb d.body.length cb, .slice pc d.cons.length cc] 37 rfl) (fun u hu => by simp at hu; rcases hu with rfl | rfl | rfl | rfl | rfl | rfl <;> rfl) (by simp only [maxLen]; omega) (by omega) (by have := HS5.out; simp; omega) ?_); intro v6 w6 hown hgrow; have HU6 := Lib.hid (rA (aA HU5.out _) hgrow fun g e => Nat.le_trans HU4.out.size (vB HO5.out e).1); obtain ⟨q6, k6, rfl, hk6, hr6⟩ := RowsV.of_own (R := DcRow) (xs := l ++ [d]) (rows := rows ++ [[.int .i64 d.kind, .int .i64 d.level, .string d.name, .slice pt d.type.length ct, .slice pb d.body.length cb, .slice pc d.cons.length cc]]) (by rw [List.flatten_append]; simpa using hown) (fun r hr => by
   rcases List.mem_append.1 hr with hr | hr
   · exact HRw.out.2.1 r hr
   · rw[List.mem_singleton.1 hr];rfl) ((HRw.out.2.2.mono fun v x h=>DcRow.mono _ _ _ _ HU6.out h).app (Zip.one (DcRow.mono _ _ _ _ HU6.out HR.out)))
 have HN6:=Lib.hid (And.intro hk6 (jAA hown));have HR6:=Lib.hid hr6;clear hown hgrow hk6 hr6;go_wp2;go_ret2;exact sEA HE0.out (by simp) HN6.out.1 HN6.out.2 HR6.out HU6.out
end
end Go.Proofs.YtggjbblgoddnjaaGreatDoor
