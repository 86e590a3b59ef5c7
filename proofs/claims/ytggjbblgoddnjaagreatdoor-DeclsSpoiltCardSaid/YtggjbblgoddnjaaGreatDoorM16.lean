/- Part 16 of what the proof rests on. -/
import Derived.Test.YtggjbblgoddnjaaGreatDoorM04
import Derived.Test.YtggjbblgoddnjaaGreatDoorM06
import Derived.Test.YtggjbblgoddnjaaGreatDoorM08
import Derived.Test.YtggjbblgoddnjaaGreatDoorM10
import Derived.Test.YtggjbblgoddnjaaGreatDoorM12
import Derived.Test.YtggjbblgoddnjaaGreatDoorM13
import Derived.Test.YtggjbblgoddnjaaGreatDoorM14
import Derived.Test.YtggjbblgoddnjaaGreatDoorM15
import Derived.Test.YtggjbblgoddnjaaGreatDoorM00
set_option linter.unusedSimpArgs false
set_option linter.unusedVariables false
set_option maxRecDepth 100000
set_option maxHeartbeats 8000000
namespace Go.Proofs.YtggjbblgoddnjaaGreatDoor
open Go.Lx Go.RowKit
section
variable {w0 : World}
theorem oNA(t:List Nd){v:Value}(hn:t.length≤maxLen)(hv:TermV w0 v t):Calls Tryz.prog 53 #[v] w0 fun e w=>e = .returned (.int .i64 (sD t))∧Under w0 w:=by
 by_cases h:gB t=0
 · obtain ⟨T, rfl, hok, hd, hl4⟩ := xIA h; have HF := aA (m6A T hok hd hl4 hv); have hc : sD (flat T) = if 0 < zL T 0 + 1 then 30 else 0 := by unfold sD; rw [if_pos h, nSA T hok]
   have hr:=dZ T hok 0;have HC:=aA hc;clear hc hok hd hl4 hv h hn;by_cases hp:0 < zL T 0+1
   · rw[if_pos hp]at HC;generalize zL T 0+1=n at *;go_enter Tryz.func53,Tryz.ntmps53;go_wp2_with fail;refine HF.out.mono ?_;rintro e w1 ⟨rfl,hU1⟩;have HU:=aA hU1;clear hU1;go_wp2;go_ret;exact⟨by rw[HC.out];rfl,HU.out⟩
   · rw[if_neg hp]at HC;generalize zL T 0+1=n at *;go_enter Tryz.func53,Tryz.ntmps53;go_wp2_with fail;refine HF.out.mono ?_;rintro e w1 ⟨rfl,hU1⟩;have HU:=aA hU1;clear hU1;go_wp2;go_ret;exact⟨by rw[HC.out];rfl,HU.out⟩
 · have HF := aA (hYA t hn hv h); have HC := aA (show sD t = gB t by unfold sD; rw [if_neg h]); have h' : (gB t == 0) = false := by simpa using h
   clear hv h hn;generalize gB t=n at *;go_enter Tryz.func53,Tryz.ntmps53;go_wp2_with fail;refine HF.out.mono ?_;rintro e w1 ⟨rfl,hU1⟩;have HU:=aA hU1;clear hU1;go_wp2;go_ret;exact⟨by rw[HC.out];rfl,HU.out⟩
theorem vRA(s:ByteArray):Calls Tryz.prog 51 #[.string s] w0 fun e w=>e = .returned (.bool (tN s))∧Under w0 w:=by
 have HN:=aA (uO (w0:=w0) s);have HK:=aA (dNA (w0:=w0) s);have HD:=aA (show tN s=(uD s && !kwW s) by unfold tN;rw[wAB]);generalize tN s=r at *;generalize kwW s=k at *
 cases hb:uD s
 · rw[hb]at HN HD;go_enter Tryz.func51,Tryz.ntmps51;go_wp2_with fail;refine HN.out.mono ?_;rintro e w1 ⟨rfl,rfl⟩;go_wp2;go_ret;exact⟨by rw[HD.out];rfl,Under.refl _⟩
 · rw[hb]at HN HD;go_enter Tryz.func51,Tryz.ntmps51;go_wp2_with fail;refine HN.out.mono ?_;rintro e w1 ⟨rfl,rfl⟩;go_wp2_with fail;refine HK.out.mono ?_;rintro e w2 ⟨rfl,hU2⟩;have HU:=aA hU2;clear hU2;go_wp2;go_ret;exact⟨by rw[HD.out];simp,HU.out⟩
end
def lU(k l:Int)(nm:Bool)(e:Int)(nt nb nc:Nat)(lg:Bool):Int:=if k < 1∨3 < k then 1 else if nm=false then 20 else if e≠0 then e else
 if(if k=3 then(0 < nt∨0 < nb∨l < 1∨9 < l) else(0 < nc∨l≠0∨(k=2∧0 < nb))) then 1 else if 6 < nc∨lg=true then 21 else 0
theorem k6A(k l e:Int)(nm lg:Bool)(nt nb nc:Nat):vD [
  nC (decide (1≤k)&&decide (k≤3)) 1,
  nC nm 20,e,
  nC ((k==3&&(decide (1≤l)&&decide (l≤9)))||(!(k==3)&&(l==0))) 1,
  nC (k==3||((nc:Int)==0)) 1,
  nC (!(k==3)||((nt:Int)==0)) 1,
  nC (k==1||((nb:Int)==0)) 1,
  nC (!(decide (6 < (nc:Int))||lg)) 21]=lU k l nm e nt nb nc lg:=by
  unfold lU;have hu:∀(b:Bool) (r:Int) (rest:List Int),vD (nC b r::rest)=if b=true then vD rest else if r≠0 then r else vD rest:=by
   intro b r rest
   cases b<;>simp[vD,nC]
  have he:∀ rest:List Int,vD (e::rest)=if e≠0 then e else vD rest:=fun rest=>rfl
  rw[hu,hu,he,hu,hu,hu,hu,hu];have h0:vD []=0:=rfl;rw[h0];by_cases h1:k < 1∨3 < k
  · rw[if_pos h1,if_neg (by simp;omega)];simp
  rw[if_neg h1,if_pos (by simp;omega)]
  cases nm
  · simp
  simp only[if_true,Bool.true_eq_false,if_false];by_cases h2:e≠0
  · rw[if_pos h2,if_pos h2]
  rw[if_neg h2,if_neg h2];have en:∀ n:Nat,(((n:Int)==0)=true)=(n=0):=fun n=>by simp
  have hk:k=1∨k=2∨k=3:=by omega
  have e1:((decide (1≤l)&&decide (l≤9))=true)=(1≤l∧l≤9):=by simp
  have e2:((l==0)=true)=(l=0):=by simp
  have e3:((!(decide (6 < (nc:Int))||lg))=true)=(¬(6 < nc∨lg=true)):=by simp;omega
  have e4:(1:Int)≠0:=by decide
  have e5:(21:Int)≠0:=by decide
  have e6:(if ¬(6 < nc∨lg=true) then(0:Int) else 21)=if(6 < nc∨lg=true) then 21 else 0:=by by_cases h:(6 < nc∨lg=true)<;>simp only[h,not_true,not_false_iff,if_true,if_false]
  simp only[e3,if_pos e4,if_pos e5,e6];generalize (if(6 < nc∨lg=true) then(21:Int) else 0)=X;rcases hk with rfl | rfl | rfl
  · simp only[show((1:Int)==3)=false from rfl,show((1:Int)==1)=true from rfl,Bool.false_and,Bool.false_or,Bool.not_false,Bool.true_and,Bool.true_or,if_true,en,e2,show ¬(1:Int)=3 by decide,show ¬(1:Int)=2 by decide,if_false,false_and,or_false];by_cases a1:nc=0<;>by_cases a3:l=0<;>simp[a1,a3]<;>omega
  · simp only[show((2:Int)==3)=false from rfl,show((2:Int)==1)=false from rfl,Bool.false_and,Bool.false_or,Bool.not_false,Bool.true_and,Bool.true_or,if_true,en,e2,show ¬(2:Int)=3 by decide,if_false,true_and];by_cases a1:nc=0<;>by_cases a2:nb=0<;>by_cases a3:l=0<;>simp[a1,a2,a3]<;>omega
  · simp only[show((3:Int)==3)=true from rfl,show((3:Int)==1)=false from rfl,Bool.true_and,Bool.not_true,Bool.false_and,Bool.or_false,Bool.false_or,Bool.true_or,if_true,en,e1];by_cases a1:nt=0<;>by_cases a2:nb=0<;>by_cases a3:(1≤l∧l≤9)<;>simp[a1,a2,a3]<;>omega
theorem nZA(d:Dc):kJ d=lU d.kind d.level (tN d.name) (vD ((aB d).map sD)) d.type.length d.body.length d.cons.length (aK d.cons):=k6A ..
section
variable {k l e : Int} {nm lg : Bool} {nt nb nc : Nat}
theorem qHA(h:k < 1∨3 < k):lU k l nm e nt nb nc lg=1:=if_pos h
theorem uSA(h:¬(k < 1∨3 < k)):lU k l false e nt nb nc lg=20:=by unfold lU;rw[if_neg h,if_pos rfl]
theorem mUA(h:¬(k < 1∨3 < k))(he:e≠0):lU k l true e nt nb nc lg=e:=by unfold lU;rw[if_neg h,if_neg (by decide),if_pos he]
theorem nM(h:¬(k < 1∨3 < k))(hb:if k=3 then(0 < nt∨0 < nb∨l < 1∨9 < l) else(0 < nc∨l≠0∨(k=2∧0 < nb))):lU k l true 0 nt nb nc lg=1:=by unfold lU;rw[if_neg h,if_neg (by decide),if_neg (by decide),if_pos hb]
theorem rP(h:¬(k < 1∨3 < k))(hb:¬ if k=3 then(0 < nt∨0 < nb∨l < 1∨9 < l) else(0 < nc∨l≠0∨(k=2∧0 < nb))):lU k l true 0 nt nb nc lg=if 6 < nc∨lg=true then 21 else 0:=by unfold lU;rw[if_neg h,if_neg (by decide),if_neg (by decide),if_neg hb]
end
section
variable {w0 : World}
theorem nOA(d:Dc){v:Value}(hf:d.cons.length≤5864062014634∧d.cons.flatten.length≤5864062015658)(ht:(aB d).length≤5864062015658)(hl:∀ t∈aB d,t.length≤maxLen)(hv:DcV w0 v d):Calls Tryz.prog 21 #[v] w0 fun e w=>e = .returned (.int .i64 (kJ d))∧Under w0 w:=by
 have HT:=aA (fun w (h:Under w0 w)=>rHA (w0:=w) hf.1 hf.2 (DcV.mono _ _ _ _ h hv));have HN:=aA (fun w=>vRA (w0:=w) d.name);have HE:=aA (nZA d);have HLg:=aA (show aK d.cons=d.cons.any fun c=>decide (6 < c.length) from rfl);obtain⟨vt,vb,vc,rfl,⟨pt,ct,rfl,_⟩,⟨pb,cb,rfl,_⟩,⟨pc,cc,us,rfl,_,_,hrc,hzc⟩⟩:=hv;have HRc:=aA hrc;have HZc:=aA hzc;have HB:=aA (rA w0 #[.int .i64 d.kind,.int .i64 d.level,.string d.name,.slice pt d.type.length ct,.slice pb d.body.length cb,.slice pc d.cons.length cc] 37);have HU:=aA (bA (Under.refl w0) (.cells #[.int .i64 d.kind,.int .i64 d.level,.string d.name,.slice pt d.type.length ct,.slice pb d.body.length cb,.slice pc d.cons.length cc] 37));have HLs:=aA hl;have hc9:(d.cons.length:Int)≤5864062014634:=by omega
 have hc0:(0:Int)≤(d.cons.length:Int):=by omega
 have hts9:((aB d).length:Int)≤5864062015658:=by omega
 have hts0:(0:Int)≤((aB d).length:Int):=by omega
 clear hrc hzc hl hf ht;generalize kJ d=de at *;go_enter Tryz.func21,Tryz.ntmps21;by_cases k0:d.kind < 1
 · go_wp2;go_ret;exact⟨by rw[HE.out,qHA (.inl k0)];rfl,HU.out⟩
 by_cases k4:3 < d.kind
 · go_wp2;go_ret;exact⟨by rw[HE.out,qHA (.inr k4)];rfl,HU.out⟩
 have HKk:=aA (show ¬(d.kind < 1∨3 < d.kind) by omega);have b0:=HB.out.cell 0;have b2:=HB.out.cell 2;generalize hnm:tN d.name=nm at *;clear hnm
 cases nm
 · go_wp2_with fail;refine(HN.out _).mono ?_;rintro e w1 ⟨rfl,hU1⟩;have HU:=aA (HU.out.trans hU1);clear hU1;go_wp2;go_ret;exact⟨by rw[HE.out,uSA HKk.out];rfl,HU.out⟩
 go_wp2_with fail;refine(HN.out _).mono ?_;rintro e w1 ⟨rfl,hU1⟩;have HUn:=aA (HU.out.trans hU1);have HB:=aA (HB.out.under hU1);clear hU1 b0 b2 HN HU;have HU:=HUn;clear HUn;have b0:=HB.out.cell 0;have b1:=HB.out.cell 1;have b2:=HB.out.cell 2;have b3:=HB.out.cell 3;have b4:=HB.out.cell 4;have b5:=HB.out.cell 5;have bl:=HB.out.lt;go_wp2_with fail;refine(HT.out _ HU.out).mono ?_;rintro e w2 ⟨u,rfl,⟨q2,kq2,vs2,rfl,_,_,hr2,hz2⟩,hU2⟩;have HR2:=aA hr2;have HZ2:=aA hz2;have HU:=aA (HU.out.trans hU2);have HB:=aA (HB.out.under hU2);clear hr2 hz2 hU2 b0 b1 b2 b3 b4 b5 bl HT;generalize aB d=ts at *;go_wp2;go_loopw [4] (fun i wr=>∃ k:Nat,k≤ts.length∧i = .int .i64 (k:Int)∧vD (ts.map sD)=vD ((ts.drop k).map sD)∧Under w2 wr) (fun i _=>ts.length - (intOf i).toNat)
 case atStart=>exact⟨0,Nat.zero_le _,rfl,by simp,Under.refl _⟩
 case round =>
   obtain⟨k,hk,rfl,hN,hU2⟩:=hrel;have HN:=aA hN;have HB:=aA (HB.out.under hU2);have HU:=aA (HU.out.trans hU2);have HV:=aA hU2;have hk0:(0:Int)≤(k:Int):=by omega
   clear hN hU2;by_cases hlt:k < ts.length
   · obtain ⟨u, hu, hterm⟩ := HZ2.out.at (List.getElem?_eq_getElem hlt); obtain ⟨b9, off9, rfl, hb9, hcs⟩ := HR2.out (fun e => by rw [e] at hu; simp at hu); have cc9 := hcs k _ hu; rw [← fA HV.out hb9] at cc9; have hb9' := Nat.lt_of_lt_of_le hb9 HV.out.size; have hlt' : (k : Int) < (ts.length : Int) := by omega
     have HC:=aA (oNA (w0:=wr) ts[k] (HLs.out _ (List.getElem_mem hlt)) (TermV.mono _ _ _ _ HV.out hterm));have HS:=aA (show vD ((ts.drop k).map sD)=if sD ts[k]≠0 then sD ts[k] else vD ((ts.drop (k+1)).map sD) by rw[List.drop_eq_getElem_cons hlt];rfl);obtain⟨qt,ct5,rfl,_⟩:=hterm;clear hcs hu;generalize sD ts[k]=ce at *;generalize ts[k].length=tl at *;by_cases hce:ce=0
     · subst hce; go_wp2_with fail; refine HC.out.mono ?_; rintro e w4 ⟨rfl, hU4⟩; have HU4 := aA (HV.out.trans hU4); clear hU4; go_wp2; go_roundw
       case rel=>exact⟨k+1,by omega,by go_num,by rw[HN.out,HS.out];rfl,HU4.out⟩
       case measure=>simp[intOf];omega
     · have hce' : (ce != 0) = true := by simpa using hce
       have HY:=aA (show vD (ts.map sD)=ce by rw[HN.out,HS.out,if_pos hce]);have HCe:=aA hce;clear hce;go_wp2_with fail;refine HC.out.mono ?_;rintro e w4 ⟨rfl,hU4⟩;have HU:=aA (HU.out.trans hU4);clear hU4;go_wp2;go_ret;exact⟨by rw[HE.out,HY.out,mUA HKk.out HCe.out];rfl,HU.out⟩
   · obtain rfl : k = ts.length := by omega
     have HY:vD (ts.map sD)=0:=by rw[HN.out,List.drop_length];rfl
     rw[HY]at HE;have b0:=HB.out.cell 0;have b1:=HB.out.cell 1;have b3:=HB.out.cell 3;have b4:=HB.out.cell 4;have b5:=HB.out.cell 5;have bl:=HB.out.lt;clear HY HN;by_cases k3:d.kind=3
     · have k3' : (d.kind == 3) = true := by simpa using k3
       by_cases a1:0 < d.type.length
       · go_wp2;go_ret;exact⟨by rw[HE.out,nM HKk.out (by rw[if_pos k3];omega)];rfl,HU.out⟩
       by_cases a2:0 < d.body.length
       · go_wp2;go_ret;exact⟨by rw[HE.out,nM HKk.out (by rw[if_pos k3];omega)];rfl,HU.out⟩
       by_cases a3:d.level < 1
       · go_wp2;go_ret;exact⟨by rw[HE.out,nM HKk.out (by rw[if_pos k3];omega)];rfl,HU.out⟩
       by_cases a4:9 < d.level
       · go_wp2;go_ret;exact⟨by rw[HE.out,nM HKk.out (by rw[if_pos k3];omega)];rfl,HU.out⟩
       have hbad:¬ if d.kind=3 then(0 < d.type.length∨0 < d.body.length∨d.level < 1∨9 < d.level) else(0 < d.cons.length∨d.level≠0∨(d.kind=2∧0 < d.body.length)):=by rw[if_pos k3];omega
       have HBad:=aA hbad;clear hbad;by_cases a6:(6:Int) < (d.cons.length:Int)
       · go_wp2;go_ret;exact⟨by rw[HE.out,rP HKk.out HBad.out,if_pos (.inl (by omega))];rfl,HU.out⟩
       go_wp2;generalize wr=w3 at *;go_loopw [6] (fun i wi=>∃ k:Nat,k≤d.cons.length∧i = .int .i64 (k:Int)∧aK d.cons=aK (d.cons.drop k)∧Under w3 wi) (fun i _=>d.cons.length - (intOf i).toNat)
       case atStart=>exact⟨0,Nat.zero_le _,rfl,by simp,Under.refl _⟩
       case round =>
         obtain⟨k,hk,rfl,hN,hU3⟩:=hrel;have HN:=aA hN;have HB:=aA (HB.out.under hU3);have HU:=aA (HU.out.trans hU3);have HV:=aA hU3;have hk0:(0:Int)≤(k:Int):=by omega
         clear hN hU3 b0 b1 b3 b4 b5 bl;have b5:=HB.out.cell 5;have bl:=HB.out.lt;by_cases hlt:k < d.cons.length
         · have HC := aA (show aK (d.cons.drop k) = (decide (6 < d.cons[k].length) || aK (d.cons.drop (k + 1))) by rw [List.drop_eq_getElem_cons hlt]; rfl); obtain ⟨u, hu, q, c', us2, rfl, _⟩ := HZc.out.at (List.getElem?_eq_getElem hlt); obtain ⟨b9, off9, rfl, hb9, hcs⟩ := HRc.out (fun e => by rw [e] at hu; simp at hu); have cc9 := hcs k _ hu; rw [← fA HU.out hb9] at cc9; have hb9' := Nat.lt_of_lt_of_le hb9 HU.out.size; have hlt' : (k : Int) < (d.cons.length : Int) := by omega
           clear hcs hu;generalize d.cons[k].length=n at *;by_cases h:(6:Int) < (n:Int)
           · have HY:=aA (show aK d.cons=true by rw[HN.out,HC.out,decide_eq_true (by omega)];rfl);go_wp2;go_ret;exact⟨by rw[HE.out,rP HKk.out HBad.out,if_pos (.inr HY.out)];rfl,HU.out⟩
           · have HY := aA (show aK d.cons = aK (d.cons.drop (k + 1)) by rw [HN.out, HC.out, decide_eq_false (by omega)]; rfl); go_wp2; go_roundw
             case rel=>exact⟨k+1,by omega,by go_num,HY.out,HV.out⟩
             case measure=>simp[intOf];omega
         · obtain rfl : k = d.cons.length := by omega
           have HY:=aA (show aK d.cons=false by rw[HN.out,List.drop_length];rfl);go_wp2;go_ret;exact⟨by rw[HE.out,rP HKk.out HBad.out,if_neg (by rw[HY.out];simp;omega)];rfl,HU.out⟩
     · have k3' : (d.kind == 3) = false := by simpa using k3
       by_cases a1:0 < d.cons.length
       · go_wp2;go_ret;exact⟨by rw[HE.out,nM HKk.out (by rw[if_neg k3];omega)];rfl,HU.out⟩
       by_cases a2:d.level=0
       · have a2' : (d.level != 0) = false := by simpa using a2
         by_cases a3:d.kind=2
         · have a3' : (d.kind == 2) = true := by simpa using a3
           by_cases a4:0 < d.body.length
           · go_wp2;go_ret;exact⟨by rw[HE.out,nM HKk.out (by rw[if_neg k3];omega)];rfl,HU.out⟩
           have hbad:¬ if d.kind=3 then(0 < d.type.length∨0 < d.body.length∨d.level < 1∨9 < d.level) else(0 < d.cons.length∨d.level≠0∨(d.kind=2∧0 < d.body.length)):=by rw[if_neg k3];omega
           have HBad:=aA hbad;clear hbad;have a6:¬(6:Int) < (d.cons.length:Int):=by omega
           have hnil:d.cons=[]:=List.eq_nil_of_length_eq_zero (by omega);have HY:=aA (show aK d.cons=false by rw[hnil];rfl);have HA6:=aA a6;have HA1:=aA a1;clear hnil;go_wp2;generalize wr=w3 at *;go_loopw [6] (fun i wi=>i = .int .i64 0∧Under w3 wi) (fun i _=>0)
           case atStart=>exact⟨rfl,Under.refl _⟩
           case round =>
             obtain⟨rfl,hU3⟩:=hrel;have HB:=aA (HB.out.under hU3);have HU:=aA (HU.out.trans hU3);clear hU3 b0 b1 b3 b4 b5 bl;have b5:=HB.out.cell 5;have bl:=HB.out.lt;have a7:¬(0:Int) < (d.cons.length:Int):=by have:=HA1.out;omega
             go_wp2;go_ret;exact⟨by rw[HE.out,rP HKk.out HBad.out,if_neg (by rw[HY.out];have:=HA6.out;simp;omega)];rfl,HU.out⟩
         · have a3' : (d.kind == 2) = false := by simpa using a3
           have hbad:¬ if d.kind=3 then(0 < d.type.length∨0 < d.body.length∨d.level < 1∨9 < d.level) else(0 < d.cons.length∨d.level≠0∨(d.kind=2∧0 < d.body.length)):=by rw[if_neg k3];omega
           have HBad:=aA hbad;clear hbad;have a6:¬(6:Int) < (d.cons.length:Int):=by omega
           have hnil:d.cons=[]:=List.eq_nil_of_length_eq_zero (by omega);have HY:=aA (show aK d.cons=false by rw[hnil];rfl);have HA6:=aA a6;have HA1:=aA a1;clear hnil;go_wp2;generalize wr=w3 at *;go_loopw [6] (fun i wi=>i = .int .i64 0∧Under w3 wi) (fun i _=>0)
           case atStart=>exact⟨rfl,Under.refl _⟩
           case round =>
             obtain⟨rfl,hU3⟩:=hrel;have HB:=aA (HB.out.under hU3);have HU:=aA (HU.out.trans hU3);clear hU3 b0 b1 b3 b4 b5 bl;have b5:=HB.out.cell 5;have bl:=HB.out.lt;have a7:¬(0:Int) < (d.cons.length:Int):=by have:=HA1.out;omega
             go_wp2;go_ret;exact⟨by rw[HE.out,rP HKk.out HBad.out,if_neg (by rw[HY.out];have:=HA6.out;simp;omega)];rfl,HU.out⟩
       · have a2' : (d.level != 0) = true := by simpa using a2
         go_wp2;go_ret;exact⟨by rw[HE.out,nM HKk.out (by rw[if_neg k3];omega)];rfl,HU.out⟩
end
theorem wWA:∀ n:Nat,n < 128→Utf8.encode (IntKind.i32.wrap (n:Int))=⟨#[iE (n:Int)]⟩:=by decide +kernel
theorem tY{d:Dc}(h:kJ d=0):(1≤d.kind∧d.kind≤3)∧(0≤d.level∧d.level < 128):=by
 have h1:=fI h (nC (decide (1≤d.kind)&&decide (d.kind≤3)) 1) (by simp);have h2:=fI h (nC (tX d.kind d.level) 1) (by simp);unfold nC at h1 h2
 split at h1
 · rename_i hb
   split at h2
   · rename_i hl;simp only[Bool.and_eq_true,decide_eq_true_eq]at hb;refine⟨hb,?_⟩;simp[tX]at hl;omega
   · cases h2
 · cases h1
theorem cHA(w:World)(base n:Nat)(e:TypeId)(a b c:Value)(hb:base≤n)(hn:w.heap.size=n):(w.alloc (.cells #[a,b,c] e)).ownsRow base e 1 (.slice (some ⟨n,0,none⟩) 3 3) 3 [a,b,c]:=by
 subst hn;exact bCA w base e a b c hb
theorem jOA{d:Dc}(h:(1≤d.kind∧d.kind≤3)∧(0≤d.level∧d.level < 128)):oH d=[⟨#[iE d.kind]⟩,⟨#[iE d.level]⟩,d.name]:=by
 obtain⟨n,hn⟩:=Int.eq_ofNat_of_zero_le (show 0≤d.kind by omega);obtain⟨m,hm⟩:=Int.eq_ofNat_of_zero_le (show 0≤d.level by omega);unfold oH;rw[hn,hm,wWA n (by omega),wWA m (by omega)]
section
variable {w0 : World} {d : Dc} {v : Value}
theorem yQ(hd:Small d)(hf:d.cons.length≤5864062014634∧d.cons.flatten.length≤5864062015658)(hft:(aB d).length≤5864062015658)(hT:∀ t∈aB d,t.length≤1000000)(hv:DcV w0 v d) :
 Calls Tryz.prog 30 #[v] w0 fun e w=>e=yM d∧Under w0 w:=by
 have HV:=aA hv;have HCk:=aA (fun w (h:Under w0 w)=>nOA (w0:=w) d hf hft (fun t ht=>by have:=hT t ht;simp only[maxLen];omega) (DcV.mono _ _ _ _ h hv));have HTm:=aA (fun w (h:Under w0 w)=>rHA (w0:=w) hf.1 hf.2 (DcV.mono _ _ _ _ h hv));have HCd:=aA (fun w (h:Under w0 w) ts v hl hv ht=>sLA (w0:=w) ts (v:=v) hl hv ht);have HD:=aA hd;have HT9:=aA hT;obtain⟨vt,vb,vc,rfl,⟨pt,ct,rfl,g1⟩,⟨pb,cb,rfl,g2⟩,⟨pc,cc,us,rfl,hcc,hpc,hrow,hzip⟩⟩:=hv;have HU:=aA (bA (Under.refl w0) (.cells #[.int .i64 d.kind,.int .i64 d.level,.string d.name,.slice pt d.type.length ct,.slice pb d.body.length cb,.slice pc d.cons.length cc] 37));have HX:=aA (rA w0 #[.int .i64 d.kind,.int .i64 d.level,.string d.name,.slice pt d.type.length ct,.slice pb d.body.length cb,.slice pc d.cons.length cc] 37);have HR:=aA hrow;have HZ:=aA hzip;clear g1 g2 hrow hzip hcc hpc hd hf hft hT;by_cases hc:kJ d=0
 · have HO := aA (bHA hc); have hfew := pHA hc; have hr := tY hc; have HC9 := aA (show d.cons.length ≤ 90000 by have := hfew.1; omega); have HFw := aA hfew.2; rw [hc] at HCk; clear hc hfew; have HH := aA (jOA hr); have hkk := hr.1; have hkl := hr.2; have hbk := fun w g => rJ w g d.kind
   have hbl:=fun w g=>rJ w g d.level
   rw[Int.emod_eq_of_lt (by omega) (by omega)]at hbk hbl;have hb2:=rJ;clear hr;obtain⟨i0,hi,hz0,hz1,hz2⟩:=info_parts Tryz.infoStr;generalize Utf8.encode (IntKind.i32.wrap d.kind)=ek at *;generalize Utf8.encode (IntKind.i32.wrap d.level)=el at *;by_cases hk3:d.kind=3
   · have HE : RowKit.Hid (xL d = (lL (oH d) d.cons).bind gG) := aA (by unfold xL; rw [if_pos hk3]); have hk3' : ¬ d.kind < 3 := by omega
     have HFr : RowKit.Hid (d.cons.length ≤ 90000 ∧ ∀ c ∈ d.cons, c.length ≤ 100000 ∧ Fair c) := aA ⟨HC9.out, fun c hc => ⟨by
         have h1:=HFw.out c hc;omega,fun t ht=>by
         have htt:t∈aB d:=by unfold aB;rw[hk3];simp;exact⟨c,hc,ht⟩
         exact⟨HT9.out t htt,fun x hx=>(HD.out.terms t htt).2 x hx⟩⟩⟩
     have hn0:(0:Int)≤(d.cons.length:Int):=by omega
     clear hk3;generalize d.type.length=nt at *;generalize d.body.length=nb at *;generalize d.kind=k at *;generalize d.level=l at *;go_enter Tryz.func30,Tryz.ntmps30;go_wp2_with fail;refine(HCk.out _ HU.out).mono ?_;rintro e w1 ⟨rfl,hU1⟩;have hcn:w1.cell? ⟨w0.heap.size,5,none⟩=some (.slice pc d.cons.length cc):=(HX.out.under hU1).cell 5;generalize hnc:d.cons.length=nc at *;have HNC:=aA hnc;clear hnc hcn;have c0:w1.cell? ⟨w0.heap.size,0,none⟩=some (.int .i64 k):=(HX.out.under hU1).cell 0;have c1:w1.cell? ⟨w0.heap.size,1,none⟩=some (.int .i64 l):=(HX.out.under hU1).cell 1;have c2:w1.cell? ⟨w0.heap.size,2,none⟩=some (.string d.name):=(HX.out.under hU1).cell 2;have c3:w1.cell? ⟨w0.heap.size,3,none⟩=some (.slice pt nt ct):=(HX.out.under hU1).cell 3;have c4:w1.cell? ⟨w0.heap.size,4,none⟩=some (.slice pb nb cb):=(HX.out.under hU1).cell 4;have c5:w1.cell? ⟨w0.heap.size,5,none⟩=some (.slice pc nc cc):=(HX.out.under hU1).cell 5;have hlt:w0.heap.size < w1.heap.size:=(HX.out.under hU1).lt;have hlt2:w0.heap.size < w1.heap.size+1:=by omega
     have hlt3:w0.heap.size < w1.heap.size+1+1:=by omega
     have hlt4:w0.heap.size < w1.heap.size+1+1+1:=by omega
     have HU1b:=aA hU1;have HU1:=aA (HU.out.trans hU1);clear hU1;go_wp2;have HO0:=aA (cHA ((w1.alloc (.cells #[.int .u8 k] 5)).alloc (.cells #[.int .u8 l] 5)) w1.heap.size (w1.heap.size+1+1) 9 (.string ⟨#[iE k]⟩) (.string ⟨#[iE l]⟩) (.string d.name) (by omega) (by simp));have HU2:=aA (bA (bA (bA HU1.out (.cells #[.int .u8 k] 5)) (.cells #[.int .u8 l] 5)) (.cells #[.string ⟨#[iE k]⟩,.string ⟨#[iE l]⟩,.string d.name] 9));have h9:nc≤90000:=HC9.out;go_loopw [5,6] (fun v i wr=>fBB w1 d nc v i wr) (fun _ i _=>nc - (intOf i).toNat)
     case atStart=>exact⟨0,oH d,Nat.zero_le _,rfl,rfl,by rw[List.drop_zero],by rw[HH.out];exact HO0.out,bA (bA (bA (Under.refl _) _) _) _⟩
     case round =>
       obtain⟨j,acc,hk,rfl,hacc,hN,hown,hWr⟩:=hrel;have hU:=HU1.out.trans hWr;have HN:=aA hN;have HO1:=aA hown;have HUr:=aA hU;have HA:=aA hacc;clear hN hown hacc;have HWr:=aA hWr;have hWr:=HU1b.out.trans hWr;have c0:wr.cell? ⟨w0.heap.size,0,none⟩=some (.int .i64 k):=(HX.out.under hWr).cell 0;have c1:wr.cell? ⟨w0.heap.size,1,none⟩=some (.int .i64 l):=(HX.out.under hWr).cell 1;have c2:wr.cell? ⟨w0.heap.size,2,none⟩=some (.string d.name):=(HX.out.under hWr).cell 2;have c3:wr.cell? ⟨w0.heap.size,3,none⟩=some (.slice pt nt ct):=(HX.out.under hWr).cell 3;have c4:wr.cell? ⟨w0.heap.size,4,none⟩=some (.slice pb nb cb):=(HX.out.under hWr).cell 4;have c5:wr.cell? ⟨w0.heap.size,5,none⟩=some (.slice pc nc cc):=(HX.out.under hWr).cell 5;have hlt:=(HX.out.under hWr).lt;clear hWr;by_cases hlt:j < nc
       · have hlt' : j < d.cons.length := by rw [HNC.out]; exact hlt
         obtain⟨u,hu,hterms⟩:=HZ.out.at (List.getElem?_eq_getElem hlt');obtain⟨q,cq,vs',rfl,hq1,hq2,hq3,hq4⟩:=id hterms;obtain⟨b,off,rfl,hb,hcs⟩:=HR.out (fun e=>by rw[e]at hu;simp at hu);have cc:=hcs j _ hu;rw[← fA hU hb]at cc;have hb':=Nat.lt_of_lt_of_le hb hU.size;have HCc:=aA (HCd.out wr hU _ _ (HFr.out.2 _ (List.getElem_mem hlt')).1 (TermsV.mono _ _ _ _ hU hterms) (HFr.out.2 _ (List.getElem_mem hlt')).2);have HS1:=aA (jDA hlt' acc);have HL:=aA (HFr.out.2 _ (List.getElem_mem hlt')).1;have HPk:=aA (fun w p c (hp:RowArg w p ((d.cons[j].map iC).map .string))=>aZ (w0:=w) (d.cons[j].map iC) (p:=p) (c:=c) (by simpa using HL.out) hp);have hpe:=iDA (gG (d.cons[j].map iC));simp only[dM]at HPk;clear hcs hu hq1 hq2 hq3 hq4 hU hterms;generalize d.cons[j]=cl at *;clear hlt';generalize dQ (gG (cl.map iC))=pB at *;generalize zN (gG (cl.map iC))=pE at *;have HM:=aA (show(cl.map iC).length=cl.length by simp);rw[HM.out]at HPk;generalize cl.length=m at *;go_wp2_with fail;refine HCc.out.mono ?_;rintro e w3 ⟨u,rfl,hu,hU3⟩;obtain⟨q3,c3',rfl,h31,h32,h33⟩:=hu;have HU3:=aA (HUr.out.trans hU3);have HU13:=aA hU3;have HP3:=aA (HPk.out w3 q3 c3' h33);rw[HM.out];clear hU3 h31 h32 h33;go_wp2_with fail;refine HP3.out.mono ?_;rintro e w4 ⟨rfl,hU4⟩;have HU4:=aA (HU3.out.trans hU4);have HO4:=aA (uA HO1.out (HU13.out.trans hU4));have HW4:=aA ((HWr.out.trans HU13.out).trans hU4);clear hU4;rcases hpe with rfl | rfl
         · have HS2 : RowKit.Hid (lL acc (d.cons.drop j) = lL (acc ++ [pB]) (d.cons.drop (j + 1))) := aA (by rw [HS1.out, if_pos rfl]); go_wp2_with (at_builtin; refine wpList_append_own_at _ rfl _ _ 50 rfl w1.heap.size 9 i0 _ 1 16 Tryz.underlying50 hi hz0 hz1 hz2 rfl (by decide) _ _ _ rfl (HO4.out.alloc _) ⟨w4.heap.size, 0, none⟩ 1 1 [.string pB] rfl rfl ?c1 ?c2 (by simp only [maxLen]; have := HA.out; have := HFr.out.1; have := HNC.out; omega) (by have := HA.out; have := HFr.out.1; have := HNC.out; omega) ?c5 ?_)
           case c1 =>
             intro jj u hj
             match jj,hj with
             | 0,hj=>cases hj;simp[Addr.add]
           case c2=>intro u hu;simp at hu;rcases hu with rfl;rfl
           case c5=>have:=HW4.out.size;simp;omega
           intro v' w' hown hgrow hnil hat;have HW:=aA hown;have HW5:=aA (xA (bA HW4.out _) hgrow fun g e=>(jB HO4.out e).1);clear hown hgrow hnil hat;go_wp2;go_roundw
           case rel=>exact⟨j+1,acc++[pB],by omega,by go_num,by rw[List.length_append,HA.out];simp;omega,by rw[HN.out,HS2.out],by rw[List.map_append,List.length_append];exact HW.out,HW5.out⟩
           case measure=>simp[intOf];omega
         · have HS2:RowKit.Hid (xL d=none):=aA (by rw[HE.out,HN.out,HS1.out,if_neg (by decide)];rfl);go_wp2;go_ret2;exact⟨by rw[HO.out,HS2.out];rfl,HU4.out⟩
       · obtain rfl : j = nc := by omega
         have HE2:RowKit.Hid (xL d=gG acc):=aA (by rw[HE.out,HN.out,← HNC.out,List.drop_length];rfl);obtain⟨q5,c5',rfl,hc5,hr5⟩:=RowArg.of_own HO1.out;have HP5:=aA (aZ (w0:=wr) acc (p:=q5) (c:=c5') (by have:=HA.out;have:=HFr.out.1;have:=HNC.out;omega) hr5);rw[dM,← HE2.out]at HP5;clear hr5 hU;go_wp2_with fail;refine HP5.out.mono ?_;rintro e w6 ⟨rfl,hU6⟩;have HU6:=aA (HUr.out.trans hU6);clear hU6;go_wp2;go_ret2;exact⟨by rw[HO.out];rfl,HU6.out⟩
   · have HE : RowKit.Hid (xL d = gG (oH d ++ (aB d).map iC)) := aA (by unfold xL; rw [if_neg hk3]); have hk3' : d.kind < 3 := by omega
     have HTs : RowKit.Hid ((aB d).length ≤ 2 ∧ Fair (aB d)) := aA ⟨by
         unfold aB;split<;>(try split)<;>(try split)<;>first | contradiction | simp,fun t ht=>⟨HT9.out t ht,fun x hx=>(HD.out.terms t ht).2 x hx⟩⟩
     clear hk3;generalize d.type.length=nt at *;generalize d.body.length=nb at *;generalize d.cons.length=nc at *;generalize d.kind=k at *;generalize d.level=l at *;go_enter Tryz.func30,Tryz.ntmps30;go_wp2_with fail;refine(HCk.out _ HU.out).mono ?_;rintro e w1 ⟨rfl,hU1⟩;have c0:w1.cell? ⟨w0.heap.size,0,none⟩=some (.int .i64 k):=(HX.out.under hU1).cell 0;have c1:w1.cell? ⟨w0.heap.size,1,none⟩=some (.int .i64 l):=(HX.out.under hU1).cell 1;have c2:w1.cell? ⟨w0.heap.size,2,none⟩=some (.string d.name):=(HX.out.under hU1).cell 2;have c3:w1.cell? ⟨w0.heap.size,3,none⟩=some (.slice pt nt ct):=(HX.out.under hU1).cell 3;have c4:w1.cell? ⟨w0.heap.size,4,none⟩=some (.slice pb nb cb):=(HX.out.under hU1).cell 4;have c5:w1.cell? ⟨w0.heap.size,5,none⟩=some (.slice pc nc cc):=(HX.out.under hU1).cell 5;have hlt:w0.heap.size < w1.heap.size:=(HX.out.under hU1).lt;have hlt2:w0.heap.size < w1.heap.size+1:=by omega
     have hlt3:w0.heap.size < w1.heap.size+1+1:=by omega
     have hlt4:w0.heap.size < w1.heap.size+1+1+1:=by omega
     have HU1:=aA (HU.out.trans hU1);clear hU1;go_wp2_with fail;have hU2:=bA (bA (bA HU1.out (.cells #[.int .u8 k] 5)) (.cells #[.int .u8 l] 5)) (.cells #[.string ⟨#[iE k]⟩,.string ⟨#[iE l]⟩,.string d.name] 9);refine(HTm.out _ hU2).mono ?_;rintro e w3 ⟨u,rfl,hu,hU3⟩;have HU3:=aA (hU2.trans hU3);have HU13:=aA hU3;obtain⟨pu,cu,us2,rfl,hu2,hu3,hu4,hu5⟩:=id hu;have HTV:=aA hu;clear hU2 hU3 hu hu2 hu3 hu4 hu5;go_wp2_with fail;refine(HCd.out _ HU3.out _ _ (by have:=HTs.out.1;omega) HTV.out HTs.out.2).mono ?_;rintro e w4 ⟨u,rfl,hu,hU4⟩;have HU4:=aA (HU3.out.trans hU4);have HO4:=aA (uA (cHA ((w1.alloc (.cells #[.int .u8 k] 5)).alloc (.cells #[.int .u8 l] 5)) w0.heap.size (w1.heap.size+1+1) 9 (.string ⟨#[iE k]⟩) (.string ⟨#[iE l]⟩) (.string d.name) (by have:=HU1.out.size;omega) (by simp)) (HU13.out.trans hU4));obtain⟨q,qc,rfl,hqc,hq0,hqr⟩:=hu;have HQ:=aA hqr;have HM:=aA (show((aB d).map iC).length=(aB d).length by simp);have HT3:=HTs.out.1;clear hU4 hqr;rw[HM.out]at hqc;have HQ':RowKit.Hid (RowArg w4 q (((aB d).map iC).map .string)∧(((aB d).map iC).map Value.string).length=(aB d).length * 1∧∀ u∈((aB d).map iC).map Value.string,u.oneCell'=true) :=
      aA ⟨HQ.out,by simp,fun u hu=>by simp at hu;obtain⟨x,_,rfl⟩:=hu;rfl⟩
     have HP:=aA (fun w p c (hp:RowArg w p ((oH d++(aB d).map iC).map .string))=>aZ (w0:=w) (oH d++(aB d).map iC) (p:=p) (c:=c) (by simp[oH];omega) hp);rw[show(oH d++(aB d).map iC).length=3+(aB d).length by simp[oH];omega]at HP;rw[HM.out];have HHM:RowKit.Hid ((oH d++(aB d).map iC).map Value.string=[.string ⟨#[iE k]⟩,.string ⟨#[iE l]⟩,.string d.name]++((aB d).map iC).map Value.string):=aA (by rw[HH.out];rfl);rw[HHM.out,← HE.out,dM]at HP;generalize dQ (xL d)=pB at *;generalize zN (xL d)=pE at *;generalize ((aB d).map iC).map Value.string=news at *;generalize (aB d).length=m at *;go_wp2_with (at_builtin;refine nE rfl _ _ 50 rfl w0.heap.size 9 i0 _ 1 16 Tryz.underlying50 hi hz0 hz1 hz2 rfl (by decide) _ _ _ rfl HO4.out q m qc news rfl HQ'.out.2.1 hqc hq0 HQ'.out.1 HQ'.out.2.2 (by simp only[maxLen];omega) (by omega) HU4.out.size ?_);intro v' w5 hown hgrow;have HU5:=aA (xA HU4.out hgrow fun g e=>(jB HO4.out e).1);obtain⟨q5,c5',rfl,hc5,hr5⟩:=RowArg.of_own hown;have HP5:=aA (HP.out w5 q5 c5' hr5);clear hown hgrow hr5 hc5;go_wp2_with fail;refine HP5.out.mono ?_;rintro e w6 ⟨rfl,hU6⟩;have HU6:=aA (HU5.out.trans hU6);clear hU6;go_wp2;go_ret2;exact⟨by rw[HO.out];rfl,HU6.out⟩
 · have HO := aA (tCA hc); have hce : (kJ d == 0) = false := by simpa using hc
   clear hc;generalize kJ d=ce at *;go_enter Tryz.func30,Tryz.ntmps30;go_wp2_with fail;refine(HCk.out _ HU.out).mono ?_;rintro e w1 ⟨rfl,hU1⟩;have HU1:=aA hU1;clear hU1;go_wp2;go_ret2;exact⟨by rw[HO.out];rfl,HU.out.trans HU1.out⟩
end
section
variable {w0 : World}
theorem zT(l:List ByteArray){p:Option Addr}{c:Nat}(hn:l.length≤1000000)(hs:∀ s∈l,s.size≤1000000)(hl:TextsV w0 (.slice p l.length c) l):Calls Tryz.prog 64 #[.slice p l.length c] w0 (uAB w0 (aF [] l)):=by
 have HS:=aA hs;have HL:=aA (show RowArg w0 p (l.map .string) from by obtain⟨p1,c1,e,_,_,h⟩:=hl;cases e;exact h);have hn0:(0:Int)≤(l.length:Int):=by omega
 have hn9:(l.length:Int)≤1000000:=by omega
 obtain⟨i0,hi,hz0,hz1,hz2⟩:=info_parts Tryz.infoNdsC;clear hs hl;go_enter Tryz.func64,Tryz.ntmps64;go_wp2;go_loopw [4,5] (fun v i wr=>zAB w0 l v i wr) (fun _ i _=>l.length - (intOf i).toNat)
 case atStart=>exact⟨0,[],[],Nat.zero_le _,rfl,rfl,rfl,uR _ _ _ _ (Nat.le_refl _),Zip.nil _,bA (Under.refl _) _⟩
 case round =>
   obtain⟨k,acc,us,hk,rfl,hak,hg,hown,hz,hU⟩:=hrel;have hk0:(0:Int)≤(k:Int):=by omega
   have HO:=aA hown;have HZ:=aA hz;have HU:=aA hU;have HG:=aA hg;have HAk:=aA hak;clear hown hz hU hg hak;by_cases hlt:k < l.length
   · have hlt' : (k : Int) < (l.length : Int) := by omega
     obtain⟨b,off,rfl,hb,cc⟩:=eEA HL.out hlt;rw[← fA HU.out hb]at cc;have hb':=Nat.lt_of_lt_of_le hb HU.out.size;have HN:=aA (fun h=>rGA (acc:=acc) hlt h);have HM:=aA (fun t h=>sFA (acc:=acc) (t:=t) hlt h);have HDc:=aA (kMA (w0:=wr) l[k] (HS.out _ (List.getElem_mem hlt)));generalize l[k]=s at *;go_wp2_with fail;refine HDc.out.mono ?_;rintro e w1 ⟨hU1,hR⟩
     cases hp:nG s with
     | none =>
       rw[hp]at hR;subst hR;have HU1:=aA (HU.out.trans hU1);have HG:=aA (show aF [] l=none by rw[HG.out];exact HN.out hp);clear hU1;go_wp2;go_ret2;rw[HG.out];exact⟨HU1.out,rfl⟩
     | some t =>
       rw[hp]at hR;obtain⟨v,rfl,hv⟩:=hR;have HU1:=aA (HU.out.trans hU1);have HO1:=aA (uA HO.out hU1);have HZ1:=aA (HZ.out.mono fun v x h=>h.under hU1);have HV1:=aA (show Ow1 w0.heap.size w1 v t from wD hv HU.out.size);have HG:=aA (show aF [] l=aF (acc++[t]) (l.drop (k+1)) by rw[HG.out];exact HM.out t hp);obtain⟨q,c9,rfl,_⟩:=RowArg.of_own hv;clear hU1 hv cc hb';go_wp2_with (at_builtin;refine wpList_append_own_at _ rfl _ _ 96 rfl w0.heap.size 30 i0 _ 1 24 Tryz.underlying96 hi hz0 hz1 hz2 rfl (by decide) _ _ _ rfl (uA HO1.out (bA (Under.refl _) _)) ⟨w1.heap.size,0,none⟩ 1 1 [.slice q t.length c9] rfl rfl ?c1 ?c2 (by simp only[maxLen];omega) (by omega) ?c5 ?_)
       case c1=>exact tH (by simp) _ _
       case c2=>intro u hu;simp at hu;subst hu;rfl
       case c5=>have:=HU1.out.size;simp;omega
       intro v' w' hown hgrow hnil hat;have HO':=aA hown;have HU':=aA (xA (bA HU1.out _) hgrow fun g e=>(jB HO1.out e).1);have HZ':=aA ((HZ1.out.mono fun v x h=>(h.under (bA (Under.refl _) _)).grown (uA HO1.out (bA (Under.refl _) _)) hgrow (by decide)).app (Zip.one ((HV1.out.under (bA (Under.refl _) _)).grown (uA HO1.out (bA (Under.refl _) _)) hgrow (by decide))));clear hown hgrow hnil hat;go_wp2;go_roundw
       case rel=>exact⟨k+1,acc++[t],us++[_],by omega,by go_num,by rw[List.length_append,HAk.out];rfl,HG.out,HO'.out,HZ'.out,HU'.out⟩
       case measure=>simp[intOf];omega
   · obtain rfl : k = l.length := by omega
     have HG:=aA (show aF [] l=some acc by rw[HG.out,List.drop_length];rfl);obtain⟨q,c',rfl,_⟩:=RowArg.of_own HO.out;have HR:=aA (show Ow2 w0.heap.size wr (.slice q acc.length c') acc from⟨us,by rw[HAk.out];exact HO.out,HZ.out⟩);rw[HAk.out]at HR;go_wp2;go_ret2;rw[HG.out];exact⟨HU.out,_,rfl,HR.out⟩
end
theorem xGA {fn : Func} {R : Ending → World → Prop} {A : Array Value} {w : World} {b : Nat} {a0 a1 a2 a3 a4 a5 v0 v1 v2 v3 v4 v5 x : Value} (hr : fn.results = #[.cell 2 37, .tmp 3]) (h2 : A.getD 2 undef = .pointer (some ⟨b, 0, none⟩)) (h3 : A.getD 3 undef = x) (hB : BoxAt w b 37 #[a0, a1, a2, a3, a4, a5])
    (hR:∀ wf,RowKit.Hid (Ch (fun g=>g=b) w wf)→R (.returned (.tuple #[.agg #[v0,v1,v2,v3,v4,v5],x])) wf) :
    bodyPost Tryz.prog fn R .ret ⟨A,[]⟩ ((((((w.setCell ⟨b,0,none⟩ v0).setCell ⟨b,1,none⟩ v1).setCell ⟨b,2,none⟩ v2).setCell ⟨b,3,none⟩ v3).setCell ⟨b,4,none⟩ v4).setCell ⟨b,5,none⟩ v5) :=
  n3A (fun w' h => by
    have e0:=h.cell 0;have e1:=h.cell 1;have e2:=h.cell 2;have e3:=h.cell 3;have e4:=h.cell 4;have e5:=h.cell 5;simp[go_sem,e0,e1,e2,e3,e4,e5]) hr h2 h3 hB hR
def l6(k lev:Int)(nm:ByteArray)(x:List (List Nd)):Option Dc:=if(x.length:Int)=3 - k then some ⟨k,lev,nm,x.getD 0 [],if k=1 then x.getD 1 [] else [],[]⟩ else none
def prP : List ByteArray → Option Dc
  | ⟨⟨[a]⟩⟩::⟨⟨[b]⟩⟩::nm::r=>if a.toNat=3 then(rH [] r).map fun c=>⟨3,b.toNat,nm,[],[],c⟩ else(aF [] r).bind (l6 a.toNat b.toNat nm)
  | _=>none
def dL(s:ByteArray)(d:Dc):Option Dc:=if kF d=0∧(xD d).toList=s.toList then some d else none
theorem dVA{s:ByteArray}{d:Dc}(h:d.kind=0):dL s d=none:=by
 unfold dL;rw[if_neg];rintro⟨h1,_⟩;unfold kF at h1
 split at h1
 · rename_i hd;have:=(tY hd).1.1;omega
 · contradiction
theorem e2A(s:ByteArray)(l:List ByteArray):(qU l).bind (dL s)=(prP l).bind (dL s):=by
 unfold qU
 split
 · rename_i a b nm r; rw [show prP (⟨⟨[a]⟩⟩ :: ⟨⟨[b]⟩⟩ :: nm :: r) = (if a.toNat = 3 then (rH [] r).map fun c => ⟨3, b.toNat, nm, [], [], c⟩ else (aF [] r).bind (l6 a.toNat b.toNat nm)) from rfl]
   split
   · rfl
   · rename_i ha
     cases aF [] r with
     | none=>rfl
     | some x =>
       show(mQ a.toNat b.toNat nm x).bind _=(l6 a.toNat b.toNat nm x).bind _
       generalize b.toNat=lev;generalize hk:(a.toNat:Int)=k;have hk0:0≤k:=by omega
       have hk3:k≠3:=by omega
       unfold l6
       match x with
       | []=>rw[if_neg (by simp;omega)];rfl
       | [t] =>
         simp only[mQ];by_cases h:k=2
         · subst h;rfl
         · rw[if_neg h,if_neg (by simp;omega)]
       | [t, u] =>
         simp only[mQ];by_cases h:k=1
         · subst h;rfl
         · rw[if_neg h,if_neg (by simp;omega)]
       | t :: u :: v :: x =>
         simp only[mQ,Option.bind_none]
         split
         · rename_i h; have : k = 0 := by simp at h; omega
           rw[Option.bind_some,dVA this]
         · rfl
 · rename_i h; rw [show prP l = none by
     unfold prP
     split
     · rename_i a b nm r;exact(h a b nm r rfl).elim
     · rfl]
theorem z2A(s:ByteArray):vH s=((zC s).bind prP).bind (dL s):=by
 show((zC s).bind qU).bind (dL s)=_
 cases zC s with
 | none=>rfl
 | some l=>exact e2A s l
theorem d8A{l:List ByteArray}(h:l.length < 3):prP l=none:=by
 unfold prP
 split
 · simp at h;omega
 · rfl
theorem p5A{s0 s1 s2:ByteArray}{r:List ByteArray}(h:¬(s0.size=1∧s1.size=1)):prP (s0::s1::s2::r)=none:=by
 unfold prP
 split
 · rename_i e
   injection e with e1 e2
   injection e2 with e2 e3
   subst e1 e2;exact absurd ⟨rfl,rfl⟩ h
 · rfl
theorem eWA{k lev:Int}{nm:ByteArray}{x y:List Nd}(hn:nm.size≤20000)(hx:aY x)(hy:aY y):GoodD ⟨k,lev,nm,x,y,[]⟩:=⟨hn,hx,hy,Nat.zero_le _,fun c hc=>(List.not_mem_nil hc).elim⟩
noncomputable def yEA:Code:=Tryz.f32.body.getD .skip
noncomputable def rdIf:Code:=dB (qA (qA (qA (qA yEA))))
noncomputable def rdTail:Code:=qA (qA (qA (qA (qA yEA))))
def rdF(s:ByteArray)(b0 b1:Nat)(J:Nat→Value):Array Value:=#[.string s,J 1,.pointer (some ⟨b0,0,none⟩),J 3,J 4,J 5,.pointer (some ⟨b1,0,none⟩),J 7,J 8,J 9,J 10,J 11,J 12,J 13,J 14,J 15,J 16,J 17,J 18,J 19,J 20,J 21,J 22,J 23,J 24,J 25,J 26,J 27,J 28,J 29,J 30,J 31,J 32,J 33,J 34,J 35,J 36,J 37,J 38,J 39,J 40,J 41,J 42,J 43,J 44,J 45,J 46,J 47,J 48,J 49,J 50,J 51,J 52,J 53,J 54,J 55,J 56,J 57,J 58,J 59,J 60,J 61,J 62,J 63,J 64,J 65,J 66,J 67,J 68,J 69,J 70,J 71,J 72,J 73,J 74,J 75,J 76,J 77,J 78,J 79,J 80,J 81,J 82,J 83,J 84,J 85,J 86,J 87,J 88,J 89,J 90,J 91,J 92,J 93,J 94,J 95,J 96,J 97,J 98,J 99,J 100,J 101,J 102,J 103,J 104,J 105,J 106,J 107,J 108,J 109,J 110,J 111,J 112,J 113,J 114,J 115,J 116,J 117,J 118,J 119,J 120,J 121,J 122,J 123,J 124,J 125,J 126,J 127,J 128,J 129,J 130,J 131,J 132,J 133]
def rdG(s:ByteArray)(b0 b1 b off n c:Nat)(J:Nat→Value):Array Value:=#[.string s,J 1,.pointer (some ⟨b0,0,none⟩),J 3,.slice (some ⟨b,off,none⟩) n c,J 5,.pointer (some ⟨b1,0,none⟩),J 7,J 8,J 9,J 10,J 11,J 12,J 13,J 14,J 15,J 16,J 17,J 18,J 19,J 20,J 21,J 22,J 23,J 24,J 25,J 26,J 27,J 28,J 29,J 30,J 31,J 32,J 33,J 34,J 35,J 36,J 37,J 38,J 39,J 40,J 41,J 42,J 43,J 44,J 45,J 46,J 47,J 48,J 49,J 50,J 51,J 52,J 53,J 54,J 55,J 56,J 57,J 58,J 59,J 60,J 61,J 62,J 63,J 64,J 65,J 66,J 67,J 68,J 69,J 70,J 71,J 72,J 73,J 74,J 75,J 76,J 77,J 78,J 79,J 80,J 81,J 82,J 83,J 84,J 85,J 86,J 87,J 88,J 89,J 90,J 91,J 92,J 93,J 94,J 95,J 96,J 97,J 98,J 99,J 100,J 101,J 102,J 103,J 104,J 105,J 106,J 107,J 108,J 109,J 110,J 111,J 112,J 113,J 114,J 115,J 116,J 117,J 118,J 119,J 120,J 121,J 122,J 123,J 124,J 125,J 126,J 127,J 128,J 129,J 130,J 131,J 132,J 133]
section
variable {w0 w1 w : World} {s : ByteArray} {PD : Option Dc}
theorem gWA {b1 k k' c : Nat} {q q' r : Option Addr} {d : Dc} (hg : GoodD d) (hb : BoxAt w b1 37 #[.int .i64 d.kind, .int .i64 d.level, .string d.name, .slice q d.type.length k, .slice q' d.body.length k', .slice r d.cons.length c])
    (hv:DcO (w0.heap.size+1) w (.agg #[.int .i64 d.kind,.int .i64 d.level,.string d.name,.slice q d.type.length k,.slice q' d.body.length k',.slice r d.cons.length c]) d) (hB:BoxAt w w0.heap.size 37 dcZ) (hU:Under w0 w) (J:Nat→Value) :
    rdTail.wp Tryz.prog (bodyPost Tryz.prog Tryz.f32 (tT w0 (dL s d))) ⟨rdF s w0.heap.size b1 J,[]⟩ w:=by
  have HD := aA hb; have HB := aA hB; have HU := aA hU; have HV := aA hv; have HEn := aA (yQ (w0 := w) hg.small (by have h1 := hg.cons.1; have h2 := pW d.cons 255 fun c hc => (hg.cons.2 c hc).1; omega) (by
    have h1:=hg.cons.1;have h2:=pW d.cons 255 fun c hc=>(hg.cons.2 c hc).1
    unfold aB
    split
    · simp
    · split
      · simp
      · split
        · omega
        · simp) (fun t ht=>by have:=(hg.terms t ht).1;omega) hv.val)
  unfold yM at HEn;have HPD:RowKit.Hid (dL s d=if kF d=0∧(xD d).toList=s.toList then some d else none):=aA rfl;generalize dL s d=PD at *;generalize kF d=E at *;generalize xD d=BB at *;have m0:=hb.cell 0;have m1:=hb.cell 1;have m2:=hb.cell 2;have m3:=hb.cell 3;have m4:=hb.cell 4;have m5:=hb.cell 5;have ml:=hb.lt;clear hg hb hv hB hU;unfold rdTail yEA;simp only[Tryz.f32,Option.getD_some,qA];unfold rdF;go_wp2_with fail;refine HEn.out.mono ?_;rintro e w2 ⟨rfl,hU2⟩;have HD:=aA (HD.out.under hU2);have HB:=aA (HB.out.under hU2);have HU:=aA (HU.out.trans hU2);have HV:=aA (HV.out.under hU2);clear hU2 HEn m0 m1 m2 m3 m4 m5 ml;have m0:=HD.out.cell 0;have m1:=HD.out.cell 1;have m2:=HD.out.cell 2;have m3:=HD.out.cell 3;have m4:=HD.out.cell 4;have m5:=HD.out.cell 5;have ml:=HD.out.lt;have d0:=HB.out.cell 0;have d1:=HB.out.cell 1;have d2:=HB.out.cell 2;have d3:=HB.out.cell 3;have d4:=HB.out.cell 4;have d5:=HB.out.cell 5;have g0:=HB.out.free 0;have g1:=HB.out.free 1;have g2:=HB.out.free 2;have g3:=HB.out.free 3;have g4:=HB.out.free 4;have g5:=HB.out.free 5;have dl:=HB.out.lt;by_cases hE:E=0
  · subst hE; by_cases hB : BB.toList = s.toList
    · have HPE := aA (show PD = some d by rw [HPD.out, if_pos ⟨rfl, hB⟩]); go_wp2; refine xGA rfl rfl rfl HB.out fun wf HX => ?_
      rw[HPE.out];exact⟨_,rfl,(HV.out.ch HX.out fun b hb=>by omega).val,jC HU.out HX.out fun b hb=>by omega⟩
    · have HPE := aA (show PD = none by rw [HPD.out, if_neg (fun h => hB h.2)]); have hB' : (BB.toList == s.toList) = false := by simpa using hB
      clear hB;go_wp2;refine xGA rfl rfl rfl HB.out fun wf HX=>?_
      rw[HPE.out];exact⟨_,rfl,kL _,jC HU.out HX.out fun b hb=>by omega⟩
  · have HPE := aA (show PD = none by rw [HPD.out, if_neg (fun h => hE h.1)]); have hE' : (E != 0) = true := by simpa using hE
    clear hE;go_wp2;refine xGA rfl rfl rfl HB.out fun wf HX=>?_
    rw[HPE.out];exact⟨_,rfl,kL _,jC HU.out HX.out fun b hb=>by omega⟩
def dBB(w0:World)(b1:Nat)(s:ByteArray)(PD:Option Dc)(a:Act)(w:World):Prop:=∃(d:Dc) (q:Option Addr) (k:Nat) (q':Option Addr) (k':Nat) (r:Option Addr) (c:Nat),∃ J,a=⟨rdF s w0.heap.size b1 J,[]⟩∧(GoodD d∧BoxAt w b1 37 #[.int .i64 d.kind,.int .i64 d.level,.string d.name,.slice q d.type.length k,.slice q' d.body.length k',.slice r d.cons.length c]∧DcO (w0.heap.size+1) w (.agg #[.int .i64 d.kind,.int .i64 d.level,.string d.name,.slice q d.type.length k,.slice q' d.body.length k',.slice r d.cons.length c]) d∧BoxAt w w0.heap.size 37 dcZ∧Under w0 w∧PD=dL s d)
def rDB(w1:World)(l:List ByteArray)(lev:Int)(nm:ByteArray)(i:Value)(wr:World):Prop:=∃(j:Nat) (acc:List (List (List Nd))) (us:List Value) (vc:Value),3≤j∧j≤l.length∧i = .int .i64 (j:Int)∧acc.length+3=j∧rH [] (l.drop 3)=rH acc (l.drop j)∧BoxAt wr w1.heap.size 37 #[.int .i64 3,.int .i64 lev,.string nm,.slice none 0 0,.slice none 0 0,vc]∧wr.ownsRow (w1.heap.size+1) 96 1 vc acc.length us∧Zip (Ow2 (w1.heap.size+1) wr) us acc∧Under w1 wr
theorem oCB {b off c n : Nat} {l : List ByteArray} {lev : Int} {nm : ByteArray} (hU : Under w0 w1) (hr : RowArg w1 (some ⟨b, off, none⟩) (l.map .string)) (hn : l.length = n) (h3 : 3 ≤ n) (h9 : n ≤ 255) (hs : ∀ x ∈ l, x.size ≤ 20000) (hnm : nm.size ≤ 20000) (hP : PD = ((rH [] (l.drop 3)).map fun c => (⟨3, lev, nm, [], [], c⟩ : Dc)).bind (dL s))
    (hB:BoxAt w1 w0.heap.size 37 dcZ) (hV:Under w1 w) (hb:BoxAt w w1.heap.size 37 #[.int .i64 3,.int .i64 lev,.string nm,.slice none 0 0,.slice none 0 0,.slice none 0 0]) (J:Nat→Value) :
    rdIf.wp Tryz.prog (Exit.then (dBB w0 w1.heap.size s PD) (bodyPost Tryz.prog Tryz.f32 (tT w0 PD))) ⟨rdG s w0.heap.size w1.heap.size b off n c J,[]⟩ w:=by
  have HB1:=aA hB;have HU1:=aA hU;have HR:=aA hr;have HSz:=aA hs;have HP:=aA hP;have HN:=aA hn;have HNm:=aA hnm;have hbl:=hB.lt;have m0:=hb.cell 0;have ml:=hb.lt;obtain⟨i0,hi,hz0,hz1,hz2⟩:=info_parts Tryz.infoNds2C;have hn9:(n:Int)≤255:=by omega
  have hn0:(0:Int)≤(n:Int):=by omega
  clear hB hU hr hs hP hn hnm;unfold rdIf yEA;simp only[Tryz.f32,Option.getD_some,dB,qA];unfold rdG;go_wp2;clear m0 ml;go_loopw [7] (fun i wr=>rDB w1 l lev nm i wr) (fun i _=>n - (intOf i).toNat)
  case atStart=>exact⟨3,[],[],_,Nat.le_refl _,by rw[HN.out];exact h3,rfl,rfl,rfl,hb,lF _ _ _ _,Zip.nil _,hV⟩
  case round =>
    obtain⟨j,acc,us,vc,hj3,hj,rfl,hak,hcd,hbx,hvc,hz,hW⟩:=hrel;rw[HN.out]at hj;have hj0:(0:Int)≤(j:Int):=by omega
    have HD:=aA hbx;have HVc:=aA hvc;have HZ:=aA hz;have HW:=aA hW;have HU:=aA (HU1.out.trans hW);have HCd:=aA hcd;have HAk:=aA hak;have HB:=aA (HB1.out.under hW);clear hbx hvc hz hW hcd hak;by_cases hlt:j < n
    · have hlt' : j < l.length := by rw [HN.out]; exact hlt
      obtain⟨b',off',e,hb',cc⟩:=eEA HR.out hlt'
      cases e;rw[← fA HW.out hb']at cc;have hbw:=Nat.lt_of_lt_of_le hb' HW.out.size;have HNo:=aA (fun h=>oFA (acc:=acc) hlt' h);have HM:=aA (fun x h=>hHA (acc:=acc) (x:=x) hlt' h);have HUp:=aA (l8 (w0:=wr) l[j] (by have:=HSz.out _ (List.getElem_mem hlt');omega));have HOk:=aA (fun(u:List ByteArray) (hp:zC l[j]=some u)=>kM hp);generalize l[j]=s' at *;clear hlt';go_wp2_with fail;refine HUp.out.mono ?_;rintro e w2 ⟨hU2,hR⟩;have HD:=aA (HD.out.under hU2);have HVc:=aA (uA HVc.out hU2);have HZ:=aA (HZ.out.mono fun v x h=>h.under hU2);have HW:=aA (HW.out.trans hU2);have HU:=aA (HU.out.trans hU2);have HB:=aA (HB.out.under hU2);have HS2:=aA (show w1.heap.size+1≤w2.heap.size from HD.out.lt);clear hU2 cc hbw HUp
      cases hp:zC s' with
      | none =>
        rw[hp]at hR;subst hR;have HPE:=aA (show PD=none by rw[HP.out,HCd.out,HNo.out (by rw[hp];rfl)];rfl);have HDe:=aA (zT (w0:=w2) (c:=0) (p:=none) [] (by simp) (fun x hx=>(List.not_mem_nil hx).elim) (TextsV.nil _));clear hp;go_wp2_with fail;refine HDe.out.mono ?_;rintro e w3 ⟨hU3,v3,rfl,hv3⟩;obtain⟨us3,ho3,_⟩:=hv3;obtain⟨q3,c3,rfl,_⟩:=RowArg.of_own ho3;have HB:=aA (HB.out.under hU3);have HU:=aA (HU.out.trans hU3);clear hU3 HDe ho3;have d0:=HB.out.cell 0;have d1:=HB.out.cell 1;have d2:=HB.out.cell 2;have d3:=HB.out.cell 3;have d4:=HB.out.cell 4;have d5:=HB.out.cell 5;have g0:=HB.out.free 0;have g1:=HB.out.free 1;have g2:=HB.out.free 2;have g3:=HB.out.free 3;have g4:=HB.out.free 4;have g5:=HB.out.free 5;have dl:=HB.out.lt;go_wp2;refine xGA rfl rfl rfl HB.out fun wf HX=>?_
        rw[HPE.out];exact⟨_,rfl,kL _,jC HU.out HX.out fun b hb=>by omega⟩
      | some l' =>
        rw[hp]at hR;obtain⟨v2,rfl,ho2⟩:=hR;obtain⟨ho1,ho3⟩:=HOk.out l' hp;obtain⟨q2,c2,rfl,hc2,hr2⟩:=RowArg.of_own ho2;have hT2:=TextsV.of_own ho2;have HDe:=aA (zT (w0:=w2) (c:=c2) (p:=q2) l' (by omega) (fun x hx=>by have:=ho1 x hx;omega) hT2);clear ho2 ho1 ho3 hc2 hr2 hT2;generalize l'.length=n2 at *;go_wp2_with fail;refine HDe.out.mono ?_;rintro e w3 ⟨hU3,hR3⟩;have HD:=aA (HD.out.under hU3);have HVc:=aA (uA HVc.out hU3);have HZ:=aA (HZ.out.mono fun v x h=>h.under hU3);have HW:=aA (HW.out.trans hU3);have HU:=aA (HU.out.trans hU3);have HB:=aA (HB.out.under hU3);clear hU3 HDe
        cases hd:aF [] l' with
        | none =>
          rw[hd]at hR3;subst hR3;have HPE:=aA (show PD=none by rw[HP.out,HCd.out,HNo.out (by rw[hp];exact hd)];rfl);clear hp hd;have d0:=HB.out.cell 0;have d1:=HB.out.cell 1;have d2:=HB.out.cell 2;have d3:=HB.out.cell 3;have d4:=HB.out.cell 4;have d5:=HB.out.cell 5;have g0:=HB.out.free 0;have g1:=HB.out.free 1;have g2:=HB.out.free 2;have g3:=HB.out.free 3;have g4:=HB.out.free 4;have g5:=HB.out.free 5;have dl:=HB.out.lt;go_wp2;refine xGA rfl rfl rfl HB.out fun wf HX=>?_
          rw[HPE.out];exact⟨_,rfl,kL _,jC HU.out HX.out fun b hb=>by omega⟩
        | some x =>
          rw[hd]at hR3;obtain⟨v3,rfl,hv3⟩:=hR3;have HCd:=aA (show rH [] (l.drop 3)=rH (acc++[x]) (l.drop (j+1)) by rw[HCd.out];exact HM.out x (by rw[hp];exact hd));have HX3:=aA (Ow2.base (B':=w1.heap.size+1) hv3 HS2.out);obtain⟨us3,ho3,_⟩:=hv3;obtain⟨q3,c3,rfl,_⟩:=RowArg.of_own ho3;clear hp hd ho3;have HAl:=HAk.out;have hmx:acc.length+1≤maxLen:=by simp only[maxLen];omega
          have hby:(acc.length+1) * 24≤140737488355328:=by omega
          have HMb:=aA (And.intro hmx hby);clear HAl hmx hby;have m5:=HD.out.cell 5;have f5:=HD.out.free 5;have ml:=HD.out.lt;generalize hal:acc.length=na at *;have HNa:=aA hal;clear hal;go_wp2_with (at_builtin;refine wpList_append_own_at _ rfl _ _ 31 rfl (w1.heap.size+1) 96 i0 _ 1 24 Tryz.underlying31 hi hz0 hz1 hz2 rfl (by decide) _ _ _ rfl (uA HVc.out (bA (Under.refl _) _)) ⟨w3.heap.size,0,none⟩ 1 1 [.slice q3 x.length c3] rfl rfl ?c1 ?c2 HMb.out.1 HMb.out.2 ?c5 ?_)
          case c1=>exact tH (by simp) _ _
          case c2=>intro u hu;simp at hu;subst hu;rfl
          case c5=>have:=HD.out.lt;simp;omega
          intro v' w4 hown hgrow hnil hat;obtain⟨q5,c5,rfl,_⟩:=RowArg.of_own hown;have HO':=aA hown;have hA:=bA (Under.refl w3) (.cells #[.slice q3 x.length c3] 96);have HD:=aA ((HD.out.under hA).grown hgrow fun e=>by have:=(jB HVc.out e.symm).1;omega);have HB:=aA ((HB.out.under hA).grown hgrow fun e=>by have:=(jB HVc.out e.symm).1;omega);have HZ':=aA ((HZ.out.mono fun v x h=>(h.under hA).grown (uA HVc.out hA) hgrow (by decide) (by decide)).app (Zip.one ((HX3.out.under hA).grown (uA HVc.out hA) hgrow (by decide) (by decide))));have HW:=aA (xA (HW.out.trans hA) hgrow fun g e=>by have:=(jB HVc.out e).1;omega);clear hown hgrow hnil hat hA m5 f5 ml;have m5:=HD.out.cell 5;have f5:=HD.out.free 5;have ml:=HD.out.lt;have HC4:=aA ((Ch.refl (C:=fun b=>b=w1.heap.size) w4).set (fun _=>rfl) 5 (.slice q5 (na+1) c5));go_wp2;go_roundw
          case rel=>exact⟨j+1,acc++[x],us++[_],_,by omega,by rw[HN.out];omega,by go_num,by rw[List.length_append,HNa.out];simp;have:=HAk.out;omega,HCd.out,HD.out.set 5 _,by rw[List.length_append,HNa.out];exact xJ HO'.out HC4.out (fun g hg hc=>by have:=(jB HO'.out hg).1;omega),HZ'.out.mono (fun v x h=>Ow2.ch h HC4.out fun b hb=>by omega),jC HW.out HC4.out fun b hb=>by omega⟩
          case measure=>simp[intOf];omega
    · obtain rfl : j = n := by omega
      have hcs:rH [] (l.drop 3)=some acc:=by rw[HCd.out,← HN.out,List.drop_length];rfl
      have HPE:=aA (show PD=dL s ⟨3,lev,nm,[],[],acc⟩ by rw[HP.out,hcs];rfl);have HG:=aA (show GoodD ⟨3,lev,nm,[],[],acc⟩ from⟨HNm.out,wK,wK,(show acc.length≤255 by have:=HAk.out;omega),(dIA _ [] acc (fun c hc=>(List.not_mem_nil hc).elim) hcs).1⟩);obtain⟨q,c',rfl,_⟩:=RowArg.of_own HVc.out;clear hcs;go_wp2;exact⟨⟨3,lev,nm,[],[],acc⟩,none,0,none,0,q,c',eB (F:=rdF s w0.heap.size w1.heap.size) (by rfl) ⟨HG.out,HD.out,⟨_,_,_,rfl,lF _ _ _ _,lF _ _ _ _,Ow3.base (show Ow3 (w1.heap.size+1) wr (.slice q acc.length c') acc from⟨us,HVc.out,HZ.out⟩) (by omega)⟩,HB.out,HU.out,HPE.out⟩⟩
theorem sCB {b off c n : Nat} {x0 x1 x2 : ByteArray} {r : List ByteArray} {ka lev : Int} {nm : ByteArray} (hU : Under w0 w1) (hr : RowArg w1 (some ⟨b, off, none⟩) ((x0 :: x1 :: x2 :: r).map .string)) (hn : n = r.length + 3) (hc : n ≤ c) (h9 : n ≤ 255) (hs : ∀ x ∈ r, x.size ≤ 20000) (hnm : nm.size ≤ 20000) (hk0 : 0 ≤ ka) (hk9 : ka ≤ 255) (hk3 : ka ≠ 3) (hP : PD = ((aF [] r).bind (l6 ka lev nm)).bind (dL s))
    (hB:BoxAt w1 w0.heap.size 37 dcZ) (hV:Under w1 w) (hb:BoxAt w w1.heap.size 37 #[.int .i64 ka,.int .i64 lev,.string nm,.slice none 0 0,.slice none 0 0,.slice none 0 0]) (J:Nat→Value) :
    rdIf.wp Tryz.prog (Exit.then (dBB w0 w1.heap.size s PD) (bodyPost Tryz.prog Tryz.f32 (tT w0 PD))) ⟨rdG s w0.heap.size w1.heap.size b off n c J,[]⟩ w:=by
  have hx:RowArg w (some ⟨b,wUA off c,none⟩) (r.map .string):=fun hne=>by
   have hc3:¬ c=3:=fun e=>hne (by obtain rfl:r=[]:=List.length_eq_zero_iff.1 (by omega);rfl)
   obtain⟨b',off',e,hb',hcs⟩:=hr (by simp)
   cases e;refine⟨b,off+3,by simp[wUA,hc3],Nat.lt_of_lt_of_le hb' hV.size,fun j u hj=>?_⟩;rw[fA hV hb'];have:=hcs (j+3) u (by simpa using hj);rw[Nat.add_assoc,Nat.add_comm 3 j];exact this
  have HDe:=aA (zT (w0:=w) (c:=c - 3) r (by omega) (fun x hx=>by have:=hs x hx;omega) ⟨_,_,rfl,(by omega),(fun e=>by cases e),hx⟩);have HCut:=mEB (b:=b) (off:=off) (n:=n) (c:=c) (by omega) hc;rw[show n - 3=r.length by omega]at HCut;have HB:=aA (hB.under hV);have HU:=aA (hU.trans hV);have HD:=aA hb;have HP:=aA hP;have HGd:=aA (fun x (h:aF [] r=some x)=>(jAA r [] x (fun t ht=>(List.not_mem_nil ht).elim) h).1);have HNm:=aA hnm;have hbl:=hB.lt;have m0:=hb.cell 0;have ml:=hb.lt;have hkf:(ka==3)=false:=by simpa using hk3
  have hn9:(n:Int)≤255:=by omega
  have hn3:(3:Int)≤(n:Int):=by omega
  clear hB hU hV hr hs hP hnm hb hx hc hn h9;unfold rdIf yEA;simp only[Tryz.f32,Option.getD_some,dB,qA];unfold rdG;go_wp2_with fail;refine HDe.out.mono ?_;rintro e w2 ⟨hU2,hR⟩;have HD:=aA (HD.out.under hU2);have HB:=aA (HB.out.under hU2);have HU:=aA (HU.out.trans hU2);have HSz:=aA (show w1.heap.size < w.heap.size from ml);clear hU2 HDe HCut m0 ml;have m0:=HD.out.cell 0;have ml:=HD.out.lt;have d0:=HB.out.cell 0;have d1:=HB.out.cell 1;have d2:=HB.out.cell 2;have d3:=HB.out.cell 3;have d4:=HB.out.cell 4;have d5:=HB.out.cell 5;have g0:=HB.out.free 0;have g1:=HB.out.free 1;have g2:=HB.out.free 2;have g3:=HB.out.free 3;have g4:=HB.out.free 4;have g5:=HB.out.free 5;have dl:=HB.out.lt
  cases hd:aF [] r with
  | none =>
    rw[hd]at hR;subst hR;have HPE:=aA (show PD=none by rw[HP.out,hd];rfl);clear hd;go_wp2;refine xGA rfl rfl rfl HB.out fun wf HX=>?_
    rw[HPE.out];exact⟨_,rfl,kL _,jC HU.out HX.out fun b hb=>by omega⟩
  | some x =>
    rw[hd]at hR;obtain⟨v,rfl,us,hus,hz⟩:=hR;have HPE:=aA (show PD=(l6 ka lev nm x).bind (dL s) by rw[HP.out,hd];rfl);have HGx:=aA (HGd.out x hd);have hw:IntKind.i64.wrap (3 - ka)=3 - ka:=by rw[IntKind.wrap_i64];omega
    clear hd HP HGd;by_cases hx:(x.length:Int)=3 - ka
    · obtain ⟨t, x', rfl⟩ : ∃ t x', x = t :: x' := by
        cases x with
        | nil=>simp at hx;omega
        | cons t x'=>exact⟨_,_,rfl⟩
      obtain⟨vt,h1,hvt⟩:=hz.at (i:=0) (x:=t) rfl;obtain⟨g,gc,rfl,hg,hgb,hgl,_,_⟩:=dE hus (by simp);have r0:=eD hus rfl h1;obtain⟨qt,ct,rfl,_⟩:=RowArg.of_own hvt;have HVt:=aA hvt;have hne:(⟨g,0,none⟩:Addr)≠⟨w1.heap.size,3,none⟩:=by intro h;simp only[Addr.mk.injEq]at h;omega
      have m3:=HD.out.cell 3;have m4:=HD.out.cell 4;have f3:=HD.out.free 3;have f4:=HD.out.free 4;have hbn:w0.heap.size≠w1.heap.size:=by omega
      have HC3:=aA ((Ch.refl (C:=fun b=>b=w1.heap.size) w2).set (fun _=>rfl) 3 (.slice qt t.length ct));have HGt:=aA (HGx.out t (by simp));by_cases hk1:ka=1
      · subst hk1;obtain⟨u,rfl⟩:∃ u,x'=[u]:=List.length_eq_one_iff.1 (by simp at hx;omega);obtain⟨vu,h2,hvu⟩:=hz.at (i:=1) (x:=u) rfl;have r1:=eD hus rfl h2;obtain⟨qu,cu,rfl,_⟩:=RowArg.of_own hvu;have HVu:=aA hvu;have HGu:=aA (HGx.out u (by simp));have r1':(w2.setCell ⟨w1.heap.size,3,none⟩ (.slice qt t.length ct)).cell? ⟨g,1,none⟩=some (.slice qu u.length cu):=(World.cell?_setCell_other _ _ _ _ (by intro h;simp only[Addr.mk.injEq]at h;omega)).trans r1;have HC4:=aA (HC3.out.set (fun _=>rfl) 4 (.slice qu u.length cu));have HPF:=aA (show PD=dL s ⟨1,lev,nm,t,u,[]⟩ by rw[HPE.out];rfl);simp only[List.length_cons,List.length_nil]at hx;clear hz hus h1 h2 hvt hvu HPE HGx hgb hw hkf hk0 hk9 hk3 hx r1 d0 d1 d2 d3 d4 d5 g0 g1 g2 g3 g4 g5 dl;simp only[List.length_cons,List.length_nil];go_wp2;exact⟨⟨1,lev,nm,t,u,[]⟩,qt,ct,qu,cu,none,0,eB (F:=rdF s w0.heap.size w1.heap.size) (by rfl) ⟨eWA HNm.out HGt.out HGu.out,(HD.out.set 3 _).set 4 _,⟨_,_,_,rfl,(HVt.out.ch HC4.out (fun b hb=>by have:=HSz.out;omega)).base (by have:=HSz.out;omega),(HVu.out.ch HC4.out (fun b hb=>by have:=HSz.out;omega)).base (by have:=HSz.out;omega),[],lF _ _ _ _,Zip.nil _⟩,(HB.out.other hbn 3 _).other hbn 4 _,jC HU.out HC4.out (fun b hb=>by omega),HPF.out⟩⟩
      · have hkf1 : (ka == 1) = false := by simpa using hk1
        have HPF:=aA (show PD=dL s ⟨ka,lev,nm,t,[],[]⟩ by rw[HPE.out];unfold l6;rw[if_pos hx,if_neg hk1];rfl);have hm0:(0:Int) < ((t::x').length:Int):=by rw[List.length_cons];omega
        generalize (t::x').length=m at *;have hxf:((m:Int) != 3 - ka)=false:=by simpa using hx
        clear hz hus h1 hvt HPE HGx hgb hx hk1 hk3 d0 d1 d2 d3 d4 d5 g0 g1 g2 g3 g4 g5 dl;go_wp2;exact⟨⟨ka,lev,nm,t,[],[]⟩,qt,ct,none,0,none,0,eB (F:=rdF s w0.heap.size w1.heap.size) (by rfl) ⟨eWA HNm.out HGt.out wK,HD.out.set 3 _,⟨_,_,_,rfl,(HVt.out.ch HC3.out (fun b hb=>by have:=HSz.out;omega)).base (by have:=HSz.out;omega),lF _ _ _ _,[],lF _ _ _ _,Zip.nil _⟩,HB.out.other hbn 3 _,jC HU.out HC3.out (fun b hb=>by omega),HPF.out⟩⟩
    · have HPF := aA (show PD = none by rw [HPE.out]; unfold l6; rw [if_neg hx]; rfl); obtain ⟨q2, c2, rfl, _⟩ := RowArg.of_own hus; generalize x.length = m at *; have hxf : ((m : Int) != 3 - ka) = true := by simpa using hx
      clear hz hus HPE HGx hx hk3;go_wp2;refine xGA rfl rfl rfl HB.out fun wf HX=>?_
      rw[HPF.out];exact⟨_,rfl,kL _,jC HU.out HX.out fun b hb=>by omega⟩
theorem qIA(s:ByteArray)(hs:s.size≤1000000):Calls Tryz.prog 32 #[.string s] w0 (tT w0 (vH s)):=by
 have HB0:=aA (rA w0 dcZ 37);have HU0:=aA (bA (Under.refl w0) (.cells dcZ 37));have HUn:=aA (l8 (w0:=w0.alloc (.cells dcZ 37)) s hs);have HOk:=aA (fun l h=>kM (s:=s) (l:=l) h);have HD:=aA (z2A s);generalize vH s=PD at *;generalize zC s=PU at *;clear hs;go_enter Tryz.func32,Tryz.ntmps32;go_wp2_with fail;refine HUn.out.mono ?_;rintro e w1 ⟨hU1,hR⟩;have HU:=aA (HU0.out.trans hU1);have HB:=aA (HB0.out.under hU1);clear hU1 HUn HU0 HB0;have d0:=HB.out.cell 0;have d1:=HB.out.cell 1;have d2:=HB.out.cell 2;have d3:=HB.out.cell 3;have d4:=HB.out.cell 4;have d5:=HB.out.cell 5;have g0:=HB.out.free 0;have g1:=HB.out.free 1;have g2:=HB.out.free 2;have g3:=HB.out.free 3;have g4:=HB.out.free 4;have g5:=HB.out.free 5;have dl:=HB.out.lt
 cases PU with
 | none =>
   subst hR;have HPE:=aA (show PD=none from HD.out);go_wp2;refine xGA rfl rfl rfl HB.out fun wf HX=>?_
   rw[HPE.out];exact⟨_,rfl,kL _,jC HU.out HX.out fun b hb=>by omega⟩
 | some l =>
   obtain⟨v,rfl,hown⟩:=hR;obtain⟨hl1,hl2⟩:=HOk.out l rfl;have HL1:=aA hl1;obtain⟨q,c,rfl,hlc,hra⟩:=RowArg.of_own hown;have HRa:=aA hra;have hn9:(l.length:Int)≤255:=by omega
   have HPD:=aA (show PD=(prP l).bind (dL s) from HD.out);clear hown hra hl1 HOk HD;by_cases h3:l.length < 3
   · have HPE := aA (show PD = none by rw [HPD.out, d8A h3]; rfl); have h3' : (l.length : Int) < 3 := by omega
     clear h3;go_wp2;refine xGA rfl rfl rfl HB.out fun wf HX=>?_
     rw[HPE.out];exact⟨_,rfl,kL _,jC HU.out HX.out fun b hb=>by omega⟩
   · obtain ⟨s0, s1, s2, r, hl⟩ : ∃ s0 s1 s2 r, l = s0 :: s1 :: s2 :: r := by
       match l,h3 with
       | s0::s1::s2::r,_=>exact⟨s0,s1,s2,r,rfl⟩
       | [],h=>exact absurd (by decide) h
       | [_],h=>exact absurd (by simp) h
       | [_,_],h=>exact absurd (by simp) h
     have hlen:l.length=r.length+3:=by rw[hl];rfl
     generalize l.length=n at *;subst hl;obtain⟨b,off,rfl,hb,hc⟩:=HRa.out (by simp);have c0:w1.cell? ⟨b,off,none⟩=some (.string s0):=hc 0 _ rfl;have c1:w1.cell? ⟨b,off+1,none⟩=some (.string s1):=hc 1 _ rfl;have c2:w1.cell? ⟨b,off+2,none⟩=some (.string s2):=hc 2 _ rfl;have h3':¬(n:Int) < 3:=by omega
     have h30:(0:Int) < (n:Int):=by omega
     have h31:(1:Int) < (n:Int):=by omega
     have h32:(2:Int) < (n:Int):=by omega
     have hz0:(0:Int)≤(s0.size:Int):=by omega
     have hz1:(0:Int)≤(s1.size:Int):=by omega
     have HLen:=aA hlen;clear hc h3 hlen;by_cases hA:s0.size=1∧s1.size=1
     · obtain ⟨hA0, hA1⟩ := hA; obtain ⟨a, rfl⟩ := one_byte hA0; obtain ⟨a', rfl⟩ := one_byte hA1; have hs0 : (⟨⟨[a]⟩⟩ : ByteArray).size = 1 := rfl; have hs1 : (⟨⟨[a']⟩⟩ : ByteArray).size = 1 := rfl; clear hA0 hA1 hz0 hz1; have HLc := aA hlc; have HL2 := aA hl2; clear d0 d1 d2 d3 d4 d5 g0 g1 g2 g3 g4 g5 hlc hl2; go_wp2_with fail; rename_i K0 hK0; refine wp_region_noPanic ?_; refine wp_region_held_drew (S := fun w => b < w.heap.size ∧ w.cell? ⟨b, off, none⟩ = some (.string ⟨⟨[a]⟩⟩) ∧ w.cell? ⟨b, off + 1, none⟩ = some (.string ⟨⟨[a']⟩⟩) ∧ w.cell? ⟨b, off + 2, none⟩ = some (.string s2)) (by kernel_rfl) ⟨hb, c0, c1, c2⟩ (fun hHeld => ?_); refine dA 0 rfl ?_; refine dA 1 rfl ?_; refine dA 2 rfl ?_; refine dA 3 rfl ?_; refine dA 4 rfl ?_; refine dA 5 rfl ?_; refine dA 6 rfl ?_; refine dA 7 rfl ?_; refine dA 8 rfl ?_; refine dA 9 rfl ?_; refine dA 10 rfl ?_; refine dA 11 rfl ?_; refine dA 12 rfl ?_; refine dA 13 rfl ?_
       try walk_nrm
       have HX1:=aA (fun w (h:Under w1 w)=>(show b < w.heap.size∧w.cell? ⟨b,off,none⟩=some (.string ⟨⟨[a]⟩⟩)∧w.cell? ⟨b,off+1,none⟩=some (.string ⟨⟨[a']⟩⟩)∧w.cell? ⟨b,off+2,none⟩=some (.string s2) from⟨Nat.lt_of_lt_of_le hb h.size,(fA h hb _).trans c0,(fA h hb _).trans c1,(fA h hb _).trans c2⟩));refine yA 14 (by kernel_rfl) rfl fun K hK=>?_
       go_simp;refine hK.out _ _ (HX1.out _ (by first | exact nA (bA (Under.refl _) _) | exact bA (nA (Under.refl _)) _)) (fun _=>?_);clear hK K hHeld;rename_i hHeld
       try walk_nrm
       refine yA 15 (by kernel_rfl) rfl fun K hK=>?_
       go_simp;have ea:IntKind.i64.wrap ((⟨⟨[a]⟩⟩:ByteArray)[0].toNat:Int)=(a.toNat:Int):=by rw[show(⟨⟨[a]⟩⟩:ByteArray)[0]=a from rfl];exact vWA a
       have eb:IntKind.i64.wrap ((⟨⟨[a']⟩⟩:ByteArray)[0].toNat:Int)=(a'.toNat:Int):=by rw[show(⟨⟨[a']⟩⟩:ByteArray)[0]=a' from rfl];exact vWA a'
       rw[ea,eb];obtain⟨wf,hwf⟩:∃ wf,wf=(w1.alloc (.cells #[.int .i64 a.toNat,.int .i64 a'.toNat,.string s2,.slice none 0 0,.slice none 0 0,.slice none 0 0] 37)).drew:=⟨_,rfl⟩;have HV:=aA (show Under w1 wf by rw[hwf];exact nA (bA (Under.refl _) _));have HBn:=aA (show BoxAt wf w1.heap.size 37 #[.int .i64 a.toNat,.int .i64 a'.toNat,.string s2,.slice none 0 0,.slice none 0 0,.slice none 0 0] by rw[hwf];exact rA w1 _ _);rw[← hwf];clear hwf ea eb;refine hK.out _ _ (HX1.out _ HV.out) (fun _=>?_);clear hK K hHeld;rename_i hHeld
       try walk_nrm
       refine wpAnyH_done (by kernel_rfl) ?_ _;refine NoPanic.normal ?_;refine hK0 _ _ ?_;have ha9:=a.toNat_lt;have hln:(⟨⟨[a]⟩⟩::⟨⟨[a']⟩⟩::s2::r:List ByteArray).length=n:=by simp;have:=HLen.out;omega
       refine wp_seq ?_;by_cases hk3:a.toNat=3
       · have HPE : PD = ((rH [] r).map fun c => (⟨3, a'.toNat, s2, [], [], c⟩ : Dc)).bind (dL s) := by rw [HPD.out]; simp only [prP, if_pos hk3]
         have hk3':(a.toNat:Int)=3:=by omega
         rw[hk3']at HBn;refine wp_mono (vV (F:=rdG s w0.heap.size w1.heap.size b off n c) (by rfl) (fun J=>oCB (l:=⟨⟨[a]⟩⟩::⟨⟨[a']⟩⟩::s2::r) HU.out HRa.out hln (by have:=HLen.out;omega) HL2.out HL1.out (HL1.out s2 (by simp)) HPE HB.out HV.out HBn.out J)) ?_;rintro e a9 w' h
         cases e with
         | normal =>
           obtain⟨d,q,k,q',k',r',c',J,rfl,hg,h1,h2,h3,h4,h5⟩:=h;subst h5;exact gWA hg h1 h2 h3 h4 J
         | _=>exact h
       · have HPE : PD = ((aF [] r).bind (l6 a.toNat a'.toNat s2)).bind (dL s) := by rw [HPD.out]; simp only [prP, if_neg hk3]
         refine wp_mono (vV (F:=rdG s w0.heap.size w1.heap.size b off n c) (by rfl) (fun J=>sCB HU.out HRa.out HLen.out HLc.out HL2.out (fun x hx=>HL1.out x (by simp[hx])) (HL1.out s2 (by simp)) (by omega) (by omega) (by omega) HPE HB.out HV.out HBn.out J)) ?_;rintro e a9 w' h
         cases e with
         | normal =>
           obtain⟨d,q,k,q',k',r',c',J,rfl,hg,h1,h2,h3,h4,h5⟩:=h;subst h5;exact gWA hg h1 h2 h3 h4 J
         | _=>exact h
     · have HPE := aA (show PD = none by rw [HPD.out, p5A hA]; rfl); by_cases hA0 : s0.size = 1
       · have hA1 : (s1.size : Int) ≠ 1 := by intro h; exact hA ⟨hA0, by omega⟩
         have hA2:((s1.size:Int) != 1)=true:=by simpa using hA1
         have hA0':(s0.size:Int)=1:=by omega
         have hA3:((s0.size:Int) != 1)=false:=by simpa using hA0'
         clear hA hA0 hA1 hA0';go_wp2;refine xGA rfl rfl rfl HB.out fun wf HX=>?_
         rw[HPE.out];exact⟨_,rfl,kL _,jC HU.out HX.out fun b hb=>by omega⟩
       · have hA2 : ((s0.size : Int) != 1) = true := by simp; omega
         clear hA hA0;go_wp2;refine xGA rfl rfl rfl HB.out fun wf HX=>?_
         rw[HPE.out];exact⟨_,rfl,kL _,jC HU.out HX.out fun b hb=>by omega⟩
end
theorem gKA{x:Nd}(h:zA x=true):(0≤x.k∧x.k < 30)∧(fN x.k.toNat=false→x.n=0)∧(fM x.k.toNat=false→x.m=0)∧(fS x.k.toNat=false→x.s.size=0):=by
 have hk:=pV h;refine⟨hk,fun h1=>?_,fun h1=>?_,fun h1=>?_⟩
 all_goals
  unfold zA at h;rw[if_neg (by omega)]at h
 · split at h
   · cases h
   · rename_i hh;exact Decidable.not_not.1 fun e=>hh ⟨h1,e⟩
 · split at h
   · cases h
   · split at h
     · cases h
     · rename_i hh;exact Decidable.not_not.1 fun e=>hh ⟨h1,e⟩
 · split at h
   · cases h
   · split at h
     · cases h
     · split at h
       · cases h
       · rename_i hh;exact Decidable.not_not.1 fun e=>hh ⟨h1,e⟩
theorem xP{y:Int}(h:0≤y∧y < 256):((iE y).toNat:Int)=y:=by rw[yDA,Int.emod_eq_of_lt h.1 h.2]
theorem yU(b:UInt8)(r:List UInt8):iB 1 (some (b::r))=b.toNat∧iA 1 (some (b::r))=some r:=by
 constructor
 · simp[iB,takeB,zZ]
 · simp[iA,takeB]
theorem l1A(l r:List UInt8):takeB l.length (some (l++r))=(l,some r):=by
 simp[takeB]
theorem bMA(s:ByteArray)(r:List UInt8):iF s.size (some (s.data.toList++r))=s∧iA s.size (some (s.data.toList++r))=some r:=by
 have e:s.size=s.data.toList.length:=by rw[Array.length_toList];rfl
 have:=l1A s.data.toList r;rw[← e]at this;unfold iF iA;rw[this];exact⟨rfl,rfl⟩
theorem rU{n:Nat}(h:n < 256):(tF n).toNat=n:=by unfold tF;rw[UInt8.toNat_ofNat'];omega
theorem uQA{x:Nd}(h:zA x=true)(hn:0≤x.n∧x.n < 256)(hm:0≤x.m∧x.m < 256)(hs:x.s.size < 256)(r:List UInt8):sI (some (qE x++r))=(x,some r):=by
 obtain⟨hk,f1,f2,f3⟩:=gKA h;have ek:(iE x.k).toNat=x.k.toNat:=by have:=xP (y:=x.k) (by omega);omega
 have en:=xP hn;have em:=xP hm;have ekk:((x.k.toNat:Nat):Int)=x.k:=Int.toNat_of_nonneg hk.1;have es:=rU hs;have e0:fS x.k.toNat=false→x.s=⟨#[]⟩:=fun h=>yAA (f3 h)
 have hp:∀ l,sI (some (iE x.k::l))=eY x.k.toNat (some l):=fun l=>by
  show eY (iB 1 (some (iE x.k::l))) (iA 1 (some (iE x.k::l)))=_
  rw[(yU _ _).1,(yU _ _).2,ek]
 obtain⟨k,n,m,s⟩:=x;simp only at *;unfold qE;simp only;rcases tQ k.toNat (by omega) with⟨h1,h2,h3,_⟩ | ⟨h1,h2,h3,_⟩ | ⟨h1,h2,h3,_⟩ | ⟨h1,h2,h3,_⟩ | ⟨h1,h2,h3,_⟩
 all_goals
  have g1:=f1;have g2:=f2;have g3:=e0;rw[h1]at g1;rw[h2]at g2;rw[h3]at g3;simp only[h1,h2,h3,if_true,if_false,Bool.false_eq_true,List.singleton_append,List.nil_append,List.append_nil,List.cons_append,List.append_assoc];rw[hp];simp only[eY,h1,h2,h3,if_true,if_false,Bool.false_eq_true,(yU _ _).1,(yU _ _).2,ekk,en,em,es,(bMA s r).1,(bMA s r).2]
 all_goals
  clear f1 f2 f3 e0 h hp
  try (have q1:=g1 rfl;subst q1)
  try (have q2:=g2 rfl;subst q2)
  try (have q3:=g3 rfl;subst q3)
  rfl
def a3A(x:Nd):Prop:=(0≤x.n∧x.n < 256)∧(0≤x.m∧x.m < 256)∧x.s.size < 256
theorem bIA : ∀ (t acc : List Nd) (r : List UInt8), (∀ x ∈ t, zA x = true ∧ a3A x) → lI t.length (some ((t.map qE).flatten ++ r)) acc = (acc ++ t, some r)
  | [],acc,r,_=>by simp[lI]
  | x :: t, acc, r, h => by
    obtain⟨h1,h2,h3,h4⟩:=h x (List.mem_cons_self ..);have e:((x::t).map qE).flatten++r=qE x++((t.map qE).flatten++r):=by simp
    rw[e];have hl:¬ zF (some (qE x++((t.map qE).flatten++r))) < 1:=by
     show ¬(((qE x++((t.map qE).flatten++r)).length:Nat):Int) < 1
     have:1≤(qE x).length:=by unfold qE;simp
     rw[List.length_append];omega
    show(if zF (some (qE x++((t.map qE).flatten++r))) < 1 then([],some (qE x++((t.map qE).flatten++r))) else lI t.length (sI (some (qE x++((t.map qE).flatten++r)))).2 (acc++[(sI (some (qE x++((t.map qE).flatten++r)))).1]))=_
    rw[if_neg hl,uQA h1 h2 h3 h4,bIA t (acc++[x]) r fun y hy=>h y (List.mem_cons_of_mem _ hy)];simp
theorem oLA(n:Nat)(h:n < 65536)(r:List UInt8):iB 2 (some (yJ n++r))=n∧iA 2 (some (yJ n++r))=some r:=by
 have e1:(tF n).toNat=n % 256:=by unfold tF;rw[UInt8.toNat_ofNat']
 have e2:(tF (n / 256)).toNat=n / 256:=rU (by omega);constructor
 · simp[iB,takeB,yJ,zZ,e1,e2];omega
 · simp[iA,takeB,yJ]
theorem vMA{t:List Nd}(h:gB t=0)(hb:∀ x∈t,a3A x):nG ⟨(kN t).toArray⟩=some t:=by
 have hl:=(sW h).2;have hr:=uK h;have hd:nG ⟨(kN t).toArray⟩=gV (lI (iB 2 (some (kN t))) (iA 2 (some (kN t))) []):=rfl;have e:=bIA t [] [] fun x hx=>⟨hr x hx,hb x hx⟩
 rw[List.append_nil,List.nil_append]at e;rw[hd];unfold kN;rw[(oLA t.length (by omega) _).1,(oLA t.length (by omega) _).2,e]
 show(if zF (some [])≠0 then none else if gB t≠0 then none else some t)=some t
 rw[if_neg (by decide),if_neg (by omega)]
def xN(s:ByteArray):List UInt8:=yJ s.size++s.data.toList
theorem dR : ∀ (ss : List ByteArray) (acc l : List UInt8), cK acc ss = some l → (∀ s ∈ ss, s.size ≤ 20000) ∧ l = acc ++ (ss.map xN).flatten
  | [],acc,l,h=>by cases h;simp
  | s :: ss, acc, l, h => by
    simp only[cK]at h
    split at h
    · cases h
    · obtain ⟨h1, h2⟩ := dR ss _ l h; refine ⟨fun x hx => ?_, ?_⟩
      · rcases List.mem_cons.1 hx with rfl | hx
        · omega
        · exact h1 x hx
      · rw[h2];simp[xN]
theorem sKA : ∀ (ss acc : List ByteArray) (r : List UInt8), (∀ s ∈ ss, s.size ≤ 20000) → bI ss.length (some ((ss.map xN).flatten ++ r)) acc = some (acc ++ ss, some r)
  | [],acc,r,_=>by simp[bI]
  | s :: ss, acc, r, h => by
    have hs:=h s (List.mem_cons_self ..);have e:((s::ss).map xN).flatten++r=yJ s.size++(s.data.toList++((ss.map xN).flatten++r)):=by simp[xN]
    rw[e];have hl:¬ zF (some (yJ s.size++(s.data.toList++((ss.map xN).flatten++r)))) < 0:=by
     show ¬(((yJ s.size++(s.data.toList++((ss.map xN).flatten++r))).length:Nat):Int) < 0
     omega
    obtain⟨n1,n2⟩:=oLA s.size (by omega) (s.data.toList++((ss.map xN).flatten++r));obtain⟨t1,t2⟩:=bMA s ((ss.map xN).flatten++r);have hu:bI (ss.length+1) (some (yJ s.size++(s.data.toList++((ss.map xN).flatten++r)))) acc=if 20000 < iB 2 (some (yJ s.size++(s.data.toList++((ss.map xN).flatten++r)))) then none else bI ss.length (iA (iB 2 (some (yJ s.size++(s.data.toList++((ss.map xN).flatten++r))))) (iA 2 (some (yJ s.size++(s.data.toList++((ss.map xN).flatten++r)))))) (acc++[iF (iB 2 (some (yJ s.size++(s.data.toList++((ss.map xN).flatten++r))))) (iA 2 (some (yJ s.size++(s.data.toList++((ss.map xN).flatten++r)))))]):=if_neg hl
    show bI (ss.length+1) _ acc=_
    rw[hu,n1,n2,t1,t2,if_neg (by omega),sKA ss (acc++[s]) r fun y hy=>h y (List.mem_cons_of_mem _ hy)];simp
theorem jU{ss:List ByteArray}{l:List UInt8}(h:gG ss=some l):zC ⟨l.toArray⟩=some ss:=by
 unfold gG at h
 split at h
 · cases h
 · rename_i h255; obtain ⟨h1, h2⟩ := dR ss _ l h; subst h2; have hn : ss.length < 256 := by omega
   have e0 : (⟨([tF ss.length] ++ (ss.map xN).flatten).toArray⟩ : ByteArray).toList ≠ [] := (yG (by
     show ¬([tF ss.length]++(ss.map xN).flatten).length=0
     simp)).1
   have hd:zC ⟨([tF ss.length]++(ss.map xN).flatten).toArray⟩=xG (bI (iB 1 (some (tF ss.length::(ss.map xN).flatten))) (iA 1 (some (tF ss.length::(ss.map xN).flatten))) []):=if_neg e0;obtain⟨n1,n2⟩:=yU (tF ss.length) (ss.map xN).flatten;have e:=sKA ss [] [] h1;rw[List.append_nil,List.nil_append]at e;rw[hd,n1,n2,rU hn,e];rfl
theorem o9A:∀ k:Nat,k < 30→k≠26→k≠27→fM k=false:=by decide
theorem o5A(k:Int):tV k≤99:=by unfold tV;split;omega;split<;>omega
theorem lTA{x:Nd}(h:zA x=true):a3A x:=by
 obtain⟨hk,f1,f2,f3⟩:=gKA h;have hs:x.s.size < 256:=by
  rcases vS h with h1 | h1
  · omega
  · have:=f3 h1;omega
 have hmm:(x.k=26∨x.k=27)∨x.m=0:=by
  by_cases h1:x.k.toNat=26
  · exact .inl (.inl (by omega))
  · by_cases h2 : x.k.toNat = 27
    · exact .inl (.inr (by omega))
    · exact .inr (f2 (o9A _ (by omega) h1 h2))
 have hm:0≤x.m∧x.m < 256:=by
  rcases hmm with h1 | h1
  · have:=vR h h1;omega
  · omega
 refine⟨?_,hm,hs⟩
 cases hf:fN x.k.toNat
 · have:=f1 hf;omega
 · have hml := o5A x.k; unfold zA at h
   split at h
   · cases h
   · split at h
     · cases h
     · split at h
       · cases h
       · split at h
         · cases h
         · split at h
           · cases h
           · split at h
             · simp at h;omega
             · split at h
               · simp at h;omega
               · split at h
                 · rename_i e;rw[e]at hf;exact absurd hf (by decide)
                 · rw[hf]at h;simp at h;omega
theorem cNA{t:List Nd}(h:gB t=0):nG (iC t)=some t:=by
 unfold iC;rw[if_pos h];exact vMA h fun x hx=>lTA (uK h x hx)
theorem dW : ∀ (ts acc : List (List Nd)), (∀ t ∈ ts, gB t = 0) → aF acc (ts.map iC) = some (acc ++ ts)
  | [],acc,_=>by simp[aF]
  | t :: ts, acc, h => by
    have e:=cNA (h t (List.mem_cons_self ..))
    show aF acc (iC t::ts.map iC)=_
    simp only[aF,e];rw[dW ts (acc++[t]) fun y hy=>h y (List.mem_cons_of_mem _ hy)];simp
theorem zY{o:Option (List UInt8)}(h:zN o=0):∃ l,o=some l∧dQ o=⟨l.toArray⟩:=by
 cases o with
 | none=>cases h
 | some l=>exact⟨l,rfl,rfl⟩
theorem sU : ∀ (cs : List (List (List Nd))) (acc l : List ByteArray), lL acc cs = some l → (∀ c ∈ cs, zN (gG (c.map iC)) = 0) ∧ l = acc ++ cs.map fun c => dQ (gG (c.map iC))
  | [],acc,l,h=>by cases h;simp
  | c :: cs, acc, l, h => by
    simp only[lL]at h
    split at h
    · rename_i hc; obtain ⟨h1, h2⟩ := sU cs _ l h; refine ⟨fun x hx => ?_, by rw [h2]; simp⟩; rcases List.mem_cons.1 hx with rfl | hx
      · exact hc
      · exact h1 x hx
    · cases h
theorem rCA : ∀ (cs acc : List (List (List Nd))), (∀ c ∈ cs, zN (gG (c.map iC)) = 0) → (∀ c ∈ cs, ∀ t ∈ c, gB t = 0) → rH acc (cs.map fun c => dQ (gG (c.map iC))) = some (acc ++ cs)
  | [],acc,_,_=>by simp[rH]
  | c :: cs, acc, h, hc => by
    obtain⟨l,h1,h2⟩:=zY (h c (List.mem_cons_self ..));have e:(zC (dQ (gG (c.map iC)))).bind (aF [])=some c:=by
     rw[h2,jU h1]
     show aF [] (c.map iC)=some c
     rw[dW c [] (hc c (List.mem_cons_self ..))];rfl
    show rH acc (dQ (gG (c.map iC))::cs.map _)=_
    simp only[rH,e];rw[rCA cs (acc++[c]) (fun y hy=>h y (List.mem_cons_of_mem _ hy)) (fun y hy=>hc y (List.mem_cons_of_mem _ hy))];simp
theorem fV{b:Bool}{e:Int}(he:e≠0)(h:nC b e=0):b=true:=by
 unfold nC at h
 split at h
 · assumption
 · exact absurd h he
structure DeclR (d:Dc):Prop where
 range:(1≤d.kind∧d.kind≤3)∧(0≤d.level∧d.level < 128)
 cons:d.kind≠3→d.cons=[]
 type:d.kind=3→d.type=[]
 body:d.kind≠1→d.body=[]
 terms:∀ t∈aB d,gB t=0
theorem mTA{d:Dc}(h:kJ d=0):DeclR d:=by
 have hB:=fV (by decide) (fI h (nC (d.kind==3||((d.cons.length:Int)==0)) 1) (by simp));have hC:=fV (by decide) (fI h (nC (!(d.kind==3)||((d.type.length:Int)==0)) 1) (by simp));have hD:=fV (by decide) (fI h (nC (d.kind==1||((d.body.length:Int)==0)) 1) (by simp));have hT:=fI h (vD ((aB d).map sD)) (by simp);refine⟨tY h,fun h1=>?_,fun h1=>?_,fun h1=>?_,fun t ht=>?_⟩
 · simp[h1]at hB;exact hB
 · simp[h1]at hC;exact hC
 · simp[h1]at hD;exact hD
 · have h2 := fI hT (sD t) (List.mem_map_of_mem ht); unfold sD at h2
   split at h2
   · assumption
   · exact h2
theorem oJA(a b:UInt8)(nm:ByteArray)(r:List ByteArray):qU (⟨#[a]⟩::⟨#[b]⟩::nm::r)=if a.toNat=3 then(rH [] r).map fun c=>⟨3,b.toNat,nm,[],[],c⟩ else(aF [] r).bind (mQ a.toNat b.toNat nm):=rfl
theorem xW{d:Dc}(h:kF d=0):vH (xD d)=some d:=by
 have hd:kJ d=0:=by
  unfold kF at h
  split at h
  · assumption
  · contradiction
 have hR:=mTA hd;have hp:zN (xL d)=0:=by unfold kF at h;rwa [if_pos hd]at h
 obtain⟨l,h1,h2⟩:=zY hp;have hB:xD d=⟨l.toArray⟩:=by unfold xD;rw[if_pos hd,h2]
 have key:mV ⟨l.toArray⟩=some d:=by
  have ek:((iE d.kind).toNat:Int)=d.kind:=xP (by have:=hR.range;omega);have el:((iE d.level).toNat:Int)=d.level:=xP (by have:=hR.range;omega);have hH:=jOA hR.range;by_cases hk:d.kind=3
  · unfold xL at h1; rw [if_pos hk] at h1; obtain ⟨ls, e1, e2⟩ := Option.bind_eq_some_iff.1 h1; obtain ⟨g1, g2⟩ := sU _ _ _ e1; have hd1 : mV ⟨l.toArray⟩ = qU ls := by unfold mV; rw [jU e2]; rfl
    have hc:=rCA d.cons [] g1 fun c hc t ht=>hR.terms t (by unfold aB;rw[hk];simp;exact⟨c,hc,ht⟩)
    rw[hd1,g2,hH]
    show qU (⟨#[iE d.kind]⟩::⟨#[iE d.level]⟩::d.name::d.cons.map _)=some d
    rw[oJA,if_pos (by omega),hc,el];have ht:=hR.type hk;have hb:=hR.body (by omega);obtain⟨k,lv,nm,ty,bo,cs⟩:=d;simp only at *;subst hk ht hb;rfl
  · unfold xL at h1; rw [if_neg hk] at h1; have hd1 : mV ⟨l.toArray⟩ = qU (oH d ++ (aB d).map iC) := by unfold mV; rw [jU h1]; rfl
    have hg:=dW (aB d) [] hR.terms;rw[hd1,hH]
    show qU (⟨#[iE d.kind]⟩::⟨#[iE d.level]⟩::d.name::(aB d).map iC)=some d
    rw[oJA,if_neg (by omega),hg,el,ek];have hc:=hR.cons hk;have hb:=hR.body;have hr:=hR.range.1;obtain⟨k,lv,nm,ty,bo,cs⟩:=d;simp only at *;subst hc;rcases(by omega:k=1∨k=2) with rfl | rfl
    · rfl
    · rw[hb (by decide)];rfl
 unfold vH;rw[hB,key]
 show(if kF d=0∧(xD d).toList=(⟨l.toArray⟩:ByteArray).toList then some d else none)=some d
 rw[if_pos ⟨h,by rw[hB]⟩]
theorem l8A{c d:Dc}(hc:kF c=0)(hd:kF d=0)(h:xD c=xD d):c=d:=by
 have h1:=xW hc;rw[h,xW hd]at h1;exact(Option.some.inj h1).symm
end Go.Proofs.YtggjbblgoddnjaaGreatDoor
