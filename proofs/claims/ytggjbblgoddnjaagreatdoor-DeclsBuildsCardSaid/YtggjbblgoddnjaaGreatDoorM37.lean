/- Part 37 of what the proof rests on. -/
import Derived.Test.YtggjbblgoddnjaaGreatDoorM15
import Derived.Test.YtggjbblgoddnjaaGreatDoorM27
import Derived.Test.YtggjbblgoddnjaaGreatDoorM31
import Derived.Test.YtggjbblgoddnjaaGreatDoorM32
import Derived.Test.YtggjbblgoddnjaaGreatDoorM33
import Derived.Test.YtggjbblgoddnjaaGreatDoorM36
set_option linter.unusedSimpArgs false
set_option linter.unusedVariables false
set_option maxRecDepth 100000
set_option maxHeartbeats 8000000
namespace Go.Proofs.YtggjbblgoddnjaaGreatDoor
open Go.Lx Go.RowKit
section
variable {w0 : World}
theorem sIA(t:List Nd){v:Value}(hn:t.length≤maxLen)(hv:TermV w0 v t):Calls Tryz.prog 53 #[v] w0 fun e w=>e = .returned (.int .i64 (sD t))∧Under w0 w:=by
 by_cases h:bC t=0
 · obtain ⟨T, rfl, hok, hd, hl4⟩ := gEA h; have HF := Lib.hid (yVA T hok hd hl4 hv); have hc : sD (flat T) = if 0 < uJ T 0 + 1 then 30 else 0 := by unfold sD; rw [if_pos h, uMA T hok]
   have hr:=iU T hok 0;have HC:=Lib.hid hc;clear hc hok hd hl4 hv h hn;by_cases hp:0 < uJ T 0+1
   · rw[if_pos hp]at HC;generalize uJ T 0+1=n at *;go_enter Tryz.func53,Tryz.ntmps53;go_wp2_with fail;refine HF.out.mono ?_;rintro e w1 ⟨rfl,hU1⟩;have HU:=Lib.hid hU1;clear hU1;go_wp2;go_ret;exact⟨by rw[HC.out];rfl,HU.out⟩
   · rw[if_neg hp]at HC;generalize uJ T 0+1=n at *;go_enter Tryz.func53,Tryz.ntmps53;go_wp2_with fail;refine HF.out.mono ?_;rintro e w1 ⟨rfl,hU1⟩;have HU:=Lib.hid hU1;clear hU1;go_wp2;go_ret;exact⟨by rw[HC.out];rfl,HU.out⟩
 · have HF := Lib.hid (dTA t hn hv h); have HC := Lib.hid (show sD t = bC t by unfold sD; rw [if_neg h]); have h' : (bC t == 0) = false := by simpa using h
   clear hv h hn;generalize bC t=n at *;go_enter Tryz.func53,Tryz.ntmps53;go_wp2_with fail;refine HF.out.mono ?_;rintro e w1 ⟨rfl,hU1⟩;have HU:=Lib.hid hU1;clear hU1;go_wp2;go_ret;exact⟨by rw[HC.out];rfl,HU.out⟩
theorem mPA(s:ByteArray):Calls Tryz.prog 51 #[.string s] w0 fun e w=>e = .returned (.bool (wK s))∧Under w0 w:=by
 have HN:=Lib.hid (wL (w0:=w0) s);have HK:=Lib.hid (tGA (w0:=w0) s);have HD:=Lib.hid (show wK s=(rD s && !kwW s) by unfold wK;rw[o1A]);generalize wK s=r at *;generalize kwW s=k at *
 cases hb:rD s
 · rw[hb]at HN HD;go_enter Tryz.func51,Tryz.ntmps51;go_wp2_with fail;refine HN.out.mono ?_;rintro e w1 ⟨rfl,rfl⟩;go_wp2;go_ret;exact⟨by rw[HD.out];rfl,Under.refl _⟩
 · rw[hb]at HN HD;go_enter Tryz.func51,Tryz.ntmps51;go_wp2_with fail;refine HN.out.mono ?_;rintro e w1 ⟨rfl,rfl⟩;go_wp2_with fail;refine HK.out.mono ?_;rintro e w2 ⟨rfl,hU2⟩;have HU:=Lib.hid hU2;clear hU2;go_wp2;go_ret;exact⟨by rw[HD.out];simp,HU.out⟩
end
def sQ(k l:Int)(nm:Bool)(e:Int)(nt nb nc:Nat)(lg:Bool):Int:=if k < 1∨3 < k then 1 else if nm=false then 20 else if e≠0 then e else
 if(if k=3 then(0 < nt∨0 < nb∨l < 1∨9 < l) else(0 < nc∨l≠0∨(k=2∧0 < nb))) then 1 else if 6 < nc∨lg=true then 21 else 0
theorem oWA(k l e:Int)(nm lg:Bool)(nt nb nc:Nat):kD [
  jC (decide (1≤k)&&decide (k≤3)) 1,
  jC nm 20,e,
  jC ((k==3&&(decide (1≤l)&&decide (l≤9)))||(!(k==3)&&(l==0))) 1,
  jC (k==3||((nc:Int)==0)) 1,
  jC (!(k==3)||((nt:Int)==0)) 1,
  jC (k==1||((nb:Int)==0)) 1,
  jC (!(decide (6 < (nc:Int))||lg)) 21]=sQ k l nm e nt nb nc lg:=by
  unfold sQ;have hu:∀(b:Bool) (r:Int) (rest:List Int),kD (jC b r::rest)=if b=true then kD rest else if r≠0 then r else kD rest:=by
   intro b r rest
   cases b<;>simp[kD,jC]
  have he:∀ rest:List Int,kD (e::rest)=if e≠0 then e else kD rest:=fun rest=>rfl
  rw[hu,hu,he,hu,hu,hu,hu,hu];have h0:kD []=0:=rfl;rw[h0];by_cases h1:k < 1∨3 < k
  · rw[if_pos h1,if_neg (by simp;omega)];simp
  rw[if_neg h1,if_pos (by simp;omega)]
  cases nm
  · simp
  simp only[if_true,Bool.true_eq_false,if_false];by_cases h2:e≠0
  · rw[if_pos h2,if_pos h2]
  rw[if_neg h2,if_neg h2];have en:∀ n:Nat,(((n:Int)==0)=true)=(n=0):=fun n=>by simp
  have hk:k=1∨k=2∨k=3:=by omega
  have e1:((decide (1≤l)&&decide (l≤9))=true)=(1≤l∧l≤9):=by simp
  have e2:((l==0)=true)=(l=0):=by simp
  have e3:((!(decide (6 < (nc:Int))||lg))=true)=(¬(6 < nc∨lg=true)):=by simp;omega
  have e4:(1:Int)≠0:=by decide
  have e5:(21:Int)≠0:=by decide
  have e6:(if ¬(6 < nc∨lg=true) then(0:Int) else 21)=if(6 < nc∨lg=true) then 21 else 0:=by by_cases h:(6 < nc∨lg=true)<;>simp only[h,not_true,not_false_iff,if_true,if_false]
  simp only[e3,if_pos e4,if_pos e5,e6];generalize (if(6 < nc∨lg=true) then(21:Int) else 0)=X;rcases hk with rfl | rfl | rfl
  · simp only[show((1:Int)==3)=false from rfl,show((1:Int)==1)=true from rfl,Bool.false_and,Bool.false_or,Bool.not_false,Bool.true_and,Bool.true_or,if_true,en,e2,show ¬(1:Int)=3 by decide,show ¬(1:Int)=2 by decide,if_false,false_and,or_false];by_cases a1:nc=0<;>by_cases a3:l=0<;>simp[a1,a3]<;>omega
  · simp only[show((2:Int)==3)=false from rfl,show((2:Int)==1)=false from rfl,Bool.false_and,Bool.false_or,Bool.not_false,Bool.true_and,Bool.true_or,if_true,en,e2,show ¬(2:Int)=3 by decide,if_false,true_and];by_cases a1:nc=0<;>by_cases a2:nb=0<;>by_cases a3:l=0<;>simp[a1,a2,a3]<;>omega
  · simp only[show((3:Int)==3)=true from rfl,show((3:Int)==1)=false from rfl,Bool.true_and,Bool.not_true,Bool.false_and,Bool.or_false,Bool.false_or,Bool.true_or,if_true,en,e1];by_cases a1:nt=0<;>by_cases a2:nb=0<;>by_cases a3:(1≤l∧l≤9)<;>simp[a1,a2,a3]<;>omega
theorem dRA(d:Dc):yH d=sQ d.kind d.level (wK d.name) (kD ((nC d).map sD)) d.type.length d.body.length d.cons.length (fJ d.cons):=oWA ..
section
variable {k l e : Int} {nm lg : Bool} {nt nb nc : Nat}
theorem mCA(h:k < 1∨3 < k):sQ k l nm e nt nb nc lg=1:=if_pos h
theorem rOA(h:¬(k < 1∨3 < k)):sQ k l false e nt nb nc lg=20:=by unfold sQ;rw[if_neg h,if_pos rfl]
theorem gOA(h:¬(k < 1∨3 < k))(he:e≠0):sQ k l true e nt nb nc lg=e:=by unfold sQ;rw[if_neg h,if_neg (by decide),if_pos he]
theorem aK(h:¬(k < 1∨3 < k))(hb:if k=3 then(0 < nt∨0 < nb∨l < 1∨9 < l) else(0 < nc∨l≠0∨(k=2∧0 < nb))):sQ k l true 0 nt nb nc lg=1:=by unfold sQ;rw[if_neg h,if_neg (by decide),if_neg (by decide),if_pos hb]
theorem iM(h:¬(k < 1∨3 < k))(hb:¬ if k=3 then(0 < nt∨0 < nb∨l < 1∨9 < l) else(0 < nc∨l≠0∨(k=2∧0 < nb))):sQ k l true 0 nt nb nc lg=if 6 < nc∨lg=true then 21 else 0:=by unfold sQ;rw[if_neg h,if_neg (by decide),if_neg (by decide),if_neg hb]
end
section
variable {w0 : World}
theorem vZ(d:Dc){v:Value}(hf:d.cons.length≤5864062014634∧d.cons.flatten.length≤5864062015658)(ht:(nC d).length≤5864062015658)(hl:∀ t∈nC d,t.length≤maxLen)(hv:DcV w0 v d):Calls Tryz.prog 21 #[v] w0 fun e w=>e = .returned (.int .i64 (yH d))∧Under w0 w:=by
 have HT:=Lib.hid (fun w (h:Under w0 w)=>hBA (w0:=w) hf.1 hf.2 (DcV.mono _ _ _ _ h hv));have HN:=Lib.hid (fun w=>mPA (w0:=w) d.name);have HE:=Lib.hid (dRA d);have HLg:=Lib.hid (show fJ d.cons=d.cons.any fun c=>decide (6 < c.length) from rfl);obtain⟨vt,vb,vc,rfl,⟨pt,ct,rfl,_⟩,⟨pb,cb,rfl,_⟩,⟨pc,cc,us,rfl,_,_,hrc,hzc⟩⟩:=hv;have HRc:=Lib.hid hrc;have HZc:=Lib.hid hzc;have HB:=Lib.hid (qA w0 #[.int .i64 d.kind,.int .i64 d.level,.string d.name,.slice pt d.type.length ct,.slice pb d.body.length cb,.slice pc d.cons.length cc] 37);have HU:=Lib.hid (aA (Under.refl w0) (.cells #[.int .i64 d.kind,.int .i64 d.level,.string d.name,.slice pt d.type.length ct,.slice pb d.body.length cb,.slice pc d.cons.length cc] 37));have HLs:=Lib.hid hl;have hc9:(d.cons.length:Int)≤5864062014634:=by omega
 have hc0:(0:Int)≤(d.cons.length:Int):=by omega
 have hts9:((nC d).length:Int)≤5864062015658:=by omega
 have hts0:(0:Int)≤((nC d).length:Int):=by omega
 clear hrc hzc hl hf ht;generalize yH d=de at *;go_enter Tryz.func21,Tryz.ntmps21;by_cases k0:d.kind < 1
 · go_wp2;go_ret;exact⟨by rw[HE.out,mCA (.inl k0)];rfl,HU.out⟩
 by_cases k4:3 < d.kind
 · go_wp2;go_ret;exact⟨by rw[HE.out,mCA (.inr k4)];rfl,HU.out⟩
 have HKk:=Lib.hid (show ¬(d.kind < 1∨3 < d.kind) by omega);have b0:=HB.out.cell 0;have b2:=HB.out.cell 2;generalize hnm:wK d.name=nm at *;clear hnm
 cases nm
 · go_wp2_with fail;refine(HN.out _).mono ?_;rintro e w1 ⟨rfl,hU1⟩;have HU:=Lib.hid (HU.out.trans hU1);clear hU1;go_wp2;go_ret;exact⟨by rw[HE.out,rOA HKk.out];rfl,HU.out⟩
 go_wp2_with fail;refine(HN.out _).mono ?_;rintro e w1 ⟨rfl,hU1⟩;have HUn:=Lib.hid (HU.out.trans hU1);have HB:=Lib.hid (HB.out.under hU1);clear hU1 b0 b2 HN HU;have HU:=HUn;clear HUn;have b0:=HB.out.cell 0;have b1:=HB.out.cell 1;have b2:=HB.out.cell 2;have b3:=HB.out.cell 3;have b4:=HB.out.cell 4;have b5:=HB.out.cell 5;have bl:=HB.out.lt;go_wp2_with fail;refine(HT.out _ HU.out).mono ?_;rintro e w2 ⟨u,rfl,⟨q2,kq2,vs2,rfl,_,_,hr2,hz2⟩,hU2⟩;have HR2:=Lib.hid hr2;have HZ2:=Lib.hid hz2;have HU:=Lib.hid (HU.out.trans hU2);have HB:=Lib.hid (HB.out.under hU2);clear hr2 hz2 hU2 b0 b1 b2 b3 b4 b5 bl HT;generalize nC d=ts at *;go_wp2;go_loopw [4] (fun i wr=>∃ k:Nat,k≤ts.length∧i = .int .i64 (k:Int)∧kD (ts.map sD)=kD ((ts.drop k).map sD)∧Under w2 wr) (fun i _=>ts.length - (intOf i).toNat)
 case atStart=>exact⟨0,Nat.zero_le _,rfl,by simp,Under.refl _⟩
 case round =>
   obtain⟨k,hk,rfl,hN,hU2⟩:=hrel;have HN:=Lib.hid hN;have HB:=Lib.hid (HB.out.under hU2);have HU:=Lib.hid (HU.out.trans hU2);have HV:=Lib.hid hU2;have hk0:(0:Int)≤(k:Int):=by omega
   clear hN hU2;by_cases hlt:k < ts.length
   · obtain ⟨u, hu, hterm⟩ := HZ2.out.at (List.getElem?_eq_getElem hlt); obtain ⟨b9, off9, rfl, hb9, hcs⟩ := HR2.out (fun e => by rw [e] at hu; simp at hu); have cc9 := hcs k _ hu; rw [← dA HV.out hb9] at cc9; have hb9' := Nat.lt_of_lt_of_le hb9 HV.out.size; have hlt' : (k : Int) < (ts.length : Int) := by omega
     have HC:=Lib.hid (sIA (w0:=wr) ts[k] (HLs.out _ (List.getElem_mem hlt)) (TermV.mono _ _ _ _ HV.out hterm));have HS:=Lib.hid (show kD ((ts.drop k).map sD)=if sD ts[k]≠0 then sD ts[k] else kD ((ts.drop (k+1)).map sD) by rw[List.drop_eq_getElem_cons hlt];rfl);obtain⟨qt,ct5,rfl,_⟩:=hterm;clear hcs hu;generalize sD ts[k]=ce at *;generalize ts[k].length=tl at *;by_cases hce:ce=0
     · subst hce; go_wp2_with fail; refine HC.out.mono ?_; rintro e w4 ⟨rfl, hU4⟩; have HU4 := Lib.hid (HV.out.trans hU4); clear hU4; go_wp2; go_roundw
       case rel=>exact⟨k+1,by omega,by go_num,by rw[HN.out,HS.out];rfl,HU4.out⟩
       case measure=>simp[intOf];omega
     · have hce' : (ce != 0) = true := by simpa using hce
       have HY:=Lib.hid (show kD (ts.map sD)=ce by rw[HN.out,HS.out,if_pos hce]);have HCe:=Lib.hid hce;clear hce;go_wp2_with fail;refine HC.out.mono ?_;rintro e w4 ⟨rfl,hU4⟩;have HU:=Lib.hid (HU.out.trans hU4);clear hU4;go_wp2;go_ret;exact⟨by rw[HE.out,HY.out,gOA HKk.out HCe.out];rfl,HU.out⟩
   · obtain rfl : k = ts.length := by omega
     have HY:kD (ts.map sD)=0:=by rw[HN.out,List.drop_length];rfl
     rw[HY]at HE;have b0:=HB.out.cell 0;have b1:=HB.out.cell 1;have b3:=HB.out.cell 3;have b4:=HB.out.cell 4;have b5:=HB.out.cell 5;have bl:=HB.out.lt;clear HY HN;by_cases k3:d.kind=3
     · have k3' : (d.kind == 3) = true := by simpa using k3
       by_cases a1:0 < d.type.length
       · go_wp2;go_ret;exact⟨by rw[HE.out,aK HKk.out (by rw[if_pos k3];omega)];rfl,HU.out⟩
       by_cases a2:0 < d.body.length
       · go_wp2;go_ret;exact⟨by rw[HE.out,aK HKk.out (by rw[if_pos k3];omega)];rfl,HU.out⟩
       by_cases a3:d.level < 1
       · go_wp2;go_ret;exact⟨by rw[HE.out,aK HKk.out (by rw[if_pos k3];omega)];rfl,HU.out⟩
       by_cases a4:9 < d.level
       · go_wp2;go_ret;exact⟨by rw[HE.out,aK HKk.out (by rw[if_pos k3];omega)];rfl,HU.out⟩
       have hbad:¬ if d.kind=3 then(0 < d.type.length∨0 < d.body.length∨d.level < 1∨9 < d.level) else(0 < d.cons.length∨d.level≠0∨(d.kind=2∧0 < d.body.length)):=by rw[if_pos k3];omega
       have HBad:=Lib.hid hbad;clear hbad;by_cases a6:(6:Int) < (d.cons.length:Int)
       · go_wp2;go_ret;exact⟨by rw[HE.out,iM HKk.out HBad.out,if_pos (.inl (by omega))];rfl,HU.out⟩
       go_wp2;generalize wr=w3 at *;go_loopw [6] (fun i wi=>∃ k:Nat,k≤d.cons.length∧i = .int .i64 (k:Int)∧fJ d.cons=fJ (d.cons.drop k)∧Under w3 wi) (fun i _=>d.cons.length - (intOf i).toNat)
       case atStart=>exact⟨0,Nat.zero_le _,rfl,by simp,Under.refl _⟩
       case round =>
         obtain⟨k,hk,rfl,hN,hU3⟩:=hrel;have HN:=Lib.hid hN;have HB:=Lib.hid (HB.out.under hU3);have HU:=Lib.hid (HU.out.trans hU3);have HV:=Lib.hid hU3;have hk0:(0:Int)≤(k:Int):=by omega
         clear hN hU3 b0 b1 b3 b4 b5 bl;have b5:=HB.out.cell 5;have bl:=HB.out.lt;by_cases hlt:k < d.cons.length
         · have HC := Lib.hid (show fJ (d.cons.drop k) = (decide (6 < d.cons[k].length) || fJ (d.cons.drop (k + 1))) by rw [List.drop_eq_getElem_cons hlt]; rfl); obtain ⟨u, hu, q, c', us2, rfl, _⟩ := HZc.out.at (List.getElem?_eq_getElem hlt); obtain ⟨b9, off9, rfl, hb9, hcs⟩ := HRc.out (fun e => by rw [e] at hu; simp at hu); have cc9 := hcs k _ hu; rw [← dA HU.out hb9] at cc9; have hb9' := Nat.lt_of_lt_of_le hb9 HU.out.size; have hlt' : (k : Int) < (d.cons.length : Int) := by omega
           clear hcs hu;generalize d.cons[k].length=n at *;by_cases h:(6:Int) < (n:Int)
           · have HY:=Lib.hid (show fJ d.cons=true by rw[HN.out,HC.out,decide_eq_true (by omega)];rfl);go_wp2;go_ret;exact⟨by rw[HE.out,iM HKk.out HBad.out,if_pos (.inr HY.out)];rfl,HU.out⟩
           · have HY := Lib.hid (show fJ d.cons = fJ (d.cons.drop (k + 1)) by rw [HN.out, HC.out, decide_eq_false (by omega)]; rfl); go_wp2; go_roundw
             case rel=>exact⟨k+1,by omega,by go_num,HY.out,HV.out⟩
             case measure=>simp[intOf];omega
         · obtain rfl : k = d.cons.length := by omega
           have HY:=Lib.hid (show fJ d.cons=false by rw[HN.out,List.drop_length];rfl);go_wp2;go_ret;exact⟨by rw[HE.out,iM HKk.out HBad.out,if_neg (by rw[HY.out];simp;omega)];rfl,HU.out⟩
     · have k3' : (d.kind == 3) = false := by simpa using k3
       by_cases a1:0 < d.cons.length
       · go_wp2;go_ret;exact⟨by rw[HE.out,aK HKk.out (by rw[if_neg k3];omega)];rfl,HU.out⟩
       by_cases a2:d.level=0
       · have a2' : (d.level != 0) = false := by simpa using a2
         by_cases a3:d.kind=2
         · have a3' : (d.kind == 2) = true := by simpa using a3
           by_cases a4:0 < d.body.length
           · go_wp2;go_ret;exact⟨by rw[HE.out,aK HKk.out (by rw[if_neg k3];omega)];rfl,HU.out⟩
           have hbad:¬ if d.kind=3 then(0 < d.type.length∨0 < d.body.length∨d.level < 1∨9 < d.level) else(0 < d.cons.length∨d.level≠0∨(d.kind=2∧0 < d.body.length)):=by rw[if_neg k3];omega
           have HBad:=Lib.hid hbad;clear hbad;have a6:¬(6:Int) < (d.cons.length:Int):=by omega
           have hnil:d.cons=[]:=List.eq_nil_of_length_eq_zero (by omega);have HY:=Lib.hid (show fJ d.cons=false by rw[hnil];rfl);have HA6:=Lib.hid a6;have HA1:=Lib.hid a1;clear hnil;go_wp2;generalize wr=w3 at *;go_loopw [6] (fun i wi=>i = .int .i64 0∧Under w3 wi) (fun i _=>0)
           case atStart=>exact⟨rfl,Under.refl _⟩
           case round =>
             obtain⟨rfl,hU3⟩:=hrel;have HB:=Lib.hid (HB.out.under hU3);have HU:=Lib.hid (HU.out.trans hU3);clear hU3 b0 b1 b3 b4 b5 bl;have b5:=HB.out.cell 5;have bl:=HB.out.lt;have a7:¬(0:Int) < (d.cons.length:Int):=by have:=HA1.out;omega
             go_wp2;go_ret;exact⟨by rw[HE.out,iM HKk.out HBad.out,if_neg (by rw[HY.out];have:=HA6.out;simp;omega)];rfl,HU.out⟩
         · have a3' : (d.kind == 2) = false := by simpa using a3
           have hbad:¬ if d.kind=3 then(0 < d.type.length∨0 < d.body.length∨d.level < 1∨9 < d.level) else(0 < d.cons.length∨d.level≠0∨(d.kind=2∧0 < d.body.length)):=by rw[if_neg k3];omega
           have HBad:=Lib.hid hbad;clear hbad;have a6:¬(6:Int) < (d.cons.length:Int):=by omega
           have hnil:d.cons=[]:=List.eq_nil_of_length_eq_zero (by omega);have HY:=Lib.hid (show fJ d.cons=false by rw[hnil];rfl);have HA6:=Lib.hid a6;have HA1:=Lib.hid a1;clear hnil;go_wp2;generalize wr=w3 at *;go_loopw [6] (fun i wi=>i = .int .i64 0∧Under w3 wi) (fun i _=>0)
           case atStart=>exact⟨rfl,Under.refl _⟩
           case round =>
             obtain⟨rfl,hU3⟩:=hrel;have HB:=Lib.hid (HB.out.under hU3);have HU:=Lib.hid (HU.out.trans hU3);clear hU3 b0 b1 b3 b4 b5 bl;have b5:=HB.out.cell 5;have bl:=HB.out.lt;have a7:¬(0:Int) < (d.cons.length:Int):=by have:=HA1.out;omega
             go_wp2;go_ret;exact⟨by rw[HE.out,iM HKk.out HBad.out,if_neg (by rw[HY.out];have:=HA6.out;simp;omega)];rfl,HU.out⟩
       · have a2' : (d.level != 0) = true := by simpa using a2
         go_wp2;go_ret;exact⟨by rw[HE.out,aK HKk.out (by rw[if_neg k3];omega)];rfl,HU.out⟩
end
section
variable {w0 : World}
theorem yEA(l:List Dc)(s:ByteArray){p:Option Addr}{c:Nat}(hl:l.length≤100000)(hp:RowsV 6 DcRow w0 p l):Calls Tryz.prog 17 #[.slice p l.length c,.string s] w0 (rQA w0 s l):=by
 have HP:=Lib.hid hp;have hn9:(l.length:Int)≤100000:=by omega
 have hn0:(0:Int)≤(l.length:Int):=by omega
 clear hp hl;go_enter Tryz.func17,Tryz.ntmps17;go_wp2;have HB1:=Lib.hid (qA w0 dcZ 37);have HU1:=Lib.hid (aA (Under.refl w0) (.cells dcZ 37));generalize w0.alloc (.cells dcZ 37)=w1 at *;go_loopw [6] (fun i wr=>∃ k:Nat,k≤l.length∧i = .int .i64 k∧lD s l=lD s (l.drop k)∧Under w1 wr) (fun i _=>l.length - (intOf i).toNat)
 case atStart=>exact⟨0,Nat.zero_le _,rfl,by simp,Under.refl _⟩
 case round =>
   obtain⟨k,hk,rfl,hN,hU⟩:=hrel;have HN:=Lib.hid hN;have HB:=Lib.hid (HB1.out.under hU);have HU:=Lib.hid (HU1.out.trans hU);have HV:=Lib.hid hU;have hk0:(0:Int)≤(k:Int):=by omega
   have d0:=HB.out.cell 0;have d1:=HB.out.cell 1;have d2:=HB.out.cell 2;have d3:=HB.out.cell 3;have d4:=HB.out.cell 4;have d5:=HB.out.cell 5;have g0:=HB.out.free 0;have g1:=HB.out.free 1;have g2:=HB.out.free 2;have g3:=HB.out.free 3;have g4:=HB.out.free 4;have g5:=HB.out.free 5;have dl:=HB.out.lt;clear hN hU;by_cases hlt:k < l.length
   · have hdr := List.drop_eq_getElem_cons hlt; obtain ⟨b, off, r, rfl, hb, hrl, hr, hc⟩ := HP.out.at (List.getElem?_eq_getElem hlt) (by decide); have HR := Lib.hid (DcRow.val hr); obtain ⟨v1, v2, v3, rfl, ⟨p1, c1, rfl, _⟩, ⟨p2, c2, rfl, _⟩, ⟨p3, c3, us3, rfl, _⟩⟩ := hr; have cc0 := hc 0 _ rfl; have cc1 := hc 1 _ rfl; have cc2 := hc 2 _ rfl; have cc3 := hc 3 _ rfl; have cc4 := hc 4 _ rfl; have cc5 := hc 5 _ rfl; simp only [Nat.add_zero, ← Nat.add_assoc] at cc0 cc1 cc2 cc3 cc4 cc5; rw [← dA HU.out hb] at cc0 cc1 cc2 cc3 cc4 cc5; have hb' := Nat.lt_of_lt_of_le hb HU.out.size; have hlt' : (k : Int) < (l.length : Int) := by omega
     have HDr:=Lib.hid hdr;clear hc hrl hdr;generalize l[k]=d at *
     cases hx:(d.name.toList==s.toList)
     · have HFd := Lib.hid (show lD s (d :: l.drop (k + 1)) = lD s (l.drop (k + 1)) by unfold lD; rw [List.find?_cons_of_neg (p := fun d : Dc => d.name.toList == s.toList) (by rw [hx]; simp)]); go_wp2; go_roundw
       case rel=>exact⟨k+1,by omega,by go_num,by rw[HN.out,HDr.out,HFd.out],HV.out⟩
       case measure=>simp[intOf];omega
     · have HFd:=Lib.hid (show lD s (d::l.drop (k+1))=some d by unfold lD;rw[List.find?_cons_of_pos (p:=fun d:Dc=>d.name.toList==s.toList) hx]);go_wp2;obtain⟨wf,hwf⟩:∃ wf,wf=(((((wr.setCell ⟨w0.heap.size,0,none⟩ (.int .i64 d.kind)).setCell ⟨w0.heap.size,1,none⟩ (.int .i64 d.level)).setCell ⟨w0.heap.size,2,none⟩ (.string d.name)).setCell ⟨w0.heap.size,3,none⟩ (.slice p1 d.type.length c1)).setCell ⟨w0.heap.size,4,none⟩ (.slice p2 d.body.length c2)).setCell ⟨w0.heap.size,5,none⟩ (.slice p3 d.cons.length c3):=⟨_,rfl⟩;have HF:=Lib.hid (show BoxAt wf w0.heap.size 37 #[.int .i64 d.kind,.int .i64 d.level,.string d.name,.slice p1 d.type.length c1,.slice p2 d.body.length c2,.slice p3 d.cons.length c3] by rw[hwf];exact(((((HB.out.set 0 _).set 1 _).set 2 _).set 3 _).set 4 _).set 5 _);have HX:=Lib.hid (show Under w0 wf by rw[hwf];exact uA (uA (uA (uA (uA (uA HU.out (Nat.le_refl _) _ _) (Nat.le_refl _) _ _) (Nat.le_refl _) _ _) (Nat.le_refl _) _ _) (Nat.le_refl _) _ _) (Nat.le_refl _) _ _);rw[← hwf];clear hwf d0 d1 d2 d3 d4 d5 g0 g1 g2 g3 g4 g5;have e0:=HF.out.cell 0;have e1:=HF.out.cell 1;have e2:=HF.out.cell 2;have e3:=HF.out.cell 3;have e4:=HF.out.cell 4;have e5:=HF.out.cell 5;refine bodyPost_ret (v:=.tuple #[.agg #[.int .i64 d.kind,.int .i64 d.level,.string d.name,.slice p1 d.type.length c1,.slice p2 d.body.length c2,.slice p3 d.cons.length c3],.bool _]) ((results_cell_tmp rfl _ _ _).trans (by simp[go_sem,e0,e1,e2,e3,e4,e5];rfl)) rfl ?_;exact⟨_,by rw[HN.out,HDr.out,HFd.out];rfl,by rw[HN.out,HDr.out,HFd.out];exact DcV.mono _ _ _ _ HX.out HR.out,HX.out⟩
   · obtain rfl : k = l.length := by omega
     have HFd:=Lib.hid (show lD s l=none by rw[HN.out,List.drop_eq_nil_of_le (by omega)];rfl);go_wp2;obtain⟨wf,hwf⟩:∃ wf,wf=(((((wr.setCell ⟨w0.heap.size,0,none⟩ (.int .i64 0)).setCell ⟨w0.heap.size,1,none⟩ (.int .i64 0)).setCell ⟨w0.heap.size,2,none⟩ (.string ⟨#[]⟩)).setCell ⟨w0.heap.size,3,none⟩ (.slice none 0 0)).setCell ⟨w0.heap.size,4,none⟩ (.slice none 0 0)).setCell ⟨w0.heap.size,5,none⟩ (.slice none 0 0):=⟨_,rfl⟩;have HF:=Lib.hid (show BoxAt wf w0.heap.size 37 #[.int .i64 0,.int .i64 0,.string ⟨#[]⟩,.slice none 0 0,.slice none 0 0,.slice none 0 0] by rw[hwf];exact(((((HB.out.set 0 _).set 1 _).set 2 _).set 3 _).set 4 _).set 5 _);have HX:=Lib.hid (show Under w0 wf by rw[hwf];exact uA (uA (uA (uA (uA (uA HU.out (Nat.le_refl _) _ _) (Nat.le_refl _) _ _) (Nat.le_refl _) _ _) (Nat.le_refl _) _ _) (Nat.le_refl _) _ _) (Nat.le_refl _) _ _);rw[← hwf];clear hwf d0 d1 d2 d3 d4 d5 g0 g1 g2 g3 g4 g5;have e0:=HF.out.cell 0;have e1:=HF.out.cell 1;have e2:=HF.out.cell 2;have e3:=HF.out.cell 3;have e4:=HF.out.cell 4;have e5:=HF.out.cell 5;refine bodyPost_ret (v:=.tuple #[.agg #[.int .i64 0,.int .i64 0,.string ⟨#[]⟩,.slice none 0 0,.slice none 0 0,.slice none 0 0],.bool _]) ((results_cell_tmp rfl _ _ _).trans (by simp[go_sem,e0,e1,e2,e3,e4,e5];rfl)) rfl ?_;exact⟨_,by rw[HFd.out];rfl,by rw[HFd.out];exact zWA _,HX.out⟩
end
end Go.Proofs.YtggjbblgoddnjaaGreatDoor
