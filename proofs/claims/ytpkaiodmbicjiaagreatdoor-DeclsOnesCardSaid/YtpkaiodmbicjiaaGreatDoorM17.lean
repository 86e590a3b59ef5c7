/- Part 17 of what the proof rests on. -/
import Derived.Deep.RegionHeld3
import Derived.Deep.LoopGhost
import Derived.Test.YtpkaiodmbicjiaaGreatDoorM05
import Derived.Test.YtpkaiodmbicjiaaGreatDoorM11
import Derived.Test.YtpkaiodmbicjiaaGreatDoorM12
import Derived.Test.YtpkaiodmbicjiaaGreatDoorM15
import Derived.Test.YtpkaiodmbicjiaaGreatDoorM16
import Derived.Test.YtpkaiodmbicjiaaGreatDoorM00
set_option linter.unusedSimpArgs false
set_option linter.unusedVariables false
set_option maxRecDepth 100000
set_option maxHeartbeats 4000000
namespace Go.Proofs.YtpkaiodmbicjiaaGreatDoor
open Go.Proofs.Tryz
open Go.Lx Go.RowKit
theorem g2A{cs ds:List ByteArray}{c:UInt8}{ks:List UInt8}{y:ST}{ys:List ST}{x:Nd}{nms st:List ByteArray}{t:List Nd}(h1:c≠118)(h2:c≠86)(h3:c≠87)(h4:c≠110)(h5:c≠100) :
 goS cs ds (yC (c::ks)) (y::ys) x nms st t=match pG cs ds y (if c==58 then st else st++nms) with|.ok t'=>goS cs ds (yC ks) ys x (if c==58 then nms else []) st (t++t')|.error e=>.error e:=by
 have:yC (c::ks) = .te (c==58)::yC ks:=by simp[yC,h1,h2,h3,h4,h5]
 rw[this,goS]
 cases pG cs ds y (if c==58 then st else st++nms)<;>rfl
theorem yU{c d:UInt8}{n:Int}(h:c≠d)(hd:(d.toNat:Int)=n):((c.toNat:Int)==n)=false:=beq_false_of_ne λe=>h (UInt8.toNat_inj.1 (by omega))
theorem iFA(ss:List ByteArray):∀ u∈ss.map Value.string,u.oneCell'=true:=λu hu=>by
 obtain⟨s,_,rfl⟩:=List.mem_map.1 hu;rfl
theorem UgS.rowKept{F:UgFix}{k:Nat}{nms:List ByteArray}{x:Nd}{t:List Nd}{ov nv:Value}{w w':World}(h:UgS F k nms x t ov nv w)(hc:Ch (λi=>ov.ownBlock=some i) w w'):w'.ownsRow F.wl.heap.size 9 1 nv nms.length (nms.map .string):=by
 refine iE h.row hc (λg hg hd=>?_);rcases own_ne h.row h.out (by decide) with e|e
 . rw[e]at hg;cases hg
 . exact e (hg.trans hd.symm)
theorem sJA(t:List Nd):∀ u∈dC t,u.oneCell'=true:=by
 induction t with
 | nil=>intro u hu;simp[dC]at hu
 | cons x t ih =>
   intro u hu;simp only[dC,List.mem_cons]at hu;rcases hu with rfl|rfl|rfl|rfl|hu
   . rfl
   . rfl
   . rfl
   . rfl
   . exact ih u hu
theorem UgS.term{F:UgFix}{k:Nat}{nms nms':List ByteArray}{x:Nd}{t t1:List Nd}{ov nv nv' v':Value}{w w':World}(hF:UgOk F)(hk:k < F.ts.length)(h:UgS F k nms x t ov nv w)(hc:Ch (λi=>ov.ownBlock=some i) w w')
    (hown:w'.ownsRow F.wl.heap.size 96 4 v' (t.length+t1.length) (dC t++dC t1)) (hrow:w'.ownsRow F.wl.heap.size 9 1 nv' nms'.length (nms'.map .string)) (hn:nms'.length<=k+1) (ht:(rA (F.ts.take k)).length+t1.length<=(rA (F.ts.take (k+1))).length) (hs:F.R=goS F.cs F.ds (yC (F.parts.drop (k+1))) (F.ts.drop (k+1)) x nms' F.st (t++t1)):UgS F (k+1) nms' x (t++t1) v' nv' w':=by
  have hlow:∀ i,ov.ownBlock=some i->F.wl.heap.size<=i:=λi hi=>(xB h.out hi).1
  refine⟨h.ch.trans hc (λi hi hd=>by have:=hlow i hd;omega),fH h.nd hc (λhd=>by have:=hlow _ hd;have:=hF.nlt;omega),h.xk,by rw[Qc,gT];exact hown,hrow,hs,hn,?_⟩;rw[Qc];have:=h.tlen;omega
theorem d6A(F:UgFix)(hF:UgOk F){k:Nat}(hk:k < F.ts.length){nms:List ByteArray}{x:Nd}{t:List Nd}{ov nv:Value}{w:World}{c0:UInt8}(hc:F.parts[k]? = some c0)(g1:c0≠118)(g2:c0≠86)(g3:c0≠87)(g4:c0≠110)(g5:c0≠100)(ih:∀ y∈F.ts,bNA y)(h:UgS F k nms x t ov nv w)(J:Nat->Value) :
 ugRound.wp prog (Exit.then (lT F (k+1)) (cHA F)) ⟨fE F.na F.fb F.fo F.nb F.bv ov nv ⟨F.parts.toArray⟩ F.q2 (F.ts.length+1) F.c2 k J,[]⟩ w:=by
 have hc':(F.parts[k]'(by rw[hF.plen];exact hk))=c0:=by
  rw[Qa (by rw[hF.plen];exact hk)]at hc;exact Qt hc
 clear hc;obtain⟨i0,hi,hz0,hz1,hz2⟩:=info_parts Tryz.infoStrZ;obtain⟨b,off,hq2,hbl,hnC,hat⟩:=hF.arg (by simp);obtain⟨qi,ci,ckl,hci,hsxl,haw⟩:=hat (k+1) F.ts[k] (by rw[List.getElem?_cons_succ,Qa hk]);have hb:b < w.heap.size:=Qb hbl h.ch.size;have ck:=(mJ h.ch hbl hnC (off+(k+1))).trans ckl;have hsx:=sK hsxl h.ch haw;clear ckl hsxl;have hyl:(qA F.ts[k]).length<=20000:=Ql (oH (Qr hk)) hF.len;have hpk:k < F.parts.length:=by rw[hF.plen];exact hk
 have hps:k < (⟨F.parts.toArray⟩:ByteArray).size:=by simpa [ByteArray.size] using hpk
 have hpc:(⟨F.parts.toArray⟩:ByteArray)[k]'hps=F.parts[k]:=rfl;have hsay:=h.say;rw[Qi hk,Qi hpk]at hsay;have HLa:=aA (λw' (hU:Under w w')=>fI (w0:=w') F.ts[k] (q:=qi) (cap:=ci) (by omega) (hsx.under hU));have HBo:=aA (uS (w0:=w) F.ts[k] (q:=qi) (cap:=ci) (by omega) hsx);have HTk:=aA (show rA (F.ts.take (k+1))=rA (F.ts.take k)++qA F.ts[k] by rw[Qj hk,pE];simp[rA]);have HY:=aA (show F.ts[k]∈F.ts from Qr hk);have HSy:=aA hsay;have HSx:=aA hsx;have H:=aA h;have hn0:(F.ts.length:Int)<=20000:=by have:=mH F.ts;have:=hF.len;omega
 have hk0:(0:Int)<=(k:Int):=by omega
 have hkn:(k:Int) < (F.ts.length:Int):=by omega
 have HKn:=aA hk;have HFt:=aA (fH hF.fault h.ch (λe=>hF.node.elim λ_ hx=>mG hF.fault hx (by decide) e));clear hat hsx haw hsay h;generalize F.ts[k]=y at *;generalize F.parts[k]=c at *;obtain⟨ps,hps,hpc,HPs⟩:∃ ps:ByteArray,∃ hps:k < ps.size,ps[k]'hps=c/\RowKit.Hid (ps=(⟨F.parts.toArray⟩:ByteArray)):=⟨_,hps,hpc,aA rfl⟩;rw[<- HPs.out];have hpsn:=aA (show ps.size=F.ts.length by rw[HPs.out,<- hF.plen];simp[ByteArray.size]);have hkps:(k:Int) < (ps.size:Int):=by have:=hpsn.out;omega
 unfold ugRound kT lX;simp only[f52,Qf,aB,jA,nC];unfold fE;rw[hq2];obtain⟨j0,hj,hy0,hy1,hy2⟩:=info_parts Tryz.infoNode8;subst hc';rw[g2A g1 g2 g3 g4 g5]at HSy;have nb1:(((ps[k]'hps).toNat:Int)==118)=false:=by rw[hpc];exact yU g1 rfl
 have nb2:(((ps[k]'hps).toNat:Int)==86)=false:=by rw[hpc];exact yU g2 rfl
 have nb3:(((ps[k]'hps).toNat:Int)==87)=false:=by rw[hpc];exact yU g3 rfl
 have nb4:(((ps[k]'hps).toNat:Int)==110)=false:=by rw[hpc];exact yU g4 rfl
 have nb5:(((ps[k]'hps).toNat:Int)==100)=false:=by rw[hpc];exact yU g5 rfl
 have HWt:=aA (λw'=>rPA (w0:=w') ps k hps (by have:=hpsn.out;omega));rw[hpc]at HWt;clear g1 g2 g3 g4 g5 hpc;have HI:=aA (ih y HY.out)
 cases hw:(c==58)
 . rw[hw]at HWt;obtain⟨pn,cn,hnv,hcn,hpn,hrn⟩:=TextsV.of_own H.out.row;obtain⟨pb,cb,hbv,hcb,hpb,hrb⟩:=hF.bound;rw[hbv];have HW0:=aA (dB hF.und H.out.ch (λb e=>by rw[e];exact hF.nlo));have HRb:=aA (hrb.under HW0.out);have hmx1:0+F.st.length<=maxLen:=by have:=hF.stl;simp only[maxLen];omega
   have hby1:(0+F.st.length) * 16<=140737488355328:=by have:=hF.stl;omega
   have hwl:=H.out.ch.size;go_wp2_with (at_builtin;refine zC rfl _ _ 80 rfl w.heap.size 9 i0 _ 1 16 underlying80 hi hz0 hz1 hz2 rfl (by decide) _ _ _ rfl (xM w w.heap.size _ _ (Qd _)) pb F.st.length cb (F.st.map .string) rfl (by simp) hcb hpb (HRb.out.under (bA (Qu _) _)) (iFA _) hmx1 hby1 (by rw[World.size_alloc];omega) ?_);intro v1 w2 hown1 hgrow1;have HUs:=aA (eB (bA (Qu w) (.cells #[] 9)) hgrow1 (λg e=>by simp[Value.ownBlock]at e;omega));have HO1:=aA hown1;clear hown1 hgrow1 hrb;go_wp2_with fail;refine(HWt.out _).mono ?_;rintro e w2 ⟨rfl,rfl⟩;have hmx2:F.st.length+nms.length<=maxLen:=by
    have:=hF.stl;have:=H.out.nlen;simp only[maxLen];omega
   have hby2:(F.st.length+nms.length) * 16<=140737488355328:=by
    have:=hF.stl;have:=H.out.nlen;omega
   have HRn:=aA hrn;clear hrn;go_wp2_with (at_builtin;refine zC rfl _ _ 80 rfl w.heap.size 9 i0 _ 1 16 underlying80 hi hz0 hz1 hz2 rfl (by decide) _ _ _ rfl HO1.out pn nms.length cn (nms.map .string) rfl (by simp) hcn hpn (HRn.out.under HUs.out) (iFA _) hmx2 hby2 HUs.out.size ?_);intro v2 w4 hown2 hgrow2;have HU4:=aA (eB HUs.out hgrow2 (λg e=>(xB HO1.out e).1));have HO2:RowKit.Hid (w4.ownsRow w.heap.size 9 1 v2 (F.st++nms).length ((F.st++nms).map .string)):=aA (by rw[Qc,List.map_append];exact hown2);clear hown2 hgrow2;have HRw:=aA (xM w4 F.wl.heap.size 9 1 (Ql H.out.ch.size HU4.out.size));obtain⟨p1,d1,hcv,hc1,hc2,hc3⟩:=hF.csT;obtain⟨p2,d2,hdv,hd1,hd2,hd3⟩:=hF.dsT;have hle1:=sI (k+1) F.ts;rw[HTk.out,Qc]at hle1;have hle2:=mH (F.ts.take k);rw[List.length_take,Nat.min_eq_left (Nat.le_of_lt HKn.out)]at hle2;have HBd:=aA (show F.st.length+nms.length+(qA y).length<=50000 by
     have:=hF.stl;have:=H.out.nlen;omega)
   have HWs:=aA (HW0.out.trans ((bA HU4.out (.cells #[] 9))));have HCa:=HI.out ((w4.alloc (.cells #[] 9))) qi ci p1 p2 d1 d2 (v2) ((F.st++nms)) F.cs F.ds (rO.1 hF.ok y HY.out) hyl hci (HSx.out.under ((bA HU4.out (.cells #[] 9)))) (hcv▸hF.csT.under HWs.out) (hdv▸hF.dsT.under HWs.out) hF.csl hF.dsl ((TextsV.of_own (HO2.out.alloc _))) ((by have:=HBd.out;rw[Qc];omega));rw[<- hcv,<- hdv]at HCa;have HCa:=aA HCa;have HNb:=aA ((fH hF.names H.out.ch (λe=>hF.node.elim λ_ hx=>mG hF.names hx (by decide) e)).under ((bA HU4.out (.cells #[] 9))));have a0:((w4.alloc (.cells #[] 9))).cell? ⟨F.na,0,none⟩=some F.cv:=HNb.out.cell 0;have a1:((w4.alloc (.cells #[] 9))).cell? ⟨F.na,1,none⟩=some F.dv:=HNb.out.cell 1;have al:=HNb.out.lt;clear hcv hc1 hc2 hc3 hdv hd1 hd2 hd3 hle1 hle2 HI;go_wp2_with fail;refine HCa.out.mono ?_;rintro e w3 ⟨hU3,hres⟩;have HU3:=aA (Under.trans ((bA HU4.out (.cells #[] 9))) hU3);have HU3a:=aA hU3;have HW3:=aA (HWs.out.trans hU3);have HF3:=aA (HFt.out.under HU3.out);rcases hR0:pG F.cs F.ds y ((F.st++nms)) with⟨c1,p1⟩|t1
   . rw[hR0]at hres;replace hres:e = .returned (.tuple #[.slice none 0 0,.agg #[.int .i64 c1,.int .i64 p1]]):=hres;subst hres;have hc1:=nV _ _ _ _ hR0;clear hU3 HCa;have HErr:RowKit.Hid (F.R = .error (c1,p1)):=aA (by rw[HSy.out];simp[hw,hR0]);go_wp2_with fail;have hG:=zA w3 #[.int .i64 c1,.int .i64 p1] 110;have HF4:=aA (HF3.out.under (bA (Qu w3) (.cells #[.int .i64 c1,.int .i64 p1] 110)));have HW4:=aA (HW3.out.trans (bA (Qu w3) (.cells #[.int .i64 c1,.int .i64 p1] 110)));have g0:(w3.alloc (.cells #[.int .i64 c1,.int .i64 p1] 110)).cell? ⟨w3.heap.size,0,none⟩=some (.int .i64 c1):=hG.cell 0;have g1:(w3.alloc (.cells #[.int .i64 c1,.int .i64 p1] 110)).cell? ⟨w3.heap.size,1,none⟩=some (.int .i64 p1):=hG.cell 1;have gl:=hG.lt;have flt:=HF3.out.lt;have fne:F.fb≠w3.heap.size:=by omega
     generalize w3.alloc (.cells #[.int .i64 c1,.int .i64 p1] 110)=w4 at *;have f0:w4.cell? ⟨F.fb,0,none⟩=some (.int .i64 0):=HF4.out.cell 0;have f1:w4.cell? ⟨F.fb,1,none⟩=some (.int .i64 0):=HF4.out.cell 1;have fl:=HF4.out.lt;have ff0:=HF4.out.free 0;have ff1:=HF4.out.free 1;clear hG;go_region_held3 (λw'=>w'.cell? ⟨w3.heap.size,0,none⟩=some (.int .i64 c1)/\w'.cell? ⟨w3.heap.size,1,none⟩=some (.int .i64 p1))
       (first
         | exact⟨g0,g1⟩
         | go_keep)
       (fail)
     rename_i hHeld;clear hHeld;go_wp2;exact .inr ⟨rfl,c1,p1,⟨_,fB (F:=nL F.fb (.slice none 0 0)) (by rfl)⟩,HErr.out,fA (nA (nA HW4.out hF.flo _ _) hF.flo _ _),((HF4.out.set 0 _).set 1 _).drew⟩
   . rw[hR0]at hres;replace hres:∃ v,e = .returned (.tuple #[v,.agg #[.int .i64 0,.int .i64 0]])/\OwnTm 96 w3 v t1:=hres;obtain⟨v3,rfl,hT⟩:=hres;have hl1:=aP _ _ _ hR0;obtain⟨pt,ct,rfl,hct,hpt,hrt⟩:=hT.val;clear hU3 HCa;have HRt:=aA hrt;have hle0:(rA (F.ts.take k)).length<=20000:=Ql (sI k F.ts) hF.len;have htl:=H.out.tlen;have hmx3:t.length+t1.length<=maxLen:=by
      simp only[maxLen];omega
     have hby3:(t.length+t1.length) * 40<=140737488355328:=by
      omega
     go_wp2_with (at_builtin;refine zC rfl _ _ 30 rfl F.wl.heap.size 96 j0 _ 4 40 underlying30 hj hy0 hy1 hy2 rfl (by decide) _ _ _ rfl ((uA H.out.out HU3.out).alloc _) pt t1.length ct (dC t1) rfl (iU t1) hct hpt (HRt.out.under (bA (Qu _) _)) (sJA t1) hmx3 hby3 (by have:=H.out.ch.size;have:=HU3.out.size;simp;omega) ?_);intro v5 w5 hown5 hgrow5;have HOw:=aA hown5;have HCh:=aA ((Ch.of_under (C:=λi=>ov.ownBlock=some i) (bA HU3.out (.cells #[.int .i64 0,.int .i64 0] 110))).grown hgrow5 (λg e _=>e));have HCx:=aA ((Ch.of_under (C:=λi=>ov.ownBlock=some i) (bA HU3a.out (.cells #[.int .i64 0,.int .i64 0] 110))).grown hgrow5 (λg e _=>e));clear hown5 hgrow5;go_wp2;refine⟨[],x,t++t1,v5,(.slice (some ⟨w4.heap.size,0,none⟩) 0 0),bB (F:=fE F.na F.fb F.fo F.nb F.bv v5 ((.slice (some ⟨w4.heap.size,0,none⟩) 0 0)) ⟨F.parts.toArray⟩ F.q2 (F.ts.length+1) F.c2 (k+1)) (by rw[hq2,hbv,<- HPs.out];rfl) ?_⟩;exact UgS.term hF HKn.out H.out HCh.out HOw.out ((iE HRw.out HCx.out (λg hg hd=>by have h1:=(xB H.out.out hd).2;have h2:=HU4.out.size;simp[Value.ownBlock]at hg;omega))) ((Nat.zero_le _)) (by rw[HTk.out,Qc];omega) (by rw[HSy.out];simp[hw,hR0])
 . rw[hw]at HWt;obtain⟨pb,cb,hbv,hcb,hpb,hrb⟩:=hF.bound;rw[hbv];have HW0:=aA (dB hF.und H.out.ch (λb e=>by rw[e];exact hF.nlo));have HRb:=aA (hrb.under HW0.out);have hmx1:0+F.st.length<=maxLen:=by have:=hF.stl;simp only[maxLen];omega
   have hby1:(0+F.st.length) * 16<=140737488355328:=by have:=hF.stl;omega
   have hwl:=H.out.ch.size;go_wp2_with (at_builtin;refine zC rfl _ _ 80 rfl w.heap.size 9 i0 _ 1 16 underlying80 hi hz0 hz1 hz2 rfl (by decide) _ _ _ rfl (xM w w.heap.size _ _ (Qd _)) pb F.st.length cb (F.st.map .string) rfl (by simp) hcb hpb (HRb.out.under (bA (Qu _) _)) (iFA _) hmx1 hby1 (by rw[World.size_alloc];omega) ?_);intro v1 w2 hown1 hgrow1;have HUs:=aA (eB (bA (Qu w) (.cells #[] 9)) hgrow1 (λg e=>by simp[Value.ownBlock]at e;omega));have HO1:=aA hown1;clear hown1 hgrow1 hrb;go_wp2_with fail;refine(HWt.out _).mono ?_;rintro e w2 ⟨rfl,rfl⟩;obtain⟨p1,d1,hcv,hc1,hc2,hc3⟩:=hF.csT;obtain⟨p2,d2,hdv,hd1,hd2,hd3⟩:=hF.dsT;have hle1:=sI (k+1) F.ts;rw[HTk.out,Qc]at hle1;have hle2:=mH (F.ts.take k);rw[List.length_take,Nat.min_eq_left (Nat.le_of_lt HKn.out)]at hle2;have HBd:=aA (show F.st.length+nms.length+(qA y).length<=50000 by
     have:=hF.stl;have:=H.out.nlen;omega)
   have HWs:=aA (HW0.out.trans (HUs.out));have HCa:=HI.out (w2) qi ci p1 p2 d1 d2 (v1) (F.st) F.cs F.ds (rO.1 hF.ok y HY.out) hyl hci (HSx.out.under (HUs.out)) (hcv▸hF.csT.under HWs.out) (hdv▸hF.dsT.under HWs.out) hF.csl hF.dsl ((TextsV.of_own HO1.out)) ((by have:=HBd.out;omega));rw[<- hcv,<- hdv]at HCa;have HCa:=aA HCa;have HNb:=aA ((fH hF.names H.out.ch (λe=>hF.node.elim λ_ hx=>mG hF.names hx (by decide) e)).under (HUs.out));have a0:(w2).cell? ⟨F.na,0,none⟩=some F.cv:=HNb.out.cell 0;have a1:(w2).cell? ⟨F.na,1,none⟩=some F.dv:=HNb.out.cell 1;have al:=HNb.out.lt;clear hcv hc1 hc2 hc3 hdv hd1 hd2 hd3 hle1 hle2 HI;go_wp2_with fail;refine HCa.out.mono ?_;rintro e w3 ⟨hU3,hres⟩;have HU3:=aA (Under.trans (HUs.out) hU3);have HU3a:=aA hU3;have HW3:=aA (HWs.out.trans hU3);have HF3:=aA (HFt.out.under HU3.out);rcases hR0:pG F.cs F.ds y (F.st) with⟨c1,p1⟩|t1
   . rw[hR0]at hres;replace hres:e = .returned (.tuple #[.slice none 0 0,.agg #[.int .i64 c1,.int .i64 p1]]):=hres;subst hres;have hc1:=nV _ _ _ _ hR0;clear hU3 HCa;have HErr:RowKit.Hid (F.R = .error (c1,p1)):=aA (by rw[HSy.out];simp[hw,hR0]);go_wp2_with fail;have hG:=zA w3 #[.int .i64 c1,.int .i64 p1] 110;have HF4:=aA (HF3.out.under (bA (Qu w3) (.cells #[.int .i64 c1,.int .i64 p1] 110)));have HW4:=aA (HW3.out.trans (bA (Qu w3) (.cells #[.int .i64 c1,.int .i64 p1] 110)));have g0:(w3.alloc (.cells #[.int .i64 c1,.int .i64 p1] 110)).cell? ⟨w3.heap.size,0,none⟩=some (.int .i64 c1):=hG.cell 0;have g1:(w3.alloc (.cells #[.int .i64 c1,.int .i64 p1] 110)).cell? ⟨w3.heap.size,1,none⟩=some (.int .i64 p1):=hG.cell 1;have gl:=hG.lt;have flt:=HF3.out.lt;have fne:F.fb≠w3.heap.size:=by omega
     generalize w3.alloc (.cells #[.int .i64 c1,.int .i64 p1] 110)=w4 at *;have f0:w4.cell? ⟨F.fb,0,none⟩=some (.int .i64 0):=HF4.out.cell 0;have f1:w4.cell? ⟨F.fb,1,none⟩=some (.int .i64 0):=HF4.out.cell 1;have fl:=HF4.out.lt;have ff0:=HF4.out.free 0;have ff1:=HF4.out.free 1;clear hG;go_region_held3 (λw'=>w'.cell? ⟨w3.heap.size,0,none⟩=some (.int .i64 c1)/\w'.cell? ⟨w3.heap.size,1,none⟩=some (.int .i64 p1))
       (first
         | exact⟨g0,g1⟩
         | go_keep)
       (fail)
     rename_i hHeld;clear hHeld;go_wp2;exact .inr ⟨rfl,c1,p1,⟨_,fB (F:=nL F.fb (.slice none 0 0)) (by rfl)⟩,HErr.out,fA (nA (nA HW4.out hF.flo _ _) hF.flo _ _),((HF4.out.set 0 _).set 1 _).drew⟩
   . rw[hR0]at hres;replace hres:∃ v,e = .returned (.tuple #[v,.agg #[.int .i64 0,.int .i64 0]])/\OwnTm 96 w3 v t1:=hres;obtain⟨v3,rfl,hT⟩:=hres;have hl1:=aP _ _ _ hR0;obtain⟨pt,ct,rfl,hct,hpt,hrt⟩:=hT.val;clear hU3 HCa;have HRt:=aA hrt;have hle0:(rA (F.ts.take k)).length<=20000:=Ql (sI k F.ts) hF.len;have htl:=H.out.tlen;have hmx3:t.length+t1.length<=maxLen:=by
      simp only[maxLen];omega
     have hby3:(t.length+t1.length) * 40<=140737488355328:=by
      omega
     go_wp2_with (at_builtin;refine zC rfl _ _ 30 rfl F.wl.heap.size 96 j0 _ 4 40 underlying30 hj hy0 hy1 hy2 rfl (by decide) _ _ _ rfl ((uA H.out.out HU3.out).alloc _) pt t1.length ct (dC t1) rfl (iU t1) hct hpt (HRt.out.under (bA (Qu _) _)) (sJA t1) hmx3 hby3 (by have:=H.out.ch.size;have:=HU3.out.size;simp;omega) ?_);intro v5 w5 hown5 hgrow5;have HOw:=aA hown5;have HCh:=aA ((Ch.of_under (C:=λi=>ov.ownBlock=some i) (bA HU3.out (.cells #[.int .i64 0,.int .i64 0] 110))).grown hgrow5 (λg e _=>e));have HCx:=aA ((Ch.of_under (C:=λi=>ov.ownBlock=some i) (bA HU3a.out (.cells #[.int .i64 0,.int .i64 0] 110))).grown hgrow5 (λg e _=>e));clear hown5 hgrow5;go_wp2;refine⟨nms,x,t++t1,v5,nv,bB (F:=fE F.na F.fb F.fo F.nb F.bv v5 (nv) ⟨F.parts.toArray⟩ F.q2 (F.ts.length+1) F.c2 (k+1)) (by rw[hq2,hbv,<- HPs.out];rfl) ?_⟩;exact UgS.term hF HKn.out H.out HCh.out HOw.out (H.out.rowKept HCh.out) (Nat.le_succ_of_le H.out.nlen) (by rw[HTk.out,Qc];omega) (by rw[HSy.out];simp[hw,hR0])
def pAB(na fb fo nb:Nat)(bv ov nv:Value)(ps:ByteArray)(q2:Option Addr)(n c2:Nat)(w:World)(e:Exit)(a':Act)(w':World):Prop :=
 e = .exit 0/\∃ J,a'=⟨fE na fb fo nb bv ov nv ps q2 (n+1) c2 n J,[]⟩/\w'=w
theorem g5A(na fb fo nb:Nat)(bv ov nv:Value)(ps:ByteArray)(q2:Option Addr)(n c2:Nat)(hn:ps.size=n)(J:Nat->Value)(w:World) :
 ugRound.wp prog (Exit.then (λ_ _=>False) (pAB na fb fo nb bv ov nv ps q2 n c2 w)) ⟨fE na fb fo nb bv ov nv ps q2 (n+1) c2 n J,[]⟩ w:=by
 have hlt:¬((n:Int) < (ps.size:Int)):=by omega
 unfold ugRound kT lX;simp only[f52,Qf,aB,jA,nC];unfold fE;go_wp2;exact⟨rfl,bB (F:=fE na fb fo nb bv ov nv ps q2 (n+1) c2 n) (by rfl) rfl⟩
theorem nAA(F:UgFix)(hF:UgOk F)(ih:∀ y∈F.ts,bNA y)(a:Act)(w:World)(h0:lT F 0 a w):(Code.loop ugRound).wp prog (cHA F) a w:=by
 refine wp_loop_ghost (λm a w=>∃ k,m+k=F.ts.length/\lT F k a w) F.ts.length ⟨0,rfl,h0⟩ ?_;clear h0;rintro m a w ⟨k,hmk,nms,x,t,ov,nv,J,rfl,h⟩;by_cases hk:k < F.ts.length
 . have hpk:k < F.parts.length:=by rw[hF.plen];exact hk
   have hc:F.parts[k]? = some F.parts[k]:=Qa hpk;have key:ugRound.wp prog (Exit.then (lT F (k+1)) (cHA F)) ⟨fE F.na F.fb F.fo F.nb F.bv ov nv ⟨F.parts.toArray⟩ F.q2 (F.ts.length+1) F.c2 k J,[]⟩ w:=by
    by_cases g1:F.parts[k]=118
    . exact qIA F hF hk hc (.inl g1) h J
    by_cases g2:F.parts[k]=86
    . exact qIA F hF hk hc (.inr (.inl g2)) h J
    by_cases g3:F.parts[k]=87
    . exact qIA F hF hk hc (.inr (.inr g3)) h J
    by_cases g4:F.parts[k]=110
    . exact kAB F hF hk (by rw[hc,g4]) h J
    by_cases g5:F.parts[k]=100
    . exact p4A F hF hk (by rw[hc,g5]) h J
    exact d6A F hF hk hc g1 g2 g3 g4 g5 ih h J
   refine wp_mono key ?_;rintro e a' w' h
   cases e with
   | normal=>exact⟨m - 1,by omega,k+1,by omega,h⟩
   | _=>exact h
 . obtain rfl:k=F.ts.length:=by have:=mH F.ts;omega
   refine wp_mono (g5A F.na F.fb F.fo F.nb F.bv ov nv ⟨F.parts.toArray⟩ F.q2 F.ts.length F.c2 (by rw[<- hF.plen];simp[ByteArray.size]) J w) ?_;rintro e a' w' h'
   cases e with
   | normal=>exact h'.elim
   | _ =>
     obtain⟨h1,J',rfl,rfl⟩:=h';exact .inl ⟨h1,nms,x,t,ov,nv,J',rfl,h⟩
def b9A(F:UgFix)(t:List Nd)(ex:Exit)(a':Act)(w':World):Prop :=
 ex = .ret/\∃ v,(∃ J,a'=⟨nL F.fb v J,[]⟩)/\OwnTm 96 w' v t/\Under F.w0 w'/\BoxAt w' F.fb 110 #[.int .i64 0,.int .i64 0]
theorem rIA(F:UgFix)(hF:UgOk F){nms:List ByteArray}{x:Nd}{t:List Nd}{ov nv:Value}{w:World}(h:UgS F F.ts.length nms x t ov nv w)(J:Nat->Value) :
 ugLate.wp prog (b9A F (t++[x])) ⟨fE F.na F.fb F.fo F.nb F.bv ov nv ⟨F.parts.toArray⟩ F.q2 (F.ts.length+1) F.c2 F.ts.length J,[]⟩ w:=by
 obtain⟨j0,hj,hy0,hy1,hy2⟩:=info_parts Tryz.infoNode8;have H:=aA h;obtain⟨xk,xn,xm,xs⟩:=x;have y0:w.cell? ⟨F.nb,0,none⟩=some (.int .i64 xk):=H.out.nd.cell 0;have y1:w.cell? ⟨F.nb,1,none⟩=some (.int .i64 xn):=H.out.nd.cell 1;have y2:w.cell? ⟨F.nb,2,none⟩=some (.int .i64 xm):=H.out.nd.cell 2;have y3:w.cell? ⟨F.nb,3,none⟩=some (.string xs):=H.out.nd.cell 3;have yl:=H.out.nd.lt;have htl:=H.out.tlen;have hle:=hF.len;rw[List.take_length]at htl;have hmx:t.length+1<=maxLen:=by simp only[maxLen];omega
 have hby:(t.length+1) * 40<=140737488355328:=by omega
 have HFt:=aA (fH hF.fault H.out.ch (λe=>hF.node.elim λ_ hx=>mG hF.fault hx (by decide) e));have HW0:=aA (dB hF.und H.out.ch (λb e=>by rw[e];exact hF.nlo));have hfw:=hF.fault.lt;clear h;unfold ugLate kT lX;simp only[f52,Qf,aB,jA,nC];unfold fE;go_wp2_with (at_builtin;refine zC rfl _ _ 30 rfl F.wl.heap.size 96 j0 _ 4 40 underlying30 hj hy0 hy1 hy2 rfl (by decide) _ _ _ rfl (H.out.out.alloc _) (some ⟨w.heap.size,0,none⟩) 1 1 (dC [⟨xk,xn,xm,xs⟩]) rfl rfl (Qd _) (λe=>by cases e) (wP w (dC [⟨xk,xn,xm,xs⟩]) _ _) (sJA _) hmx hby (by have:=H.out.ch.size;rw[World.size_alloc];omega) ?_);intro v5 w5 hown5 hgrow5;have HCh:=aA ((Ch.of_under (C:=λi=>ov.ownBlock=some i) (bA (Qu w) (.cells #[.int .i64 xk,.int .i64 xn,.int .i64 xm,.string xs] 96))).grown hgrow5 (λg e _=>e));have HW5:=aA (dB HW0.out HCh.out (λb e=>by have:=(xB H.out.out e).1;have:=hF.und.size;omega));have HF5:=aA (fH HFt.out HCh.out (λe=>by have:=(xB H.out.out e).1;omega));have f0:w5.cell? ⟨F.fb,0,none⟩=some (.int .i64 0):=HF5.out.cell 0;have f1:w5.cell? ⟨F.fb,1,none⟩=some (.int .i64 0):=HF5.out.cell 1;have fl:=HF5.out.lt;have ff0:=HF5.out.free 0;have ff1:=HF5.out.free 1;have HO:=aA (show w5.ownsRow F.wl.heap.size 96 4 v5 (t++[(⟨xk,xn,xm,xs⟩:Nd)]).length (dC (t++[(⟨xk,xn,xm,xs⟩:Nd)])) by rw[Qc,gT];exact hown5);clear hown5 hgrow5;go_wp2;refine⟨rfl,v5,⟨_,fB (F:=nL F.fb v5) (by rfl)⟩,?_,nA (nA HW5.out hF.flo _ _) hF.flo _ _,(HF5.out.set 0 _).set 1 _⟩;have hcs:Ch (λi=>i=F.fb) w5 ((w5.setCell ⟨F.fb,0,none⟩ (.int .i64 0)).setCell ⟨F.fb,1,none⟩ (.int .i64 0)):=((Ch.refl (C:=λi=>i=F.fb) w5).set (g:=F.fb) (λ_=>rfl) 0 _).set (g:=F.fb) (λ_=>rfl) 1 _;exact uD (iE HO.out hcs (λg hg e=>by have:=(xB HO.out hg).1;omega)) (Nat.zero_le _)
theorem cGA{w:World}{g:Nat}{t:TypeId}{cs:Array Value}(h:BoxAt w g t cs)(j:Nat)(u:Value)(hu:cs.setIfInBounds j u=cs):Under w (w.setCell ⟨g,j,none⟩ u) :=
 ⟨rfl,rfl,by rw[qJ];exact Qd _,λb hb=>by
   by_cases e:b=g
   . subst e;have h2:=h.set j u;rw[hu]at h2;exact Eq.trans h2 (Eq.symm h)
   . exact heap_set w _ u b e⟩
theorem cMA{w:World}{q:Option Addr}{a b:List Sx}(h:SxArg w q (a++b)):SxArg w q a:=λhne=>by
 obtain⟨g,off,e,hg,hat⟩:=h (by simp[hne]);exact⟨g,off,e,hg,λk t hk=>hat k t (by rw[List.getElem?_append_left (Qo.1 hk).1];exact hk)⟩
theorem q1A{w0 w:World}{base g c:Nat}{vs:List Value}{l:List ST}{t:TypeId}(hU:Under w0 w)(h1:w.ownsRow base t 1 (.slice (some ⟨g,0,none⟩) (l.map qA).length c) (l.map qA).length vs)(h2:SxVals w0 vs (l.map qA)):l.length<=c/\TsArg (λ_=>False) w (some ⟨g,0,none⟩) l:=by
 rw[List.length_map]at h1;obtain⟨q,c',e,hc,_⟩:=RowArg.of_own h1
 cases e;refine⟨hc,λhne=>⟨g,0,rfl,(xB h1 rfl).2,λh=>h,λi T hi=>?_⟩⟩;obtain⟨qi,ci,hv,h3,h4⟩:=h2.at (i:=i) (l:=qA T) (by rw[List.getElem?_map,hi];rfl);exact⟨qi,ci,by rw[Nat.zero_add];exact rD h1 rfl hv,h3,h4.under hU,λ_ _ _ _ h=>h⟩
theorem lUA(pp:Int)(s:ByteArray):bNA (.word pp s):=by
 rintro w0 q cap p1 p2 d1 d2 bv st cs ds hok hn hcap hq hcs hds hcl hdl hb hbl;have HLa:=aA (λw' (hU:Under w0 w')=>fI (w0:=w') (.word pp s) (q:=q) (cap:=cap) (by omega) (hq.under hU));go_enter func52,ntmps52;go_wp2_with fail;have HU0:=aA (show Under w0 ((w0.alloc (.cells #[.slice p1 cs.length d1,.slice p2 ds.length d2] 91)).alloc (.cells #[.int .i64 0,.int .i64 0] 110)) from bA (bA (Qu _) _) _);have HNa:=aA ((zA w0 #[.slice p1 cs.length d1,.slice p2 ds.length d2] 91).alloc (.cells #[.int .i64 0,.int .i64 0] 110));have hFa:=zA (w0.alloc (.cells #[.slice p1 cs.length d1,.slice p2 ds.length d2] 91)) #[.int .i64 0,.int .i64 0] 110;rw[World.size_alloc]at hFa;have HFa:=aA hFa;clear hFa;refine(HLa.out _ HU0.out).mono ?_;rintro e w1 ⟨rfl,hU1⟩;have HU1:=aA (HU0.out.trans (bA hU1 (.cells #[.int .i64 0,.int .i64 pp,.string s] 29)));have HN1:=aA (HNa.out.under (bA hU1 (.cells #[.int .i64 0,.int .i64 pp,.string s] 29)));have HF1:=aA (HFa.out.under (bA hU1 (.cells #[.int .i64 0,.int .i64 pp,.string s] 29)));have HX1:=aA (zA w1 #[.int .i64 0,.int .i64 pp,.string s] 29);clear hU1 HU0 HNa HFa HLa;have hs1:s.toList.isEmpty=false:=by
  have hz:s.size≠0:=hok;rw[ByteArray.toList_eq]
  cases h:s.data.toList with
  | nil=>exact absurd (by rw[ByteArray.size,<- Array.length_toList,h];rfl) hz
  | cons a l=>rfl
 simp only[ST.last,sxV];have n0:(w1.alloc (.cells #[.int .i64 0,.int .i64 pp,.string s] 29)).cell? ⟨w0.heap.size,0,none⟩=some (.slice p1 cs.length d1):=HN1.out.cell 0;have n1:(w1.alloc (.cells #[.int .i64 0,.int .i64 pp,.string s] 29)).cell? ⟨w0.heap.size,1,none⟩=some (.slice p2 ds.length d2):=HN1.out.cell 1;have nl:=HN1.out.lt;have x0:(w1.alloc (.cells #[.int .i64 0,.int .i64 pp,.string s] 29)).cell? ⟨w1.heap.size,0,none⟩=some (.int .i64 0):=HX1.out.cell 0;have x1:(w1.alloc (.cells #[.int .i64 0,.int .i64 pp,.string s] 29)).cell? ⟨w1.heap.size,1,none⟩=some (.int .i64 pp):=HX1.out.cell 1;have x2:(w1.alloc (.cells #[.int .i64 0,.int .i64 pp,.string s] 29)).cell? ⟨w1.heap.size,2,none⟩=some (.string s):=HX1.out.cell 2;have xl:=HX1.out.lt;go_wp2_with fail;have HWd:=aA (pWA ⟨0,pp,s⟩ cs st (p1:=p1) (d1:=d1) (dv:=.slice p2 ds.length d2) (bv:=bv) (hcs.under HU1.out) hcl (hb.under HU1.out) (by omega));refine HWd.out.mono ?_;rintro e w2 ⟨hU2,hR⟩;have HU2:=aA (HU1.out.trans hU2);have HF2:=aA (HF1.out.under hU2);have f0:w2.cell? ⟨w0.heap.size+1,0,none⟩=some (.int .i64 0):=HF2.out.cell 0;have f1:w2.cell? ⟨w0.heap.size+1,1,none⟩=some (.int .i64 0):=HF2.out.cell 1;have fl:=HF2.out.lt;have ff0:=HF2.out.free 0;have ff1:=HF2.out.free 1;have hlow:w0.heap.size<=w0.heap.size+1:=by omega
 clear hU2 HWd n0 n1 nl x0 x1 x2 xl;simp only at hR;rcases hw:gG cs pp s st with⟨c,p⟩|t
 . rw[hw]at hR;replace hR:e = .returned (.tuple #[.slice none 0 0,.agg #[.int .i64 c,.int .i64 p]]):=hR;subst hR;go_wp2;have hFE:=(HF2.out.set 0 (.int .i64 c)).set 1 (.int .i64 p);have hUE:=nA (nA HU2.out hlow 0 (.int .i64 c)) hlow 1 (.int .i64 p);have e0:((w2.setCell ⟨w0.heap.size+1,0,none⟩ (.int .i64 c)).setCell ⟨w0.heap.size+1,1,none⟩ (.int .i64 p)).cell? ⟨w0.heap.size+1,0,none⟩=some (.int .i64 c):=hFE.cell 0;have e1:((w2.setCell ⟨w0.heap.size+1,0,none⟩ (.int .i64 c)).setCell ⟨w0.heap.size+1,1,none⟩ (.int .i64 p)).cell? ⟨w0.heap.size+1,1,none⟩=some (.int .i64 p):=hFE.cell 1;generalize (w2.setCell ⟨w0.heap.size+1,0,none⟩ (.int .i64 c)).setCell ⟨w0.heap.size+1,1,none⟩ (.int .i64 p)=wE at *;refine bodyPost_ret (v:=.tuple #[.slice none 0 0,.agg #[.int .i64 c,.int .i64 p]]) ((kC rfl _ _ _).trans ?_) rfl ⟨hUE,by rw[show pG cs ds (.word pp s) st = .error (c,p) from by rw[pG];exact hw]⟩;simp[go_sem,e0,e1]
 . rw[hw]at hR;replace hR:∃ v,e = .returned (.tuple #[v,.agg #[.int .i64 0,.int .i64 0]])/\OwnTm 96 w2 v t:=hR;obtain⟨v,rfl,hT⟩:=hR;have HT:=aA hT;obtain⟨pt,ct,rfl,_⟩:=hT.val;clear hT;go_wp2;have hFA:=HF2.out.set 0 (.int .i64 0);have hFE:=hFA.set 1 (.int .i64 0);have hUE:=nA (nA HU2.out hlow 0 (.int .i64 0)) hlow 1 (.int .i64 0);have hTE:=HT.out.under ((cGA HF2.out 0 (.int .i64 0) rfl).trans (cGA hFA 1 (.int .i64 0) rfl));have e0:((w2.setCell ⟨w0.heap.size+1,0,none⟩ (.int .i64 0)).setCell ⟨w0.heap.size+1,1,none⟩ (.int .i64 0)).cell? ⟨w0.heap.size+1,0,none⟩=some (.int .i64 0):=hFE.cell 0;have e1:((w2.setCell ⟨w0.heap.size+1,0,none⟩ (.int .i64 0)).setCell ⟨w0.heap.size+1,1,none⟩ (.int .i64 0)).cell? ⟨w0.heap.size+1,1,none⟩=some (.int .i64 0):=hFE.cell 1;generalize (w2.setCell ⟨w0.heap.size+1,0,none⟩ (.int .i64 0)).setCell ⟨w0.heap.size+1,1,none⟩ (.int .i64 0)=wE at *;refine bodyPost_ret (v:=.tuple #[.slice pt t.length ct,.agg #[.int .i64 0,.int .i64 0]]) ((kC rfl _ _ _).trans ?_) rfl ⟨hUE,by rw[show pG cs ds (.word pp s) st = .ok t from by rw[pG];exact hw];exact⟨_,rfl,hTE⟩⟩;simp[go_sem,e0,e1]
theorem dZA(pp:Int):bNA (.list pp []):=by
 rintro w0 q cap p1 p2 d1 d2 bv st cs ds hok hn hcap hq hcs hds hcl hdl hb hbl;have hst':uI []:=hok;have hl1:(qA (.list pp [])).length=(rA []).length+1:=by rw[qA];simp
 have hq':SxArg w0 q (rA []):=cMA (by rw[qA]at hq;exact hq);have HLa:=aA (λw' (hU:Under w0 w')=>fI (w0:=w') (.list pp []) (q:=q) (cap:=cap) (by omega) (hq.under hU));have HIt:=aA (λw' (hU:Under w0 w')=>qN (w0:=w') (cap:=cap) (rA []) (p:=q) (by omega) (by omega) (hq'.under hU));rw[gF hst']at HIt;rw[hl1]at hn hcap hbl HLa ⊢;rw[pG];clear hok hq hq' hl1;have HNn:=aA (And.intro hn (And.intro hcap hbl));have HTx:=aA (And.intro hcs (And.intro hds hb));have hfl0:(0:Int)<=((rA []).length:Int):=by omega
 have hfl9:((rA []).length:Int)<=20000:=by omega
 clear hcs hds hb;go_enter func52,ntmps52;go_wp2_with fail;have HU0:=aA (show Under w0 ((w0.alloc (.cells #[.slice p1 cs.length d1,.slice p2 ds.length d2] 91)).alloc (.cells #[.int .i64 0,.int .i64 0] 110)) from bA (bA (Qu _) _) _);have HNa:=aA ((zA w0 #[.slice p1 cs.length d1,.slice p2 ds.length d2] 91).alloc (.cells #[.int .i64 0,.int .i64 0] 110));have hFa:=zA (w0.alloc (.cells #[.slice p1 cs.length d1,.slice p2 ds.length d2] 91)) #[.int .i64 0,.int .i64 0] 110;rw[World.size_alloc]at hFa;have HFa:=aA hFa;clear hFa;refine(HLa.out _ HU0.out).mono ?_;rintro e w1 ⟨rfl,hU1⟩;simp only[ST.last,sxV];have hUx:=bA hU1 (.cells #[.int .i64 ((([]:List ST).length:Int)),.int .i64 pp,.string ⟨#[]⟩] 29);have hX1:=zA w1 #[.int .i64 ((([]:List ST).length:Int)),.int .i64 pp,.string ⟨#[]⟩] 29;have hs2:(w1.alloc (.cells #[.int .i64 ((([]:List ST).length:Int)),.int .i64 pp,.string ⟨#[]⟩] 29)).heap.size=w1.heap.size+1:=by rw[World.size_alloc]
 have x0:(w1.alloc (.cells #[.int .i64 ((([]:List ST).length:Int)),.int .i64 pp,.string ⟨#[]⟩] 29)).cell? ⟨w1.heap.size,0,none⟩=some (.int .i64 ((([]:List ST).length:Int))):=hX1.cell 0;have x1:(w1.alloc (.cells #[.int .i64 ((([]:List ST).length:Int)),.int .i64 pp,.string ⟨#[]⟩] 29)).cell? ⟨w1.heap.size,1,none⟩=some (.int .i64 pp):=hX1.cell 1;have x2:(w1.alloc (.cells #[.int .i64 ((([]:List ST).length:Int)),.int .i64 pp,.string ⟨#[]⟩] 29)).cell? ⟨w1.heap.size,2,none⟩=some (.string ⟨#[]⟩):=hX1.cell 2;have xl:=hX1.lt;have HUx:=aA (HU0.out.trans hUx);have HNx:=aA (HNa.out.under hUx);have HFx:=aA (HFa.out.under hUx);have hlo1:=hU1.size;rw[World.size_alloc,World.size_alloc]at hlo1;clear hU1 hUx hX1 HU0 HNa HFa HLa;go_wp2_with fail;generalize w1.alloc (.cells #[.int .i64 ((([]:List ST).length:Int)),.int .i64 pp,.string ⟨#[]⟩] 29)=w2 at *;have hW3:BoxAt (w2.alloc (.cells #[.int .i64 71,.int .i64 pp] 110)) (w1.heap.size+1) 110 #[.int .i64 71,.int .i64 pp]:=by rw[<- hs2];exact zA w2 #[.int .i64 71,.int .i64 pp] 110
 have hU3:=bA (Qu w2) (.cells #[.int .i64 71,.int .i64 pp] 110);have HU3:=aA (HUx.out.trans hU3);refine(HIt.out _ HU3.out).mono ?_;rintro e w4 ⟨hU4,g,c2,vs,rfl,ho1,ho2⟩;obtain⟨hc2,hts⟩:=q1A hU4 ho1 ho2;have HTs:=aA hts;have HU4:=aA (HU3.out.trans hU4);have HNm:=aA (HNx.out.under (hU3.trans hU4));have HFt:=aA (HFx.out.under (hU3.trans hU4));have HWb:=aA (hW3.under hU4);have hwb:w0.heap.size+1 < w1.heap.size+1:=by omega
 rw[List.length_map];clear hU3 hU4 hW3 ho1 ho2 hts HU3 HNx HFx HUx HIt x0 x1 x2 xl hs2 hlo1;generalize w1.heap.size+1=wb at *;generalize w1.heap.size=xb at *;have HErr:RowKit.Hid (jF cs ds pp [] st = .error (71,pp)):=aA (by rw[jF]);rw[List.length_nil];have g0:w4.cell? ⟨wb,0,none⟩=some (.int .i64 71):=HWb.out.cell 0;have g1:w4.cell? ⟨wb,1,none⟩=some (.int .i64 pp):=HWb.out.cell 1;have gl:=HWb.out.lt;have f0:w4.cell? ⟨w0.heap.size+1,0,none⟩=some (.int .i64 0):=HFt.out.cell 0;have f1:w4.cell? ⟨w0.heap.size+1,1,none⟩=some (.int .i64 0):=HFt.out.cell 1;have fl:=HFt.out.lt;have ff0:=HFt.out.free 0;have ff1:=HFt.out.free 1;have fne:w0.heap.size+1≠wb:=by omega
 go_wp2_with fail;go_region_held3 (λw'=>w'.cell? ⟨wb,0,none⟩=some (.int .i64 71)/\w'.cell? ⟨wb,1,none⟩=some (.int .i64 pp))
   (first
     | exact⟨g0,g1⟩
     | go_keep)
   (fail)
 rename_i hHeld;clear hHeld;go_wp2;have hlow:w0.heap.size<=w0.heap.size+1:=by omega
 have hFE:=(HFt.out.set 0 (.int .i64 71)).set 1 (.int .i64 pp);have hUE:=fA (nA (nA (HU4.out) hlow 0 (.int .i64 71)) hlow 1 (.int .i64 pp));have e0:((w4.setCell ⟨w0.heap.size+1,0,none⟩ (.int .i64 71)).setCell ⟨w0.heap.size+1,1,none⟩ (.int .i64 pp)).cell? ⟨w0.heap.size+1,0,none⟩=some (.int .i64 71):=hFE.cell 0;have e1:((w4.setCell ⟨w0.heap.size+1,0,none⟩ (.int .i64 71)).setCell ⟨w0.heap.size+1,1,none⟩ (.int .i64 pp)).cell? ⟨w0.heap.size+1,1,none⟩=some (.int .i64 pp):=hFE.cell 1;generalize (w4.setCell ⟨w0.heap.size+1,0,none⟩ (.int .i64 71)).setCell ⟨w0.heap.size+1,1,none⟩ (.int .i64 pp)=wE at *;refine bodyPost_ret (v:=.tuple #[.slice none 0 0,.agg #[.int .i64 71,.int .i64 pp]]) ((kC rfl _ _ _).trans ?_) rfl ⟨hUE,by rw[HErr.out]⟩;simp[go_sem,e0,e1]
theorem cUA{k:Nat}:∀ {l:List UInt8},110∈iN k l->110∈l
  | [],h=>by simp[iN]at h
  | c :: l, h => by
    rw[iN]at h;rcases List.mem_append.1 h with h|h
    . split at h
      . simp at h
      . split at h
        . simp at h
        . exact List.mem_cons.2 (.inl (List.mem_singleton.1 h))
    . exact Qh _ (cUA h)
theorem rQA{l r:List UInt8}{n:Nat}(h:zG l n=some r)(hn:110∈r):110∈l:=by
 unfold zG at h
 split at h
 . cases h
 . cases h;exact cUA hn
theorem bEA{w0 w8 wN:World}{fo g c2:Nat}{p1 p2:Option Addr}{d1 d2:Nat}{bv:Value}{kk nn:Int}{st cs ds:List ByteArray}{hd:ST}{l:List ST}{lst:List UInt8}{rs:ByteArray}{x:Nd}{R:Say}
    (hU:Under w0 w8) (hN:Under w8 wN) (hNb:BoxAt wN w8.heap.size 96 (sQ x)) (hna:BoxAt w8 w0.heap.size 91 #[.slice p1 cs.length d1,.slice p2 ds.length d2]) (hft:BoxAt w8 (w0.heap.size+1) 110 #[.int .i64 0,.int .i64 0])
    (hfo:BoxAt w8 fo 133 #[.int .i64 kk,.int .i64 nn,.string rs]) (hts:TsArg (λ_=>False) w8 (some ⟨g,0,none⟩) (hd::l)) (hT:TextsV w0 (.slice p1 cs.length d1) cs/\TextsV w0 (.slice p2 ds.length d2) ds/\TextsV w0 bv st) (hok:uI l)
    (h1:(rA l).length<=20000) (h2:st.length+(rA l).length<=50000) (hcl:cs.length<=1000000) (hdl:ds.length<=1000000) (hpl:lst.length=l.length) (hnum:110∈lst->kk=2∨kk=26) :
    UgOk ⟨w0,wN,w0.heap.size,w0.heap.size+1,fo,w8.heap.size,.slice p1 cs.length d1,.slice p2 ds.length d2,bv,kk,nn,st,cs,ds,hd,l,lst,rs,some ⟨g,0,none⟩,c2,R⟩ where
  und:=hU.trans hN
  names:=hna.under hN
  form:=hfo.under hN
  fault:=hft.under hN
  node:=⟨_,hNb⟩
  nlt:=hNb.lt
  nlo:=hU.size
  flo:=Nat.le_succ _
  arg:=by
   have:=hts.more (nb:=w8.heap.size) (Qd _);simp only[false_or]at this;exact this.ch (D:=λb=>b=w8.heap.size) (Ch.of_under hN)
  bound:=hT.2.2
  ok:=hok
  len:=h1
  stl:=h2
  csT:=hT.1
  dsT:=hT.2.1
  csl:=hcl
  dsl:=hdl
  plen:=hpl
  num:=hnum
theorem vFA{F:UgFix}{x:Nd}(hN:BoxAt F.wl F.nb 96 (sQ x))(hk:x.k=F.kk)(hs:F.R=goS F.cs F.ds (yC F.parts) F.ts x [] F.st []) :
 UgS F 0 [] x [] (.slice (some ⟨F.wl.heap.size,0,none⟩) 0 0) (.slice (some ⟨F.wl.heap.size+1,0,none⟩) 0 0) ((F.wl.alloc (.cells #[] 96)).alloc (.cells #[] 9)):=by
 refine⟨Ch.of_under (bA (bA (Qu _) _) _),(hN.alloc _).alloc _,hk,(xM F.wl F.wl.heap.size 96 4 (Qd _)).alloc _,?_,hs,Qd _,Nat.zero_le _⟩;have:=xM (F.wl.alloc (.cells #[] 96)) F.wl.heap.size 9 1 (by rw[World.size_alloc];omega)
 rwa [World.size_alloc]at this
theorem uOA{F:UgFix}(hF:UgOk F){nms:List ByteArray}{x:Nd}{t:List Nd}{ov nv:Value}{w:World}(h:UgS F F.ts.length nms x t ov nv w):F.R = .ok (t++[x]):=by
 rw[h.say,List.drop_eq_nil_of_le (by rw[hF.plen];exact Qd _),List.drop_eq_nil_of_le (Qd _)];simp[yC,goS]
theorem lV{w0 w':World}{fb:Nat}{v:Value}{c p:Int}{R:Say}{J:Nat->Value}(hb:BoxAt w' fb 110 #[.int .i64 c,.int .i64 p])(hO:lEA w0 R (.returned (.tuple #[v,.agg #[.int .i64 c,.int .i64 p]])) w') :
 bodyPost prog f52 (lEA w0 R) .ret ⟨nL fb v J,[]⟩ w':=by
 have e0:w'.cell? ⟨fb,0,none⟩=some (.int .i64 c):=hb.cell 0;have e1:w'.cell? ⟨fb,1,none⟩=some (.int .i64 p):=hb.cell 1;unfold nL;refine bodyPost_ret (v:=.tuple #[v,.agg #[.int .i64 c,.int .i64 p]]) ((kC rfl _ _ _).trans ?_) rfl hO;simp[go_sem,e0,e1]
theorem mVA(a b:Int)(s:ByteArray)(w:World):(Instr.field 29 (.agg #[.int .i64 a,.int .i64 b,.string s]) 2).run prog w = .ok (.string s) w:=by kernel_rfl
theorem qUA{s:ByteArray}(h:s.size≠0):s.toList.isEmpty=false:=by
 rw[ByteArray.toList_eq]
 cases hc:s.data.toList with
 | nil=>exact absurd (by rw[ByteArray.size,<- Array.length_toList,hc];rfl) h
 | cons a l=>rfl
theorem hQA{s:ByteArray}(h:s.size=0):s=⟨#[]⟩:=by
 apply ByteArray.ext;exact Array.eq_empty_of_size_eq_zero h
def cZA(t:List UInt8×Int×Int×List UInt8):Bool:=decide ((pF (oN t.2.2.2)).length<=20)&&(t.2.1 != 26||t.2.2.2==[100,110,42])&&(t.2.1 != 27||t.2.2.2==[100,118,46,42,46])&&(decide (t.2.1=26)||decide (t.2.1=2) || !(pF (oN t.2.2.2)).contains 110)&&(decide (t.2.1=26)||decide (t.2.1=27) || !(pF (oN t.2.2.2)).contains 42)
theorem cLA{w parts:List UInt8}{k n:Int}(h:(w,k,n,parts)∈formT):(pF (oN parts)).length<=20/\(k=26->parts=[100,110,42])/\(k=27->parts=[100,118,46,42,46])/\(110∈pF (oN parts)->k=2∨k=26):=by
 have ha:formT.all cZA=true:=by decide
 have:=List.all_eq_true.1 ha _ h;simp only[cZA,Bool.and_eq_true,Bool.or_eq_true,decide_eq_true_eq,bne_iff_ne,beq_iff_eq,Bool.not_eq_true',List.contains_eq_mem,decide_eq_false_iff_not]at this;obtain⟨⟨⟨⟨h1,h2⟩,h3⟩,h4⟩,_⟩:=this;refine⟨h1,λe=>h2.resolve_left (λh=>h e),λe=>h3.resolve_left (λh=>h e),λe=>?_⟩;rcases h4 with(h4|h4)|h4
 . exact .inr h4
 . exact .inl h4
 . exact absurd e h4
theorem eYA(pp:Int)(hd:ST)(l:List ST)(ih:∀ y∈l,bNA y):bNA (.list pp (hd::l)):=by
 have HIh:=aA ih;clear ih;rintro w0 q cap p1 p2 d1 d2 bv st cs ds hok hn hcap hq hcs hds hcl hdl hb hbl;have hst':uI (hd::l):=hok;have hl1:(qA (.list pp (hd::l))).length=(rA (hd::l)).length+1:=by rw[qA];simp
 have hq':SxArg w0 q (rA (hd::l)):=cMA (by rw[qA]at hq;exact hq);have HLa:=aA (λw' (hU:Under w0 w')=>fI (w0:=w') (.list pp (hd::l)) (q:=q) (cap:=cap) (by omega) (hq.under hU));have HIt:=aA (λw' (hU:Under w0 w')=>qN (w0:=w') (cap:=cap) (rA (hd::l)) (p:=q) (by omega) (by omega) (hq'.under hU));rw[gF hst']at HIt;rw[hl1]at hn hcap hbl HLa ⊢;rw[pG];clear hok hq hq' hl1;have HNn:=aA (And.intro hn (And.intro hcap hbl));have HTx:=aA (And.intro hcs (And.intro hds hb));have hfl0:(0:Int)<=((rA (hd::l)).length:Int):=by omega
 have hfl9:((rA (hd::l)).length:Int)<=20000:=by omega
 clear hcs hds hb;go_enter func52,ntmps52;go_wp2_with fail;have HU0:=aA (show Under w0 ((w0.alloc (.cells #[.slice p1 cs.length d1,.slice p2 ds.length d2] 91)).alloc (.cells #[.int .i64 0,.int .i64 0] 110)) from bA (bA (Qu _) _) _);have HNa:=aA ((zA w0 #[.slice p1 cs.length d1,.slice p2 ds.length d2] 91).alloc (.cells #[.int .i64 0,.int .i64 0] 110));have hFa:=zA (w0.alloc (.cells #[.slice p1 cs.length d1,.slice p2 ds.length d2] 91)) #[.int .i64 0,.int .i64 0] 110;rw[World.size_alloc]at hFa;have HFa:=aA hFa;clear hFa;refine(HLa.out _ HU0.out).mono ?_;rintro e w1 ⟨rfl,hU1⟩;simp only[ST.last,sxV];have hUx:=bA hU1 (.cells #[.int .i64 ((l.length:Int)+1),.int .i64 pp,.string ⟨#[]⟩] 29);have hX1:=zA w1 #[.int .i64 ((l.length:Int)+1),.int .i64 pp,.string ⟨#[]⟩] 29;have hs2:(w1.alloc (.cells #[.int .i64 ((l.length:Int)+1),.int .i64 pp,.string ⟨#[]⟩] 29)).heap.size=w1.heap.size+1:=by rw[World.size_alloc]
 have x0:(w1.alloc (.cells #[.int .i64 ((l.length:Int)+1),.int .i64 pp,.string ⟨#[]⟩] 29)).cell? ⟨w1.heap.size,0,none⟩=some (.int .i64 ((l.length:Int)+1)):=hX1.cell 0;have x1:(w1.alloc (.cells #[.int .i64 ((l.length:Int)+1),.int .i64 pp,.string ⟨#[]⟩] 29)).cell? ⟨w1.heap.size,1,none⟩=some (.int .i64 pp):=hX1.cell 1;have x2:(w1.alloc (.cells #[.int .i64 ((l.length:Int)+1),.int .i64 pp,.string ⟨#[]⟩] 29)).cell? ⟨w1.heap.size,2,none⟩=some (.string ⟨#[]⟩):=hX1.cell 2;have xl:=hX1.lt;have HUx:=aA (HU0.out.trans hUx);have HNx:=aA (HNa.out.under hUx);have HFx:=aA (HFa.out.under hUx);have hlo1:=hU1.size;rw[World.size_alloc,World.size_alloc]at hlo1;clear hU1 hUx hX1 HU0 HNa HFa HLa;go_wp2_with fail;generalize w1.alloc (.cells #[.int .i64 ((l.length:Int)+1),.int .i64 pp,.string ⟨#[]⟩] 29)=w2 at *;have hW3:BoxAt (w2.alloc (.cells #[.int .i64 71,.int .i64 pp] 110)) (w1.heap.size+1) 110 #[.int .i64 71,.int .i64 pp]:=by rw[<- hs2];exact zA w2 #[.int .i64 71,.int .i64 pp] 110
 have hU3:=bA (Qu w2) (.cells #[.int .i64 71,.int .i64 pp] 110);have HU3:=aA (HUx.out.trans hU3);refine(HIt.out _ HU3.out).mono ?_;rintro e w4 ⟨hU4,g,c2,vs,rfl,ho1,ho2⟩;obtain⟨hc2,hts⟩:=q1A hU4 ho1 ho2;have HTs:=aA hts;have HU4:=aA (HU3.out.trans hU4);have HNm:=aA (HNx.out.under (hU3.trans hU4));have HFt:=aA (HFx.out.under (hU3.trans hU4));have HWb:=aA (hW3.under hU4);have hwb:w0.heap.size+1 < w1.heap.size+1:=by omega
 rw[List.length_map];clear hU3 hU4 hW3 ho1 ho2 hts HU3 HNx HFx HUx HIt x0 x1 x2 xl hs2 hlo1;generalize w1.heap.size+1=wb at *;generalize w1.heap.size=xb at *;have hlen1:(qA hd).length<=20000:=by have:=oH (l:=hd::l) (a:=hd) (by simp);have:=HNn.out.1;omega
 have hll:l.length<=20000:=by have:=mH (hd::l);have:=HNn.out.1;simp at *;omega
 obtain⟨b,off,hg,hbl,_,hat⟩:=HTs.out (by simp)
 cases hg;obtain⟨qh,ch,kh,hch,hsh,_⟩:=hat 0 hd rfl;rw[Nat.add_zero]at kh;have HLh:=aA (λw' (hU:Under w4 w')=>fI (w0:=w') hd (q:=qh) (cap:=ch) (by omega) (hsh.under hU));have HFd:=mVA hd.last.many hd.last.pos hd.last.word;rw[Qk];have hl0:(((l.length:Int)+1)==0)=false:=by simp;omega
 have hl1:(0:Int) < (l.length:Int)+1:=by omega
 have hl9:(l.length:Int)<=20000:=by omega
 clear hat hsh hch;go_wp2_with fail;refine(HLh.out _ (Qu _)).mono ?_;rintro e w5 ⟨rfl,hU5⟩;unfold sxV;have kh5:=(iA hU5 hbl _).trans kh;have hbl5:=Qb hbl hU5.size;have HUb:=aA hU5;have HU4:=aA (HU4.out.trans hU5);have HNm:=aA (HNm.out.under hU5);have HFt:=aA (HFt.out.under hU5);have HWb:=aA (HWb.out.under hU5);have HTs:=aA (HTs.out.ch (D:=λ_=>False) (Ch.of_under hU5));clear hU5;by_cases hz:hd.last.word.size=0
 . have hemp:=hQA hz;have HErr:RowKit.Hid (jF cs ds pp (hd::l) st = .error (71,pp)):=aA (by rw[jF,hemp];rfl);rw[hemp]at HFd ⊢;have g0:w5.cell? ⟨wb,0,none⟩=some (.int .i64 71):=HWb.out.cell 0;have g1:w5.cell? ⟨wb,1,none⟩=some (.int .i64 pp):=HWb.out.cell 1;have gl:=HWb.out.lt;have f0:w5.cell? ⟨w0.heap.size+1,0,none⟩=some (.int .i64 0):=HFt.out.cell 0;have f1:w5.cell? ⟨w0.heap.size+1,1,none⟩=some (.int .i64 0):=HFt.out.cell 1;have fl:=HFt.out.lt;have ff0:=HFt.out.free 0;have ff1:=HFt.out.free 1;have fne:w0.heap.size+1≠wb:=by omega
   go_wp2_with fail;go_region_held3 (λw'=>w'.cell? ⟨wb,0,none⟩=some (.int .i64 71)/\w'.cell? ⟨wb,1,none⟩=some (.int .i64 pp))
     (first
       | exact⟨g0,g1⟩
       | go_keep)
     (fail)
   rename_i hHeld;clear hHeld;go_wp2;have hlow:w0.heap.size<=w0.heap.size+1:=by omega
   have hFE:=(HFt.out.set 0 (.int .i64 71)).set 1 (.int .i64 pp);have hUE:=fA (nA (nA (HU4.out) hlow 0 (.int .i64 71)) hlow 1 (.int .i64 pp));have e0:((w5.setCell ⟨w0.heap.size+1,0,none⟩ (.int .i64 71)).setCell ⟨w0.heap.size+1,1,none⟩ (.int .i64 pp)).cell? ⟨w0.heap.size+1,0,none⟩=some (.int .i64 71):=hFE.cell 0;have e1:((w5.setCell ⟨w0.heap.size+1,0,none⟩ (.int .i64 71)).setCell ⟨w0.heap.size+1,1,none⟩ (.int .i64 pp)).cell? ⟨w0.heap.size+1,1,none⟩=some (.int .i64 pp):=hFE.cell 1;generalize (w5.setCell ⟨w0.heap.size+1,0,none⟩ (.int .i64 71)).setCell ⟨w0.heap.size+1,1,none⟩ (.int .i64 pp)=wE at *;refine bodyPost_ret (v:=.tuple #[.slice none 0 0,.agg #[.int .i64 71,.int .i64 pp]]) ((kC rfl _ _ _).trans ?_) rfl ⟨hUE,by rw[HErr.out]⟩;simp[go_sem,e0,e1]
 . have hs1 := qUA hz; have HFo := aA (λw' => pHA (w0 := w') hd.last.word)
   cases hf:kN hd.last.word with
   | none =>
     have HErr:RowKit.Hid (jF cs ds pp (hd::l) st = .error (71,pp)):=aA (by rw[jF,hf]);rw[dDA,hf]at HFo;go_wp2_with fail;refine(HLh.out _ HUb.out).mono ?_;rintro e w6 ⟨rfl,hU6⟩;unfold sxV;have HU4:=aA (HU4.out.trans hU6);have HNm:=aA (HNm.out.under hU6);have HFt:=aA (HFt.out.under hU6);have HWb:=aA (HWb.out.under hU6);have HTs:=aA (HTs.out.ch (D:=λ_=>False) (Ch.of_under hU6));clear hU6;go_wp2_with fail;refine(HFo.out _).mono ?_;rintro e w7 ⟨rfl,hU7⟩;have hUq:=hU7.trans (bA (Qu w7) (.cells #[.int .i64 0,.int .i64 0,.string ⟨#[]⟩] 133));have HU4:=aA (HU4.out.trans hUq);have HNm:=aA (HNm.out.under hUq);have HFt:=aA (HFt.out.under hUq);have HWb:=aA (HWb.out.under hUq);have HTs:=aA (HTs.out.ch (D:=λ_=>False) (Ch.of_under hUq));clear hU7 hUq;go_wp2_with fail;generalize w7.alloc (.cells #[.int .i64 0,.int .i64 0,.string ⟨#[]⟩] 133)=w8 at *;have g0:w8.cell? ⟨wb,0,none⟩=some (.int .i64 71):=HWb.out.cell 0;have g1:w8.cell? ⟨wb,1,none⟩=some (.int .i64 pp):=HWb.out.cell 1;have gl:=HWb.out.lt;have f0:w8.cell? ⟨w0.heap.size+1,0,none⟩=some (.int .i64 0):=HFt.out.cell 0;have f1:w8.cell? ⟨w0.heap.size+1,1,none⟩=some (.int .i64 0):=HFt.out.cell 1;have fl:=HFt.out.lt;have ff0:=HFt.out.free 0;have ff1:=HFt.out.free 1;have fne:w0.heap.size+1≠wb:=by omega
     go_wp2_with fail;go_region_held3 (λw'=>w'.cell? ⟨wb,0,none⟩=some (.int .i64 71)/\w'.cell? ⟨wb,1,none⟩=some (.int .i64 pp))
       (first
         | exact⟨g0,g1⟩
         | go_keep)
       (fail)
     rename_i hHeld;clear hHeld;go_wp2;have hlow:w0.heap.size<=w0.heap.size+1:=by omega
     have hFE:=(HFt.out.set 0 (.int .i64 71)).set 1 (.int .i64 pp);have hUE:=fA (nA (nA (HU4.out) hlow 0 (.int .i64 71)) hlow 1 (.int .i64 pp));have e0:((w8.setCell ⟨w0.heap.size+1,0,none⟩ (.int .i64 71)).setCell ⟨w0.heap.size+1,1,none⟩ (.int .i64 pp)).cell? ⟨w0.heap.size+1,0,none⟩=some (.int .i64 71):=hFE.cell 0;have e1:((w8.setCell ⟨w0.heap.size+1,0,none⟩ (.int .i64 71)).setCell ⟨w0.heap.size+1,1,none⟩ (.int .i64 pp)).cell? ⟨w0.heap.size+1,1,none⟩=some (.int .i64 pp):=hFE.cell 1;generalize (w8.setCell ⟨w0.heap.size+1,0,none⟩ (.int .i64 71)).setCell ⟨w0.heap.size+1,1,none⟩ (.int .i64 pp)=wE at *;refine bodyPost_ret (v:=.tuple #[.slice none 0 0,.agg #[.int .i64 71,.int .i64 pp]]) ((kC rfl _ _ _).trans ?_) rfl ⟨hUE,by rw[HErr.out]⟩;simp[go_sem,e0,e1]
   | some y =>
     obtain⟨kk,nn,parts⟩:=y;have hm:=uHA hf;have HSp:=aA (jLA hm l.length);have HSm:=aA (cLA hm);have HHf:=aA hf;have h20:=HSm.out.1;obtain⟨rs,hrs⟩:∃ z:ByteArray,z=⟨(oN parts).toArray⟩:=⟨_,rfl⟩;obtain⟨os,hos⟩:∃ z:ByteArray,z=⟨(pF (oN parts)).toArray⟩:=⟨_,rfl⟩;have hpd:∀ x:List UInt8,(⟨x.toArray⟩:ByteArray).data.toList=x:=λx=>by simp
     have HFo:RowKit.Hid (∀ w',Calls prog 65 #[.string hd.last.word] w' λe w=>e = .returned (.tuple #[.agg #[.int .i64 kk,.int .i64 nn,.string rs],.bool true])/\Under w' w):=aA (λw'=>by
       have:=HFo.out w';rw[dDA,hf]at this;rw[hrs];exact this)
     have HOd:RowKit.Hid (∀ w',Calls prog 69 #[.string rs] w' λe w=>e = .returned (.string os)/\w=w'):=aA (λw'=>by
       have:=pPA (w0:=w') rs;rw[hrs,hpd]at this;rw[hrs,hos];exact this)
     have HSd:RowKit.Hid (∀ w',Calls prog 68 #[.string os,.int .i64 (l.length:Int)] w' λe w=>e = .returned (match zG (pF (oN parts)) l.length with|none=>.tuple #[.string ⟨#[]⟩,.bool false]|some l=>.tuple #[.string ⟨l.toArray⟩,.bool true])/\w=w'):=aA (λw'=>by
       have:=zLA (w0:=w') os l.length (by rw[hos];simpa [ByteArray.size] using h20) (by omega);rw[hos,hpd]at this;rw[hos];exact this)
     have hmi:((l.length:Int)+1 - 1)=(l.length:Int):=by omega
     clear hm hf h20 hpd hz hrs hos;go_wp2_with fail;refine(HLh.out _ HUb.out).mono ?_;rintro e w6 ⟨rfl,hU6⟩;unfold sxV;have HU4:=aA (HU4.out.trans hU6);have HNm:=aA (HNm.out.under hU6);have HFt:=aA (HFt.out.under hU6);have HWb:=aA (HWb.out.under hU6);have HTs:=aA (HTs.out.ch (D:=λ_=>False) (Ch.of_under hU6));clear hU6;go_wp2_with fail;refine(HFo.out _).mono ?_;rintro e w7 ⟨rfl,hU7⟩;have hUq:=hU7.trans (bA (Qu w7) (.cells #[.int .i64 kk,.int .i64 nn,.string rs] 133));have HFm:=aA (zA w7 #[.int .i64 kk,.int .i64 nn,.string rs] 133);have HU4:=aA (HU4.out.trans hUq);have HNm:=aA (HNm.out.under hUq);have HFt:=aA (HFt.out.under hUq);have HWb:=aA (HWb.out.under hUq);have HTs:=aA (HTs.out.ch (D:=λ_=>False) (Ch.of_under hUq));clear hU7 hUq kh kh5 hbl5 hbl HFd HLh HUb HFo;have o0:(w7.alloc (.cells #[.int .i64 kk,.int .i64 nn,.string rs] 133)).cell? ⟨w7.heap.size,0,none⟩=some (.int .i64 kk):=HFm.out.cell 0;have o1:(w7.alloc (.cells #[.int .i64 kk,.int .i64 nn,.string rs] 133)).cell? ⟨w7.heap.size,1,none⟩=some (.int .i64 nn):=HFm.out.cell 1;have o2:(w7.alloc (.cells #[.int .i64 kk,.int .i64 nn,.string rs] 133)).cell? ⟨w7.heap.size,2,none⟩=some (.string rs):=HFm.out.cell 2;have ol:=HFm.out.lt;go_wp2_with fail;generalize w7.alloc (.cells #[.int .i64 kk,.int .i64 nn,.string rs] 133)=w8 at *;generalize w7.heap.size=fo at *;refine(HOd.out _).mono ?_;rintro e wx ⟨rfl,hwx⟩;subst wx;go_wp2_with fail;refine(HSd.out _).mono ?_;rintro e wx ⟨rfl,hwx⟩;subst wx;rcases HSp.out with⟨hsr,hne⟩|⟨lst,hsr,hle,hll2,hkd⟩
     . rw[hsr];have HErr:RowKit.Hid (jF cs ds pp (hd::l) st = .error (71,pp)):=aA (by rw[jF,HHf.out];simp only;rw[if_neg λh=>hne h.1]);clear hsr hne;have g0:w8.cell? ⟨wb,0,none⟩=some (.int .i64 71):=HWb.out.cell 0;have g1:w8.cell? ⟨wb,1,none⟩=some (.int .i64 pp):=HWb.out.cell 1;have gl:=HWb.out.lt;have f0:w8.cell? ⟨w0.heap.size+1,0,none⟩=some (.int .i64 0):=HFt.out.cell 0;have f1:w8.cell? ⟨w0.heap.size+1,1,none⟩=some (.int .i64 0):=HFt.out.cell 1;have fl:=HFt.out.lt;have ff0:=HFt.out.free 0;have ff1:=HFt.out.free 1;have fne:w0.heap.size+1≠wb:=by omega
       go_wp2_with fail;go_region_held3 (λw'=>w'.cell? ⟨wb,0,none⟩=some (.int .i64 71)/\w'.cell? ⟨wb,1,none⟩=some (.int .i64 pp))
         (first
           | exact⟨g0,g1⟩
           | go_keep)
         (fail)
       rename_i hHeld;clear hHeld;go_wp2;have hlow:w0.heap.size<=w0.heap.size+1:=by omega
       have hFE:=(HFt.out.set 0 (.int .i64 71)).set 1 (.int .i64 pp);have hUE:=fA (nA (nA (HU4.out) hlow 0 (.int .i64 71)) hlow 1 (.int .i64 pp));have e0:((w8.setCell ⟨w0.heap.size+1,0,none⟩ (.int .i64 71)).setCell ⟨w0.heap.size+1,1,none⟩ (.int .i64 pp)).cell? ⟨w0.heap.size+1,0,none⟩=some (.int .i64 71):=hFE.cell 0;have e1:((w8.setCell ⟨w0.heap.size+1,0,none⟩ (.int .i64 71)).setCell ⟨w0.heap.size+1,1,none⟩ (.int .i64 pp)).cell? ⟨w0.heap.size+1,1,none⟩=some (.int .i64 pp):=hFE.cell 1;generalize (w8.setCell ⟨w0.heap.size+1,0,none⟩ (.int .i64 71)).setCell ⟨w0.heap.size+1,1,none⟩ (.int .i64 pp)=wE at *;refine bodyPost_ret (v:=.tuple #[.slice none 0 0,.agg #[.int .i64 71,.int .i64 pp]]) ((kC rfl _ _ _).trans ?_) rfl ⟨hUE,by rw[HErr.out]⟩;simp[go_sem,e0,e1]
     . rw[hsr];have HKd:=aA (And.intro hle (And.intro hll2 hkd));have HNu:=aA (λh=>HSm.out.2.2.2 (rQA hsr h));have HBd:RowKit.Hid ((rA l).length<=20000/\st.length+(rA l).length<=50000):=aA (by
         have h1:=HNn.out.1;have h2:=HNn.out.2.2;have h3:(rA (hd::l)).length=(qA hd).length+(rA l).length:=by rw[rA,Qc]
         omega)
       clear hsr hle hkd hll2;simp only;by_cases h26:kk=26
       . subst h26;have hpt:parts=[100,110,42]:=HSm.out.2.1 rfl;have hge:3<=l.length+1:=by
          have h1:=HKd.out.1;rw[hpt]at h1;simp[yB]at h1;omega
         have hpl:parts.length=3:=by rw[hpt];rfl
         have HPl:=aA hpl;have hUN:Under w8 (w8.alloc (.cells #[.int .i64 26,.int .i64 nn,.int .i64 ((l.length:Int)+1 - 3),.string ⟨#[]⟩] 96)):=bA (Qu w8) _;by_cases hm:l.length+1 - 3<=6
         . have hM6:¬(6:Int) < (l.length:Int)+1 - 3:=by omega
           have HRs:RowKit.Hid (jF cs ds pp (hd::l) st=goS cs ds (fC false (yB parts l.length)) l ⟨26,nn,(l.length:Int)+1 - 3,⟨#[]⟩⟩ [] st []):=aA (by
             rw[jF,HHf.out];simp only;rw[if_pos ⟨HKd.out.1,λh=>by rw[HPl.out];exact hm⟩,if_pos (by first|trivial|simp),HPl.out,show((l.length+1 - 3:Nat):Int)=(l.length:Int)+1 - 3 by omega])
           clear hpt hge hpl hm hUN;go_wp2_with fail;rename_i K hK;have hUN:Under w8 (w8.alloc (.cells #[.int .i64 26,.int .i64 nn,.int .i64 ((l.length:Int)+1 - 3),.string ⟨#[]⟩] 96)):=bA (Qu w8) _;have hNb:BoxAt (w8.alloc (.cells #[.int .i64 26,.int .i64 nn,.int .i64 ((l.length:Int)+1 - 3),.string ⟨#[]⟩] 96)) w8.heap.size 96 (sQ ⟨26,nn,(l.length:Int)+1 - 3,⟨#[]⟩⟩):=zA w8 _ _;have hsz:(w8.alloc (.cells #[.int .i64 26,.int .i64 nn,.int .i64 ((l.length:Int)+1 - 3),.string ⟨#[]⟩] 96)).heap.size=w8.heap.size+1:=by rw[World.size_alloc]
           obtain⟨wN,hwN⟩:∃ z,z=w8.alloc (.cells #[.int .i64 26,.int .i64 nn,.int .i64 ((l.length:Int)+1 - 3),.string ⟨#[]⟩] 96):=⟨_,rfl⟩;rw[<- hwN]at hUN hNb hsz ⊢;clear hwN;rw[<- hsz];have HOk:=aA (bEA (c2:=c2) (x:=⟨26,nn,(l.length:Int)+1 - 3,⟨#[]⟩⟩) (R:=goS cs ds (fC false (yB parts l.length)) l ⟨26,nn,(l.length:Int)+1 - 3,⟨#[]⟩⟩ [] st []) HU4.out hUN hNb HNm.out HFt.out HFm.out HTs.out HTx.out hst'.2 HBd.out.1 HBd.out.2 hcl hdl HKd.out.2.1 (λh=>by first|exact HNu.out h|exact .inr rfl|(have:=HNu.out h;simp at this)));refine wp_mono (nAA _ HOk.out HIh.out _ _ ⟨[],⟨26,nn,(l.length:Int)+1 - 3,⟨#[]⟩⟩,[],_,_,_,fB (F:=fE w0.heap.size (w0.heap.size+1) fo w8.heap.size bv (.slice (some ⟨wN.heap.size,0,none⟩) 0 0) (.slice (some ⟨wN.heap.size+1,0,none⟩) 0 0) ⟨lst.toArray⟩ (some ⟨g,0,none⟩) (l.length+1) c2 0) (by rfl),vFA hNb rfl (by show goS cs ds (fC false (yB parts l.length)) l ⟨26,nn,(l.length:Int)+1 - 3,⟨#[]⟩⟩ [] st []=_;rw[HKd.out.2.2])⟩) ?_;rintro ex a' wr hE;rcases hE with⟨rfl,nms,x,t,ov,nv,J,rfl,hS⟩|⟨rfl,c,p,⟨J,rfl⟩,hR,hU,hB⟩
           . simp only[Exit.inBlock,if_pos,Exit.then];refine hK _ _ ?_;refine wp_mono (rIA _ HOk.out hS J) ?_;rintro ex a' w' ⟨rfl,v,⟨J',rfl⟩,hT,hU,hB⟩;exact lV hB ⟨hU,by rw[HRs.out,show goS cs ds (fC false (yB parts l.length)) l ⟨26,nn,(l.length:Int)+1 - 3,⟨#[]⟩⟩ [] st [] = .ok (t++[x]) from uOA HOk.out hS];exact⟨_,rfl,hT⟩⟩
           . simp only[Exit.inBlock,Exit.then];exact lV hB ⟨hU,by rw[HRs.out,show goS cs ds (fC false (yB parts l.length)) l ⟨26,nn,(l.length:Int)+1 - 3,⟨#[]⟩⟩ [] st [] = .error (c,p) from hR]⟩
         . have hM6:(6:Int) < (l.length:Int)+1 - 3:=by omega
           have HErr:RowKit.Hid (jF cs ds pp (hd::l) st = .error (71,pp)):=aA (by rw[jF,HHf.out];simp only;rw[if_neg λh=>by have:=h.2 (by first|trivial|simp);rw[HPl.out]at this;omega]);have HU4:=aA (HU4.out.trans hUN);have HNm:=aA (HNm.out.under hUN);have HFt:=aA (HFt.out.under hUN);have HWb:=aA (HWb.out.under hUN);have HTs:=aA (HTs.out.ch (D:=λ_=>False) (Ch.of_under hUN));clear hpt hge hpl hm hUN;go_wp2_with fail;generalize w8.alloc (.cells #[.int .i64 26,.int .i64 nn,.int .i64 ((l.length:Int)+1 - 3),.string ⟨#[]⟩] 96)=wN at *;have g0:wN.cell? ⟨wb,0,none⟩=some (.int .i64 71):=HWb.out.cell 0;have g1:wN.cell? ⟨wb,1,none⟩=some (.int .i64 pp):=HWb.out.cell 1;have gl:=HWb.out.lt;have f0:wN.cell? ⟨w0.heap.size+1,0,none⟩=some (.int .i64 0):=HFt.out.cell 0;have f1:wN.cell? ⟨w0.heap.size+1,1,none⟩=some (.int .i64 0):=HFt.out.cell 1;have fl:=HFt.out.lt;have ff0:=HFt.out.free 0;have ff1:=HFt.out.free 1;have fne:w0.heap.size+1≠wb:=by omega
           go_wp2_with fail;go_region_held3 (λw'=>w'.cell? ⟨wb,0,none⟩=some (.int .i64 71)/\w'.cell? ⟨wb,1,none⟩=some (.int .i64 pp))
             (first
               | exact⟨g0,g1⟩
               | go_keep)
             (fail)
           rename_i hHeld;clear hHeld;go_wp2;have hlow:w0.heap.size<=w0.heap.size+1:=by omega
           have hFE:=(HFt.out.set 0 (.int .i64 71)).set 1 (.int .i64 pp);have hUE:=fA (nA (nA (HU4.out) hlow 0 (.int .i64 71)) hlow 1 (.int .i64 pp));have e0:((wN.setCell ⟨w0.heap.size+1,0,none⟩ (.int .i64 71)).setCell ⟨w0.heap.size+1,1,none⟩ (.int .i64 pp)).cell? ⟨w0.heap.size+1,0,none⟩=some (.int .i64 71):=hFE.cell 0;have e1:((wN.setCell ⟨w0.heap.size+1,0,none⟩ (.int .i64 71)).setCell ⟨w0.heap.size+1,1,none⟩ (.int .i64 pp)).cell? ⟨w0.heap.size+1,1,none⟩=some (.int .i64 pp):=hFE.cell 1;generalize (wN.setCell ⟨w0.heap.size+1,0,none⟩ (.int .i64 71)).setCell ⟨w0.heap.size+1,1,none⟩ (.int .i64 pp)=wE at *;refine bodyPost_ret (v:=.tuple #[.slice none 0 0,.agg #[.int .i64 71,.int .i64 pp]]) ((kC rfl _ _ _).trans ?_) rfl ⟨hUE,by rw[HErr.out]⟩;simp[go_sem,e0,e1]
       by_cases h27:kk=27
       . subst h27;have hpt:parts=[100,118,46,42,46]:=HSm.out.2.2.1 rfl;have hge:5<=l.length+1:=by
          have h1:=HKd.out.1;rw[hpt]at h1;simp[yB]at h1;omega
         have hpl:parts.length=5:=by rw[hpt];rfl
         have HPl:=aA hpl;have hUN:Under w8 (w8.alloc (.cells #[.int .i64 27,.int .i64 nn,.int .i64 ((l.length:Int)+1 - 5),.string ⟨#[]⟩] 96)):=bA (Qu w8) _;by_cases hm:l.length+1 - 5<=6
         . have hM6:¬(6:Int) < (l.length:Int)+1 - 5:=by omega
           have HRs:RowKit.Hid (jF cs ds pp (hd::l) st=goS cs ds (fC false (yB parts l.length)) l ⟨27,nn,(l.length:Int)+1 - 5,⟨#[]⟩⟩ [] st []):=aA (by
             rw[jF,HHf.out];simp only;rw[if_pos ⟨HKd.out.1,λh=>by rw[HPl.out];exact hm⟩,if_pos (by first|trivial|simp),HPl.out,show((l.length+1 - 5:Nat):Int)=(l.length:Int)+1 - 5 by omega])
           clear hpt hge hpl hm hUN;go_wp2_with fail;rename_i K hK;have hUN:Under w8 (w8.alloc (.cells #[.int .i64 27,.int .i64 nn,.int .i64 ((l.length:Int)+1 - 5),.string ⟨#[]⟩] 96)):=bA (Qu w8) _;have hNb:BoxAt (w8.alloc (.cells #[.int .i64 27,.int .i64 nn,.int .i64 ((l.length:Int)+1 - 5),.string ⟨#[]⟩] 96)) w8.heap.size 96 (sQ ⟨27,nn,(l.length:Int)+1 - 5,⟨#[]⟩⟩):=zA w8 _ _;have hsz:(w8.alloc (.cells #[.int .i64 27,.int .i64 nn,.int .i64 ((l.length:Int)+1 - 5),.string ⟨#[]⟩] 96)).heap.size=w8.heap.size+1:=by rw[World.size_alloc]
           obtain⟨wN,hwN⟩:∃ z,z=w8.alloc (.cells #[.int .i64 27,.int .i64 nn,.int .i64 ((l.length:Int)+1 - 5),.string ⟨#[]⟩] 96):=⟨_,rfl⟩;rw[<- hwN]at hUN hNb hsz ⊢;clear hwN;rw[<- hsz];have HOk:=aA (bEA (c2:=c2) (x:=⟨27,nn,(l.length:Int)+1 - 5,⟨#[]⟩⟩) (R:=goS cs ds (fC false (yB parts l.length)) l ⟨27,nn,(l.length:Int)+1 - 5,⟨#[]⟩⟩ [] st []) HU4.out hUN hNb HNm.out HFt.out HFm.out HTs.out HTx.out hst'.2 HBd.out.1 HBd.out.2 hcl hdl HKd.out.2.1 (λh=>by first|exact HNu.out h|exact .inr rfl|(have:=HNu.out h;simp at this)));refine wp_mono (nAA _ HOk.out HIh.out _ _ ⟨[],⟨27,nn,(l.length:Int)+1 - 5,⟨#[]⟩⟩,[],_,_,_,fB (F:=fE w0.heap.size (w0.heap.size+1) fo w8.heap.size bv (.slice (some ⟨wN.heap.size,0,none⟩) 0 0) (.slice (some ⟨wN.heap.size+1,0,none⟩) 0 0) ⟨lst.toArray⟩ (some ⟨g,0,none⟩) (l.length+1) c2 0) (by rfl),vFA hNb rfl (by show goS cs ds (fC false (yB parts l.length)) l ⟨27,nn,(l.length:Int)+1 - 5,⟨#[]⟩⟩ [] st []=_;rw[HKd.out.2.2])⟩) ?_;rintro ex a' wr hE;rcases hE with⟨rfl,nms,x,t,ov,nv,J,rfl,hS⟩|⟨rfl,c,p,⟨J,rfl⟩,hR,hU,hB⟩
           . simp only[Exit.inBlock,if_pos,Exit.then];refine hK _ _ ?_;refine wp_mono (rIA _ HOk.out hS J) ?_;rintro ex a' w' ⟨rfl,v,⟨J',rfl⟩,hT,hU,hB⟩;exact lV hB ⟨hU,by rw[HRs.out,show goS cs ds (fC false (yB parts l.length)) l ⟨27,nn,(l.length:Int)+1 - 5,⟨#[]⟩⟩ [] st [] = .ok (t++[x]) from uOA HOk.out hS];exact⟨_,rfl,hT⟩⟩
           . simp only[Exit.inBlock,Exit.then];exact lV hB ⟨hU,by rw[HRs.out,show goS cs ds (fC false (yB parts l.length)) l ⟨27,nn,(l.length:Int)+1 - 5,⟨#[]⟩⟩ [] st [] = .error (c,p) from hR]⟩
         . have hM6:(6:Int) < (l.length:Int)+1 - 5:=by omega
           have HErr:RowKit.Hid (jF cs ds pp (hd::l) st = .error (71,pp)):=aA (by rw[jF,HHf.out];simp only;rw[if_neg λh=>by have:=h.2 (by first|trivial|simp);rw[HPl.out]at this;omega]);have HU4:=aA (HU4.out.trans hUN);have HNm:=aA (HNm.out.under hUN);have HFt:=aA (HFt.out.under hUN);have HWb:=aA (HWb.out.under hUN);have HTs:=aA (HTs.out.ch (D:=λ_=>False) (Ch.of_under hUN));clear hpt hge hpl hm hUN;go_wp2_with fail;generalize w8.alloc (.cells #[.int .i64 27,.int .i64 nn,.int .i64 ((l.length:Int)+1 - 5),.string ⟨#[]⟩] 96)=wN at *;have g0:wN.cell? ⟨wb,0,none⟩=some (.int .i64 71):=HWb.out.cell 0;have g1:wN.cell? ⟨wb,1,none⟩=some (.int .i64 pp):=HWb.out.cell 1;have gl:=HWb.out.lt;have f0:wN.cell? ⟨w0.heap.size+1,0,none⟩=some (.int .i64 0):=HFt.out.cell 0;have f1:wN.cell? ⟨w0.heap.size+1,1,none⟩=some (.int .i64 0):=HFt.out.cell 1;have fl:=HFt.out.lt;have ff0:=HFt.out.free 0;have ff1:=HFt.out.free 1;have fne:w0.heap.size+1≠wb:=by omega
           go_wp2_with fail;go_region_held3 (λw'=>w'.cell? ⟨wb,0,none⟩=some (.int .i64 71)/\w'.cell? ⟨wb,1,none⟩=some (.int .i64 pp))
             (first
               | exact⟨g0,g1⟩
               | go_keep)
             (fail)
           rename_i hHeld;clear hHeld;go_wp2;have hlow:w0.heap.size<=w0.heap.size+1:=by omega
           have hFE:=(HFt.out.set 0 (.int .i64 71)).set 1 (.int .i64 pp);have hUE:=fA (nA (nA (HU4.out) hlow 0 (.int .i64 71)) hlow 1 (.int .i64 pp));have e0:((wN.setCell ⟨w0.heap.size+1,0,none⟩ (.int .i64 71)).setCell ⟨w0.heap.size+1,1,none⟩ (.int .i64 pp)).cell? ⟨w0.heap.size+1,0,none⟩=some (.int .i64 71):=hFE.cell 0;have e1:((wN.setCell ⟨w0.heap.size+1,0,none⟩ (.int .i64 71)).setCell ⟨w0.heap.size+1,1,none⟩ (.int .i64 pp)).cell? ⟨w0.heap.size+1,1,none⟩=some (.int .i64 pp):=hFE.cell 1;generalize (wN.setCell ⟨w0.heap.size+1,0,none⟩ (.int .i64 71)).setCell ⟨w0.heap.size+1,1,none⟩ (.int .i64 pp)=wE at *;refine bodyPost_ret (v:=.tuple #[.slice none 0 0,.agg #[.int .i64 71,.int .i64 pp]]) ((kC rfl _ _ _).trans ?_) rfl ⟨hUE,by rw[HErr.out]⟩;simp[go_sem,e0,e1]
       have k26:(kk==26)=false:=by simpa using h26
       have k27:(kk==27)=false:=by simpa using h27
       have HRs:RowKit.Hid (jF cs ds pp (hd::l) st=goS cs ds (fC false (yB parts l.length)) l ⟨kk,nn,0,⟨#[]⟩⟩ [] st []):=aA (by rw[jF,HHf.out];simp only;rw[if_pos ⟨HKd.out.1,λh=>by omega⟩,if_neg (by omega)]);go_wp2_with fail;rename_i K hK;have hUN:Under w8 (w8.alloc (.cells #[.int .i64 kk,.int .i64 nn,.int .i64 0,.string ⟨#[]⟩] 96)):=bA (Qu w8) _;have hNb:BoxAt (w8.alloc (.cells #[.int .i64 kk,.int .i64 nn,.int .i64 0,.string ⟨#[]⟩] 96)) w8.heap.size 96 (sQ ⟨kk,nn,0,⟨#[]⟩⟩):=zA w8 _ _;have hsz:(w8.alloc (.cells #[.int .i64 kk,.int .i64 nn,.int .i64 0,.string ⟨#[]⟩] 96)).heap.size=w8.heap.size+1:=by rw[World.size_alloc]
       obtain⟨wN,hwN⟩:∃ z,z=w8.alloc (.cells #[.int .i64 kk,.int .i64 nn,.int .i64 0,.string ⟨#[]⟩] 96):=⟨_,rfl⟩;rw[<- hwN]at hUN hNb hsz ⊢;clear hwN;rw[<- hsz];have HOk:=aA (bEA (c2:=c2) (x:=⟨kk,nn,0,⟨#[]⟩⟩) (R:=goS cs ds (fC false (yB parts l.length)) l ⟨kk,nn,0,⟨#[]⟩⟩ [] st []) HU4.out hUN hNb HNm.out HFt.out HFm.out HTs.out HTx.out hst'.2 HBd.out.1 HBd.out.2 hcl hdl HKd.out.2.1 (λh=>by first|exact HNu.out h|exact .inr rfl|(have:=HNu.out h;simp at this)));refine wp_mono (nAA _ HOk.out HIh.out _ _ ⟨[],⟨kk,nn,0,⟨#[]⟩⟩,[],_,_,_,fB (F:=fE w0.heap.size (w0.heap.size+1) fo w8.heap.size bv (.slice (some ⟨wN.heap.size,0,none⟩) 0 0) (.slice (some ⟨wN.heap.size+1,0,none⟩) 0 0) ⟨lst.toArray⟩ (some ⟨g,0,none⟩) (l.length+1) c2 0) (by rfl),vFA hNb rfl (by show goS cs ds (fC false (yB parts l.length)) l ⟨kk,nn,0,⟨#[]⟩⟩ [] st []=_;rw[HKd.out.2.2])⟩) ?_;rintro ex a' wr hE;rcases hE with⟨rfl,nms,x,t,ov,nv,J,rfl,hS⟩|⟨rfl,c,p,⟨J,rfl⟩,hR,hU,hB⟩
       . simp only[Exit.inBlock,if_pos,Exit.then];refine hK _ _ ?_;refine wp_mono (rIA _ HOk.out hS J) ?_;rintro ex a' w' ⟨rfl,v,⟨J',rfl⟩,hT,hU,hB⟩;exact lV hB ⟨hU,by rw[HRs.out,show goS cs ds (fC false (yB parts l.length)) l ⟨kk,nn,0,⟨#[]⟩⟩ [] st [] = .ok (t++[x]) from uOA HOk.out hS];exact⟨_,rfl,hT⟩⟩
       . simp only[Exit.inBlock,Exit.then];exact lV hB ⟨hU,by rw[HRs.out,show goS cs ds (fC false (yB parts l.length)) l ⟨kk,nn,0,⟨#[]⟩⟩ [] st [] = .error (c,p) from hR]⟩
theorem sVA(T:ST):bNA T:=by
 induction T using ST.rec (motive_2:=λl=>∀ y∈l,bNA y) with
 | word p s=>exact lUA p s
 | list p l ih =>
   cases l with
   | nil=>exact dZA p
   | cons hd l=>exact eYA p hd l λy hy=>ih y (Qh _ hy)
 | nil=>rename_i y hy;cases hy
 | cons a l iha ihl =>
   rename_i y hy;rcases List.mem_cons.1 hy with rfl|hy
   . exact iha
   . exact ihl y hy
section
variable {w0 : World}
theorem tWA(T:ST){q:Option Addr}{cap:Nat}(cs ds:List ByteArray)(hok:okS T)(hn:(qA T).length<=20000)(hcap:(qA T).length<=cap)(hq:SxArg w0 q (qA T)){p1 p2:Option Addr}{d1 d2:Nat}(hcs:TextsV w0 (.slice p1 cs.length d1) cs)(hds:TextsV w0 (.slice p2 ds.length d2) ds)(hcn:cs.length<=1000000)(hdn:ds.length<=1000000) :
 Calls prog 40 #[.agg #[.slice p1 cs.length d1,.slice p2 ds.length d2],.slice q (qA T).length cap] w0 (TermOwn w0 (oF cs ds T)):=by
 have HU0:=aA (bA (Qu w0) (.cells #[.slice p1 cs.length d1,.slice p2 ds.length d2] 91));have HB0:=aA (zA w0 #[.slice p1 cs.length d1,.slice p2 ds.length d2] 91);have HI:=aA (qN (w0:=w0.alloc (.cells #[.slice p1 cs.length d1,.slice p2 ds.length d2] 91)) (cap:=cap) (p:=q) (qA T) (by omega) hcap (hq.under HU0.out));have hit:qC (qA T)=some [qA T]:=by
  have:=gF (ts:=[T]) ⟨hok,trivial⟩
  simpa [rA] using this
 rw[hit]at HI;have HLen:=aA (λt (ht:pG cs ds T [] = .ok t)=>And.intro (aP T _ _ ht) (wCA T _ _ ht));have HT:=aA (λw1 (hU:Under w0 w1)=>sVA T w1 q cap p1 p2 d1 d2 (.slice none 0 0) [] cs ds hok hn hcap (hq.under hU) (hcs.under hU) (hds.under hU) hcn hdn (TextsV.nil _) (by simp;omega));have HL:=aA (λw1 (hU:Under w0 w1)=>fI (w0:=w1) T (q:=q) (cap:=cap) (by omega) (hq.under hU));have HFl:=aA (And.intro hn hcap);have HD:RowKit.Hid (oF cs ds T=match pG cs ds T [] with|.error x=>.error x|.ok t=>if bF t=0 then .ok t else .error (bF t,T.last.pos)):=aA rfl;generalize oF cs ds T=TS at *;clear hq hit hn hcap;go_enter func40,ntmps40;go_wp2_with fail;refine HI.out.mono ?_;rintro e w1 ⟨hU1,g,c2,vs,rfl,h1,h2⟩;have HU1:=aA (HU0.out.trans hU1);have hb1:=HB0.out.under hU1;have e0:w1.cell? ⟨w0.heap.size,0,none⟩=some (.slice p1 cs.length d1):=hb1.cell 0;have e1:w1.cell? ⟨w0.heap.size,1,none⟩=some (.slice p2 ds.length d2):=hb1.cell 1;have el:=hb1.lt;have h11:([qA T]:List (List Sx)).length=1:=rfl;rw[h11];clear hU1 h1 h2 HI hb1 h11;go_wp2_with fail;refine(HT.out _ HU1.out).mono ?_;rintro e w3 ⟨hU3,hR⟩;have HU3:=aA (HU1.out.trans hU3);clear hU3 e0 e1 el;rcases hs:pG cs ds T [] with⟨ec,ep⟩|t
 . have HE:RowKit.Hid (TS = .error (ec,ep)):=aA (by rw[HD.out,hs]);rw[hs]at hR;replace hR:e = .returned (.tuple #[.slice none 0 0,.agg #[.int .i64 ec,.int .i64 ep]]):=hR;subst hR;have hc0:=nV _ _ _ _ hs;have HU4:=aA (HU3.out.trans (bA (Qu w3) (.cells #[.int .i64 ec,.int .i64 ep] 110)));have hG:=zA w3 #[.int .i64 ec,.int .i64 ep] 110;have g0:(w3.alloc (.cells #[.int .i64 ec,.int .i64 ep] 110)).cell? ⟨w3.heap.size,0,none⟩=some (.int .i64 ec):=hG.cell 0;have g1:(w3.alloc (.cells #[.int .i64 ec,.int .i64 ep] 110)).cell? ⟨w3.heap.size,1,none⟩=some (.int .i64 ep):=hG.cell 1;have gl:=hG.lt;have gg:=And.intro g0 g1;clear hG;go_wp2_with fail;go_region_held3 (λw'=>w'.cell? ⟨w3.heap.size,0,none⟩=some (.int .i64 ec)/\w'.cell? ⟨w3.heap.size,1,none⟩=some (.int .i64 ep))
     (first
       | exact gg
       | go_keep)
     (fail)
   rename_i hHeld;clear hHeld gg g0 g1;go_wp2;go_ret3;rw[HE.out];exact⟨HU4.out.trans (fA (Qu _)),rfl⟩
 . rw[hs]at hR;replace hR:∃ v,e = .returned (.tuple #[v,.agg #[.int .i64 0,.int .i64 0]])/\OwnTm 96 w3 v t:=hR;obtain⟨v,rfl,hT⟩:=hR;obtain⟨L1,L2⟩:=HLen.out t hs;have HU4:=aA (bA (Qu w3) (.cells #[.int .i64 0,.int .i64 0] 110));have HTo:=aA (hT.under HU4.out);have HTv:=aA (TermV.mono _ _ _ _ HU4.out hT.val);have HCk:=aA (zQA (w0:=w3.alloc (.cells #[.int .i64 0,.int .i64 0] 110)) t (by have:=HFl.out.1;simp only[maxLen];omega) HTv.out);have hG:=zA w3 #[.int .i64 0,.int .i64 0] 110;have g0:(w3.alloc (.cells #[.int .i64 0,.int .i64 0] 110)).cell? ⟨w3.heap.size,0,none⟩=some (.int .i64 0):=hG.cell 0;have g1:(w3.alloc (.cells #[.int .i64 0,.int .i64 0] 110)).cell? ⟨w3.heap.size,1,none⟩=some (.int .i64 0):=hG.cell 1;have gl:=hG.lt;obtain⟨qo,co,rfl,_⟩:=hT.val;clear hG L1 L2;go_wp2_with fail;refine HCk.out.mono ?_;rintro e w4 ⟨rfl,hU4⟩;have HT4:=aA (HTo.out.under hU4);have HU4:=aA (HU3.out.trans (HU4.out.trans hU4));clear hU4 g0 g1 gl
   cases hc:(bF t != 0)
   . have hc0:bF t=0:=by simpa using hc
     have HE:RowKit.Hid (TS = .ok t):=aA (by rw[HD.out,hs];simp only;rw[if_pos hc0]);clear hc0;go_wp2;go_ret3;rw[HE.out];exact⟨HU4.out,_,rfl,HT4.out⟩
   . have hc0:¬ bF t=0:=by simpa using hc
     have HE:RowKit.Hid (TS = .error (bF t,T.last.pos)):=aA (by rw[HD.out,hs];simp only;rw[if_neg hc0]);have HFd:=λ(a b:Int) (s:ByteArray) (w:World)=>(show(Instr.field 29 (.agg #[.int .i64 a,.int .i64 b,.string s]) 1).run prog w = .ok (.int .i64 b) w by kernel_rfl)
     have HLt:=aA (HL.out _ HU4.out);unfold sxV at HLt;clear hc0;go_wp2_with fail;refine HLt.out.mono ?_;rintro e w5 ⟨rfl,hU5⟩;have HU5:=aA (HU4.out.trans hU5);clear hU5;go_wp2;go_ret3;rw[HE.out];exact⟨HU5.out,rfl⟩
end
end Go.Proofs.YtpkaiodmbicjiaaGreatDoor
