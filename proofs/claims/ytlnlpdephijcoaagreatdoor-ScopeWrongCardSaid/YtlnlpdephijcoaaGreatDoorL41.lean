/- Part 41 of what the proof rests on. -/
import Derived.Deep.RegionHeld3
import Derived.Deep.LoopGhost
import Derived.Test.YtlnlpdephijcoaaGreatDoorL15
import Derived.Test.YtlnlpdephijcoaaGreatDoorL38
import Derived.Test.YtlnlpdephijcoaaGreatDoorL39
import Derived.Test.YtlnlpdephijcoaaGreatDoorL40
set_option linter.unusedSimpArgs false
set_option linter.unusedVariables false
set_option maxRecDepth 100000
set_option maxHeartbeats 4000000
namespace Go.Proofs.YtlnlpdephijcoaaGreatDoor
open Go.Lx Go.RowKit
theorem uXA{cs ds:List ByteArray}{c:UInt8}{ks:List UInt8}{y:ST}{ys:List ST}{x:Nd}{nms st:List ByteArray}{t:List Nd}(h1:c≠118)(h2:c≠86)(h3:c≠87)(h4:c≠110)(h5:c≠100) :
 goS cs ds (tC (c::ks)) (y::ys) x nms st t=match aG cs ds y (if c==58 then st else st++nms) with | .ok t'=>goS cs ds (tC ks) ys x (if c==58 then nms else []) st (t++t') | .error e=>.error e:=by
 have:tC (c::ks) = .te (c==58)::tC ks:=by simp[tC,h1,h2,h3,h4,h5]
 rw[this,goS]
 cases aG cs ds y (if c==58 then st else st++nms)<;>rfl
theorem nT{c d:UInt8}{n:Int}(h:c≠d)(hd:(d.toNat:Int)=n):((c.toNat:Int)==n)=false:=beq_false_of_ne fun e=>h (UInt8.toNat_inj.1 (by omega))
theorem aDA(ss:List ByteArray):∀ u∈ss.map Value.string,u.oneCell'=true:=fun u hu=>by
 obtain⟨s,_,rfl⟩:=List.mem_map.1 hu;rfl
theorem UgS.rowKept{F:UgFix}{k:Nat}{nms:List ByteArray}{x:Nd}{t:List Nd}{ov nv:Value}{w w':World}(h:UgS F k nms x t ov nv w)(hc:Ch (fun i=>ov.ownBlock=some i) w w'):w'.ownsRow F.wl.heap.size 9 1 nv nms.length (nms.map .string):=by
 refine bQ h.row hc (fun g hg hd=>?_);rcases own_ne h.row h.out (by decide) with e | e
 · rw[e]at hg;cases hg
 · exact e (hg.trans hd.symm)
theorem xIA(t:List Nd):∀ u∈lC t,u.oneCell'=true:=by
 induction t with
 | nil=>intro u hu;simp[lC]at hu
 | cons x t ih =>
   intro u hu;simp only[lC,List.mem_cons]at hu;rcases hu with rfl | rfl | rfl | rfl | hu
   · rfl
   · rfl
   · rfl
   · rfl
   · exact ih u hu
theorem UgS.term {F : UgFix} {k : Nat} {nms nms' : List ByteArray} {x : Nd} {t t1 : List Nd} {ov nv nv' v' : Value} {w w' : World} (hF : UgOk F) (hk : k < F.ts.length) (h : UgS F k nms x t ov nv w) (hc : Ch (fun i => ov.ownBlock = some i) w w')
    (hown:w'.ownsRow F.wl.heap.size 76 4 v' (t.length+t1.length) (lC t++lC t1)) (hrow:w'.ownsRow F.wl.heap.size 9 1 nv' nms'.length (nms'.map .string)) (hn:nms'.length≤k+1) (ht:(fA (F.ts.take k)).length+t1.length≤(fA (F.ts.take (k+1))).length) (hs:F.R=goS F.cs F.ds (tC (F.parts.drop (k+1))) (F.ts.drop (k+1)) x nms' F.st (t++t1)):UgS F (k+1) nms' x (t++t1) v' nv' w':=by
  have hlow:∀ i,ov.ownBlock=some i→F.wl.heap.size≤i:=fun i hi=>(iC h.out hi).1
  refine⟨h.ch.trans hc (fun i hi hd=>by have:=hlow i hd;omega),mI h.nd hc (fun hd=>by have:=hlow _ hd;have:=hF.nlt;omega),h.xk,by rw[List.length_append,vT];exact hown,hrow,hs,hn,?_⟩;rw[List.length_append];have:=h.tlen;omega
theorem y2A(F:UgFix)(hF:UgOk F){k:Nat}(hk:k < F.ts.length){nms:List ByteArray}{x:Nd}{t:List Nd}{ov nv:Value}{w:World}{c0:UInt8}(hc:F.parts[k]? = some c0)(g1:c0≠118)(g2:c0≠86)(g3:c0≠87)(g4:c0≠110)(g5:c0≠100)(ih:∀ y∈F.ts,cLA y)(h:UgS F k nms x t ov nv w)(J:Nat→Value) :
 ugRound.wp Tryz.prog (Exit.then (fT F (k+1)) (nGA F)) ⟨uD F.na F.fb F.fo F.nb F.bv ov nv ⟨F.parts.toArray⟩ F.q2 (F.ts.length+1) F.c2 k J,[]⟩ w:=by
 have hc':(F.parts[k]'(by rw[hF.plen];exact hk))=c0:=by
  rw[List.getElem?_eq_getElem (by rw[hF.plen];exact hk)]at hc;exact Option.some.inj hc
 clear hc;obtain⟨i0,hi,hz0,hz1,hz2⟩:=info_parts Tryz.infoStrZ;obtain⟨b,off,hq2,hbl,hnC,hat⟩:=hF.arg (by simp);obtain⟨qi,ci,ckl,hci,hsxl,haw⟩:=hat (k+1) F.ts[k] (by rw[List.getElem?_cons_succ,List.getElem?_eq_getElem hk]);have hb:b < w.heap.size:=Nat.lt_of_lt_of_le hbl h.ch.size;have ck:=(iJ h.ch hbl hnC (off+(k+1))).trans ckl;have hsx:=sK hsxl h.ch haw;clear ckl hsxl;have hyl:(uA F.ts[k]).length≤20000:=Nat.le_trans (qH (List.getElem_mem hk)) hF.len;have hpk:k < F.parts.length:=by rw[hF.plen];exact hk
 have hps:k < (⟨F.parts.toArray⟩:ByteArray).size:=by simpa [ByteArray.size] using hpk
 have hpc:(⟨F.parts.toArray⟩:ByteArray)[k]'hps=F.parts[k]:=rfl;have hsay:=h.say;rw[List.drop_eq_getElem_cons hk,List.drop_eq_getElem_cons hpk]at hsay;have HLa:=Lib.hid (fun w' (hU:Under w w')=>gI (w0:=w') F.ts[k] (q:=qi) (cap:=ci) (by omega) (hsx.under hU));have HBo:=Lib.hid (vR (w0:=w) F.ts[k] (q:=qi) (cap:=ci) (by omega) hsx);have HTk:=Lib.hid (show fA (F.ts.take (k+1))=fA (F.ts.take k)++uA F.ts[k] by rw[List.take_succ_eq_append_getElem hk,zD];simp[fA]);have HY:=Lib.hid (show F.ts[k]∈F.ts from List.getElem_mem hk);have HSy:=Lib.hid hsay;have HSx:=Lib.hid hsx;have H:=Lib.hid h;have hn0:(F.ts.length:Int)≤20000:=by have:=kH F.ts;have:=hF.len;omega
 have hk0:(0:Int)≤(k:Int):=by omega
 have hkn:(k:Int) < (F.ts.length:Int):=by omega
 have HKn:=Lib.hid hk;have HFt:=Lib.hid (mI hF.fault h.ch (fun e=>hF.node.elim fun _ hx=>eG hF.fault hx (by decide) e));clear hat hsx haw hsay h;generalize F.ts[k]=y at *;generalize F.parts[k]=c at *;obtain⟨ps,hps,hpc,HPs⟩:∃ ps:ByteArray,∃ hps:k < ps.size,ps[k]'hps=c∧RowKit.Hid (ps=(⟨F.parts.toArray⟩:ByteArray)):=⟨_,hps,hpc,Lib.hid rfl⟩;rw[← HPs.out];have hpsn:=Lib.hid (show ps.size=F.ts.length by rw[HPs.out,← hF.plen];simp[ByteArray.size]);have hkps:(k:Int) < (ps.size:Int):=by have:=hpsn.out;omega
 unfold ugRound aT dW;simp only[Tryz.f32,Option.getD_some,rA,dA,bC];unfold uD;rw[hq2];obtain⟨j0,hj,hy0,hy1,hy2⟩:=info_parts Tryz.infoNode8;subst hc';rw[uXA g1 g2 g3 g4 g5]at HSy;have nb1:(((ps[k]'hps).toNat:Int)==118)=false:=by rw[hpc];exact nT g1 rfl
 have nb2:(((ps[k]'hps).toNat:Int)==86)=false:=by rw[hpc];exact nT g2 rfl
 have nb3:(((ps[k]'hps).toNat:Int)==87)=false:=by rw[hpc];exact nT g3 rfl
 have nb4:(((ps[k]'hps).toNat:Int)==110)=false:=by rw[hpc];exact nT g4 rfl
 have nb5:(((ps[k]'hps).toNat:Int)==100)=false:=by rw[hpc];exact nT g5 rfl
 have HWt:=Lib.hid (fun w'=>vNA (w0:=w') ps k hps (by have:=hpsn.out;omega));rw[hpc]at HWt;clear g1 g2 g3 g4 g5 hpc;have HI:=Lib.hid (ih y HY.out)
 cases hw:(c==58)
 · rw [hw] at HWt; obtain ⟨pn, cn, hnv, hcn, hpn, hrn⟩ := TextsV.of_own H.out.row; obtain ⟨pb, cb, hbv, hcb, hpb, hrb⟩ := hF.bound; rw [hbv]; have HW0 := Lib.hid (kE hF.und H.out.ch (fun b e => by rw [e]; exact hF.nlo)); have HRb := Lib.hid (hrb.under HW0.out); have hmx1 : 0 + F.st.length ≤ maxLen := by have := hF.stl; simp only [maxLen]; omega
   have hby1:(0+F.st.length) * 16≤140737488355328:=by have:=hF.stl;omega
   have hwl:=H.out.ch.size;go_wp2_with (at_builtin;refine kF rfl _ _ 22 rfl w.heap.size 9 i0 _ 1 16 Tryz.underlying22 hi hz0 hz1 hz2 rfl (by decide) _ _ _ rfl (wI w w.heap.size _ _ (Nat.le_refl _)) pb F.st.length cb (F.st.map .string) rfl (by simp) hcb hpb (HRb.out.under (aA (Under.refl _) _)) (aDA _) hmx1 hby1 (by rw[World.size_alloc];omega) ?_);intro v1 w2 hown1 hgrow1;have HUs:=Lib.hid (bB (aA (Under.refl w) (.cells #[] 9)) hgrow1 (fun g e=>by simp[Value.ownBlock]at e;omega));have HO1:=Lib.hid hown1;clear hown1 hgrow1 hrb;go_wp2_with fail;refine(HWt.out _).mono ?_;rintro e w2 ⟨rfl,rfl⟩;have hmx2:F.st.length+nms.length≤maxLen:=by
    have:=hF.stl;have:=H.out.nlen;simp only[maxLen];omega
   have hby2:(F.st.length+nms.length) * 16≤140737488355328:=by
    have:=hF.stl;have:=H.out.nlen;omega
   have HRn := Lib.hid hrn; clear hrn; go_wp2_with (at_builtin; refine kF rfl _ _ 22 rfl w.heap.size 9 i0 _ 1 16 Tryz.underlying22 hi hz0 hz1 hz2 rfl (by decide) _ _ _ rfl HO1.out pn nms.length cn (nms.map .string) rfl (by simp) hcn hpn (HRn.out.under HUs.out) (aDA _) hmx2 hby2 HUs.out.size ?_); intro v2 w4 hown2 hgrow2; have HU4 := Lib.hid (bB HUs.out hgrow2 (fun g e => (iC HO1.out e).1)); have HO2 : RowKit.Hid (w4.ownsRow w.heap.size 9 1 v2 (F.st ++ nms).length ((F.st ++ nms).map .string)) := Lib.hid (by rw [List.length_append, List.map_append]; exact hown2); clear hown2 hgrow2; have HRw := Lib.hid (wI w4 F.wl.heap.size 9 1 (Nat.le_trans H.out.ch.size HU4.out.size)); obtain ⟨p1, d1, hcv, hc1, hc2, hc3⟩ := hF.csT; obtain ⟨p2, d2, hdv, hd1, hd2, hd3⟩ := hF.dsT; have hle1 := uI (k + 1) F.ts; rw [HTk.out, List.length_append] at hle1; have hle2 := kH (F.ts.take k); rw [List.length_take, Nat.min_eq_left (Nat.le_of_lt HKn.out)] at hle2; have HBd := Lib.hid (show F.st.length + nms.length + (uA y).length ≤ 50000 by
     have:=hF.stl;have:=H.out.nlen;omega)
   have HWs:=Lib.hid (HW0.out.trans ((aA HU4.out (.cells #[] 9))));have HCa:=HI.out ((w4.alloc (.cells #[] 9))) qi ci p1 p2 d1 d2 (v2) ((F.st++nms)) F.cs F.ds (jEA.1 hF.ok y HY.out) hyl hci (HSx.out.under ((aA HU4.out (.cells #[] 9)))) (hcv▸hF.csT.under HWs.out) (hdv▸hF.dsT.under HWs.out) hF.csl hF.dsl ((TextsV.of_own (HO2.out.alloc _))) ((by have:=HBd.out;rw[List.length_append];omega));rw[← hcv,← hdv]at HCa;have HCa:=Lib.hid HCa;have HNb:=Lib.hid ((mI hF.names H.out.ch (fun e=>hF.node.elim fun _ hx=>eG hF.names hx (by decide) e)).under ((aA HU4.out (.cells #[] 9))));have a0:((w4.alloc (.cells #[] 9))).cell? ⟨F.na,0,none⟩=some F.cv:=HNb.out.cell 0;have a1:((w4.alloc (.cells #[] 9))).cell? ⟨F.na,1,none⟩=some F.dv:=HNb.out.cell 1;have al:=HNb.out.lt;clear hcv hc1 hc2 hc3 hdv hd1 hd2 hd3 hle1 hle2 HI;go_wp2_with fail;refine HCa.out.mono ?_;rintro e w3 ⟨hU3,hres⟩;have HU3:=Lib.hid (Under.trans ((aA HU4.out (.cells #[] 9))) hU3);have HU3a:=Lib.hid hU3;have HW3:=Lib.hid (HWs.out.trans hU3);have HF3:=Lib.hid (HFt.out.under HU3.out);rcases hR0:aG F.cs F.ds y ((F.st++nms)) with⟨c1,p1⟩ | t1
   · rw [hR0] at hres; replace hres : e = .returned (.tuple #[.slice none 0 0, .agg #[.int .i64 c1, .int .i64 p1]]) := hres; subst hres; have hc1 := vU _ _ _ _ hR0; clear hU3 HCa; have HErr : RowKit.Hid (F.R = .error (c1, p1)) := Lib.hid (by rw [HSy.out]; simp [hw, hR0]); go_wp2_with fail; have hG := xA w3 #[.int .i64 c1, .int .i64 p1] 70; have HF4 := Lib.hid (HF3.out.under (aA (Under.refl w3) (.cells #[.int .i64 c1, .int .i64 p1] 70))); have HW4 := Lib.hid (HW3.out.trans (aA (Under.refl w3) (.cells #[.int .i64 c1, .int .i64 p1] 70))); have g0 : (w3.alloc (.cells #[.int .i64 c1, .int .i64 p1] 70)).cell? ⟨w3.heap.size, 0, none⟩ = some (.int .i64 c1) := hG.cell 0; have g1 : (w3.alloc (.cells #[.int .i64 c1, .int .i64 p1] 70)).cell? ⟨w3.heap.size, 1, none⟩ = some (.int .i64 p1) := hG.cell 1; have gl := hG.lt; have flt := HF3.out.lt; have fne : F.fb ≠ w3.heap.size := by omega
     generalize w3.alloc (.cells #[.int .i64 c1, .int .i64 p1] 70) = w4 at *; have f0 : w4.cell? ⟨F.fb, 0, none⟩ = some (.int .i64 0) := HF4.out.cell 0; have f1 : w4.cell? ⟨F.fb, 1, none⟩ = some (.int .i64 0) := HF4.out.cell 1; have fl := HF4.out.lt; have ff0 := HF4.out.free 0; have ff1 := HF4.out.free 1; clear hG; go_region_held3 (fun w' => w'.cell? ⟨w3.heap.size, 0, none⟩ = some (.int .i64 c1) ∧ w'.cell? ⟨w3.heap.size, 1, none⟩ = some (.int .i64 p1))
       (first
         | exact⟨g0,g1⟩
         | go_keep)
       (fail)
     rename_i hHeld;clear hHeld;go_wp2;exact .inr ⟨rfl,c1,p1,⟨_,fB (F:=lL F.fb (.slice none 0 0)) (by rfl)⟩,HErr.out,bA (qA (qA HW4.out hF.flo _ _) hF.flo _ _),((HF4.out.set 0 _).set 1 _).drew⟩
   · rw [hR0] at hres; replace hres : ∃ v, e = .returned (.tuple #[v, .agg #[.int .i64 0, .int .i64 0]]) ∧ TermV w3 v t1 := hres; obtain ⟨v3, rfl, hT⟩ := hres; have hl1 := pM _ _ _ hR0; obtain ⟨pt, ct, rfl, hct, hpt, hrt⟩ := hT; clear hU3 HCa; have HRt := Lib.hid hrt; have hle0 : (fA (F.ts.take k)).length ≤ 20000 := Nat.le_trans (uI k F.ts) hF.len; have htl := H.out.tlen; have hmx3 : t.length + t1.length ≤ maxLen := by
      simp only[maxLen];omega
     have hby3:(t.length+t1.length) * 40≤140737488355328:=by
      omega
     go_wp2_with (at_builtin;refine kF rfl _ _ 30 rfl F.wl.heap.size 76 j0 _ 4 40 Tryz.underlying30 hj hy0 hy1 hy2 rfl (by decide) _ _ _ rfl ((yB H.out.out HU3.out).alloc _) pt t1.length ct (lC t1) rfl (uAA t1) hct hpt (HRt.out.under (aA (Under.refl _) _)) (xIA t1) hmx3 hby3 (by have:=H.out.ch.size;have:=HU3.out.size;simp;omega) ?_);intro v5 w5 hown5 hgrow5;have HOw:=Lib.hid hown5;have HCh:=Lib.hid ((Ch.of_under (C:=fun i=>ov.ownBlock=some i) (aA HU3.out (.cells #[.int .i64 0,.int .i64 0] 70))).grown hgrow5 (fun g e _=>e));have HCx:=Lib.hid ((Ch.of_under (C:=fun i=>ov.ownBlock=some i) (aA HU3a.out (.cells #[.int .i64 0,.int .i64 0] 70))).grown hgrow5 (fun g e _=>e));clear hown5 hgrow5;go_wp2;refine⟨[],x,t++t1,v5,(.slice (some ⟨w4.heap.size,0,none⟩) 0 0),nA (F:=uD F.na F.fb F.fo F.nb F.bv v5 ((.slice (some ⟨w4.heap.size,0,none⟩) 0 0)) ⟨F.parts.toArray⟩ F.q2 (F.ts.length+1) F.c2 (k+1)) (by rw[hq2,hbv,← HPs.out];rfl) ?_⟩;exact UgS.term hF HKn.out H.out HCh.out HOw.out ((bQ HRw.out HCx.out (fun g hg hd=>by have h1:=(iC H.out.out hd).2;have h2:=HU4.out.size;simp[Value.ownBlock]at hg;omega))) ((Nat.zero_le _)) (by rw[HTk.out,List.length_append];omega) (by rw[HSy.out];simp[hw,hR0])
 · rw [hw] at HWt; obtain ⟨pb, cb, hbv, hcb, hpb, hrb⟩ := hF.bound; rw [hbv]; have HW0 := Lib.hid (kE hF.und H.out.ch (fun b e => by rw [e]; exact hF.nlo)); have HRb := Lib.hid (hrb.under HW0.out); have hmx1 : 0 + F.st.length ≤ maxLen := by have := hF.stl; simp only [maxLen]; omega
   have hby1:(0+F.st.length) * 16≤140737488355328:=by have:=hF.stl;omega
   have hwl := H.out.ch.size; go_wp2_with (at_builtin; refine kF rfl _ _ 22 rfl w.heap.size 9 i0 _ 1 16 Tryz.underlying22 hi hz0 hz1 hz2 rfl (by decide) _ _ _ rfl (wI w w.heap.size _ _ (Nat.le_refl _)) pb F.st.length cb (F.st.map .string) rfl (by simp) hcb hpb (HRb.out.under (aA (Under.refl _) _)) (aDA _) hmx1 hby1 (by rw [World.size_alloc]; omega) ?_); intro v1 w2 hown1 hgrow1; have HUs := Lib.hid (bB (aA (Under.refl w) (.cells #[] 9)) hgrow1 (fun g e => by simp [Value.ownBlock] at e; omega)); have HO1 := Lib.hid hown1; clear hown1 hgrow1 hrb; go_wp2_with fail; refine (HWt.out _).mono ?_; rintro e w2 ⟨rfl, rfl⟩; obtain ⟨p1, d1, hcv, hc1, hc2, hc3⟩ := hF.csT; obtain ⟨p2, d2, hdv, hd1, hd2, hd3⟩ := hF.dsT; have hle1 := uI (k + 1) F.ts; rw [HTk.out, List.length_append] at hle1; have hle2 := kH (F.ts.take k); rw [List.length_take, Nat.min_eq_left (Nat.le_of_lt HKn.out)] at hle2; have HBd := Lib.hid (show F.st.length + nms.length + (uA y).length ≤ 50000 by
     have:=hF.stl;have:=H.out.nlen;omega)
   have HWs:=Lib.hid (HW0.out.trans (HUs.out));have HCa:=HI.out (w2) qi ci p1 p2 d1 d2 (v1) (F.st) F.cs F.ds (jEA.1 hF.ok y HY.out) hyl hci (HSx.out.under (HUs.out)) (hcv▸hF.csT.under HWs.out) (hdv▸hF.dsT.under HWs.out) hF.csl hF.dsl ((TextsV.of_own HO1.out)) ((by have:=HBd.out;omega));rw[← hcv,← hdv]at HCa;have HCa:=Lib.hid HCa;have HNb:=Lib.hid ((mI hF.names H.out.ch (fun e=>hF.node.elim fun _ hx=>eG hF.names hx (by decide) e)).under (HUs.out));have a0:(w2).cell? ⟨F.na,0,none⟩=some F.cv:=HNb.out.cell 0;have a1:(w2).cell? ⟨F.na,1,none⟩=some F.dv:=HNb.out.cell 1;have al:=HNb.out.lt;clear hcv hc1 hc2 hc3 hdv hd1 hd2 hd3 hle1 hle2 HI;go_wp2_with fail;refine HCa.out.mono ?_;rintro e w3 ⟨hU3,hres⟩;have HU3:=Lib.hid (Under.trans (HUs.out) hU3);have HU3a:=Lib.hid hU3;have HW3:=Lib.hid (HWs.out.trans hU3);have HF3:=Lib.hid (HFt.out.under HU3.out);rcases hR0:aG F.cs F.ds y (F.st) with⟨c1,p1⟩ | t1
   · rw [hR0] at hres; replace hres : e = .returned (.tuple #[.slice none 0 0, .agg #[.int .i64 c1, .int .i64 p1]]) := hres; subst hres; have hc1 := vU _ _ _ _ hR0; clear hU3 HCa; have HErr : RowKit.Hid (F.R = .error (c1, p1)) := Lib.hid (by rw [HSy.out]; simp [hw, hR0]); go_wp2_with fail; have hG := xA w3 #[.int .i64 c1, .int .i64 p1] 70; have HF4 := Lib.hid (HF3.out.under (aA (Under.refl w3) (.cells #[.int .i64 c1, .int .i64 p1] 70))); have HW4 := Lib.hid (HW3.out.trans (aA (Under.refl w3) (.cells #[.int .i64 c1, .int .i64 p1] 70))); have g0 : (w3.alloc (.cells #[.int .i64 c1, .int .i64 p1] 70)).cell? ⟨w3.heap.size, 0, none⟩ = some (.int .i64 c1) := hG.cell 0; have g1 : (w3.alloc (.cells #[.int .i64 c1, .int .i64 p1] 70)).cell? ⟨w3.heap.size, 1, none⟩ = some (.int .i64 p1) := hG.cell 1; have gl := hG.lt; have flt := HF3.out.lt; have fne : F.fb ≠ w3.heap.size := by omega
     generalize w3.alloc (.cells #[.int .i64 c1, .int .i64 p1] 70) = w4 at *; have f0 : w4.cell? ⟨F.fb, 0, none⟩ = some (.int .i64 0) := HF4.out.cell 0; have f1 : w4.cell? ⟨F.fb, 1, none⟩ = some (.int .i64 0) := HF4.out.cell 1; have fl := HF4.out.lt; have ff0 := HF4.out.free 0; have ff1 := HF4.out.free 1; clear hG; go_region_held3 (fun w' => w'.cell? ⟨w3.heap.size, 0, none⟩ = some (.int .i64 c1) ∧ w'.cell? ⟨w3.heap.size, 1, none⟩ = some (.int .i64 p1))
       (first
         | exact⟨g0,g1⟩
         | go_keep)
       (fail)
     rename_i hHeld;clear hHeld;go_wp2;exact .inr ⟨rfl,c1,p1,⟨_,fB (F:=lL F.fb (.slice none 0 0)) (by rfl)⟩,HErr.out,bA (qA (qA HW4.out hF.flo _ _) hF.flo _ _),((HF4.out.set 0 _).set 1 _).drew⟩
   · rw [hR0] at hres; replace hres : ∃ v, e = .returned (.tuple #[v, .agg #[.int .i64 0, .int .i64 0]]) ∧ TermV w3 v t1 := hres; obtain ⟨v3, rfl, hT⟩ := hres; have hl1 := pM _ _ _ hR0; obtain ⟨pt, ct, rfl, hct, hpt, hrt⟩ := hT; clear hU3 HCa; have HRt := Lib.hid hrt; have hle0 : (fA (F.ts.take k)).length ≤ 20000 := Nat.le_trans (uI k F.ts) hF.len; have htl := H.out.tlen; have hmx3 : t.length + t1.length ≤ maxLen := by
      simp only[maxLen];omega
     have hby3:(t.length+t1.length) * 40≤140737488355328:=by
      omega
     go_wp2_with (at_builtin;refine kF rfl _ _ 30 rfl F.wl.heap.size 76 j0 _ 4 40 Tryz.underlying30 hj hy0 hy1 hy2 rfl (by decide) _ _ _ rfl ((yB H.out.out HU3.out).alloc _) pt t1.length ct (lC t1) rfl (uAA t1) hct hpt (HRt.out.under (aA (Under.refl _) _)) (xIA t1) hmx3 hby3 (by have:=H.out.ch.size;have:=HU3.out.size;simp;omega) ?_);intro v5 w5 hown5 hgrow5;have HOw:=Lib.hid hown5;have HCh:=Lib.hid ((Ch.of_under (C:=fun i=>ov.ownBlock=some i) (aA HU3.out (.cells #[.int .i64 0,.int .i64 0] 70))).grown hgrow5 (fun g e _=>e));have HCx:=Lib.hid ((Ch.of_under (C:=fun i=>ov.ownBlock=some i) (aA HU3a.out (.cells #[.int .i64 0,.int .i64 0] 70))).grown hgrow5 (fun g e _=>e));clear hown5 hgrow5;go_wp2;refine⟨nms,x,t++t1,v5,nv,nA (F:=uD F.na F.fb F.fo F.nb F.bv v5 (nv) ⟨F.parts.toArray⟩ F.q2 (F.ts.length+1) F.c2 (k+1)) (by rw[hq2,hbv,← HPs.out];rfl) ?_⟩;exact UgS.term hF HKn.out H.out HCh.out HOw.out (H.out.rowKept HCh.out) (Nat.le_succ_of_le H.out.nlen) (by rw[HTk.out,List.length_append];omega) (by rw[HSy.out];simp[hw,hR0])
def o6A(na fb fo nb:Nat)(bv ov nv:Value)(ps:ByteArray)(q2:Option Addr)(n c2:Nat)(w:World)(e:Exit)(a':Act)(w':World):Prop :=
 e = .exit 0∧∃ J,a'=⟨uD na fb fo nb bv ov nv ps q2 (n+1) c2 n J,[]⟩∧w'=w
theorem m2A(na fb fo nb:Nat)(bv ov nv:Value)(ps:ByteArray)(q2:Option Addr)(n c2:Nat)(hn:ps.size=n)(J:Nat→Value)(w:World) :
 ugRound.wp Tryz.prog (Exit.then (fun _ _=>False) (o6A na fb fo nb bv ov nv ps q2 n c2 w)) ⟨uD na fb fo nb bv ov nv ps q2 (n+1) c2 n J,[]⟩ w:=by
 have hlt:¬((n:Int) < (ps.size:Int)):=by omega
 unfold ugRound aT dW;simp only[Tryz.f32,Option.getD_some,rA,dA,bC];unfold uD;go_wp2;exact⟨rfl,nA (F:=uD na fb fo nb bv ov nv ps q2 (n+1) c2 n) (by rfl) rfl⟩
theorem tZ(F:UgFix)(hF:UgOk F)(ih:∀ y∈F.ts,cLA y)(a:Act)(w:World)(h0:fT F 0 a w):(Code.loop ugRound).wp Tryz.prog (nGA F) a w:=by
 refine wp_loop_ghost (fun m a w=>∃ k,m+k=F.ts.length∧fT F k a w) F.ts.length ⟨0,rfl,h0⟩ ?_;clear h0;rintro m a w ⟨k,hmk,nms,x,t,ov,nv,J,rfl,h⟩;by_cases hk:k < F.ts.length
 · have hpk : k < F.parts.length := by rw [hF.plen]; exact hk
   have hc:F.parts[k]? = some F.parts[k]:=List.getElem?_eq_getElem hpk;have key:ugRound.wp Tryz.prog (Exit.then (fT F (k+1)) (nGA F)) ⟨uD F.na F.fb F.fo F.nb F.bv ov nv ⟨F.parts.toArray⟩ F.q2 (F.ts.length+1) F.c2 k J,[]⟩ w:=by
    by_cases g1:F.parts[k]=118
    · exact xJA F hF hk hc (.inl g1) h J
    by_cases g2:F.parts[k]=86
    · exact xJA F hF hk hc (.inr (.inl g2)) h J
    by_cases g3:F.parts[k]=87
    · exact xJA F hF hk hc (.inr (.inr g3)) h J
    by_cases g4:F.parts[k]=110
    · exact z7A F hF hk (by rw[hc,g4]) h J
    by_cases g5:F.parts[k]=100
    · exact e4A F hF hk (by rw[hc,g5]) h J
    exact y2A F hF hk hc g1 g2 g3 g4 g5 ih h J
   refine wp_mono key ?_;rintro e a' w' h
   cases e with
   | normal=>exact⟨m - 1,by omega,k+1,by omega,h⟩
   | _=>exact h
 · obtain rfl : k = F.ts.length := by have := kH F.ts; omega
   refine wp_mono (m2A F.na F.fb F.fo F.nb F.bv ov nv ⟨F.parts.toArray⟩ F.q2 F.ts.length F.c2 (by rw[← hF.plen];simp[ByteArray.size]) J w) ?_;rintro e a' w' h'
   cases e with
   | normal=>exact h'.elim
   | _ =>
     obtain⟨h1,J',rfl,rfl⟩:=h';exact .inl ⟨h1,nms,x,t,ov,nv,J',rfl,h⟩
theorem uPA{w:World}{base:Nat}{e:TypeId}{v:Value}{t:List Nd}(h:w.ownsRow base e 4 v t.length (lC t)):TermV w v t:=by
 have hc:∀ q n c,v = .slice q n c→q=none→c=0:=by
  intro q n c e hq;subst hq;rcases h.2 with⟨rfl,_⟩ | ⟨g,cap,cur,e',_⟩
  · cases e;rfl
  · rw[e']at e;cases e
 obtain⟨q,c,rfl,h1,h2⟩:=RowArg.of_own h;exact⟨q,c,rfl,h1,hc q _ c rfl,h2⟩
def b7A(F:UgFix)(t:List Nd)(ex:Exit)(a':Act)(w':World):Prop :=
 ex = .ret∧∃ v,(∃ J,a'=⟨lL F.fb v J,[]⟩)∧TermV w' v t∧Under F.w0 w'∧BoxAt w' F.fb 70 #[.int .i64 0,.int .i64 0]
theorem oJA(F:UgFix)(hF:UgOk F){nms:List ByteArray}{x:Nd}{t:List Nd}{ov nv:Value}{w:World}(h:UgS F F.ts.length nms x t ov nv w)(J:Nat→Value) :
 ugLate.wp Tryz.prog (b7A F (t++[x])) ⟨uD F.na F.fb F.fo F.nb F.bv ov nv ⟨F.parts.toArray⟩ F.q2 (F.ts.length+1) F.c2 F.ts.length J,[]⟩ w:=by
 obtain⟨j0,hj,hy0,hy1,hy2⟩:=info_parts Tryz.infoNode8;have H:=Lib.hid h;obtain⟨xk,xn,xm,xs⟩:=x;have y0:w.cell? ⟨F.nb,0,none⟩=some (.int .i64 xk):=H.out.nd.cell 0;have y1:w.cell? ⟨F.nb,1,none⟩=some (.int .i64 xn):=H.out.nd.cell 1;have y2:w.cell? ⟨F.nb,2,none⟩=some (.int .i64 xm):=H.out.nd.cell 2;have y3:w.cell? ⟨F.nb,3,none⟩=some (.string xs):=H.out.nd.cell 3;have yl:=H.out.nd.lt;have htl:=H.out.tlen;have hle:=hF.len;rw[List.take_length]at htl;have hmx:t.length+1≤maxLen:=by simp only[maxLen];omega
 have hby:(t.length+1) * 40≤140737488355328:=by omega
 have HFt:=Lib.hid (mI hF.fault H.out.ch (fun e=>hF.node.elim fun _ hx=>eG hF.fault hx (by decide) e));have HW0:=Lib.hid (kE hF.und H.out.ch (fun b e=>by rw[e];exact hF.nlo));have hfw:=hF.fault.lt;clear h;unfold ugLate aT dW;simp only[Tryz.f32,Option.getD_some,rA,dA,bC];unfold uD;go_wp2_with (at_builtin;refine kF rfl _ _ 30 rfl F.wl.heap.size 76 j0 _ 4 40 Tryz.underlying30 hj hy0 hy1 hy2 rfl (by decide) _ _ _ rfl (H.out.out.alloc _) (some ⟨w.heap.size,0,none⟩) 1 1 (lC [⟨xk,xn,xm,xs⟩]) rfl rfl (Nat.le_refl _) (fun e=>by cases e) (vBA w (lC [⟨xk,xn,xm,xs⟩]) _ _) (xIA _) hmx hby (by have:=H.out.ch.size;rw[World.size_alloc];omega) ?_);intro v5 w5 hown5 hgrow5;have HCh:=Lib.hid ((Ch.of_under (C:=fun i=>ov.ownBlock=some i) (aA (Under.refl w) (.cells #[.int .i64 xk,.int .i64 xn,.int .i64 xm,.string xs] 76))).grown hgrow5 (fun g e _=>e));have HW5:=Lib.hid (kE HW0.out HCh.out (fun b e=>by have:=(iC H.out.out e).1;have:=hF.und.size;omega));have HF5:=Lib.hid (mI HFt.out HCh.out (fun e=>by have:=(iC H.out.out e).1;omega));have f0:w5.cell? ⟨F.fb,0,none⟩=some (.int .i64 0):=HF5.out.cell 0;have f1:w5.cell? ⟨F.fb,1,none⟩=some (.int .i64 0):=HF5.out.cell 1;have fl:=HF5.out.lt;have ff0:=HF5.out.free 0;have ff1:=HF5.out.free 1;have HO:=Lib.hid (show w5.ownsRow F.wl.heap.size 76 4 v5 (t++[(⟨xk,xn,xm,xs⟩:Nd)]).length (lC (t++[(⟨xk,xn,xm,xs⟩:Nd)])) by rw[List.length_append,vT];exact hown5);clear hown5 hgrow5;go_wp2;refine⟨rfl,v5,⟨_,fB (F:=lL F.fb v5) (by rfl)⟩,?_,qA (qA HW5.out hF.flo _ _) hF.flo _ _,(HF5.out.set 0 _).set 1 _⟩;have hcs:Ch (fun i=>i=F.fb) w5 ((w5.setCell ⟨F.fb,0,none⟩ (.int .i64 0)).setCell ⟨F.fb,1,none⟩ (.int .i64 0)):=((Ch.refl (C:=fun i=>i=F.fb) w5).set (g:=F.fb) (fun _=>rfl) 0 _).set (g:=F.fb) (fun _=>rfl) 1 _;exact uPA (bQ HO.out hcs (fun g hg e=>by have:=(iC HO.out hg).1;omega))
theorem vDA{w:World}{g:Nat}{t:TypeId}{cs:Array Value}(h:BoxAt w g t cs)(j:Nat)(u:Value)(hu:cs.setIfInBounds j u=cs):Under w (w.setCell ⟨g,j,none⟩ u) :=
 ⟨rfl, rfl, by rw [pJ]; exact Nat.le_refl _, fun b hb => by
   by_cases e:b=g
   · subst e;have h2:=h.set j u;rw[hu]at h2;exact Eq.trans h2 (Eq.symm h)
   · exact heap_set w _ u b e⟩
theorem qKA{w:World}{q:Option Addr}{a b:List Sx}(h:SxArg w q (a++b)):SxArg w q a:=fun hne=>by
 obtain⟨g,off,e,hg,hat⟩:=h (by simp[hne]);exact⟨g,off,e,hg,fun k t hk=>hat k t (by rw[List.getElem?_append_left (List.getElem?_eq_some_iff.1 hk).1];exact hk)⟩
theorem oWA{w0 w:World}{base g c:Nat}{vs:List Value}{l:List ST}{t:TypeId}(hU:Under w0 w)(h1:w.ownsRow base t 1 (.slice (some ⟨g,0,none⟩) (l.map uA).length c) (l.map uA).length vs)(h2:SxVals w0 vs (l.map uA)):l.length≤c∧TsArg (fun _=>False) w (some ⟨g,0,none⟩) l:=by
 rw[List.length_map]at h1;obtain⟨q,c',e,hc,_⟩:=RowArg.of_own h1
 cases e;refine⟨hc,fun hne=>⟨g,0,rfl,(iC h1 rfl).2,fun h=>h,fun i T hi=>?_⟩⟩;obtain⟨qi,ci,hv,h3,h4⟩:=h2.at (i:=i) (l:=uA T) (by rw[List.getElem?_map,hi];rfl);exact⟨qi,ci,by rw[Nat.zero_add];exact kD h1 rfl hv,h3,h4.under hU,fun _ _ _ _ h=>h⟩
theorem tTA(pp:Int)(s:ByteArray):cLA (.word pp s):=by
 rintro w0 q cap p1 p2 d1 d2 bv st cs ds hok hn hcap hq hcs hds hcl hdl hb hbl;have HLa:=Lib.hid (fun w' (hU:Under w0 w')=>gI (w0:=w') (.word pp s) (q:=q) (cap:=cap) (by omega) (hq.under hU));go_enter Tryz.func32,Tryz.ntmps32;go_wp2_with fail;have HU0:=Lib.hid (show Under w0 ((w0.alloc (.cells #[.slice p1 cs.length d1,.slice p2 ds.length d2] 35)).alloc (.cells #[.int .i64 0,.int .i64 0] 70)) from aA (aA (Under.refl _) _) _);have HNa:=Lib.hid ((xA w0 #[.slice p1 cs.length d1,.slice p2 ds.length d2] 35).alloc (.cells #[.int .i64 0,.int .i64 0] 70));have hFa:=xA (w0.alloc (.cells #[.slice p1 cs.length d1,.slice p2 ds.length d2] 35)) #[.int .i64 0,.int .i64 0] 70;rw[World.size_alloc]at hFa;have HFa:=Lib.hid hFa;clear hFa;refine(HLa.out _ HU0.out).mono ?_;rintro e w1 ⟨rfl,hU1⟩;have HU1:=Lib.hid (HU0.out.trans (aA hU1 (.cells #[.int .i64 0,.int .i64 pp,.string s] 73)));have HN1:=Lib.hid (HNa.out.under (aA hU1 (.cells #[.int .i64 0,.int .i64 pp,.string s] 73)));have HF1:=Lib.hid (HFa.out.under (aA hU1 (.cells #[.int .i64 0,.int .i64 pp,.string s] 73)));have HX1:=Lib.hid (xA w1 #[.int .i64 0,.int .i64 pp,.string s] 73);clear hU1 HU0 HNa HFa HLa;have hs1:s.toList.isEmpty=false:=by
  have hz:s.size≠0:=hok;rw[ByteArray.toList_eq]
  cases h:s.data.toList with
  | nil=>exact absurd (by rw[ByteArray.size,← Array.length_toList,h];rfl) hz
  | cons a l=>rfl
 simp only[ST.last,sxV];have n0:(w1.alloc (.cells #[.int .i64 0,.int .i64 pp,.string s] 73)).cell? ⟨w0.heap.size,0,none⟩=some (.slice p1 cs.length d1):=HN1.out.cell 0;have n1:(w1.alloc (.cells #[.int .i64 0,.int .i64 pp,.string s] 73)).cell? ⟨w0.heap.size,1,none⟩=some (.slice p2 ds.length d2):=HN1.out.cell 1;have nl:=HN1.out.lt;have x0:(w1.alloc (.cells #[.int .i64 0,.int .i64 pp,.string s] 73)).cell? ⟨w1.heap.size,0,none⟩=some (.int .i64 0):=HX1.out.cell 0;have x1:(w1.alloc (.cells #[.int .i64 0,.int .i64 pp,.string s] 73)).cell? ⟨w1.heap.size,1,none⟩=some (.int .i64 pp):=HX1.out.cell 1;have x2:(w1.alloc (.cells #[.int .i64 0,.int .i64 pp,.string s] 73)).cell? ⟨w1.heap.size,2,none⟩=some (.string s):=HX1.out.cell 2;have xl:=HX1.out.lt;go_wp2_with fail;have HWd:=Lib.hid (gTA ⟨0,pp,s⟩ cs st (p1:=p1) (d1:=d1) (dv:=.slice p2 ds.length d2) (bv:=bv) (hcs.under HU1.out) hcl (hb.under HU1.out) (by omega));refine HWd.out.mono ?_;rintro e w2 ⟨hU2,hR⟩;have HU2:=Lib.hid (HU1.out.trans hU2);have HF2:=Lib.hid (HF1.out.under hU2);have f0:w2.cell? ⟨w0.heap.size+1,0,none⟩=some (.int .i64 0):=HF2.out.cell 0;have f1:w2.cell? ⟨w0.heap.size+1,1,none⟩=some (.int .i64 0):=HF2.out.cell 1;have fl:=HF2.out.lt;have ff0:=HF2.out.free 0;have ff1:=HF2.out.free 1;have hlow:w0.heap.size≤w0.heap.size+1:=by omega
 clear hU2 HWd n0 n1 nl x0 x1 x2 xl;simp only at hR;rcases hw:yF cs pp s st with⟨c,p⟩ | t
 · rw[hw]at hR;replace hR:e = .returned (.tuple #[.slice none 0 0,.agg #[.int .i64 c,.int .i64 p]]):=hR;subst hR;go_wp2;have hFE:=(HF2.out.set 0 (.int .i64 c)).set 1 (.int .i64 p);have hUE:=qA (qA HU2.out hlow 0 (.int .i64 c)) hlow 1 (.int .i64 p);have e0:((w2.setCell ⟨w0.heap.size+1,0,none⟩ (.int .i64 c)).setCell ⟨w0.heap.size+1,1,none⟩ (.int .i64 p)).cell? ⟨w0.heap.size+1,0,none⟩=some (.int .i64 c):=hFE.cell 0;have e1:((w2.setCell ⟨w0.heap.size+1,0,none⟩ (.int .i64 c)).setCell ⟨w0.heap.size+1,1,none⟩ (.int .i64 p)).cell? ⟨w0.heap.size+1,1,none⟩=some (.int .i64 p):=hFE.cell 1;generalize (w2.setCell ⟨w0.heap.size+1,0,none⟩ (.int .i64 c)).setCell ⟨w0.heap.size+1,1,none⟩ (.int .i64 p)=wE at *;refine bodyPost_ret (v:=.tuple #[.slice none 0 0,.agg #[.int .i64 c,.int .i64 p]]) ((dC rfl _ _ _).trans ?_) rfl ⟨hUE,by rw[show aG cs ds (.word pp s) st = .error (c,p) from by rw[aG];exact hw]⟩;simp[go_sem,e0,e1]
 · rw[hw]at hR;replace hR:∃ v,e = .returned (.tuple #[v,.agg #[.int .i64 0,.int .i64 0]])∧TermV w2 v t:=hR;obtain⟨v,rfl,hT⟩:=hR;obtain⟨pt,ct,rfl,hct,hpt,hrt⟩:=hT;have HT:=Lib.hid (show TermV w2 (.slice pt t.length ct) t from⟨pt,ct,rfl,hct,hpt,hrt⟩);clear hct hpt hrt;go_wp2;have hFA:=HF2.out.set 0 (.int .i64 0);have hFE:=hFA.set 1 (.int .i64 0);have hUE:=qA (qA HU2.out hlow 0 (.int .i64 0)) hlow 1 (.int .i64 0);have hTE:=TermV.mono _ _ _ _ ((vDA HF2.out 0 (.int .i64 0) rfl).trans (vDA hFA 1 (.int .i64 0) rfl)) HT.out;have e0:((w2.setCell ⟨w0.heap.size+1,0,none⟩ (.int .i64 0)).setCell ⟨w0.heap.size+1,1,none⟩ (.int .i64 0)).cell? ⟨w0.heap.size+1,0,none⟩=some (.int .i64 0):=hFE.cell 0;have e1:((w2.setCell ⟨w0.heap.size+1,0,none⟩ (.int .i64 0)).setCell ⟨w0.heap.size+1,1,none⟩ (.int .i64 0)).cell? ⟨w0.heap.size+1,1,none⟩=some (.int .i64 0):=hFE.cell 1;generalize (w2.setCell ⟨w0.heap.size+1,0,none⟩ (.int .i64 0)).setCell ⟨w0.heap.size+1,1,none⟩ (.int .i64 0)=wE at *;refine bodyPost_ret (v:=.tuple #[.slice pt t.length ct,.agg #[.int .i64 0,.int .i64 0]]) ((dC rfl _ _ _).trans ?_) rfl ⟨hUE,by rw[show aG cs ds (.word pp s) st = .ok t from by rw[aG];exact hw];exact⟨_,rfl,hTE⟩⟩;simp[go_sem,e0,e1]
end Go.Proofs.YtlnlpdephijcoaaGreatDoor
