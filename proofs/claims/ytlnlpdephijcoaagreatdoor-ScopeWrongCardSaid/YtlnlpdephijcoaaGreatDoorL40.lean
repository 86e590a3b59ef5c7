/- Part 40 of what the proof rests on. -/
import Derived.Deep.RegionHeld3
import Derived.Test.YtlnlpdephijcoaaGreatDoorL39
set_option linter.unusedSimpArgs false
set_option linter.unusedVariables false
set_option maxRecDepth 100000
set_option maxHeartbeats 4000000
namespace Go.Proofs.YtlnlpdephijcoaaGreatDoor
open Go.Lx Go.RowKit
theorem mZA{cs ds:List ByteArray}{c:UInt8}{ks:List UInt8}{y:ST}{ys:List ST}{x:Nd}{nms st:List ByteArray}{t:List Nd}(hc:c=118∨c=86∨c=87) :
 goS cs ds (tC (c::ks)) (y::ys) x nms st t=if mH y.last.word then goS cs ds (tC ks) ys x (nms++[y.last.word]) st t else .error (71,y.last.pos):=by
 have:tC (c::ks) = .nm::tC ks:=by rcases hc with rfl | rfl | rfl<;>simp[tC]
 rw[this,goS]
theorem xJA(F:UgFix)(hF:UgOk F){k:Nat}(hk:k < F.ts.length){nms:List ByteArray}{x:Nd}{t:List Nd}{ov nv:Value}{w:World}{c0:UInt8}(hc:F.parts[k]? = some c0)(hcc:c0=118∨c0=86∨c0=87)(h:UgS F k nms x t ov nv w)(J:Nat→Value) :
 ugRound.wp Tryz.prog (Exit.then (fT F (k+1)) (nGA F)) ⟨uD F.na F.fb F.fo F.nb F.bv ov nv ⟨F.parts.toArray⟩ F.q2 (F.ts.length+1) F.c2 k J,[]⟩ w:=by
 have hc':(F.parts[k]'(by rw[hF.plen];exact hk))=c0:=by
  rw[List.getElem?_eq_getElem (by rw[hF.plen];exact hk)]at hc;exact Option.some.inj hc
 clear hc;obtain⟨i0,hi,hz0,hz1,hz2⟩:=info_parts Tryz.infoStrZ;obtain⟨b,off,hq2,hbl,hnC,hat⟩:=hF.arg (by simp);obtain⟨qi,ci,ckl,hci,hsxl,haw⟩:=hat (k+1) F.ts[k] (by rw[List.getElem?_cons_succ,List.getElem?_eq_getElem hk]);have hb:b < w.heap.size:=Nat.lt_of_lt_of_le hbl h.ch.size;have ck:=(iJ h.ch hbl hnC (off+(k+1))).trans ckl;have hsx:=sK hsxl h.ch haw;clear ckl hsxl;have hyl:(uA F.ts[k]).length≤20000:=Nat.le_trans (qH (List.getElem_mem hk)) hF.len;have hpk:k < F.parts.length:=by rw[hF.plen];exact hk
 have hps:k < (⟨F.parts.toArray⟩:ByteArray).size:=by simpa [ByteArray.size] using hpk
 have hpc:(⟨F.parts.toArray⟩:ByteArray)[k]'hps=F.parts[k]:=rfl;have hsay:=h.say;rw[List.drop_eq_getElem_cons hk,List.drop_eq_getElem_cons hpk]at hsay;have HLa:=Lib.hid (fun w' (hU:Under w w')=>gI (w0:=w') F.ts[k] (q:=qi) (cap:=ci) (by omega) (hsx.under hU));have HBo:=Lib.hid (vR (w0:=w) F.ts[k] (q:=qi) (cap:=ci) (by omega) hsx);have HTk:=Lib.hid (show fA (F.ts.take (k+1))=fA (F.ts.take k)++uA F.ts[k] by rw[List.take_succ_eq_append_getElem hk,zD];simp[fA]);have HY:=Lib.hid (show F.ts[k]∈F.ts from List.getElem_mem hk);have HSy:=Lib.hid hsay;have HSx:=Lib.hid hsx;have H:=Lib.hid h;have hn0:(F.ts.length:Int)≤20000:=by have:=kH F.ts;have:=hF.len;omega
 have hk0:(0:Int)≤(k:Int):=by omega
 have hkn:(k:Int) < (F.ts.length:Int):=by omega
 have HKn:=Lib.hid hk;have HFt:=Lib.hid (mI hF.fault h.ch (fun e=>hF.node.elim fun _ hx=>eG hF.fault hx (by decide) e));clear hat hsx haw hsay h;generalize F.ts[k]=y at *;generalize F.parts[k]=c at *;obtain⟨ps,hps,hpc,HPs⟩:∃ ps:ByteArray,∃ hps:k < ps.size,ps[k]'hps=c∧RowKit.Hid (ps=(⟨F.parts.toArray⟩:ByteArray)):=⟨_,hps,hpc,Lib.hid rfl⟩;rw[← HPs.out];have hpsn:=Lib.hid (show ps.size=F.ts.length by rw[HPs.out,← hF.plen];simp[ByteArray.size]);have hkps:(k:Int) < (ps.size:Int):=by have:=hpsn.out;omega
 unfold ugRound aT dW;simp only[Tryz.f32,Option.getD_some,rA,dA,bC];unfold uD;rw[hq2];subst hc';rw[mZA hcc]at HSy
 cases hnm:mH y.last.word
 · have HErr : RowKit.Hid (F.R = .error (71, y.last.pos)) := Lib.hid (by rw [HSy.out, hnm]; rfl); rw [hnm] at HBo; rcases hcc with rfl | rfl | rfl
   · have hb : ((ps[k]'hps).toNat : Int) = 118 := by rw [hpc]; rfl
     go_wp2_with fail;refine HBo.out.mono ?_;rintro e w1 ⟨rfl,hU1⟩;have HU1:=Lib.hid hU1;clear hU1;go_wp2_with fail;refine(HLa.out _ (HU1.out)).mono ?_;rintro e w9 ⟨rfl,hU9⟩;have HU9:=Lib.hid (Under.trans (HU1.out) hU9);have HF9:=Lib.hid (HFt.out.under HU9.out);have HW9:=Lib.hid ((kE hF.und H.out.ch (fun b e=>by rw[e];exact hF.nlo)).trans HU9.out);have f0:w9.cell? ⟨F.fb,0,none⟩=some (.int .i64 0):=HF9.out.cell 0;have f1:w9.cell? ⟨F.fb,1,none⟩=some (.int .i64 0):=HF9.out.cell 1;have fl:=HF9.out.lt;have ff0:=HF9.out.free 0;have ff1:=HF9.out.free 1;unfold sxV;have HFd:=fun(w:World)=>(show(Instr.field 73 (.agg #[.int .i64 y.last.many,.int .i64 y.last.pos,.string y.last.word]) 1).run Tryz.prog w = .ok (.int .i64 y.last.pos) w by kernel_rfl)
     clear hU9;go_wp2;refine .inr ⟨rfl,71,y.last.pos,⟨_,fB (F:=lL F.fb (.slice none 0 0)) (by rfl)⟩,HErr.out,qA (qA HW9.out hF.flo _ _) hF.flo _ _,?_⟩;exact(HF9.out.set 0 _).set 1 _
   · have hb : ((ps[k]'hps).toNat : Int) = 86 := by rw [hpc]; rfl
     go_wp2_with fail;refine HBo.out.mono ?_;rintro e w1 ⟨rfl,hU1⟩;have HU1:=Lib.hid hU1;clear hU1;go_wp2_with fail;refine(HLa.out _ (HU1.out)).mono ?_;rintro e w9 ⟨rfl,hU9⟩;have HU9:=Lib.hid (Under.trans (HU1.out) hU9);have HF9:=Lib.hid (HFt.out.under HU9.out);have HW9:=Lib.hid ((kE hF.und H.out.ch (fun b e=>by rw[e];exact hF.nlo)).trans HU9.out);have f0:w9.cell? ⟨F.fb,0,none⟩=some (.int .i64 0):=HF9.out.cell 0;have f1:w9.cell? ⟨F.fb,1,none⟩=some (.int .i64 0):=HF9.out.cell 1;have fl:=HF9.out.lt;have ff0:=HF9.out.free 0;have ff1:=HF9.out.free 1;unfold sxV;have HFd:=fun(w:World)=>(show(Instr.field 73 (.agg #[.int .i64 y.last.many,.int .i64 y.last.pos,.string y.last.word]) 1).run Tryz.prog w = .ok (.int .i64 y.last.pos) w by kernel_rfl)
     clear hU9;go_wp2;refine .inr ⟨rfl,71,y.last.pos,⟨_,fB (F:=lL F.fb (.slice none 0 0)) (by rfl)⟩,HErr.out,qA (qA HW9.out hF.flo _ _) hF.flo _ _,?_⟩;exact(HF9.out.set 0 _).set 1 _
   · have hb : ((ps[k]'hps).toNat : Int) = 87 := by rw [hpc]; rfl
     go_wp2_with fail;refine HBo.out.mono ?_;rintro e w1 ⟨rfl,hU1⟩;have HU1:=Lib.hid hU1;clear hU1;go_wp2_with fail;refine(HLa.out _ (HU1.out)).mono ?_;rintro e w9 ⟨rfl,hU9⟩;have HU9:=Lib.hid (Under.trans (HU1.out) hU9);have HF9:=Lib.hid (HFt.out.under HU9.out);have HW9:=Lib.hid ((kE hF.und H.out.ch (fun b e=>by rw[e];exact hF.nlo)).trans HU9.out);have f0:w9.cell? ⟨F.fb,0,none⟩=some (.int .i64 0):=HF9.out.cell 0;have f1:w9.cell? ⟨F.fb,1,none⟩=some (.int .i64 0):=HF9.out.cell 1;have fl:=HF9.out.lt;have ff0:=HF9.out.free 0;have ff1:=HF9.out.free 1;unfold sxV;have HFd:=fun(w:World)=>(show(Instr.field 73 (.agg #[.int .i64 y.last.many,.int .i64 y.last.pos,.string y.last.word]) 1).run Tryz.prog w = .ok (.int .i64 y.last.pos) w by kernel_rfl)
     clear hU9;go_wp2;refine .inr ⟨rfl,71,y.last.pos,⟨_,fB (F:=lL F.fb (.slice none 0 0)) (by rfl)⟩,HErr.out,qA (qA HW9.out hF.flo _ _) hF.flo _ _,?_⟩;exact(HF9.out.set 0 _).set 1 _
 · have HSay : RowKit.Hid (F.R = goS F.cs F.ds (tC (F.parts.drop (k + 1))) (F.ts.drop (k + 1)) x (nms ++ [y.last.word]) F.st t) := Lib.hid (by rw [HSy.out, hnm]; rfl); rw [hnm] at HBo; rcases hcc with rfl | rfl | rfl
   · have hb : ((ps[k]'hps).toNat : Int) = 118 := by rw [hpc]; rfl
     go_wp2_with fail;refine HBo.out.mono ?_;rintro e w1 ⟨rfl,hU1⟩;have HU1:=Lib.hid hU1;clear hU1;go_wp2_with fail;refine(HLa.out _ HU1.out).mono ?_;rintro e w9 ⟨rfl,hU9⟩;have HU3:=Lib.hid (Under.trans HU1.out hU9);unfold sxV;have HFd:=fun(w:World)=>(show(Instr.field 73 (.agg #[.int .i64 y.last.many,.int .i64 y.last.pos,.string y.last.word]) 2).run Tryz.prog w = .ok (.string y.last.word) w by kernel_rfl)
     have hmx:nms.length+1≤maxLen:=by have:=H.out.nlen;simp only[maxLen];omega
     have hby:(nms.length+1) * 16≤140737488355328:=by have:=H.out.nlen;omega
     clear hU9;go_wp2_with (at_builtin;refine wpList_append_own_at _ rfl _ _ 22 rfl F.wl.heap.size 9 i0 _ 1 16 Tryz.underlying22 hi hz0 hz1 hz2 rfl (by decide) _ _ _ rfl ((yB H.out.row HU3.out).alloc _) ⟨w9.heap.size,0,none⟩ 1 1 [.string y.last.word] rfl rfl ?c1 ?c2 hmx hby ?c5 ?_)
     case c1 =>
       intro j u hj
       match j,hj with
       | 0,hj=>cases hj;simp[Addr.add]
     case c2=>intro u hu;simp at hu;subst hu;rfl
     case c5=>have:=H.out.ch.size;have:=HU3.out.size;simp;omega
     intro v' w5 hown hgrow hnil hat;have HW:=Lib.hid hown;have HCh:=Lib.hid ((Ch.of_under (C:=fun i=>nv.ownBlock=some i) (aA HU3.out (.cells #[.string y.last.word] 9))).grown hgrow (fun g e _=>e));clear hown hgrow hnil hat;go_wp2;refine⟨nms++[y.last.word],x,t,ov,v',nA (F:=uD F.na F.fb F.fo F.nb F.bv ov v' ⟨F.parts.toArray⟩ F.q2 (F.ts.length+1) F.c2 (k+1)) (by rw[hq2,← HPs.out];rfl) ?_⟩;exact UgS.name hF HKn.out H.out HCh.out HW.out HSay.out
   · have hb : ((ps[k]'hps).toNat : Int) = 86 := by rw [hpc]; rfl
     go_wp2_with fail;refine HBo.out.mono ?_;rintro e w1 ⟨rfl,hU1⟩;have HU1:=Lib.hid hU1;clear hU1;go_wp2_with fail;refine(HLa.out _ HU1.out).mono ?_;rintro e w9 ⟨rfl,hU9⟩;have HU3:=Lib.hid (Under.trans HU1.out hU9);unfold sxV;have HFd:=fun(w:World)=>(show(Instr.field 73 (.agg #[.int .i64 y.last.many,.int .i64 y.last.pos,.string y.last.word]) 2).run Tryz.prog w = .ok (.string y.last.word) w by kernel_rfl)
     have hmx:nms.length+1≤maxLen:=by have:=H.out.nlen;simp only[maxLen];omega
     have hby:(nms.length+1) * 16≤140737488355328:=by have:=H.out.nlen;omega
     clear hU9;go_wp2_with (at_builtin;refine wpList_append_own_at _ rfl _ _ 22 rfl F.wl.heap.size 9 i0 _ 1 16 Tryz.underlying22 hi hz0 hz1 hz2 rfl (by decide) _ _ _ rfl ((yB H.out.row HU3.out).alloc _) ⟨w9.heap.size,0,none⟩ 1 1 [.string y.last.word] rfl rfl ?c1 ?c2 hmx hby ?c5 ?_)
     case c1 =>
       intro j u hj
       match j,hj with
       | 0,hj=>cases hj;simp[Addr.add]
     case c2=>intro u hu;simp at hu;subst hu;rfl
     case c5=>have:=H.out.ch.size;have:=HU3.out.size;simp;omega
     intro v' w5 hown hgrow hnil hat;have HW:=Lib.hid hown;have HCh:=Lib.hid ((Ch.of_under (C:=fun i=>nv.ownBlock=some i) (aA HU3.out (.cells #[.string y.last.word] 9))).grown hgrow (fun g e _=>e));clear hown hgrow hnil hat;go_wp2;refine⟨nms++[y.last.word],x,t,ov,v',nA (F:=uD F.na F.fb F.fo F.nb F.bv ov v' ⟨F.parts.toArray⟩ F.q2 (F.ts.length+1) F.c2 (k+1)) (by rw[hq2,← HPs.out];rfl) ?_⟩;exact UgS.name hF HKn.out H.out HCh.out HW.out HSay.out
   · have hb : ((ps[k]'hps).toNat : Int) = 87 := by rw [hpc]; rfl
     go_wp2_with fail;refine HBo.out.mono ?_;rintro e w1 ⟨rfl,hU1⟩;have HU1:=Lib.hid hU1;clear hU1;go_wp2_with fail;refine(HLa.out _ HU1.out).mono ?_;rintro e w9 ⟨rfl,hU9⟩;have HU3:=Lib.hid (Under.trans HU1.out hU9);unfold sxV;have HFd:=fun(w:World)=>(show(Instr.field 73 (.agg #[.int .i64 y.last.many,.int .i64 y.last.pos,.string y.last.word]) 2).run Tryz.prog w = .ok (.string y.last.word) w by kernel_rfl)
     have hmx:nms.length+1≤maxLen:=by have:=H.out.nlen;simp only[maxLen];omega
     have hby:(nms.length+1) * 16≤140737488355328:=by have:=H.out.nlen;omega
     clear hU9;go_wp2_with (at_builtin;refine wpList_append_own_at _ rfl _ _ 22 rfl F.wl.heap.size 9 i0 _ 1 16 Tryz.underlying22 hi hz0 hz1 hz2 rfl (by decide) _ _ _ rfl ((yB H.out.row HU3.out).alloc _) ⟨w9.heap.size,0,none⟩ 1 1 [.string y.last.word] rfl rfl ?c1 ?c2 hmx hby ?c5 ?_)
     case c1 =>
       intro j u hj
       match j,hj with
       | 0,hj=>cases hj;simp[Addr.add]
     case c2=>intro u hu;simp at hu;subst hu;rfl
     case c5=>have:=H.out.ch.size;have:=HU3.out.size;simp;omega
     intro v' w5 hown hgrow hnil hat;have HW:=Lib.hid hown;have HCh:=Lib.hid ((Ch.of_under (C:=fun i=>nv.ownBlock=some i) (aA HU3.out (.cells #[.string y.last.word] 9))).grown hgrow (fun g e _=>e));clear hown hgrow hnil hat;go_wp2;refine⟨nms++[y.last.word],x,t,ov,v',nA (F:=uD F.na F.fb F.fo F.nb F.bv ov v' ⟨F.parts.toArray⟩ F.q2 (F.ts.length+1) F.c2 (k+1)) (by rw[hq2,← HPs.out];rfl) ?_⟩;exact UgS.name hF HKn.out H.out HCh.out HW.out HSay.out
theorem b4A{cs ds:List ByteArray}{ks:List UInt8}{y:ST}{ys:List ST}{x:Nd}{nms st:List ByteArray}{t:List Nd}(hk:x.k=2∨x.k=26) :
 goS cs ds (tC (110::ks)) (y::ys) x nms st t=if uP y.last.word < 0∨(x.k=2∧(uP y.last.word < 1∨9 < uP y.last.word))∨(x.k=26∧6≤uP y.last.word) then .error (71,y.last.pos) else goS cs ds (tC ks) ys ⟨x.k,uP y.last.word,x.m,x.s⟩ nms st t:=by
 have:tC (110::ks) = .nu::tC ks:=by simp[tC]
 rw[this,goS];unfold uP
 cases vW y.last.word with
 | none=>simp
 | some n =>
   simp only;unfold v0A;rcases hk with h | h
   · rw [h]; by_cases h2 : 1 ≤ n ∧ n ≤ 9
     · rw[if_neg (show ¬(((n:Int) < 0)∨((2:Int)=2∧((n:Int) < 1∨9 < (n:Int)))∨((2:Int)=26∧6≤(n:Int))) by omega)];simp[h2]
     · rw[if_pos (show(((n:Int) < 0)∨((2:Int)=2∧((n:Int) < 1∨9 < (n:Int)))∨((2:Int)=26∧6≤(n:Int))) by omega)];simp;omega
   · rw [h]; by_cases h2 : n < 6
     · rw[if_neg (show ¬(((n:Int) < 0)∨((26:Int)=2∧((n:Int) < 1∨9 < (n:Int)))∨((26:Int)=26∧6≤(n:Int))) by omega)];simp[h2]
     · rw[if_pos (show(((n:Int) < 0)∨((26:Int)=2∧((n:Int) < 1∨9 < (n:Int)))∨((26:Int)=26∧6≤(n:Int))) by omega)];simp;omega
theorem z7A(F:UgFix)(hF:UgOk F){k:Nat}(hk:k < F.ts.length){nms:List ByteArray}{x:Nd}{t:List Nd}{ov nv:Value}{w:World}(hc:F.parts[k]? = some 110)(h:UgS F k nms x t ov nv w)(J:Nat→Value) :
 ugRound.wp Tryz.prog (Exit.then (fT F (k+1)) (nGA F)) ⟨uD F.na F.fb F.fo F.nb F.bv ov nv ⟨F.parts.toArray⟩ F.q2 (F.ts.length+1) F.c2 k J,[]⟩ w:=by
 have hkk:=hF.num (List.mem_of_getElem? hc);have hc':(F.parts[k]'(by rw[hF.plen];exact hk))=110:=by
  rw[List.getElem?_eq_getElem (by rw[hF.plen];exact hk)]at hc;exact Option.some.inj hc
 clear hc;obtain⟨i0,hi,hz0,hz1,hz2⟩:=info_parts Tryz.infoStrZ;obtain⟨b,off,hq2,hbl,hnC,hat⟩:=hF.arg (by simp);obtain⟨qi,ci,ckl,hci,hsxl,haw⟩:=hat (k+1) F.ts[k] (by rw[List.getElem?_cons_succ,List.getElem?_eq_getElem hk]);have hb:b < w.heap.size:=Nat.lt_of_lt_of_le hbl h.ch.size;have ck:=(iJ h.ch hbl hnC (off+(k+1))).trans ckl;have hsx:=sK hsxl h.ch haw;clear ckl hsxl;have hyl:(uA F.ts[k]).length≤20000:=Nat.le_trans (qH (List.getElem_mem hk)) hF.len;have hpk:k < F.parts.length:=by rw[hF.plen];exact hk
 have hps:k < (⟨F.parts.toArray⟩:ByteArray).size:=by simpa [ByteArray.size] using hpk
 have hpc:(⟨F.parts.toArray⟩:ByteArray)[k]'hps=F.parts[k]:=rfl;have hsay:=h.say;rw[List.drop_eq_getElem_cons hk,List.drop_eq_getElem_cons hpk]at hsay;have HLa:=Lib.hid (fun w' (hU:Under w w')=>gI (w0:=w') F.ts[k] (q:=qi) (cap:=ci) (by omega) (hsx.under hU));have HBo:=Lib.hid (vR (w0:=w) F.ts[k] (q:=qi) (cap:=ci) (by omega) hsx);have HTk:=Lib.hid (show fA (F.ts.take (k+1))=fA (F.ts.take k)++uA F.ts[k] by rw[List.take_succ_eq_append_getElem hk,zD];simp[fA]);have HY:=Lib.hid (show F.ts[k]∈F.ts from List.getElem_mem hk);have HSy:=Lib.hid hsay;have HSx:=Lib.hid hsx;have H:=Lib.hid h;have hn0:(F.ts.length:Int)≤20000:=by have:=kH F.ts;have:=hF.len;omega
 have hk0:(0:Int)≤(k:Int):=by omega
 have hkn:(k:Int) < (F.ts.length:Int):=by omega
 have HKn:=Lib.hid hk;have HFt:=Lib.hid (mI hF.fault h.ch (fun e=>hF.node.elim fun _ hx=>eG hF.fault hx (by decide) e));clear hat hsx haw hsay h;generalize F.ts[k]=y at *;generalize F.parts[k]=c at *;obtain⟨ps,hps,hpc,HPs⟩:∃ ps:ByteArray,∃ hps:k < ps.size,ps[k]'hps=c∧RowKit.Hid (ps=(⟨F.parts.toArray⟩:ByteArray)):=⟨_,hps,hpc,Lib.hid rfl⟩;rw[← HPs.out];have hpsn:=Lib.hid (show ps.size=F.ts.length by rw[HPs.out,← hF.plen];simp[ByteArray.size]);have hkps:(k:Int) < (ps.size:Int):=by have:=hpsn.out;omega
 unfold ugRound aT dW;simp only[Tryz.f32,Option.getD_some,rA,dA,bC];unfold uD;rw[hq2];subst hc';rw[b4A (by rw[H.out.xk];exact hkk)]at HSy;rw[H.out.xk]at HSy;rcases hkk with h2 | h2
 · have HK := Lib.hid h2; have k2 : (F.kk == 2) = true := by simp [h2]
   have k26:(F.kk==26)=false:=by simp[h2]
   clear h2;have hb:((ps[k]'hps).toNat:Int)=110:=by rw[hpc];rfl
   go_wp2_with fail;refine(HLa.out _ (Under.refl w)).mono ?_;rintro e w9 ⟨rfl,hU9⟩;have HU9:=Lib.hid (Under.trans (Under.refl w) hU9);unfold sxV;have HFd:=fun(w:World)=>(show(Instr.field 73 (.agg #[.int .i64 y.last.many,.int .i64 y.last.pos,.string y.last.word]) 2).run Tryz.prog w = .ok (.string y.last.word) w by kernel_rfl)
   clear hU9;have HFo:=Lib.hid (mI hF.form H.out.ch (fun e=>hF.node.elim fun _ hx=>eG hF.form hx (by decide) e));have o0:w9.cell? ⟨F.fo,0,none⟩=some (.int .i64 F.kk):=(HFo.out.under HU9.out).cell 0;have ol:=(HFo.out.under HU9.out).lt;have HNu:=Lib.hid (fun w=>yJA (w0:=w) y.last.word);generalize uP y.last.word=v at *;go_wp2_with fail;refine(HNu.out _).mono ?_;rintro e w8 ⟨rfl,rfl⟩;by_cases hv:v < 0∨(v < 1∨9 < v)
   · have HErr : RowKit.Hid (F.R = .error (71, y.last.pos)) := Lib.hid (by rw [HSy.out, if_pos (by rw [HK.out]; omega)]); rcases hv with hv | hv | hv
     · go_wp2_with fail; refine (HLa.out _ (HU9.out)).mono ?_; rintro e w9 ⟨rfl, hU9⟩; have HU9 := Lib.hid (Under.trans (HU9.out) hU9); have HF9 := Lib.hid (HFt.out.under HU9.out); have HW9 := Lib.hid ((kE hF.und H.out.ch (fun b e => by rw [e]; exact hF.nlo)).trans HU9.out); have f0 : w9.cell? ⟨F.fb, 0, none⟩ = some (.int .i64 0) := HF9.out.cell 0; have f1 : w9.cell? ⟨F.fb, 1, none⟩ = some (.int .i64 0) := HF9.out.cell 1; have fl := HF9.out.lt; have ff0 := HF9.out.free 0; have ff1 := HF9.out.free 1; unfold sxV; have HFd := fun (w : World) => (show (Instr.field 73 (.agg #[.int .i64 y.last.many, .int .i64 y.last.pos, .string y.last.word]) 1).run Tryz.prog w = .ok (.int .i64 y.last.pos) w by kernel_rfl)
       clear hU9;go_wp2;refine .inr ⟨rfl,71,y.last.pos,⟨_,fB (F:=lL F.fb (.slice none 0 0)) (by rfl)⟩,HErr.out,qA (qA HW9.out hF.flo _ _) hF.flo _ _,?_⟩;exact(HF9.out.set 0 _).set 1 _
     · by_cases hv0 : v < 0
       · go_wp2_with fail; refine (HLa.out _ (HU9.out)).mono ?_; rintro e w9 ⟨rfl, hU9⟩; have HU9 := Lib.hid (Under.trans (HU9.out) hU9); have HF9 := Lib.hid (HFt.out.under HU9.out); have HW9 := Lib.hid ((kE hF.und H.out.ch (fun b e => by rw [e]; exact hF.nlo)).trans HU9.out); have f0 : w9.cell? ⟨F.fb, 0, none⟩ = some (.int .i64 0) := HF9.out.cell 0; have f1 : w9.cell? ⟨F.fb, 1, none⟩ = some (.int .i64 0) := HF9.out.cell 1; have fl := HF9.out.lt; have ff0 := HF9.out.free 0; have ff1 := HF9.out.free 1; unfold sxV; have HFd := fun (w : World) => (show (Instr.field 73 (.agg #[.int .i64 y.last.many, .int .i64 y.last.pos, .string y.last.word]) 1).run Tryz.prog w = .ok (.int .i64 y.last.pos) w by kernel_rfl)
         clear hU9;go_wp2;refine .inr ⟨rfl,71,y.last.pos,⟨_,fB (F:=lL F.fb (.slice none 0 0)) (by rfl)⟩,HErr.out,qA (qA HW9.out hF.flo _ _) hF.flo _ _,?_⟩;exact(HF9.out.set 0 _).set 1 _
       · go_wp2_with fail; refine (HLa.out _ (HU9.out)).mono ?_; rintro e w9 ⟨rfl, hU9⟩; have HU9 := Lib.hid (Under.trans (HU9.out) hU9); have HF9 := Lib.hid (HFt.out.under HU9.out); have HW9 := Lib.hid ((kE hF.und H.out.ch (fun b e => by rw [e]; exact hF.nlo)).trans HU9.out); have f0 : w9.cell? ⟨F.fb, 0, none⟩ = some (.int .i64 0) := HF9.out.cell 0; have f1 : w9.cell? ⟨F.fb, 1, none⟩ = some (.int .i64 0) := HF9.out.cell 1; have fl := HF9.out.lt; have ff0 := HF9.out.free 0; have ff1 := HF9.out.free 1; unfold sxV; have HFd := fun (w : World) => (show (Instr.field 73 (.agg #[.int .i64 y.last.many, .int .i64 y.last.pos, .string y.last.word]) 1).run Tryz.prog w = .ok (.int .i64 y.last.pos) w by kernel_rfl)
         clear hU9;go_wp2;refine .inr ⟨rfl,71,y.last.pos,⟨_,fB (F:=lL F.fb (.slice none 0 0)) (by rfl)⟩,HErr.out,qA (qA HW9.out hF.flo _ _) hF.flo _ _,?_⟩;exact(HF9.out.set 0 _).set 1 _
     · have hv0 : ¬ v < 0 := by omega
       have hv1:¬ v < 1:=by omega
       go_wp2_with fail;refine(HLa.out _ (HU9.out)).mono ?_;rintro e w9 ⟨rfl,hU9⟩;have HU9:=Lib.hid (Under.trans (HU9.out) hU9);have HF9:=Lib.hid (HFt.out.under HU9.out);have HW9:=Lib.hid ((kE hF.und H.out.ch (fun b e=>by rw[e];exact hF.nlo)).trans HU9.out);have f0:w9.cell? ⟨F.fb,0,none⟩=some (.int .i64 0):=HF9.out.cell 0;have f1:w9.cell? ⟨F.fb,1,none⟩=some (.int .i64 0):=HF9.out.cell 1;have fl:=HF9.out.lt;have ff0:=HF9.out.free 0;have ff1:=HF9.out.free 1;unfold sxV;have HFd:=fun(w:World)=>(show(Instr.field 73 (.agg #[.int .i64 y.last.many,.int .i64 y.last.pos,.string y.last.word]) 1).run Tryz.prog w = .ok (.int .i64 y.last.pos) w by kernel_rfl)
       clear hU9;go_wp2;refine .inr ⟨rfl,71,y.last.pos,⟨_,fB (F:=lL F.fb (.slice none 0 0)) (by rfl)⟩,HErr.out,qA (qA HW9.out hF.flo _ _) hF.flo _ _,?_⟩;exact(HF9.out.set 0 _).set 1 _
   · have HSay : RowKit.Hid (F.R = goS F.cs F.ds (tC (F.parts.drop (k + 1))) (F.ts.drop (k + 1)) ⟨x.k, v, x.m, x.s⟩ nms F.st t) := Lib.hid (by rw [HSy.out, if_neg (by rw [HK.out]; omega), H.out.xk]); have hv0 : ¬ v < 0 := by omega
     have hv1:¬ v < 1:=by omega
     have hv9:¬ 9 < v:=by omega
     clear hv;have HNd:=Lib.hid (H.out.nd.under HU9.out);have m1:w8.cell? ⟨F.nb,1,none⟩=some (.int .i64 x.n):=HNd.out.cell 1;have ml:=HNd.out.lt;have mf:=HNd.out.free 1;go_wp2;refine⟨nms,⟨x.k,v,x.m,x.s⟩,t,ov,nv,nA (F:=uD F.na F.fb F.fo F.nb F.bv ov nv ⟨F.parts.toArray⟩ F.q2 (F.ts.length+1) F.c2 (k+1)) (by rw[hq2,← HPs.out];rfl) ?_⟩;exact UgS.set hF HKn.out H.out HU9.out rfl rfl HSay.out
 · have HK := Lib.hid h2; have k2 : (F.kk == 2) = false := by simp [h2]
   have k26:(F.kk==26)=true:=by simp[h2]
   clear h2;have hb:((ps[k]'hps).toNat:Int)=110:=by rw[hpc];rfl
   go_wp2_with fail;refine(HLa.out _ (Under.refl w)).mono ?_;rintro e w9 ⟨rfl,hU9⟩;have HU9:=Lib.hid (Under.trans (Under.refl w) hU9);unfold sxV;have HFd:=fun(w:World)=>(show(Instr.field 73 (.agg #[.int .i64 y.last.many,.int .i64 y.last.pos,.string y.last.word]) 2).run Tryz.prog w = .ok (.string y.last.word) w by kernel_rfl)
   clear hU9;have HFo:=Lib.hid (mI hF.form H.out.ch (fun e=>hF.node.elim fun _ hx=>eG hF.form hx (by decide) e));have o0:w9.cell? ⟨F.fo,0,none⟩=some (.int .i64 F.kk):=(HFo.out.under HU9.out).cell 0;have ol:=(HFo.out.under HU9.out).lt;have HNu:=Lib.hid (fun w=>yJA (w0:=w) y.last.word);generalize uP y.last.word=v at *;go_wp2_with fail;refine(HNu.out _).mono ?_;rintro e w8 ⟨rfl,rfl⟩;by_cases hv:v < 0∨6≤v
   · have HErr : RowKit.Hid (F.R = .error (71, y.last.pos)) := Lib.hid (by rw [HSy.out, if_pos (by rw [HK.out]; omega)]); rcases hv with hv | hv
     · go_wp2_with fail; refine (HLa.out _ (HU9.out)).mono ?_; rintro e w9 ⟨rfl, hU9⟩; have HU9 := Lib.hid (Under.trans (HU9.out) hU9); have HF9 := Lib.hid (HFt.out.under HU9.out); have HW9 := Lib.hid ((kE hF.und H.out.ch (fun b e => by rw [e]; exact hF.nlo)).trans HU9.out); have f0 : w9.cell? ⟨F.fb, 0, none⟩ = some (.int .i64 0) := HF9.out.cell 0; have f1 : w9.cell? ⟨F.fb, 1, none⟩ = some (.int .i64 0) := HF9.out.cell 1; have fl := HF9.out.lt; have ff0 := HF9.out.free 0; have ff1 := HF9.out.free 1; unfold sxV; have HFd := fun (w : World) => (show (Instr.field 73 (.agg #[.int .i64 y.last.many, .int .i64 y.last.pos, .string y.last.word]) 1).run Tryz.prog w = .ok (.int .i64 y.last.pos) w by kernel_rfl)
       clear hU9;go_wp2;refine .inr ⟨rfl,71,y.last.pos,⟨_,fB (F:=lL F.fb (.slice none 0 0)) (by rfl)⟩,HErr.out,qA (qA HW9.out hF.flo _ _) hF.flo _ _,?_⟩;exact(HF9.out.set 0 _).set 1 _
     · have hv0 : ¬ v < 0 := by omega
       go_wp2_with fail;refine(HLa.out _ (HU9.out)).mono ?_;rintro e w9 ⟨rfl,hU9⟩;have HU9:=Lib.hid (Under.trans (HU9.out) hU9);have HF9:=Lib.hid (HFt.out.under HU9.out);have HW9:=Lib.hid ((kE hF.und H.out.ch (fun b e=>by rw[e];exact hF.nlo)).trans HU9.out);have f0:w9.cell? ⟨F.fb,0,none⟩=some (.int .i64 0):=HF9.out.cell 0;have f1:w9.cell? ⟨F.fb,1,none⟩=some (.int .i64 0):=HF9.out.cell 1;have fl:=HF9.out.lt;have ff0:=HF9.out.free 0;have ff1:=HF9.out.free 1;unfold sxV;have HFd:=fun(w:World)=>(show(Instr.field 73 (.agg #[.int .i64 y.last.many,.int .i64 y.last.pos,.string y.last.word]) 1).run Tryz.prog w = .ok (.int .i64 y.last.pos) w by kernel_rfl)
       clear hU9;go_wp2;refine .inr ⟨rfl,71,y.last.pos,⟨_,fB (F:=lL F.fb (.slice none 0 0)) (by rfl)⟩,HErr.out,qA (qA HW9.out hF.flo _ _) hF.flo _ _,?_⟩;exact(HF9.out.set 0 _).set 1 _
   · have HSay : RowKit.Hid (F.R = goS F.cs F.ds (tC (F.parts.drop (k + 1))) (F.ts.drop (k + 1)) ⟨x.k, v, x.m, x.s⟩ nms F.st t) := Lib.hid (by rw [HSy.out, if_neg (by rw [HK.out]; omega), H.out.xk]); have hv0 : ¬ v < 0 := by omega
     have hv6:¬ 6≤v:=by omega
     clear hv;have HNd:=Lib.hid (H.out.nd.under HU9.out);have m1:w8.cell? ⟨F.nb,1,none⟩=some (.int .i64 x.n):=HNd.out.cell 1;have ml:=HNd.out.lt;have mf:=HNd.out.free 1;go_wp2;refine⟨nms,⟨x.k,v,x.m,x.s⟩,t,ov,nv,nA (F:=uD F.na F.fb F.fo F.nb F.bv ov nv ⟨F.parts.toArray⟩ F.q2 (F.ts.length+1) F.c2 (k+1)) (by rw[hq2,← HPs.out];rfl) ?_⟩;exact UgS.set hF HKn.out H.out HU9.out rfl rfl HSay.out
theorem zWA{cs ds:List ByteArray}{ks:List UInt8}{y:ST}{ys:List ST}{x:Nd}{nms st:List ByteArray}{t:List Nd} :
 goS cs ds (tC (100::ks)) (y::ys) x nms st t=if mH y.last.word then(if yJ ds y.last.word then goS cs ds (tC ks) ys ⟨x.k,x.n,x.m,y.last.word⟩ nms st t else .error (80,y.last.pos)) else .error (71,y.last.pos):=by
 have:tC (100::ks) = .da::tC ks:=by simp[tC]
 rw[this,goS]
theorem e4A(F:UgFix)(hF:UgOk F){k:Nat}(hk:k < F.ts.length){nms:List ByteArray}{x:Nd}{t:List Nd}{ov nv:Value}{w:World}(hc:F.parts[k]? = some 100)(h:UgS F k nms x t ov nv w)(J:Nat→Value) :
 ugRound.wp Tryz.prog (Exit.then (fT F (k+1)) (nGA F)) ⟨uD F.na F.fb F.fo F.nb F.bv ov nv ⟨F.parts.toArray⟩ F.q2 (F.ts.length+1) F.c2 k J,[]⟩ w:=by
 have hc':(F.parts[k]'(by rw[hF.plen];exact hk))=100:=by
  rw[List.getElem?_eq_getElem (by rw[hF.plen];exact hk)]at hc;exact Option.some.inj hc
 clear hc;obtain⟨i0,hi,hz0,hz1,hz2⟩:=info_parts Tryz.infoStrZ;obtain⟨b,off,hq2,hbl,hnC,hat⟩:=hF.arg (by simp);obtain⟨qi,ci,ckl,hci,hsxl,haw⟩:=hat (k+1) F.ts[k] (by rw[List.getElem?_cons_succ,List.getElem?_eq_getElem hk]);have hb:b < w.heap.size:=Nat.lt_of_lt_of_le hbl h.ch.size;have ck:=(iJ h.ch hbl hnC (off+(k+1))).trans ckl;have hsx:=sK hsxl h.ch haw;clear ckl hsxl;have hyl:(uA F.ts[k]).length≤20000:=Nat.le_trans (qH (List.getElem_mem hk)) hF.len;have hpk:k < F.parts.length:=by rw[hF.plen];exact hk
 have hps:k < (⟨F.parts.toArray⟩:ByteArray).size:=by simpa [ByteArray.size] using hpk
 have hpc:(⟨F.parts.toArray⟩:ByteArray)[k]'hps=F.parts[k]:=rfl;have hsay:=h.say;rw[List.drop_eq_getElem_cons hk,List.drop_eq_getElem_cons hpk]at hsay;have HLa:=Lib.hid (fun w' (hU:Under w w')=>gI (w0:=w') F.ts[k] (q:=qi) (cap:=ci) (by omega) (hsx.under hU));have HBo:=Lib.hid (vR (w0:=w) F.ts[k] (q:=qi) (cap:=ci) (by omega) hsx);have HTk:=Lib.hid (show fA (F.ts.take (k+1))=fA (F.ts.take k)++uA F.ts[k] by rw[List.take_succ_eq_append_getElem hk,zD];simp[fA]);have HY:=Lib.hid (show F.ts[k]∈F.ts from List.getElem_mem hk);have HSy:=Lib.hid hsay;have HSx:=Lib.hid hsx;have H:=Lib.hid h;have hn0:(F.ts.length:Int)≤20000:=by have:=kH F.ts;have:=hF.len;omega
 have hk0:(0:Int)≤(k:Int):=by omega
 have hkn:(k:Int) < (F.ts.length:Int):=by omega
 have HKn:=Lib.hid hk;have HFt:=Lib.hid (mI hF.fault h.ch (fun e=>hF.node.elim fun _ hx=>eG hF.fault hx (by decide) e));clear hat hsx haw hsay h;generalize F.ts[k]=y at *;generalize F.parts[k]=c at *;obtain⟨ps,hps,hpc,HPs⟩:∃ ps:ByteArray,∃ hps:k < ps.size,ps[k]'hps=c∧RowKit.Hid (ps=(⟨F.parts.toArray⟩:ByteArray)):=⟨_,hps,hpc,Lib.hid rfl⟩;rw[← HPs.out];have hpsn:=Lib.hid (show ps.size=F.ts.length by rw[HPs.out,← hF.plen];simp[ByteArray.size]);have hkps:(k:Int) < (ps.size:Int):=by have:=hpsn.out;omega
 unfold ugRound aT dW;simp only[Tryz.f32,Option.getD_some,rA,dA,bC];unfold uD;rw[hq2];subst hc';rw[zWA]at HSy
 cases hnm:mH y.last.word
 · have HErr : RowKit.Hid (F.R = .error (71, y.last.pos)) := Lib.hid (by rw [HSy.out, hnm]; rfl); rw [hnm] at HBo; have hb : ((ps[k]'hps).toNat : Int) = 100 := by rw [hpc]; rfl
   go_wp2_with fail;refine HBo.out.mono ?_;rintro e w1 ⟨rfl,hU1⟩;have HU1:=Lib.hid hU1;clear hU1;go_wp2_with fail;refine(HLa.out _ (HU1.out)).mono ?_;rintro e w9 ⟨rfl,hU9⟩;have HU9:=Lib.hid (Under.trans (HU1.out) hU9);have HF9:=Lib.hid (HFt.out.under HU9.out);have HW9:=Lib.hid ((kE hF.und H.out.ch (fun b e=>by rw[e];exact hF.nlo)).trans HU9.out);have f0:w9.cell? ⟨F.fb,0,none⟩=some (.int .i64 0):=HF9.out.cell 0;have f1:w9.cell? ⟨F.fb,1,none⟩=some (.int .i64 0):=HF9.out.cell 1;have fl:=HF9.out.lt;have ff0:=HF9.out.free 0;have ff1:=HF9.out.free 1;unfold sxV;have HFd:=fun(w:World)=>(show(Instr.field 73 (.agg #[.int .i64 y.last.many,.int .i64 y.last.pos,.string y.last.word]) 1).run Tryz.prog w = .ok (.int .i64 y.last.pos) w by kernel_rfl)
   clear hU9;go_wp2;refine .inr ⟨rfl,71,y.last.pos,⟨_,fB (F:=lL F.fb (.slice none 0 0)) (by rfl)⟩,HErr.out,qA (qA HW9.out hF.flo _ _) hF.flo _ _,?_⟩;exact(HF9.out.set 0 _).set 1 _
 · rw [hnm] at HBo
   cases hds:yJ F.ds y.last.word
   · have HErr : RowKit.Hid (F.R = .error (80, y.last.pos)) := Lib.hid (by rw [HSy.out, hnm, hds]; rfl); have hb : ((ps[k]'hps).toNat : Int) = 100 := by rw [hpc]; rfl
     go_wp2_with fail;refine HBo.out.mono ?_;rintro e w1 ⟨rfl,hU1⟩;have HU1:=Lib.hid hU1;clear hU1;have HNa:=Lib.hid (mI hF.names H.out.ch (fun e=>hF.node.elim fun _ hx=>eG hF.names hx (by decide) e));have n1:w1.cell? ⟨F.na,1,none⟩=some F.dv:=(HNa.out.under HU1.out).cell 1;have nl:=(HNa.out.under HU1.out).lt;have HW1:=Lib.hid ((kE hF.und H.out.ch (fun b e=>by rw[e];exact hF.nlo)).trans HU1.out);have HHs:=Lib.hid (fun w' (hU:Under F.w0 w')=>zIA (w0:=w') F.ds y.last.word (v:=F.dv) (by have:=hF.dsl;simp only[maxLen];omega) (hF.dsT.under hU));have hhe:hasB F.ds y.last.word=yJ F.ds y.last.word:=rfl;rw[hhe,hds]at HHs;clear hhe;have HFd:=fun(w:World)=>(show(Instr.field 73 (.agg #[.int .i64 y.last.many,.int .i64 y.last.pos,.string y.last.word]) 2).run Tryz.prog w = .ok (.string y.last.word) w by kernel_rfl)
     go_wp2_with fail; go_region_held3 (fun w' => w'.cell? ⟨F.na, 1, none⟩ = some F.dv)
       (first
         | exact n1
         | exact(jA hU9 nl _).trans n1
         | go_keep)
       (first
         | (go_at_call 34
            refine(HLa.out _ (HU1.out.trans (bA (Under.refl _)))).mono ?_;rintro e w9 ⟨rfl,hU9⟩;unfold sxV;have hU9:=Under.trans (bA (Under.refl w1)) hU9)
         | (go_at_call 69
            refine(HHs.out _ (HW1.out.trans hU9)).mono ?_;rintro e w8 ⟨rfl,rfl⟩))
     rename_i hHeld;have HU9:=Lib.hid (HU1.out.trans hU9);clear hHeld n1 nl HHs hU9;go_wp2_with fail;refine(HLa.out _ (HU9.out)).mono ?_;rintro e w9 ⟨rfl,hU9⟩;have HU9:=Lib.hid (Under.trans (HU9.out) hU9);have HF9:=Lib.hid (HFt.out.under HU9.out);have HW9:=Lib.hid ((kE hF.und H.out.ch (fun b e=>by rw[e];exact hF.nlo)).trans HU9.out);have f0:w9.cell? ⟨F.fb,0,none⟩=some (.int .i64 0):=HF9.out.cell 0;have f1:w9.cell? ⟨F.fb,1,none⟩=some (.int .i64 0):=HF9.out.cell 1;have fl:=HF9.out.lt;have ff0:=HF9.out.free 0;have ff1:=HF9.out.free 1;unfold sxV;have HFd:=fun(w:World)=>(show(Instr.field 73 (.agg #[.int .i64 y.last.many,.int .i64 y.last.pos,.string y.last.word]) 1).run Tryz.prog w = .ok (.int .i64 y.last.pos) w by kernel_rfl)
     clear hU9;go_wp2;refine .inr ⟨rfl,80,y.last.pos,⟨_,fB (F:=lL F.fb (.slice none 0 0)) (by rfl)⟩,HErr.out,qA (qA HW9.out hF.flo _ _) hF.flo _ _,?_⟩;exact(HF9.out.set 0 _).set 1 _
   · have HSay : RowKit.Hid (F.R = goS F.cs F.ds (tC (F.parts.drop (k + 1))) (F.ts.drop (k + 1)) ⟨x.k, x.n, x.m, y.last.word⟩ nms F.st t) := Lib.hid (by rw [HSy.out, hnm, hds]; rfl); have hb : ((ps[k]'hps).toNat : Int) = 100 := by rw [hpc]; rfl
     go_wp2_with fail;refine HBo.out.mono ?_;rintro e w1 ⟨rfl,hU1⟩;have HU1:=Lib.hid hU1;clear hU1;have HNa:=Lib.hid (mI hF.names H.out.ch (fun e=>hF.node.elim fun _ hx=>eG hF.names hx (by decide) e));have n1:w1.cell? ⟨F.na,1,none⟩=some F.dv:=(HNa.out.under HU1.out).cell 1;have nl:=(HNa.out.under HU1.out).lt;have HW1:=Lib.hid ((kE hF.und H.out.ch (fun b e=>by rw[e];exact hF.nlo)).trans HU1.out);have HHs:=Lib.hid (fun w' (hU:Under F.w0 w')=>zIA (w0:=w') F.ds y.last.word (v:=F.dv) (by have:=hF.dsl;simp only[maxLen];omega) (hF.dsT.under hU));have hhe:hasB F.ds y.last.word=yJ F.ds y.last.word:=rfl;rw[hhe,hds]at HHs;clear hhe;have HFd:=fun(w:World)=>(show(Instr.field 73 (.agg #[.int .i64 y.last.many,.int .i64 y.last.pos,.string y.last.word]) 2).run Tryz.prog w = .ok (.string y.last.word) w by kernel_rfl)
     go_wp2_with fail; go_region_held3 (fun w' => w'.cell? ⟨F.na, 1, none⟩ = some F.dv)
       (first
         | exact n1
         | exact(jA hU9 nl _).trans n1
         | go_keep)
       (first
         | (go_at_call 34
            refine(HLa.out _ (HU1.out.trans (bA (Under.refl _)))).mono ?_;rintro e w9 ⟨rfl,hU9⟩;unfold sxV;have hU9:=Under.trans (bA (Under.refl w1)) hU9)
         | (go_at_call 69
            refine(HHs.out _ (HW1.out.trans hU9)).mono ?_;rintro e w8 ⟨rfl,rfl⟩))
     rename_i hHeld;have HU9:=Lib.hid (HU1.out.trans hU9);clear hHeld n1 nl HHs hU9;go_wp2_with fail;refine(HLa.out _ HU9.out).mono ?_;rintro e w7 ⟨rfl,hU7⟩;have HU9:=Lib.hid (Under.trans HU9.out hU7);unfold sxV;clear hU7;have HNd:=Lib.hid (H.out.nd.under HU9.out);have m1:w7.cell? ⟨F.nb,3,none⟩=some (.string x.s):=HNd.out.cell 3;have ml:=HNd.out.lt;have mf:=HNd.out.free 3;go_wp2;refine⟨nms,⟨x.k,x.n,x.m,y.last.word⟩,t,ov,nv,nA (F:=uD F.na F.fb F.fo F.nb F.bv ov nv ⟨F.parts.toArray⟩ F.q2 (F.ts.length+1) F.c2 (k+1)) (by rw[hq2,← HPs.out];rfl) ?_⟩;exact UgS.set hF HKn.out H.out HU9.out rfl rfl HSay.out
end Go.Proofs.YtlnlpdephijcoaaGreatDoor
