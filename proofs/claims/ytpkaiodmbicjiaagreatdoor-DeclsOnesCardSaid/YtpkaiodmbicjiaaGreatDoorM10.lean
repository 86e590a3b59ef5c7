/- Part 10 of what the proof rests on. -/
import Derived.Deep.RegionHeld3
import Derived.Deep.LoopGhost
import Derived.Conc.CompanyMem
import Derived.Conc.WalkWords
import Derived.Test.YtpkaiodmbicjiaaGreatDoorM05
import Derived.Test.YtpkaiodmbicjiaaGreatDoorM09
import Derived.Test.YtpkaiodmbicjiaaGreatDoorM00
set_option linter.unusedSimpArgs false
set_option linter.unusedVariables false
set_option maxRecDepth 100000
set_option maxHeartbeats 4000000
namespace Go.Proofs.YtpkaiodmbicjiaaGreatDoor
open Go.Proofs.Tryz
open Go.Lx Go.RowKit
theorem nTA(F:TgFix)(hF:TgOk F){k:Nat}(hk:k < F.ts.length){nms:List ByteArray}{wt:Bool}{x:Nd}{t:List Nd}{ov1 nv:Value}{p1 e1:Int}{w:World}(hc:F.parts[k]? = some 118∨F.parts[k]? = some 119)(h:TgS F k nms wt x t ov1 p1 e1 nv w)(J:Nat->Value) :
 tgRound.wp prog (Exit.then (wT F (k+1)) (mHA F)) ⟨qE F.rb F.nb F.bv nv wt ⟨F.parts.toArray⟩ F.q2 F.ts.length F.c2 k J,[]⟩ w:=by
 have hc':(F.parts[k]'(by rw[hF.plen];exact hk))=118∨(F.parts[k]'(by rw[hF.plen];exact hk))=119:=by
  rw[Qa (by rw[hF.plen];exact hk)]at hc;rcases hc with hc|hc
  . exact .inl (Qt hc)
  . exact .inr (Qt hc)
 clear hc;obtain⟨i0,hi,hz0,hz1,hz2⟩:=info_parts Tryz.infoStrZ;obtain⟨b,off,hq2,hbl,hnC,hat⟩:=hF.arg (λe=>by rw[e]at hk;exact absurd hk (Nat.not_lt_zero _));obtain⟨qi,ci,ckl,hci,hsxl,haw⟩:=hat k F.ts[k] (Qa hk);have hb:b < w.heap.size:=Qb hbl h.ch.size;have ck:=(mJ h.ch hbl hnC (off+k)).trans ckl;have hsx:=sK hsxl h.ch haw;have HSxl:=aA hsxl;clear ckl hsxl;have hyl:(qA F.ts[k]).length<=20000:=Ql (oH (Qr hk)) hF.len;have hpk:k < F.parts.length:=by rw[hF.plen];exact hk
 have hps:k < (⟨F.parts.toArray⟩:ByteArray).size:=by simpa [ByteArray.size] using hpk
 have hpc:(⟨F.parts.toArray⟩:ByteArray)[k]'hps=F.parts[k]:=rfl;have hsay:=h.say;rw[Qi hk,Qi hpk]at hsay;have hyw:F.ts[k].last.word.size<=1000000:=by
  obtain⟨i,hi⟩:=zF F.ts[k];refine hF.words _ ?_;have hm:=Qr hk;generalize F.ts[k]=y at *;exact kL hm
 have HLa:=aA (jJ (w0:=w) F.ts[k] (q:=qi) (cap:=ci) (by omega) hsx);have HY:=aA (show F.ts[k]∈F.ts from Qr hk);have HTk:=aA (show rA (F.ts.take (k+1))=rA (F.ts.take k)++qA F.ts[k] by rw[Qj hk,pE];simp[rA]);have HSy:=aA hsay;have HSx:=aA hsx;have HAw:=aA haw;have HF:=aA hF;have H:=aA h;have hn0:(F.ts.length:Int)<=20000:=by have:=mH F.ts;have:=hF.len;omega
 have hk0:(0:Int)<=(k:Int):=by omega
 have hkn:(k:Int) < (F.ts.length:Int):=by omega
 have HKn:=aA hk;clear hat hsx haw hsay h;generalize F.ts[k]=y at *;generalize F.parts[k]=c at *;obtain⟨ps,hps,hpc,HPs⟩:∃ ps:ByteArray,∃ hps:k < ps.size,ps[k]'hps=c/\RowKit.Hid (ps=(⟨F.parts.toArray⟩:ByteArray)):=⟨_,hps,hpc,aA rfl⟩;rw[<- HPs.out];unfold tgRound nP rX;simp only[f59,Qf,aB,jA,nC];unfold qE;rw[hq2]
 cases hnm:nH y.last.word
 . have HErr:RowKit.Hid (F.R = .error (71,y.last.pos)):=aA (by
     rw[HSy.out];rcases hc' with rfl|rfl<;>simp[fC,goS,hnm])
   rcases hc' with rfl|rfl
   . have hb:((ps[k]'hps).toNat:Int)=118:=by rw[hpc];rfl
     go_wp2_with fail;refine HLa.out.mono ?_;rintro e w1 ⟨rfl,hU1⟩;have HU1:=aA (bA hU1 (.cells #[.int .i64 y.last.many,.int .i64 y.last.pos,.string y.last.word] 28));have HZ:=aA (zA w1 #[.int .i64 y.last.many,.int .i64 y.last.pos,.string y.last.word] 28);have hw1:=hU1.size;clear hU1 HLa;unfold sxV;have z0:(w1.alloc (.cells #[.int .i64 y.last.many,.int .i64 y.last.pos,.string y.last.word] 28)).cell? ⟨w1.heap.size,0,none⟩=some (.int .i64 y.last.many):=HZ.out.cell 0;have z1:(w1.alloc (.cells #[.int .i64 y.last.many,.int .i64 y.last.pos,.string y.last.word] 28)).cell? ⟨w1.heap.size,1,none⟩=some (.int .i64 y.last.pos):=HZ.out.cell 1;have z2:(w1.alloc (.cells #[.int .i64 y.last.many,.int .i64 y.last.pos,.string y.last.word] 28)).cell? ⟨w1.heap.size,2,none⟩=some (.string y.last.word):=HZ.out.cell 2;have zl:=HZ.out.lt;go_wp2_with fail;generalize w1.alloc (.cells #[.int .i64 y.last.many,.int .i64 y.last.pos,.string y.last.word] 28)=wz at *;generalize w1.heap.size=zb at *;have HNm:=aA (oK (w0:=wz) y.last (rb:=F.rb) (m1:=F.m1) (m2:=F.m2) (by simp only[maxLen];omega) (H.out.re.under HU1.out).tables);rw[hnm]at HNm;unfold sxV at HNm;refine HNm.out.mono ?_;rintro e w3 ⟨rfl,hU3⟩;have hz3:=HZ.out.under hU3;have z1:=hz3.cell 1;have z2:=hz3.cell 2;have zl:=hz3.lt;have HU3:=aA (HU1.out.trans hU3);have HZ3:=aA hz3;clear hU3 hz3 HNm z0;have HRe:=aA (H.out.re.under HU3.out);have HCe:=aA (H.out.ch.under HU3.out);have HWr:=aA (jG HRe.out y.last.pos 71);go_wp2_with fail;refine HWr.out.mono ?_;rintro e w4 hO;obtain⟨ov2,acc2,p2,e2,h1,h2,h3,rfl,rfl,rfl⟩:=hO;have H1:=aA h1;have H2:=aA h2;have H3:=aA h3;clear h1 h2 h3 HWr;go_wp2;refine .inr ⟨rfl,_,_,_,_,⟨_,fB (F:=dL false) (by rfl)⟩,HErr.out,H1.out,?_,?_⟩
     . exact HCe.out.trans (D:=qG F.rb ov1) H2.out (λi hi h=>.inl (iL H.out hi h))
     . intro b hb e;exact H.out.own b hb (H3.out b (Qb hb HCe.out.size) e)
   . have hb:((ps[k]'hps).toNat:Int)=119:=by rw[hpc];rfl
     go_wp2_with fail;refine HLa.out.mono ?_;rintro e w1 ⟨rfl,hU1⟩;have HU1:=aA (bA hU1 (.cells #[.int .i64 y.last.many,.int .i64 y.last.pos,.string y.last.word] 28));have HZ:=aA (zA w1 #[.int .i64 y.last.many,.int .i64 y.last.pos,.string y.last.word] 28);have hw1:=hU1.size;clear hU1 HLa;unfold sxV;have z0:(w1.alloc (.cells #[.int .i64 y.last.many,.int .i64 y.last.pos,.string y.last.word] 28)).cell? ⟨w1.heap.size,0,none⟩=some (.int .i64 y.last.many):=HZ.out.cell 0;have z1:(w1.alloc (.cells #[.int .i64 y.last.many,.int .i64 y.last.pos,.string y.last.word] 28)).cell? ⟨w1.heap.size,1,none⟩=some (.int .i64 y.last.pos):=HZ.out.cell 1;have z2:(w1.alloc (.cells #[.int .i64 y.last.many,.int .i64 y.last.pos,.string y.last.word] 28)).cell? ⟨w1.heap.size,2,none⟩=some (.string y.last.word):=HZ.out.cell 2;have zl:=HZ.out.lt;go_wp2_with fail;generalize w1.alloc (.cells #[.int .i64 y.last.many,.int .i64 y.last.pos,.string y.last.word] 28)=wz at *;generalize w1.heap.size=zb at *;have HNm:=aA (oK (w0:=wz) y.last (rb:=F.rb) (m1:=F.m1) (m2:=F.m2) (by simp only[maxLen];omega) (H.out.re.under HU1.out).tables);rw[hnm]at HNm;unfold sxV at HNm;refine HNm.out.mono ?_;rintro e w3 ⟨rfl,hU3⟩;have hz3:=HZ.out.under hU3;have z1:=hz3.cell 1;have z2:=hz3.cell 2;have zl:=hz3.lt;have HU3:=aA (HU1.out.trans hU3);have HZ3:=aA hz3;clear hU3 hz3 HNm z0;have HRe:=aA (H.out.re.under HU3.out);have HCe:=aA (H.out.ch.under HU3.out);have HWr:=aA (jG HRe.out y.last.pos 71);go_wp2_with fail;refine HWr.out.mono ?_;rintro e w4 hO;obtain⟨ov2,acc2,p2,e2,h1,h2,h3,rfl,rfl,rfl⟩:=hO;have H1:=aA h1;have H2:=aA h2;have H3:=aA h3;clear h1 h2 h3 HWr;go_wp2;refine .inr ⟨rfl,_,_,_,_,⟨_,fB (F:=dL false) (by rfl)⟩,HErr.out,H1.out,?_,?_⟩
     . exact HCe.out.trans (D:=qG F.rb ov1) H2.out (λi hi h=>.inl (iL H.out hi h))
     . intro b hb e;exact H.out.own b hb (H3.out b (Qb hb HCe.out.size) e)
 . rcases hc' with rfl|rfl
   . have HSay:RowKit.Hid (F.R=goS F.cs F.ds (fC false (F.parts.drop (k+1))) (F.ts.drop (k+1)) x (nms++[y.last.word]) F.st t):=aA (by
       rw[HSy.out];simp[fC,goS,hnm])
     have hb:((ps[k]'hps).toNat:Int)=118:=by rw[hpc];rfl
     go_wp2_with fail;refine HLa.out.mono ?_;rintro e w1 ⟨rfl,hU1⟩;have HU1:=aA (bA hU1 (.cells #[.int .i64 y.last.many,.int .i64 y.last.pos,.string y.last.word] 28));have HZ:=aA (zA w1 #[.int .i64 y.last.many,.int .i64 y.last.pos,.string y.last.word] 28);have hw1:=hU1.size;clear hU1 HLa;unfold sxV;have z0:(w1.alloc (.cells #[.int .i64 y.last.many,.int .i64 y.last.pos,.string y.last.word] 28)).cell? ⟨w1.heap.size,0,none⟩=some (.int .i64 y.last.many):=HZ.out.cell 0;have z1:(w1.alloc (.cells #[.int .i64 y.last.many,.int .i64 y.last.pos,.string y.last.word] 28)).cell? ⟨w1.heap.size,1,none⟩=some (.int .i64 y.last.pos):=HZ.out.cell 1;have z2:(w1.alloc (.cells #[.int .i64 y.last.many,.int .i64 y.last.pos,.string y.last.word] 28)).cell? ⟨w1.heap.size,2,none⟩=some (.string y.last.word):=HZ.out.cell 2;have zl:=HZ.out.lt;go_wp2_with fail;generalize w1.alloc (.cells #[.int .i64 y.last.many,.int .i64 y.last.pos,.string y.last.word] 28)=wz at *;generalize w1.heap.size=zb at *;have HNm:=aA (oK (w0:=wz) y.last (rb:=F.rb) (m1:=F.m1) (m2:=F.m2) (by simp only[maxLen];omega) (H.out.re.under HU1.out).tables);rw[hnm]at HNm;unfold sxV at HNm;refine HNm.out.mono ?_;rintro e w3 ⟨rfl,hU3⟩;have hz3:=HZ.out.under hU3;have z1:=hz3.cell 1;have z2:=hz3.cell 2;have zl:=hz3.lt;have HU3:=aA (HU1.out.trans hU3);have HZ3:=aA hz3;clear hU3 hz3 HNm z0;have hmx:nms.length+1<=maxLen:=by have:=H.out.nlen;simp only[maxLen];omega
     have hby:(nms.length+1) * 16<=140737488355328:=by have:=H.out.nlen;omega
     go_wp2_with (at_builtin;refine wpList_append_own_at _ rfl _ _ 80 rfl F.wl.heap.size 9 i0 _ 1 16 underlying80 hi hz0 hz1 hz2 rfl (by decide) _ _ _ rfl ((uA H.out.row HU3.out).alloc _) ⟨w3.heap.size,0,none⟩ 1 1 [.string y.last.word] rfl rfl ?c1 ?c2 hmx hby ?c5 ?_)
     case c1 =>
       intro j u hj
       match j,hj with
       | 0,hj=>cases hj;simp[Addr.add]
     case c2=>intro u hu;simp at hu;subst hu;rfl
     case c5=>have:=H.out.ch.size;have:=HU3.out.size;simp;omega
     intro v' w5 hown hgrow hnil hat;have HW:=aA hown;have HCh:=aA ((Ch.of_under (C:=λi=>nv.ownBlock=some i) (bA HU3.out (.cells #[.string y.last.word] 9))).grown hgrow (λg e _=>e));clear hown hgrow hnil hat;go_wp2;refine⟨nms++[y.last.word],false,x,t,ov1,p1,e1,v',bB (F:=qE F.rb F.nb F.bv v' false ⟨F.parts.toArray⟩ F.q2 F.ts.length F.c2 (k+1)) (by rw[hq2,<- HPs.out];rfl) ?_⟩;exact TgS.name hF HKn.out H.out HCh.out HW.out HSay.out
   . have HSay:RowKit.Hid (F.R=goS F.cs F.ds (fC true (F.parts.drop (k+1))) (F.ts.drop (k+1)) x (nms++[y.last.word]) F.st t):=aA (by
       rw[HSy.out];simp[fC,goS,hnm])
     have hb:((ps[k]'hps).toNat:Int)=119:=by rw[hpc];rfl
     go_wp2_with fail;refine HLa.out.mono ?_;rintro e w1 ⟨rfl,hU1⟩;have HU1:=aA (bA hU1 (.cells #[.int .i64 y.last.many,.int .i64 y.last.pos,.string y.last.word] 28));have HZ:=aA (zA w1 #[.int .i64 y.last.many,.int .i64 y.last.pos,.string y.last.word] 28);have hw1:=hU1.size;clear hU1 HLa;unfold sxV;have z0:(w1.alloc (.cells #[.int .i64 y.last.many,.int .i64 y.last.pos,.string y.last.word] 28)).cell? ⟨w1.heap.size,0,none⟩=some (.int .i64 y.last.many):=HZ.out.cell 0;have z1:(w1.alloc (.cells #[.int .i64 y.last.many,.int .i64 y.last.pos,.string y.last.word] 28)).cell? ⟨w1.heap.size,1,none⟩=some (.int .i64 y.last.pos):=HZ.out.cell 1;have z2:(w1.alloc (.cells #[.int .i64 y.last.many,.int .i64 y.last.pos,.string y.last.word] 28)).cell? ⟨w1.heap.size,2,none⟩=some (.string y.last.word):=HZ.out.cell 2;have zl:=HZ.out.lt;go_wp2_with fail;generalize w1.alloc (.cells #[.int .i64 y.last.many,.int .i64 y.last.pos,.string y.last.word] 28)=wz at *;generalize w1.heap.size=zb at *;have HNm:=aA (oK (w0:=wz) y.last (rb:=F.rb) (m1:=F.m1) (m2:=F.m2) (by simp only[maxLen];omega) (H.out.re.under HU1.out).tables);rw[hnm]at HNm;unfold sxV at HNm;refine HNm.out.mono ?_;rintro e w3 ⟨rfl,hU3⟩;have hz3:=HZ.out.under hU3;have z1:=hz3.cell 1;have z2:=hz3.cell 2;have zl:=hz3.lt;have HU3:=aA (HU1.out.trans hU3);have HZ3:=aA hz3;clear hU3 hz3 HNm z0;have hmx:nms.length+1<=maxLen:=by have:=H.out.nlen;simp only[maxLen];omega
     have hby:(nms.length+1) * 16<=140737488355328:=by have:=H.out.nlen;omega
     go_wp2_with (at_builtin;refine wpList_append_own_at _ rfl _ _ 80 rfl F.wl.heap.size 9 i0 _ 1 16 underlying80 hi hz0 hz1 hz2 rfl (by decide) _ _ _ rfl ((uA H.out.row HU3.out).alloc _) ⟨w3.heap.size,0,none⟩ 1 1 [.string y.last.word] rfl rfl ?c1 ?c2 hmx hby ?c5 ?_)
     case c1 =>
       intro j u hj
       match j,hj with
       | 0,hj=>cases hj;simp[Addr.add]
     case c2=>intro u hu;simp at hu;subst hu;rfl
     case c5=>have:=H.out.ch.size;have:=HU3.out.size;simp;omega
     intro v' w5 hown hgrow hnil hat;have HW:=aA hown;have HCh:=aA ((Ch.of_under (C:=λi=>nv.ownBlock=some i) (bA HU3.out (.cells #[.string y.last.word] 9))).grown hgrow (λg e _=>e));clear hown hgrow hnil hat;go_wp2;refine⟨nms++[y.last.word],true,x,t,ov1,p1,e1,v',bB (F:=qE F.rb F.nb F.bv v' true ⟨F.parts.toArray⟩ F.q2 F.ts.length F.c2 (k+1)) (by rw[hq2,<- HPs.out];rfl) ?_⟩;exact TgS.name hF HKn.out H.out HCh.out HW.out HSay.out
theorem z7A{cs ds:List ByteArray}{wt:Bool}{ks:List UInt8}{y:ST}{ys:List ST}{x:Nd}{nms st:List ByteArray}{t:List Nd} :
 goS cs ds (fC wt (110::ks)) (y::ys) x nms st t=match kW y.last.word (if x.k=26 then 0 else 1) (if x.k=26 then 5 else 9) with|some n=>goS cs ds (fC wt ks) ys ⟨x.k,(n:Int),x.m,x.s⟩ nms st t|none=>.error (71,y.last.pos):=by
 have:fC wt (110::ks) = .nu::fC wt ks:=by simp[fC]
 rw[this,goS];unfold kW
 cases mX y.last.word with
 | none=>rfl
 | some n =>
   simp only;unfold v2A;by_cases h:x.k=26
   . simp only[if_pos h];by_cases h2:n < 6
     . rw[if_pos (by simpa using h2),if_pos (by omega)]
     . rw[if_neg (by simpa using h2),if_neg (by omega)]
   . simp only[if_neg h];by_cases h2:1<=n/\n<=9
     . rw[if_pos (by simpa using h2),if_pos h2]
     . rw[if_neg (by simpa using h2),if_neg h2]
theorem m9A(F:TgFix)(hF:TgOk F){k:Nat}(hk:k < F.ts.length){nms:List ByteArray}{wt:Bool}{x:Nd}{t:List Nd}{ov1 nv:Value}{p1 e1:Int}{w:World}(hc:F.parts[k]? = some 110)(h:TgS F k nms wt x t ov1 p1 e1 nv w)(J:Nat->Value) :
 tgRound.wp prog (Exit.then (wT F (k+1)) (mHA F)) ⟨qE F.rb F.nb F.bv nv wt ⟨F.parts.toArray⟩ F.q2 F.ts.length F.c2 k J,[]⟩ w:=by
 have hc':(F.parts[k]'(by rw[hF.plen];exact hk))=110:=by
  rw[Qa (by rw[hF.plen];exact hk)]at hc;exact Qt hc
 clear hc;obtain⟨i0,hi,hz0,hz1,hz2⟩:=info_parts Tryz.infoStrZ;obtain⟨b,off,hq2,hbl,hnC,hat⟩:=hF.arg (λe=>by rw[e]at hk;exact absurd hk (Nat.not_lt_zero _));obtain⟨qi,ci,ckl,hci,hsxl,haw⟩:=hat k F.ts[k] (Qa hk);have hb:b < w.heap.size:=Qb hbl h.ch.size;have ck:=(mJ h.ch hbl hnC (off+k)).trans ckl;have hsx:=sK hsxl h.ch haw;have HSxl:=aA hsxl;clear ckl hsxl;have hyl:(qA F.ts[k]).length<=20000:=Ql (oH (Qr hk)) hF.len;have hpk:k < F.parts.length:=by rw[hF.plen];exact hk
 have hps:k < (⟨F.parts.toArray⟩:ByteArray).size:=by simpa [ByteArray.size] using hpk
 have hpc:(⟨F.parts.toArray⟩:ByteArray)[k]'hps=F.parts[k]:=rfl;have hsay:=h.say;rw[Qi hk,Qi hpk]at hsay;have hyw:F.ts[k].last.word.size<=1000000:=by
  obtain⟨i,hi⟩:=zF F.ts[k];refine hF.words _ ?_;have hm:=Qr hk;generalize F.ts[k]=y at *;exact kL hm
 have HLa:=aA (jJ (w0:=w) F.ts[k] (q:=qi) (cap:=ci) (by omega) hsx);have HY:=aA (show F.ts[k]∈F.ts from Qr hk);have HTk:=aA (show rA (F.ts.take (k+1))=rA (F.ts.take k)++qA F.ts[k] by rw[Qj hk,pE];simp[rA]);have HSy:=aA hsay;have HSx:=aA hsx;have HAw:=aA haw;have HF:=aA hF;have H:=aA h;have hn0:(F.ts.length:Int)<=20000:=by have:=mH F.ts;have:=hF.len;omega
 have hk0:(0:Int)<=(k:Int):=by omega
 have hkn:(k:Int) < (F.ts.length:Int):=by omega
 have HKn:=aA hk;clear hat hsx haw hsay h;generalize F.ts[k]=y at *;generalize F.parts[k]=c at *;obtain⟨ps,hps,hpc,HPs⟩:∃ ps:ByteArray,∃ hps:k < ps.size,ps[k]'hps=c/\RowKit.Hid (ps=(⟨F.parts.toArray⟩:ByteArray)):=⟨_,hps,hpc,aA rfl⟩;rw[<- HPs.out];unfold tgRound nP rX;simp only[f59,Qf,aB,jA,nC];unfold qE;rw[hq2];subst hc';rw[z7A]at HSy;have hnb:=H.out.nd.under (Qu w);have hnl:=hnb.lt
 cases h26:(x.k==26)
 . have g26:¬ x.k=26:=by simpa using h26
   rw[if_neg g26,if_neg g26]at HSy;clear g26;have hb:((ps[k]'hps).toNat:Int)=110:=by rw[hpc];rfl
   go_wp2_with fail;refine HLa.out.mono ?_;rintro e w1 ⟨rfl,hU1⟩;have HU1:=aA (bA hU1 (.cells #[.int .i64 y.last.many,.int .i64 y.last.pos,.string y.last.word] 28));have HZ:=aA (zA w1 #[.int .i64 y.last.many,.int .i64 y.last.pos,.string y.last.word] 28);have hw1:=hU1.size;clear hU1 HLa;unfold sxV;have m0:(w1.alloc (.cells #[.int .i64 y.last.many,.int .i64 y.last.pos,.string y.last.word] 28)).cell? ⟨F.nb,0,none⟩=some (.int .i64 x.k):=(H.out.nd.under HU1.out).cell 0;have z0:(w1.alloc (.cells #[.int .i64 y.last.many,.int .i64 y.last.pos,.string y.last.word] 28)).cell? ⟨w1.heap.size,0,none⟩=some (.int .i64 y.last.many):=HZ.out.cell 0;have z1:(w1.alloc (.cells #[.int .i64 y.last.many,.int .i64 y.last.pos,.string y.last.word] 28)).cell? ⟨w1.heap.size,1,none⟩=some (.int .i64 y.last.pos):=HZ.out.cell 1;have z2:(w1.alloc (.cells #[.int .i64 y.last.many,.int .i64 y.last.pos,.string y.last.word] 28)).cell? ⟨w1.heap.size,2,none⟩=some (.string y.last.word):=HZ.out.cell 2;have zl:=HZ.out.lt;go_wp2_with fail;generalize w1.alloc (.cells #[.int .i64 y.last.many,.int .i64 y.last.pos,.string y.last.word] 28)=wz at *;generalize w1.heap.size=zb at *
   cases hr:kW y.last.word 1 9 with
   | none =>
     have HErr:RowKit.Hid (F.R = .error (71,y.last.pos)):=aA (by rw[HSy.out,hr]);have HNu:=aA (zR (w0:=wz) y.last.word 1 9 (by omega) (by omega) (by omega) ((HF.out.strc.under H.out.re.und).under HU1.out));refine HNu.out.mono ?_;rintro e w3 ⟨⟨n,rfl,hn⟩,hU3⟩;have hz3:=HZ.out.under hU3;have z1:=hz3.cell 1;have zl:=hz3.lt;have HU3:=aA (HU1.out.trans hU3);have hnd:=H.out.nd.under HU3.out;have n1:w3.cell? ⟨F.nb,1,none⟩=some (.int .i64 x.n):=hnd.cell 1;have nl:=hnd.lt;have nf:=hnd.free 1;have HSe:=aA (TgS.set_ch hF H.out HU3.out 1 (.int .i64 n));have HZn:RowKit.Hid (zb≠F.nb):=aA (λe=>by have:=H.out.nd.lt;omega);clear hz3 hnd z0 z2 HNu;rw[hr];have HRe:=aA HSe.out.1;have HCe:=aA HSe.out.2.1;have HWr:=aA (jG HRe.out y.last.pos 71);go_wp2_with fail;refine HWr.out.mono ?_;rintro e w4 hO;obtain⟨ov2,acc2,p2,e2,h1,h2,h3,rfl,rfl,rfl⟩:=hO;have H1:=aA h1;have H2:=aA h2;have H3:=aA h3;clear h1 h2 h3 HWr;go_wp2;refine .inr ⟨rfl,_,_,_,_,⟨_,fB (F:=dL false) (by rfl)⟩,HErr.out,H1.out,?_,?_⟩
     . exact HCe.out.trans (D:=qG F.rb ov1) H2.out (λi hi h=>.inl (iL H.out hi h))
     . intro b hb e;exact H.out.own b hb (H3.out b (Qb hb HCe.out.size) e)
   | some n0 =>
     have HSay:RowKit.Hid (F.R=goS F.cs F.ds (fC wt (F.parts.drop (k+1))) (F.ts.drop (k+1)) ⟨x.k,(n0:Int),x.m,x.s⟩ nms F.st t):=aA (by rw[HSy.out,hr]);have HNu:=aA (zR (w0:=wz) y.last.word 1 9 (by omega) (by omega) (by omega) ((HF.out.strc.under H.out.re.und).under HU1.out));refine HNu.out.mono ?_;rintro e w3 ⟨⟨n,rfl,hn⟩,hU3⟩;have hz3:=HZ.out.under hU3;have z1:=hz3.cell 1;have zl:=hz3.lt;have HU3:=aA (HU1.out.trans hU3);have hnd:=H.out.nd.under HU3.out;have n1:w3.cell? ⟨F.nb,1,none⟩=some (.int .i64 x.n):=hnd.cell 1;have nl:=hnd.lt;have nf:=hnd.free 1;have HSe:=aA (TgS.set_ch hF H.out HU3.out 1 (.int .i64 n));have HZn:RowKit.Hid (zb≠F.nb):=aA (λe=>by have:=H.out.nd.lt;omega);clear hz3 hnd z0 z2 HNu;obtain rfl:n=(n0:Int):=hn n0 hr;rw[hr];clear hn;go_wp2;refine⟨nms,wt,⟨x.k,(n0:Int),x.m,x.s⟩,t,ov1,p1,e1,nv,bB (F:=qE F.rb F.nb F.bv nv wt ⟨F.parts.toArray⟩ F.q2 F.ts.length F.c2 (k+1)) (by rw[hq2,<- HPs.out];rfl) ?_⟩;exact⟨HSe.out.1,HSe.out.2.1,H.out.own,HSe.out.2.2.1,HSe.out.2.2.2,HSay.out,Ql H.out.nlen (Nat.le_succ _),Ql H.out.tlen (cCA k HKn.out)⟩
 . have g26:x.k=26:=by simpa using h26
   rw[if_pos g26,if_pos g26]at HSy;clear g26;have hb:((ps[k]'hps).toNat:Int)=110:=by rw[hpc];rfl
   go_wp2_with fail;refine HLa.out.mono ?_;rintro e w1 ⟨rfl,hU1⟩;have HU1:=aA (bA hU1 (.cells #[.int .i64 y.last.many,.int .i64 y.last.pos,.string y.last.word] 28));have HZ:=aA (zA w1 #[.int .i64 y.last.many,.int .i64 y.last.pos,.string y.last.word] 28);have hw1:=hU1.size;clear hU1 HLa;unfold sxV;have m0:(w1.alloc (.cells #[.int .i64 y.last.many,.int .i64 y.last.pos,.string y.last.word] 28)).cell? ⟨F.nb,0,none⟩=some (.int .i64 x.k):=(H.out.nd.under HU1.out).cell 0;have z0:(w1.alloc (.cells #[.int .i64 y.last.many,.int .i64 y.last.pos,.string y.last.word] 28)).cell? ⟨w1.heap.size,0,none⟩=some (.int .i64 y.last.many):=HZ.out.cell 0;have z1:(w1.alloc (.cells #[.int .i64 y.last.many,.int .i64 y.last.pos,.string y.last.word] 28)).cell? ⟨w1.heap.size,1,none⟩=some (.int .i64 y.last.pos):=HZ.out.cell 1;have z2:(w1.alloc (.cells #[.int .i64 y.last.many,.int .i64 y.last.pos,.string y.last.word] 28)).cell? ⟨w1.heap.size,2,none⟩=some (.string y.last.word):=HZ.out.cell 2;have zl:=HZ.out.lt;go_wp2_with fail;generalize w1.alloc (.cells #[.int .i64 y.last.many,.int .i64 y.last.pos,.string y.last.word] 28)=wz at *;generalize w1.heap.size=zb at *
   cases hr:kW y.last.word 0 5 with
   | none =>
     have HErr:RowKit.Hid (F.R = .error (71,y.last.pos)):=aA (by rw[HSy.out,hr]);have HNu:=aA (zR (w0:=wz) y.last.word 0 5 (by omega) (by omega) (by omega) ((HF.out.strc.under H.out.re.und).under HU1.out));refine HNu.out.mono ?_;rintro e w3 ⟨⟨n,rfl,hn⟩,hU3⟩;have hz3:=HZ.out.under hU3;have z1:=hz3.cell 1;have zl:=hz3.lt;have HU3:=aA (HU1.out.trans hU3);have hnd:=H.out.nd.under HU3.out;have n1:w3.cell? ⟨F.nb,1,none⟩=some (.int .i64 x.n):=hnd.cell 1;have nl:=hnd.lt;have nf:=hnd.free 1;have HSe:=aA (TgS.set_ch hF H.out HU3.out 1 (.int .i64 n));have HZn:RowKit.Hid (zb≠F.nb):=aA (λe=>by have:=H.out.nd.lt;omega);clear hz3 hnd z0 z2 HNu;rw[hr];have HRe:=aA HSe.out.1;have HCe:=aA HSe.out.2.1;have HWr:=aA (jG HRe.out y.last.pos 71);go_wp2_with fail;refine HWr.out.mono ?_;rintro e w4 hO;obtain⟨ov2,acc2,p2,e2,h1,h2,h3,rfl,rfl,rfl⟩:=hO;have H1:=aA h1;have H2:=aA h2;have H3:=aA h3;clear h1 h2 h3 HWr;go_wp2;refine .inr ⟨rfl,_,_,_,_,⟨_,fB (F:=dL false) (by rfl)⟩,HErr.out,H1.out,?_,?_⟩
     . exact HCe.out.trans (D:=qG F.rb ov1) H2.out (λi hi h=>.inl (iL H.out hi h))
     . intro b hb e;exact H.out.own b hb (H3.out b (Qb hb HCe.out.size) e)
   | some n0 =>
     have HSay:RowKit.Hid (F.R=goS F.cs F.ds (fC wt (F.parts.drop (k+1))) (F.ts.drop (k+1)) ⟨x.k,(n0:Int),x.m,x.s⟩ nms F.st t):=aA (by rw[HSy.out,hr]);have HNu:=aA (zR (w0:=wz) y.last.word 0 5 (by omega) (by omega) (by omega) ((HF.out.strc.under H.out.re.und).under HU1.out));refine HNu.out.mono ?_;rintro e w3 ⟨⟨n,rfl,hn⟩,hU3⟩;have hz3:=HZ.out.under hU3;have z1:=hz3.cell 1;have zl:=hz3.lt;have HU3:=aA (HU1.out.trans hU3);have hnd:=H.out.nd.under HU3.out;have n1:w3.cell? ⟨F.nb,1,none⟩=some (.int .i64 x.n):=hnd.cell 1;have nl:=hnd.lt;have nf:=hnd.free 1;have HSe:=aA (TgS.set_ch hF H.out HU3.out 1 (.int .i64 n));have HZn:RowKit.Hid (zb≠F.nb):=aA (λe=>by have:=H.out.nd.lt;omega);clear hz3 hnd z0 z2 HNu;obtain rfl:n=(n0:Int):=hn n0 hr;rw[hr];clear hn;go_wp2;refine⟨nms,wt,⟨x.k,(n0:Int),x.m,x.s⟩,t,ov1,p1,e1,nv,bB (F:=qE F.rb F.nb F.bv nv wt ⟨F.parts.toArray⟩ F.q2 F.ts.length F.c2 (k+1)) (by rw[hq2,<- HPs.out];rfl) ?_⟩;exact⟨HSe.out.1,HSe.out.2.1,H.out.own,HSe.out.2.2.1,HSe.out.2.2.2,HSay.out,Ql H.out.nlen (Nat.le_succ _),Ql H.out.tlen (cCA k HKn.out)⟩
theorem q2A{cs ds:List ByteArray}{wt:Bool}{ks:List UInt8}{y:ST}{ys:List ST}{x:Nd}{nms st:List ByteArray}{t:List Nd} :
 goS cs ds (fC wt (100::ks)) (y::ys) x nms st t=if nH y.last.word then(if jK ds y.last.word then goS cs ds (fC wt ks) ys ⟨x.k,x.n,x.m,y.last.word⟩ nms st t else .error (80,y.last.pos)) else .error (71,y.last.pos):=by
 have:fC wt (100::ks) = .da::fC wt ks:=by simp[fC]
 rw[this,goS]
theorem m7A(F:TgFix)(hF:TgOk F){k:Nat}(hk:k < F.ts.length){nms:List ByteArray}{wt:Bool}{x:Nd}{t:List Nd}{ov1 nv:Value}{p1 e1:Int}{w:World}(hc:F.parts[k]? = some 100)(h:TgS F k nms wt x t ov1 p1 e1 nv w)(J:Nat->Value) :
 tgRound.wp prog (Exit.then (wT F (k+1)) (mHA F)) ⟨qE F.rb F.nb F.bv nv wt ⟨F.parts.toArray⟩ F.q2 F.ts.length F.c2 k J,[]⟩ w:=by
 have hc':(F.parts[k]'(by rw[hF.plen];exact hk))=100:=by
  rw[Qa (by rw[hF.plen];exact hk)]at hc;exact Qt hc
 clear hc;obtain⟨i0,hi,hz0,hz1,hz2⟩:=info_parts Tryz.infoStrZ;obtain⟨b,off,hq2,hbl,hnC,hat⟩:=hF.arg (λe=>by rw[e]at hk;exact absurd hk (Nat.not_lt_zero _));obtain⟨qi,ci,ckl,hci,hsxl,haw⟩:=hat k F.ts[k] (Qa hk);have hb:b < w.heap.size:=Qb hbl h.ch.size;have ck:=(mJ h.ch hbl hnC (off+k)).trans ckl;have hsx:=sK hsxl h.ch haw;have HSxl:=aA hsxl;clear ckl hsxl;have hyl:(qA F.ts[k]).length<=20000:=Ql (oH (Qr hk)) hF.len;have hpk:k < F.parts.length:=by rw[hF.plen];exact hk
 have hps:k < (⟨F.parts.toArray⟩:ByteArray).size:=by simpa [ByteArray.size] using hpk
 have hpc:(⟨F.parts.toArray⟩:ByteArray)[k]'hps=F.parts[k]:=rfl;have hsay:=h.say;rw[Qi hk,Qi hpk]at hsay;have hyw:F.ts[k].last.word.size<=1000000:=by
  obtain⟨i,hi⟩:=zF F.ts[k];refine hF.words _ ?_;have hm:=Qr hk;generalize F.ts[k]=y at *;exact kL hm
 have HLa:=aA (jJ (w0:=w) F.ts[k] (q:=qi) (cap:=ci) (by omega) hsx);have HY:=aA (show F.ts[k]∈F.ts from Qr hk);have HTk:=aA (show rA (F.ts.take (k+1))=rA (F.ts.take k)++qA F.ts[k] by rw[Qj hk,pE];simp[rA]);have HSy:=aA hsay;have HSx:=aA hsx;have HAw:=aA haw;have HF:=aA hF;have H:=aA h;have hn0:(F.ts.length:Int)<=20000:=by have:=mH F.ts;have:=hF.len;omega
 have hk0:(0:Int)<=(k:Int):=by omega
 have hkn:(k:Int) < (F.ts.length:Int):=by omega
 have HKn:=aA hk;clear hat hsx haw hsay h;generalize F.ts[k]=y at *;generalize F.parts[k]=c at *;obtain⟨ps,hps,hpc,HPs⟩:∃ ps:ByteArray,∃ hps:k < ps.size,ps[k]'hps=c/\RowKit.Hid (ps=(⟨F.parts.toArray⟩:ByteArray)):=⟨_,hps,hpc,aA rfl⟩;rw[<- HPs.out];unfold tgRound nP rX;simp only[f59,Qf,aB,jA,nC];unfold qE;rw[hq2];subst hc';rw[q2A]at HSy
 cases hnm:nH y.last.word
 . have HErr:RowKit.Hid (F.R = .error (71,y.last.pos)):=aA (by rw[HSy.out,hnm];rfl);have hb:((ps[k]'hps).toNat:Int)=100:=by rw[hpc];rfl
   go_wp2_with fail;refine HLa.out.mono ?_;rintro e w1 ⟨rfl,hU1⟩;have HU1:=aA (bA hU1 (.cells #[.int .i64 y.last.many,.int .i64 y.last.pos,.string y.last.word] 28));have HZ:=aA (zA w1 #[.int .i64 y.last.many,.int .i64 y.last.pos,.string y.last.word] 28);have hw1:=hU1.size;clear hU1 HLa;unfold sxV;have hnd:=H.out.nd.under HU1.out;have n3:(w1.alloc (.cells #[.int .i64 y.last.many,.int .i64 y.last.pos,.string y.last.word] 28)).cell? ⟨F.nb,3,none⟩=some (.string x.s):=hnd.cell 3;have nl:=hnd.lt;have nf:=hnd.free 3;have HSe:=aA (TgS.set_ch hF H.out HU1.out 3 (.string y.last.word));have hzn:w1.heap.size≠F.nb:=λe=>by have:=H.out.nd.lt;omega
   clear hnd;have z0:(w1.alloc (.cells #[.int .i64 y.last.many,.int .i64 y.last.pos,.string y.last.word] 28)).cell? ⟨w1.heap.size,0,none⟩=some (.int .i64 y.last.many):=HZ.out.cell 0;have z1:(w1.alloc (.cells #[.int .i64 y.last.many,.int .i64 y.last.pos,.string y.last.word] 28)).cell? ⟨w1.heap.size,1,none⟩=some (.int .i64 y.last.pos):=HZ.out.cell 1;have z2:(w1.alloc (.cells #[.int .i64 y.last.many,.int .i64 y.last.pos,.string y.last.word] 28)).cell? ⟨w1.heap.size,2,none⟩=some (.string y.last.word):=HZ.out.cell 2;have zl:=HZ.out.lt;have HZ2:=aA (HZ.out.other hzn 3 (.string y.last.word));have k0:=HZ2.out.cell 0;go_wp2_with fail;generalize ((w1.alloc (.cells #[.int .i64 y.last.many,.int .i64 y.last.pos,.string y.last.word] 28)).setCell ⟨F.nb,3,none⟩ (.string y.last.word))=wz at *;generalize w1.heap.size=zb at *;clear n3 nl nf z0 z1 z2 zl k0 hzn;have HNm:=aA (oK (w0:=wz) y.last (rb:=F.rb) (m1:=F.m1) (m2:=F.m2) (by simp only[maxLen];omega) HSe.out.1.tables);rw[hnm]at HNm;unfold sxV at HNm;refine HNm.out.mono ?_;rintro e w3 ⟨rfl,hU3⟩;have hz3:=HZ2.out.under hU3;have z1:=hz3.cell 1;have z2:=hz3.cell 2;have zl:=hz3.lt;have HZ3:=aA hz3;have HU3:=aA hU3;have HRe:=aA (HSe.out.1.under hU3);have HCe:=aA (HSe.out.2.1.under hU3);clear hU3 hz3 HNm;have HWr:=aA (jG HRe.out y.last.pos 71);go_wp2_with fail;refine HWr.out.mono ?_;rintro e w4 hO;obtain⟨ov2,acc2,p2,e2,h1,h2,h3,rfl,rfl,rfl⟩:=hO;have H1:=aA h1;have H2:=aA h2;have H3:=aA h3;clear h1 h2 h3 HWr;go_wp2;refine .inr ⟨rfl,_,_,_,_,⟨_,fB (F:=dL false) (by rfl)⟩,HErr.out,H1.out,?_,?_⟩
   . exact HCe.out.trans (D:=qG F.rb ov1) H2.out (λi hi h=>.inl (iL H.out hi h))
   . intro b hb e;exact H.out.own b hb (H3.out b (Qb hb HCe.out.size) e)
 . cases hds:jK F.ds y.last.word
   . have HErr:RowKit.Hid (F.R = .error (80,y.last.pos)):=aA (by rw[HSy.out,hnm,hds];rfl);have hb:((ps[k]'hps).toNat:Int)=100:=by rw[hpc];rfl
     go_wp2_with fail;refine HLa.out.mono ?_;rintro e w1 ⟨rfl,hU1⟩;have HU1:=aA (bA hU1 (.cells #[.int .i64 y.last.many,.int .i64 y.last.pos,.string y.last.word] 28));have HZ:=aA (zA w1 #[.int .i64 y.last.many,.int .i64 y.last.pos,.string y.last.word] 28);have hw1:=hU1.size;clear hU1 HLa;unfold sxV;have hnd:=H.out.nd.under HU1.out;have n3:(w1.alloc (.cells #[.int .i64 y.last.many,.int .i64 y.last.pos,.string y.last.word] 28)).cell? ⟨F.nb,3,none⟩=some (.string x.s):=hnd.cell 3;have nl:=hnd.lt;have nf:=hnd.free 3;have HSe:=aA (TgS.set_ch hF H.out HU1.out 3 (.string y.last.word));have hzn:w1.heap.size≠F.nb:=λe=>by have:=H.out.nd.lt;omega
     clear hnd;have z0:(w1.alloc (.cells #[.int .i64 y.last.many,.int .i64 y.last.pos,.string y.last.word] 28)).cell? ⟨w1.heap.size,0,none⟩=some (.int .i64 y.last.many):=HZ.out.cell 0;have z1:(w1.alloc (.cells #[.int .i64 y.last.many,.int .i64 y.last.pos,.string y.last.word] 28)).cell? ⟨w1.heap.size,1,none⟩=some (.int .i64 y.last.pos):=HZ.out.cell 1;have z2:(w1.alloc (.cells #[.int .i64 y.last.many,.int .i64 y.last.pos,.string y.last.word] 28)).cell? ⟨w1.heap.size,2,none⟩=some (.string y.last.word):=HZ.out.cell 2;have zl:=HZ.out.lt;have HZ2:=aA (HZ.out.other hzn 3 (.string y.last.word));have k0:=HZ2.out.cell 0;go_wp2_with fail;generalize ((w1.alloc (.cells #[.int .i64 y.last.many,.int .i64 y.last.pos,.string y.last.word] 28)).setCell ⟨F.nb,3,none⟩ (.string y.last.word))=wz at *;generalize w1.heap.size=zb at *;clear n3 nl nf z0 z1 z2 zl k0 hzn;have HNm:=aA (oK (w0:=wz) y.last (rb:=F.rb) (m1:=F.m1) (m2:=F.m2) (by simp only[maxLen];omega) HSe.out.1.tables);rw[hnm]at HNm;unfold sxV at HNm;refine HNm.out.mono ?_;rintro e w3 ⟨rfl,hU3⟩;have hz3:=HZ2.out.under hU3;have z1:=hz3.cell 1;have z2:=hz3.cell 2;have zl:=hz3.lt;have HZ3:=aA hz3;have HU3:=aA hU3;have HRe:=aA (HSe.out.1.under hU3);have HCe:=aA (HSe.out.2.1.under hU3);clear hU3 hz3 HNm;have c1:=HRe.out.box.cell 1;have cl:=HRe.out.box.lt;have HCt:=aA (λw' (hU:Under w3 w')=>jQ y.last.word (HF.out.dsT.under (HRe.out.und.trans hU)) HF.out.dsl);rw[hds]at HCt;have ccd:=And.intro c1 z2;go_wp2_with fail;go_region_held3 (λw'=>w'.cell? ⟨F.rb,1,none⟩=some F.dv/\w'.cell? ⟨zb,2,none⟩=some (.string y.last.word))
       (first
         | exact ccd
         | go_keep)
       ((go_at_call 84;refine(HCt.out _ (by first|exact fA (Qu _)|exact Qu _)).mono ?_;rintro e w7 ⟨rfl,rfl⟩))
     rename_i K hK hHeld;clear hHeld ccd c1 cl z1 z2 zl;have HRe:=aA (HRe.out.under (fA (Qu _)));have HCe:=aA (HCe.out.under (fA (Qu _)));have HZ4:=aA (HZ3.out.under (fA (Qu _)));have HNd:=aA ((HSe.out.2.2.1.under HU3.out).under (fA (Qu _)));have HRw:=aA (uA (uA HSe.out.2.2.2 HU3.out) (fA (Qu _)));have z1:=HZ4.out.cell 1;have zl:=HZ4.out.lt;generalize w3.drew=w3 at *;have HWr:=aA (jG HRe.out y.last.pos 80);go_wp2_with fail;refine HWr.out.mono ?_;rintro e w4 hO;obtain⟨ov2,acc2,p2,e2,h1,h2,h3,rfl,rfl,rfl⟩:=hO;have H1:=aA h1;have H2:=aA h2;have H3:=aA h3;clear h1 h2 h3 HWr;go_wp2;refine .inr ⟨rfl,_,_,_,_,⟨_,fB (F:=dL false) (by rfl)⟩,HErr.out,H1.out,?_,?_⟩
     . exact HCe.out.trans (D:=qG F.rb ov1) H2.out (λi hi h=>.inl (iL H.out hi h))
     . intro b hb e;exact H.out.own b hb (H3.out b (Qb hb HCe.out.size) e)
   . have HSay:RowKit.Hid (F.R=goS F.cs F.ds (fC wt (F.parts.drop (k+1))) (F.ts.drop (k+1)) ⟨x.k,x.n,x.m,y.last.word⟩ nms F.st t):=aA (by rw[HSy.out,hnm,hds];rfl);have hb:((ps[k]'hps).toNat:Int)=100:=by rw[hpc];rfl
     go_wp2_with fail;refine HLa.out.mono ?_;rintro e w1 ⟨rfl,hU1⟩;have HU1:=aA (bA hU1 (.cells #[.int .i64 y.last.many,.int .i64 y.last.pos,.string y.last.word] 28));have HZ:=aA (zA w1 #[.int .i64 y.last.many,.int .i64 y.last.pos,.string y.last.word] 28);have hw1:=hU1.size;clear hU1 HLa;unfold sxV;have hnd:=H.out.nd.under HU1.out;have n3:(w1.alloc (.cells #[.int .i64 y.last.many,.int .i64 y.last.pos,.string y.last.word] 28)).cell? ⟨F.nb,3,none⟩=some (.string x.s):=hnd.cell 3;have nl:=hnd.lt;have nf:=hnd.free 3;have HSe:=aA (TgS.set_ch hF H.out HU1.out 3 (.string y.last.word));have hzn:w1.heap.size≠F.nb:=λe=>by have:=H.out.nd.lt;omega
     clear hnd;have z0:(w1.alloc (.cells #[.int .i64 y.last.many,.int .i64 y.last.pos,.string y.last.word] 28)).cell? ⟨w1.heap.size,0,none⟩=some (.int .i64 y.last.many):=HZ.out.cell 0;have z1:(w1.alloc (.cells #[.int .i64 y.last.many,.int .i64 y.last.pos,.string y.last.word] 28)).cell? ⟨w1.heap.size,1,none⟩=some (.int .i64 y.last.pos):=HZ.out.cell 1;have z2:(w1.alloc (.cells #[.int .i64 y.last.many,.int .i64 y.last.pos,.string y.last.word] 28)).cell? ⟨w1.heap.size,2,none⟩=some (.string y.last.word):=HZ.out.cell 2;have zl:=HZ.out.lt;have HZ2:=aA (HZ.out.other hzn 3 (.string y.last.word));have k0:=HZ2.out.cell 0;go_wp2_with fail;generalize ((w1.alloc (.cells #[.int .i64 y.last.many,.int .i64 y.last.pos,.string y.last.word] 28)).setCell ⟨F.nb,3,none⟩ (.string y.last.word))=wz at *;generalize w1.heap.size=zb at *;clear n3 nl nf z0 z1 z2 zl k0 hzn;have HNm:=aA (oK (w0:=wz) y.last (rb:=F.rb) (m1:=F.m1) (m2:=F.m2) (by simp only[maxLen];omega) HSe.out.1.tables);rw[hnm]at HNm;unfold sxV at HNm;refine HNm.out.mono ?_;rintro e w3 ⟨rfl,hU3⟩;have hz3:=HZ2.out.under hU3;have z1:=hz3.cell 1;have z2:=hz3.cell 2;have zl:=hz3.lt;have HZ3:=aA hz3;have HU3:=aA hU3;have HRe:=aA (HSe.out.1.under hU3);have HCe:=aA (HSe.out.2.1.under hU3);clear hU3 hz3 HNm;have c1:=HRe.out.box.cell 1;have cl:=HRe.out.box.lt;have HCt:=aA (λw' (hU:Under w3 w')=>jQ y.last.word (HF.out.dsT.under (HRe.out.und.trans hU)) HF.out.dsl);rw[hds]at HCt;have ccd:=And.intro c1 z2;go_wp2_with fail;go_region_held3 (λw'=>w'.cell? ⟨F.rb,1,none⟩=some F.dv/\w'.cell? ⟨zb,2,none⟩=some (.string y.last.word))
       (first
         | exact ccd
         | go_keep)
       ((go_at_call 84;refine(HCt.out _ (by first|exact fA (Qu _)|exact Qu _)).mono ?_;rintro e w7 ⟨rfl,rfl⟩))
     rename_i K hK hHeld;clear hHeld ccd c1 cl z1 z2 zl;have HRe:=aA (HRe.out.under (fA (Qu _)));have HCe:=aA (HCe.out.under (fA (Qu _)));have HZ4:=aA (HZ3.out.under (fA (Qu _)));have HNd:=aA ((HSe.out.2.2.1.under HU3.out).under (fA (Qu _)));have HRw:=aA (uA (uA HSe.out.2.2.2 HU3.out) (fA (Qu _)));have z1:=HZ4.out.cell 1;have zl:=HZ4.out.lt;generalize w3.drew=w3 at *;go_wp2;refine⟨nms,wt,⟨x.k,x.n,x.m,y.last.word⟩,t,ov1,p1,e1,nv,bB (F:=qE F.rb F.nb F.bv nv wt ⟨F.parts.toArray⟩ F.q2 F.ts.length F.c2 (k+1)) (by rw[hq2,<- HPs.out];rfl) ?_⟩;exact⟨HRe.out,HCe.out,H.out.own,HNd.out,HRw.out,HSay.out,Ql H.out.nlen (Nat.le_succ _),Ql H.out.tlen (cCA k HKn.out)⟩
theorem q3A{cs ds:List ByteArray}{wt:Bool}{c:UInt8}{ks:List UInt8}{y:ST}{ys:List ST}{x:Nd}{nms st:List ByteArray}{t:List Nd}(h1:c≠118)(h2:c≠119)(h3:c≠110)(h4:c≠100) :
 goS cs ds (fC wt (c::ks)) (y::ys) x nms st t=match pG cs ds y (if wt then st else st++nms) with|.ok t'=>goS cs ds (fC false ks) ys x (if wt then nms else []) st (t++t')|.error e=>.error e:=by
 have:fC wt (c::ks) = .te wt::fC false ks:=by simp[fC,h1,h2,h3,h4]
 rw[this,goS]
 cases pG cs ds y (if wt then st else st++nms)<;>rfl
theorem gCA{c d:UInt8}{n:Int}(h:c≠d)(hd:(d.toNat:Int)=n):((c.toNat:Int)==n)=false:=beq_false_of_ne λe=>h (UInt8.toNat_inj.1 (by omega))
theorem eLA{F:TgFix}{k:Nat}{nms:List ByteArray}{wt:Bool}{x:Nd}{t:List Nd}{ov1 nv:Value}{p1 e1:Int}{w:World}(h:TgS F k nms wt x t ov1 p1 e1 nv w){b:Nat}(hb:b < F.wl.heap.size)(hn:¬ TgC F.rb F.ov F.nb b):¬ qG F.rb ov1 b:=λhr=>hn (.inl (iL h hb hr))
theorem mTA{F:TgFix}{k:Nat}{nms:List ByteArray}{wt:Bool}{x:Nd}{t:List Nd}{ov1 nv:Value}{p1 e1:Int}{w:World}(h:TgS F k nms wt x t ov1 p1 e1 nv w){q:Option Addr}{y:ST}(hs:SxArg F.wl q (qA y))(ha:jFA (TgC F.rb F.ov F.nb) q):jFA (qG F.rb ov1) q:=by
 intro b off x e;have hp:=tL y;obtain⟨b',off',e',hb',_⟩:=hs (λe=>by rw[e]at hp;exact absurd hp (Nat.lt_irrefl _));rw[e]at e'
 cases e';exact eLA h hb' (ha _ _ _ e)
theorem q7A{F:TgFix}{k:Nat}{nms:List ByteArray}{wt:Bool}{x:Nd}{t:List Nd}{ov1 nv:Value}{p1 e1:Int}{w:World}(h:TgS F k nms wt x t ov1 p1 e1 nv w){v:Value}{ss:List ByteArray}(hs:TextsV F.wl v ss)(ha:kZ (TgC F.rb F.ov F.nb) v):kZ (qG F.rb ov1) v:=by
 obtain⟨p,c,rfl,h1,h2,h3⟩:=hs;intro q n c' e hn
 cases e;intro b off x e;obtain⟨b',off',e',hb',_⟩:=h3 (λe=>hn (by rw[List.map_eq_nil_iff.1 e];rfl));rw[e]at e'
 cases e';exact eLA h hb' (ha _ _ _ rfl hn _ _ _ e)
theorem wQA{l:List ST}{y:ST}(h:y∈l){x:Sx}(hx:x∈qA y):x∈rA l:=by
 induction l with
 | nil=>cases h
 | cons a l ih =>
   rw[rA,List.mem_append];rcases List.mem_cons.1 h with rfl|h
   . exact .inl hx
   . exact .inr (ih h)
theorem sI(k:Nat)(l:List ST):(rA (l.take k)).length<=(rA l).length:=by
 have:rA l=rA (l.take k)++rA (l.drop k):=by rw[<- pE,List.take_append_drop]
 rw[this,Qc];omega
theorem d5A(F:TgFix)(hF:TgOk F){k:Nat}(hk:k < F.ts.length){nms:List ByteArray}{wt:Bool}{x:Nd}{t:List Nd}{ov1 nv:Value}{p1 e1:Int}{w:World}{c0:UInt8}(hc:F.parts[k]? = some c0)(g1:c0≠118)(g2:c0≠119)(g3:c0≠110)(g4:c0≠100)(ih:∀ y∈F.ts,tJA y)(h:TgS F k nms wt x t ov1 p1 e1 nv w)(J:Nat->Value) :
 tgRound.wp prog (Exit.then (wT F (k+1)) (mHA F)) ⟨qE F.rb F.nb F.bv nv wt ⟨F.parts.toArray⟩ F.q2 F.ts.length F.c2 k J,[]⟩ w:=by
 have hc':(F.parts[k]'(by rw[hF.plen];exact hk))=c0:=by
  rw[Qa (by rw[hF.plen];exact hk)]at hc;exact Qt hc
 clear hc;obtain⟨i0,hi,hz0,hz1,hz2⟩:=info_parts Tryz.infoStrZ;obtain⟨b,off,hq2,hbl,hnC,hat⟩:=hF.arg (λe=>by rw[e]at hk;exact absurd hk (Nat.not_lt_zero _));obtain⟨qi,ci,ckl,hci,hsxl,haw⟩:=hat k F.ts[k] (Qa hk);have hb:b < w.heap.size:=Qb hbl h.ch.size;have ck:=(mJ h.ch hbl hnC (off+k)).trans ckl;have hsx:=sK hsxl h.ch haw;have HSxl:=aA hsxl;clear ckl hsxl;have hyl:(qA F.ts[k]).length<=20000:=Ql (oH (Qr hk)) hF.len;have hpk:k < F.parts.length:=by rw[hF.plen];exact hk
 have hps:k < (⟨F.parts.toArray⟩:ByteArray).size:=by simpa [ByteArray.size] using hpk
 have hpc:(⟨F.parts.toArray⟩:ByteArray)[k]'hps=F.parts[k]:=rfl;have hsay:=h.say;rw[Qi hk,Qi hpk]at hsay;have hyw:F.ts[k].last.word.size<=1000000:=by
  obtain⟨i,hi⟩:=zF F.ts[k];refine hF.words _ ?_;have hm:=Qr hk;generalize F.ts[k]=y at *;exact kL hm
 have HLa:=aA (jJ (w0:=w) F.ts[k] (q:=qi) (cap:=ci) (by omega) hsx);have HY:=aA (show F.ts[k]∈F.ts from Qr hk);have HTk:=aA (show rA (F.ts.take (k+1))=rA (F.ts.take k)++qA F.ts[k] by rw[Qj hk,pE];simp[rA]);have HSy:=aA hsay;have HSx:=aA hsx;have HAw:=aA haw;have HF:=aA hF;have H:=aA h;have hn0:(F.ts.length:Int)<=20000:=by have:=mH F.ts;have:=hF.len;omega
 have hk0:(0:Int)<=(k:Int):=by omega
 have hkn:(k:Int) < (F.ts.length:Int):=by omega
 have HKn:=aA hk;clear hat hsx haw hsay h;generalize F.ts[k]=y at *;generalize F.parts[k]=c at *;obtain⟨ps,hps,hpc,HPs⟩:∃ ps:ByteArray,∃ hps:k < ps.size,ps[k]'hps=c/\RowKit.Hid (ps=(⟨F.parts.toArray⟩:ByteArray)):=⟨_,hps,hpc,aA rfl⟩;rw[<- HPs.out];unfold tgRound nP rX;simp only[f59,Qf,aB,jA,nC];unfold qE;rw[hq2];subst hc';rw[q3A g1 g2 g3 g4]at HSy;have nb1:(((ps[k]'hps).toNat:Int)==118)=false:=by rw[hpc];exact gCA g1 rfl
 have nb2:(((ps[k]'hps).toNat:Int)==119)=false:=by rw[hpc];exact gCA g2 rfl
 have nb3:(((ps[k]'hps).toNat:Int)==110)=false:=by rw[hpc];exact gCA g3 rfl
 have nb4:(((ps[k]'hps).toNat:Int)==100)=false:=by rw[hpc];exact gCA g4 rfl
 clear hpc g1 g2 g3 g4;have HI:=aA (ih y HY.out);have HOk:=aA (rO.1 hF.ok y HY.out);have HWo:=aA (λx (hx:x∈qA y)=>hF.words x (wQA HY.out hx));have hle1:=sI (k+1) F.ts;rw[HTk.out,Qc]at hle1;have hle2:=mH (F.ts.take k);rw[List.length_take,Nat.min_eq_left (Nat.le_of_lt HKn.out)]at hle2;have HBd:=aA (show F.st.length+nms.length+(qA y).length<=50000/\(F.acc++t).length+(qA y).length<=900000 by
   have:=hF.stl;have:=hF.accl;have:=H.out.nlen;have:=H.out.tlen;rw[Qc];omega)
 have HStn:=aA (show F.st.length<=50000/\nms.length<=20000 by have:=hF.stl;have:=H.out.nlen;have:=hF.len;omega);clear hle1 hle2;have HTx:=aA (pZA hF.bound H.out.ch hF.away);obtain⟨pb,cb,hbv,_⟩:=hF.bound;rw[hbv]
 cases wt
 . have HTn:=aA (TextsV.of_own H.out.row);obtain⟨pn,cn,hnv,_⟩:=HTn.out;subst hnv;have HCo:=aA (λw' (hU:Under w w')=>dEA (w0:=w'.alloc (.cells #[F.bv,.slice pn nms.length cn] 80)) (v:=.slice (some ⟨w'.heap.size,0,none⟩) 2 2) [F.st,nms] (by simp) (by have:=HStn.out;simp;omega) ⟨_,_,[F.bv,.slice pn nms.length cn],rfl,Qd _,(λe=>by cases e),wP _ _ _ _,by
     refine⟨rfl,λi v x hv hx=>?_⟩
     match i,hv,hx with
     | 0,hv,hx=>cases hv;cases hx;exact(HTx.out.under hU).under (bA (Qu _) _)
     | 1,hv,hx=>cases hv;cases hx;exact(HTn.out.under hU).under (bA (Qu _) _)⟩)
   go_wp2_with fail;refine HLa.out.mono ?_;rintro e w1 ⟨rfl,hU1⟩;have HU1:=aA (bA hU1 (.cells #[.int .i64 y.last.many,.int .i64 y.last.pos,.string y.last.word] 28));have HZ:=aA (zA w1 #[.int .i64 y.last.many,.int .i64 y.last.pos,.string y.last.word] 28);have hw1:=hU1.size;clear hU1 HLa;unfold sxV;have HCc:=aA (HCo.out _ HU1.out);have HUa:=aA (bA HU1.out (.cells #[F.bv,.slice pn nms.length cn] 80));rw[hbv]at HCc HUa;rw[World.size_alloc]at HCc;clear HCo;go_wp2_with fail;refine HCc.out.mono ?_;rintro e w2 ⟨v,rfl,hv,hU2⟩;have hfl:[F.st,nms].flatten=F.st++nms:=by simp
   rw[hfl]at hv;have HU2:=aA (HUa.out.trans hU2);have HRe:=aA (H.out.re.under HU2.out);have HCe:=aA (H.out.ch.under HU2.out);have HNe:=aA (H.out.nd.under HU2.out);have HCa:=aA (HI.out F.W0 w2 F.rb F.m1 F.m2 F.cv F.dv ov1 (F.acc++t) p1 e1 qi ci v (F.st++nms) F.cs F.ds HOk.out hyl hci HWo.out hF.strc hF.csT hF.dsT hF.csl hF.dsl HRe.out (HSx.out.under HU2.out) (mTA H.out HSxl.out HAw.out) (TextsV.of_own hv) (lYA hv (HRe.out.row_out hv (by decide) (by decide))) (by rw[Qc];exact HBd.out.1) HBd.out.2);clear hfl hU2 hv HCc HI;go_wp2_with fail;rcases hR:pG F.cs F.ds y (F.st++nms) with⟨e0,p0⟩|ty
   . have HErr:RowKit.Hid (F.R = .error (e0,p0)):=aA (by rw[HSy.out];simp only[Qs,if_false,hR]);rw[hR]at HCa;refine HCa.out.mono ?_;rintro e w5 hO;obtain⟨ov2,acc2,p2,e2,h1,h2,h3,rfl,rfl,rfl⟩:=hO;have H1:=aA h1;have H2:=aA h2;have H3:=aA h3;clear h1 h2 h3 HCa;go_wp2;refine .inr ⟨rfl,_,_,_,_,⟨_,fB (F:=dL false) (by rfl)⟩,HErr.out,H1.out,?_,?_⟩
     . exact HCe.out.trans (D:=qG F.rb ov1) H2.out (λi hi h=>.inl (iL H.out hi h))
     . intro b hb e;exact H.out.own b hb (H3.out b (Qb hb HCe.out.size) e)
   . have HSay:RowKit.Hid (F.R=goS F.cs F.ds (fC false (F.parts.drop (k+1))) (F.ts.drop (k+1)) x [] F.st (t++ty)):=aA (by rw[HSy.out];simp only[Qs,if_false,hR]);have HLy:=aA (aP y _ _ hR);rw[hR]at HCa;refine HCa.out.mono ?_;rintro e w5 hO;obtain⟨ov2,acc2,p2,e2,h1,h2,h3,rfl,rfl⟩:=hO;have H1:=aA h1;have H2:=aA h2;have H3:=aA h3;clear h1 h2 h3 HCa;go_wp2;refine⟨[],false,x,t++ty,ov2,p2,e2,(.slice none 0 0),bB (F:=qE F.rb F.nb F.bv (.slice none 0 0) false ⟨F.parts.toArray⟩ F.q2 F.ts.length F.c2 (k+1)) (by rw[hq2,hbv,<- HPs.out];rfl) ?_⟩;refine⟨by rw[<- List.append_assoc];exact H1.out,HCe.out.trans (D:=qG F.rb ov1) H2.out (λi hi h=>.inl (iL H.out hi h)),λb hb e=>H.out.own b hb (H3.out b (Qb hb HCe.out.size) e),fH HNe.out H2.out (λhr=>hF.nrc (iL H.out hF.nlt hr)),?_,HSay.out,?_,?_⟩
     . exact World.ownsRow_nil _ _ _ _
     . exact Nat.zero_le _
     . rw[Qc,HTk.out,Qc];have:=H.out.tlen;have:=HLy.out;omega
 . go_wp2_with fail;refine HLa.out.mono ?_;rintro e w1 ⟨rfl,hU1⟩;have HU1:=aA (bA hU1 (.cells #[.int .i64 y.last.many,.int .i64 y.last.pos,.string y.last.word] 28));have HZ:=aA (zA w1 #[.int .i64 y.last.many,.int .i64 y.last.pos,.string y.last.word] 28);have hw1:=hU1.size;clear hU1 HLa;unfold sxV;have HRe:=aA (H.out.re.under HU1.out);have HCe:=aA (H.out.ch.under HU1.out);have HNe:=aA (H.out.nd.under HU1.out);have HRw:=aA (uA H.out.row HU1.out);have HCa:=aA (HI.out F.W0 _ F.rb F.m1 F.m2 F.cv F.dv ov1 (F.acc++t) p1 e1 qi ci F.bv F.st F.cs F.ds HOk.out hyl hci HWo.out hF.strc hF.csT hF.dsT hF.csl hF.dsl HRe.out (HSx.out.under HU1.out) (mTA H.out HSxl.out HAw.out) (HTx.out.under HU1.out) (q7A H.out hF.bound hF.away) (by have:=HBd.out.1;omega) HBd.out.2);clear HI;rw[hbv]at HCa;go_wp2_with fail;rcases hR:pG F.cs F.ds y F.st with⟨e0,p0⟩|ty
   . have HErr:RowKit.Hid (F.R = .error (e0,p0)):=aA (by rw[HSy.out];simp only[if_true,hR]);rw[hR]at HCa;refine HCa.out.mono ?_;rintro e w5 hO;obtain⟨ov2,acc2,p2,e2,h1,h2,h3,rfl,rfl,rfl⟩:=hO;have H1:=aA h1;have H2:=aA h2;have H3:=aA h3;clear h1 h2 h3 HCa;go_wp2;refine .inr ⟨rfl,_,_,_,_,⟨_,fB (F:=dL false) (by rfl)⟩,HErr.out,H1.out,?_,?_⟩
     . exact HCe.out.trans (D:=qG F.rb ov1) H2.out (λi hi h=>.inl (iL H.out hi h))
     . intro b hb e;exact H.out.own b hb (H3.out b (Qb hb HCe.out.size) e)
   . have HSay:RowKit.Hid (F.R=goS F.cs F.ds (fC false (F.parts.drop (k+1))) (F.ts.drop (k+1)) x nms F.st (t++ty)):=aA (by rw[HSy.out];simp only[if_true,hR]);have HLy:=aA (aP y _ _ hR);rw[hR]at HCa;refine HCa.out.mono ?_;rintro e w5 hO;obtain⟨ov2,acc2,p2,e2,h1,h2,h3,rfl,rfl⟩:=hO;have H1:=aA h1;have H2:=aA h2;have H3:=aA h3;clear h1 h2 h3 HCa;go_wp2;refine⟨nms,false,x,t++ty,ov2,p2,e2,nv,bB (F:=qE F.rb F.nb F.bv nv false ⟨F.parts.toArray⟩ F.q2 F.ts.length F.c2 (k+1)) (by rw[hq2,hbv,<- HPs.out];rfl) ?_⟩;refine⟨by rw[<- List.append_assoc];exact H1.out,HCe.out.trans (D:=qG F.rb ov1) H2.out (λi hi h=>.inl (iL H.out hi h)),λb hb e=>H.out.own b hb (H3.out b (Qb hb HCe.out.size) e),fH HNe.out H2.out (λhr=>hF.nrc (iL H.out hF.nlt hr)),?_,HSay.out,?_,?_⟩
     . exact iE HRw.out H2.out (HRe.out.row_out HRw.out (by decide) (by decide))
     . exact Ql H.out.nlen (Nat.le_succ _)
     . rw[Qc,HTk.out,Qc];have:=H.out.tlen;have:=HLy.out;omega
theorem l5A(rb nb:Nat)(bv nv:Value)(wt:Bool)(ps:ByteArray)(q2:Option Addr)(n c2:Nat)(J:Nat->Value)(w:World) :
 tgRound.wp prog (Exit.then (λ_ _=>False) (λe a' w'=>e = .exit 0/\∃ J,a'=⟨qE rb nb bv nv wt ps q2 n c2 n J,[]⟩/\w'=w)) ⟨qE rb nb bv nv wt ps q2 n c2 n J,[]⟩ w:=by
 unfold tgRound nP rX;simp only[f59,Qf,aB,jA,nC];unfold qE;go_wp2;exact⟨trivial,bB (F:=qE rb nb bv nv wt ps q2 n c2 n) (by rfl) trivial⟩
theorem aAA(F:TgFix)(hF:TgOk F)(ih:∀ y∈F.ts,tJA y)(a:Act)(w:World)(h0:wT F 0 a w):(Code.loop tgRound).wp prog (mHA F) a w:=by
 refine wp_loop_ghost (λm a w=>∃ k,m+k=F.ts.length/\wT F k a w) F.ts.length ⟨0,rfl,h0⟩ ?_;clear h0;rintro m a w ⟨k,hmk,nms,wt,x,t,ov1,p1,e1,nv,J,rfl,h⟩;by_cases hk:k < F.ts.length
 . have hpk:k < F.parts.length:=by rw[hF.plen];exact hk
   have hc:F.parts[k]? = some F.parts[k]:=Qa hpk;have key:tgRound.wp prog (Exit.then (wT F (k+1)) (mHA F)) ⟨qE F.rb F.nb F.bv nv wt ⟨F.parts.toArray⟩ F.q2 F.ts.length F.c2 k J,[]⟩ w:=by
    by_cases g1:F.parts[k]=118
    . exact nTA F hF hk (.inl (by rw[hc,g1])) h J
    by_cases g2:F.parts[k]=119
    . exact nTA F hF hk (.inr (by rw[hc,g2])) h J
    by_cases g3:F.parts[k]=110
    . exact m9A F hF hk (by rw[hc,g3]) h J
    by_cases g4:F.parts[k]=100
    . exact m7A F hF hk (by rw[hc,g4]) h J
    exact d5A F hF hk hc g1 g2 g3 g4 ih h J
   refine wp_mono key ?_;rintro e a' w' h
   cases e with
   | normal=>exact⟨m - 1,by omega,k+1,by omega,h⟩
   | _=>exact h
 . obtain rfl:k=F.ts.length:=by have:=mH F.ts;omega
   refine wp_mono (l5A F.rb F.nb F.bv nv wt ⟨F.parts.toArray⟩ F.q2 F.ts.length F.c2 J w) ?_;rintro e a' w' h'
   cases e with
   | normal=>exact h'.elim
   | _ =>
     obtain⟨h1,J',rfl,rfl⟩:=h';exact .inl ⟨h1,nms,wt,x,t,ov1,p1,e1,nv,J',rfl,h⟩
theorem eSA(pp:Int)(s:ByteArray):tJA (.word pp s):=by
 rintro W0 w rb m1 m2 cv dv ov acc p e q cap bv st cs ds hok hn hcap hw hE hcs hds hcn hdn hR hq ha hb hab hst hacc;have HLa:=aA (jJ (w0:=w) (.word pp s) (q:=q) (cap:=cap) (by omega) hq);have HR:=aA hR;have HB:=aA hb;have hs:s.size≠0:=hok;have hne:=(nJ hs).1;have hne2:=(nJ hs).2;have hwx:s.size<=1000000:=hw ⟨0,pp,s⟩ (by simp[qA]);rw[pG];have HWd:=aA (λw1 (hU:Under w w1)=>uUA ⟨0,pp,s⟩ cs st (bv:=bv) hwx (hR.under hU) (hb.under hU) (by omega) (by omega) hcs hcn);have hl1:(qA (.word pp s)).length=1:=rfl;rw[hl1]at HLa ⊢;clear hR hb hq ha hab hst hacc hn hcap hw hok hl1 hcs hds;simp only[ST.last,sxV]at HLa;simp only[sxV]at HWd;go_enter func59,ntmps59;go_wp2_with fail;refine wp_scope_straight ?_;go_wp2_with fail;refine HLa.out.mono ?_;rintro e w1 ⟨rfl,hU1⟩;have HU1:=aA (bA hU1 (.cells #[.int .i64 0,.int .i64 pp,.string s] 28));have hZ:=zA w1 #[.int .i64 0,.int .i64 pp,.string s] 28;have z0:(w1.alloc (.cells #[.int .i64 0,.int .i64 pp,.string s] 28)).cell? ⟨w1.heap.size,0,none⟩=some (.int .i64 (0)):=hZ.cell 0;have z1:(w1.alloc (.cells #[.int .i64 0,.int .i64 pp,.string s] 28)).cell? ⟨w1.heap.size,1,none⟩=some (.int .i64 (pp)):=hZ.cell 1;have z2:(w1.alloc (.cells #[.int .i64 0,.int .i64 pp,.string s] 28)).cell? ⟨w1.heap.size,2,none⟩=some (.string s):=hZ.cell 2;have zl:=hZ.lt;have HZ:=aA hZ;have hw1:=hU1.size;clear hU1 HLa hZ;go_wp2_with fail;refine(HWd.out _ HU1.out).mono ?_;rintro e w2 hO;have HO:=aA (ReOut.back HU1.out hO);have hv:∃ b,e = .returned (.bool b):=by
  obtain⟨_,_,_,_,_,_,_,h⟩:=hO
  split at h
  . exact⟨_,h.1⟩
  . exact⟨_,h.1⟩
 obtain⟨b,rfl⟩:=hv;clear hO HWd;go_wp2;rw[Exit.noGoto_ret];go_ret;exact HO.out
theorem g1A{W0 w:World}{rb m1 m2:Nat}{cv dv ov:Value}{acc:List Nd}{p e:Int}{base:Nat}{vo:Value}{vs:List Value}{l:List ST}(hR:ReS W0 rb m1 m2 cv dv ov acc p e w)
    (h1:w.ownsRow base 23 1 vo (l.map qA).length vs) (h2:SxOwns w base vs (l.map qA)):∃ q c,vo = .slice q l.length c/\l.length<=c/\TsArg (qG rb ov) w q l:=by
  rw[List.length_map]at h1;have hro:=hR.row_out h1 (by decide) (by decide);obtain⟨q,c,rfl,hc,hr⟩:=RowArg.of_own h1;refine⟨q,c,rfl,hc,λhne=>?_⟩;have hl0:0 < l.length:=List.length_pos_iff.2 hne;obtain⟨g,c',e1,hg,_,hgl,_,_⟩:=yE h1 hl0
  cases e1;refine⟨g,0,rfl,hgl,hro g hg,λi T hi=>?_⟩;obtain⟨v,hv,hrow⟩:=h2.at (i:=i) (l:=qA T) (by rw[List.getElem?_map,hi];rfl);have hro2:=hR.row_out hrow (by decide) (by decide);obtain⟨qi,ci,rfl,hci,hsx⟩:=cZ hrow;refine⟨qi,ci,by rw[Nat.zero_add];exact rD h1 hg hv,hci,hsx,λb off x e=>?_⟩;obtain⟨gi,ci',e2,hgi,_,_,_,_⟩:=yE hrow (tL T)
  cases e2
  cases e;exact hro2 _ rfl
theorem TsArg.more{C:Nat->Prop}{w:World}{q:Option Addr}{ts:List ST}{nb:Nat}(h:TsArg C w q ts)(hn:w.heap.size<=nb):TsArg (λb=>C b∨b=nb) w q ts:=λhne=>by
 obtain⟨b,off,rfl,hb,hnC,hc⟩:=h hne;refine⟨b,off,rfl,hb,λe=>e.elim hnC (λe=>by omega),λi T hi=>?_⟩;obtain⟨qi,ci,h1,h2,h3,h4⟩:=hc i T hi;refine⟨qi,ci,h1,h2,h3,λb' off' x e=>?_⟩;have hp:=tL T;obtain⟨b2,off2,e',hb',_⟩:=h3 (λe=>by rw[e]at hp;exact absurd hp (Nat.lt_irrefl _));rw[e]at e'
 cases e';exact λe2=>e2.elim (h4 _ _ _ e) (λe2=>by omega)
theorem TsArg.tail{C:Nat->Prop}{w:World}{b off:Nat}{a:ST}{ts:List ST}(h:TsArg C w (some ⟨b,off,none⟩) (a::ts)):TsArg C w (some ⟨b,off+1,none⟩) ts:=λhne=>by
 obtain⟨b',off',e,hb,hnC,hc⟩:=h (by simp)
 cases e;refine⟨b,off+1,rfl,hb,hnC,λi T hi=>?_⟩;obtain⟨qi,ci,h1,h2⟩:=hc (i+1) T (by simpa using hi);exact⟨qi,ci,by rw[show off+1+i=off+(i+1) by omega];exact h1,h2⟩
theorem zVA(pp:Int):tJA (.list pp []):=by
 rintro W0 w rb m1 m2 cv dv ov acc p e q cap bv st cs ds hok hn hcap hw hE hcs hds hcn hdn hR hq ha hb hab hst hacc;have HLa:=aA (jJ (w0:=w) (.list pp []) (q:=q) (cap:=cap) (by omega) hq);have HR:=aA hR;have HB:=aA hb;have hst':uI []:=hok;have hwx:∀ x∈rA [],x.word.size<=1000000:=λx hx=>hw x (by rw[qA];exact List.mem_append_left _ hx)
 have hl1:(qA (.list pp [])).length=(rA []).length+1:=by rw[qA];simp
 have HPa:=aA (λw1 (hU:Under w w1)=>rV (w0:=w1) (cap:=cap) (p:=q) (qA (.list pp [])) (by omega) hcap (hq.under hU));rw[xL hst']at HPa;rw[hl1]at HLa HPa ⊢;have hN:(rA []).length+1<=20000:=by omega
 have hab2:st.length+(rA []).length<=50000:=by omega
 have hac2:acc.length+(rA []).length+1<=900000:=by omega
 have HAb:=aA hab;have HTl:=aA (show ∀ y l',[]=y::l'->(rA l').length<=20000/\st.length+(rA l').length<=50000/\acc.length+(rA l').length+1<=900000 from λy l' e=>by
   have:(rA ([])).length=(qA y).length+(rA l').length:=by rw[e,rA,Qc]
   omega)
 have HLs:=aA (show ∀ y∈[],(qA y).length<=20000 from λy hy=>by have:=oH hy;omega);have HLn:=aA (show([]:List ST).length<=20000 by have:=mH [];omega);have HEs:=aA hE;have HCs:=aA hcs;have HDs:=aA hds;clear hR hq ha hb hab hst hacc hn hw hok hl1 hcs hds hE;generalize (rA []).length=fl at *;simp only[ST.last,sxV]at HLa;rw[pG];rw[jF];go_enter func59,ntmps59;go_wp2_with fail;refine wp_scope_straight ?_;go_wp2_with fail;refine HLa.out.mono ?_;rintro e w1 ⟨rfl,hU1⟩;have HU1:=aA (bA hU1 (.cells #[.int .i64 (([]:List ST).length:Int),.int .i64 pp,.string ⟨#[]⟩] 28));have hZ:=zA w1 #[.int .i64 (([]:List ST).length:Int),.int .i64 pp,.string ⟨#[]⟩] 28;have z0:(w1.alloc (.cells #[.int .i64 (([]:List ST).length:Int),.int .i64 pp,.string ⟨#[]⟩] 28)).cell? ⟨w1.heap.size,0,none⟩=some (.int .i64 ((([]:List ST).length:Int))):=hZ.cell 0;have z1:(w1.alloc (.cells #[.int .i64 (([]:List ST).length:Int),.int .i64 pp,.string ⟨#[]⟩] 28)).cell? ⟨w1.heap.size,1,none⟩=some (.int .i64 (pp)):=hZ.cell 1;have z2:(w1.alloc (.cells #[.int .i64 (([]:List ST).length:Int),.int .i64 pp,.string ⟨#[]⟩] 28)).cell? ⟨w1.heap.size,2,none⟩=some (.string ⟨#[]⟩):=hZ.cell 2;have zl:=hZ.lt;have HZ:=aA hZ;have hw1:=hU1.size;clear hU1 HLa hZ;go_wp2_with fail;refine(HPa.out _ HU1.out).mono ?_;rintro e w2 ⟨hU2,vo,vs,rfl,ho1,ho2⟩;obtain⟨q2,c2,rfl,hc2,hts⟩:=g1A (HR.out.under (HU1.out.trans hU2)) ho1 ho2;have HZ2:=aA (HZ.out.under hU2);have z0:=HZ2.out.cell 0;have z1:=HZ2.out.cell 1;have z2:=HZ2.out.cell 2;have zl:=HZ2.out.lt;have HU2:=aA (HU1.out.trans hU2);have hzb:=Qb zl (Qd _);have HTs:=aA hts;clear hU2 ho1 ho2 hts HPa HU1 HZ hw1;generalize w1.heap.size=zb at *;have HWr:=aA (jG (HR.out.under HU2.out) pp 71);go_wp2_with fail;refine HWr.out.mono ?_;rintro e w4 hO;have HO:=aA (ReOut.back HU2.out hO);obtain⟨_,_,_,_,_,_,_,rfl,_,_⟩:=hO;go_wp2;rw[Exit.noGoto_ret];go_ret;exact HO.out
theorem hZA(a b:Int)(s:ByteArray)(w:World):(Instr.field 28 (.agg #[.int .i64 a,.int .i64 b,.string s]) 2).run prog w = .ok (.string s) w:=by kernel_rfl
theorem jUA{w:World}{m1:Nat}(h:MapAt w m1 formsL)(s:ByteArray):(Instr.lookup 126 (.map (some m1)) (.string s) true).run prog w = .ok (.tuple #[((kN s).map iAA).getD (rH 0 0 []),.bool (kN s).isSome]) w:=by
 have:=(h.lookup (k:=s) (kt:=9) (et:=157) underlying126 underlying9 (wU w)).1;rw[xNA,Option.isSome_map]at this;exact this
def l2A(y:Int×Int×List UInt8):Bool:=decide (y.2.2.length<=10)&&((y.1==26||y.1==27)||y.2.2.all (· != 42))&&decide (0<=y.1)&&decide (y.1<=28)
theorem mRA{s:ByteArray}{k n:Int}{parts:List UInt8}(h:kN s=some (k,n,parts)):parts.length<=10/\((k=26∨k=27)∨parts.all (· != 42)=true):=by
 have hm:=uHA h;have ha:formT.all (λt=>l2A t.2)=true:=by decide
 have:=List.all_eq_true.1 ha _ hm;simp only[l2A,Bool.and_eq_true,Bool.or_eq_true,decide_eq_true_eq,beq_iff_eq]at this;exact⟨this.1.1.1,this.1.1.2⟩
noncomputable def tgLate:Code:=jA (jA nP)
def dTA(W0:World)(rb m1 m2:Nat)(cv dv ov:Value)(acc:List Nd)(p e:Int)(x:Nd)(w4:World)(ex:Exit)(a':Act)(w':World):Prop :=
 ex = .ret/\(∃ J,a'=⟨dL true J,[]⟩)/\∃ ov',ReS W0 rb m1 m2 cv dv ov' (acc++[x]) p e w'/\Ch (qG rb ov) w4 w'/\(∀ b,b < w4.heap.size->ov'.ownBlock=some b->ov.ownBlock=some b)
theorem dKA{W0 w4:World}{rb m1 m2 nb:Nat}{cv dv ov:Value}{acc:List Nd}{p e:Int}{x:Nd}(hR:ReS W0 rb m1 m2 cv dv ov acc p e w4)(hn:BoxAt w4 nb 96 (sQ x))(hne:ov.ownBlock≠some nb)(hrn:rb≠nb)(ha:acc.length<=1000000)(bv nv:Value)(wt:Bool)(ps:ByteArray)(q2:Option Addr)(n c2 k:Nat)(J:Nat->Value) :
 tgLate.wp prog (dTA W0 rb m1 m2 cv dv ov acc p e x w4) ⟨qE rb nb bv nv wt ps q2 n c2 k J,[]⟩ w4:=by
 obtain⟨i0,hi,hz0,hz1,hz2⟩:=info_parts Tryz.infoNode8;obtain⟨xk,xn,xm,xs⟩:=x;have HNy:=aA hn;have y4:=hR.box.cell 4;have yl:=hR.box.lt;have HRy:=aA hR;have nd0:=uG (x:=⟨xk,xn,xm,xs⟩) hn;have HNv:RowKit.Hid (ov.ownBlock≠some nb):=aA hne;have HNr:RowKit.Hid (rb≠nb):=aA hrn;have hmx:acc.length+1<=maxLen:=by simp only[maxLen];omega
 have hby:(acc.length+1) * 40<=140737488355328:=by omega
 have hlo:W0.heap.size<=w4.heap.size:=hR.und.size;clear hR hn hne hrn;unfold tgLate nP rX;simp only[f59,Qf,aB,jA,nC];unfold qE;go_wp2_with fail;refine wp_region_noPanic ?_;refine wp_region_held_drew (S:=λw'=>w'.cell? ⟨nb,0,none⟩=some (.int .i64 (xk))/\w'.cell? ⟨nb,1,none⟩=some (.int .i64 (xn))/\w'.cell? ⟨nb,2,none⟩=some (.int .i64 (xm))/\w'.cell? ⟨nb,3,none⟩=some (.string xs)) (by kernel_rfl) nd0 (λhHeld=>?_);refine dA 0 rfl ?_;refine dA 1 rfl ?_;refine dA 2 rfl ?_;refine dA 3 rfl ?_;refine dA 5 rfl ?_
 try walk_nrm
 refine kG 4 6 (by kernel_rfl) rfl rfl (λK hK=>?_) (λK hK=>?_)
 . go_simp;refine hK.out _ _ hHeld (λ_=>?_);clear hK K hHeld;rename_i hHeld
   try walk_nrm
   refine yA 6 (by kernel_rfl) rfl λK hK=>?_
   go_simp;refine hK.out _ _ ?_ (λ_=>?_)
   . exact uG (x:=⟨xk,xn,xm,xs⟩) ((HNy.out).under (by first|exact fA (Qu _)|exact fA (bA (Qu _) _)|exact bA (fA (Qu _)) _))
   clear hK K hHeld;rename_i hHeld
   try walk_nrm
   refine yA 7 (by kernel_rfl) rfl λK hK=>?_
   refine step_append_lies _ (by rfl) _ _ _ (by rfl) W0.heap.size 96 i0 _ 4 40 underlying30 hi hz0 hz1 hz2 rfl (by omega) ov acc.length (dC acc) (by rfl) (uA HRy.out.row (by first|exact fA (bA (Qu _) _)|exact bA (fA (Qu _)) _))
         ⟨w4.heap.size,0,none⟩ 1 1 [.int .i64 xk,.int .i64 xn,.int .i64 xm,.string xs] (by rfl) (by rfl) (World.news_of_block (cs:=#[.int .i64 xk,.int .i64 xn,.int .i64 xm,.string xs]) (t:=96) (fr:=(0,0)) (heap_alloc_new _ _)) (by simp[Value.oneCell'])
         (by omega) hmx hby (by simp;omega) (w4.heap.size+1) (by simp) ?_
   intro gg cc w5 hown5 hgrow5 hat5 hlt5;have HPd:=aA (aV (x:=⟨xk,xn,xm,xs⟩) HRy.out (by first|exact fA (bA (Qu _) _)|exact bA (fA (Qu _)) _) hgrow5 (by rcases hat5 with h|h;exact .inl h;exact .inr (by rw[h];simp)) hown5);have HN5:=aA (bUA (x:=⟨xk,xn,xm,xs⟩) HRy.out (HNy.out) HNv.out (by first|exact fA (bA (Qu _) _)|exact bA (fA (Qu _)) _) hgrow5);have HB5:=aA ((HRy.out.box.under (by first|exact fA (bA (Qu _) _)|exact bA (fA (Qu _)) _)).grown hgrow5 (λe=>HRy.out.ov_rb e.symm));have y5:=HB5.out.lt;have y6:=HB5.out.free 4;have y7:=HB5.out.cell 4;have HN6:=aA (HN5.out.other (g:=rb) (λe=>HNr.out e.symm) 4 (.slice (some ⟨gg,0,none⟩) (acc.length+1) cc));clear hown5 hgrow5 hat5 hlt5;refine hK.out _ _ (uG (x:=⟨xk,xn,xm,xs⟩) HN5.out) (λ_=>?_);clear hK K hHeld;rename_i hHeld
   try walk_nrm
   refine dA 8 rfl ?_;refine dA 9 rfl ?_;refine yA 10 (by kernel_rfl) rfl λK hK=>?_
   go_simp;refine hK.out _ _ (uG (x:=⟨xk,xn,xm,xs⟩) HN6.out) (λ_=>?_);clear hK K hHeld;rename_i hHeld
   try walk_nrm
   refine wpAnyH_done (by kernel_rfl) ?_ _;refine NoPanic.normal ?_;clear hHeld y5 y6 y7;go_wp2;exact⟨rfl,⟨_,fB (F:=dL true) (by rfl)⟩,_,HPd.out.1,HPd.out.2.1,HPd.out.2.2⟩
 . go_simp;refine hK.out _ _ ?_ (λ_=>?_)
   . exact uG (x:=⟨xk,xn,xm,xs⟩) ((HNy.out).under (by first|exact fA (Qu _)|exact fA (bA (Qu _) _)|exact bA (fA (Qu _)) _))
   clear hK K hHeld;rename_i hHeld
   try walk_nrm
   refine yA 4 (by kernel_rfl) rfl λK hK=>?_
   go_simp;refine hK.out _ _ hHeld (λ_=>?_);clear hK K hHeld;rename_i hHeld
   try walk_nrm
   refine yA 7 (by kernel_rfl) rfl λK hK=>?_
   refine step_append_lies _ (by rfl) _ _ _ (by rfl) W0.heap.size 96 i0 _ 4 40 underlying30 hi hz0 hz1 hz2 rfl (by omega) ov acc.length (dC acc) (by rfl) (uA HRy.out.row (by first|exact fA (bA (Qu _) _)|exact bA (fA (Qu _)) _))
         ⟨w4.heap.size,0,none⟩ 1 1 [.int .i64 xk,.int .i64 xn,.int .i64 xm,.string xs] (by rfl) (by rfl) (World.news_of_block (cs:=#[.int .i64 xk,.int .i64 xn,.int .i64 xm,.string xs]) (t:=96) (fr:=(0,0)) (heap_alloc_new _ _)) (by simp[Value.oneCell'])
         (by omega) hmx hby (by simp;omega) (w4.heap.size+1) (by simp) ?_
   intro gg cc w5 hown5 hgrow5 hat5 hlt5;have HPd:=aA (aV (x:=⟨xk,xn,xm,xs⟩) HRy.out (by first|exact fA (bA (Qu _) _)|exact bA (fA (Qu _)) _) hgrow5 (by rcases hat5 with h|h;exact .inl h;exact .inr (by rw[h];simp)) hown5);have HN5:=aA (bUA (x:=⟨xk,xn,xm,xs⟩) HRy.out (HNy.out) HNv.out (by first|exact fA (bA (Qu _) _)|exact bA (fA (Qu _)) _) hgrow5);have HB5:=aA ((HRy.out.box.under (by first|exact fA (bA (Qu _) _)|exact bA (fA (Qu _)) _)).grown hgrow5 (λe=>HRy.out.ov_rb e.symm));have y5:=HB5.out.lt;have y6:=HB5.out.free 4;have y7:=HB5.out.cell 4;have HN6:=aA (HN5.out.other (g:=rb) (λe=>HNr.out e.symm) 4 (.slice (some ⟨gg,0,none⟩) (acc.length+1) cc));clear hown5 hgrow5 hat5 hlt5;refine hK.out _ _ (uG (x:=⟨xk,xn,xm,xs⟩) HN5.out) (λ_=>?_);clear hK K hHeld;rename_i hHeld
   try walk_nrm
   refine dA 8 rfl ?_;refine dA 9 rfl ?_;refine yA 10 (by kernel_rfl) rfl λK hK=>?_
   go_simp;refine hK.out _ _ (uG (x:=⟨xk,xn,xm,xs⟩) HN6.out) (λ_=>?_);clear hK K hHeld;rename_i hHeld
   try walk_nrm
   refine wpAnyH_done (by kernel_rfl) ?_ _;refine NoPanic.normal ?_;clear hHeld y5 y6 y7;go_wp2;exact⟨rfl,⟨_,fB (F:=dL true) (by rfl)⟩,_,HPd.out.1,HPd.out.2.1,HPd.out.2.2⟩
theorem nQA{C:Nat->Prop}{w:World}{v:Value}{ss:List ByteArray}{nb:Nat}(h:kZ C v)(ht:TextsV w v ss)(hn:w.heap.size<=nb):kZ (λb=>C b∨b=nb) v:=by
 obtain⟨p,c,rfl,h1,h2,h3⟩:=ht;intro q n c' e hne
 cases e;intro b off x e;obtain⟨b',off',e',hb',_⟩:=h3 (λe=>hne (by rw[List.map_eq_nil_iff.1 e];rfl));rw[e]at e'
 cases e';exact λe2=>e2.elim (h _ _ _ rfl hne _ _ _ e) (λe2=>by omega)
theorem xCA{W0 w wM wN:World}{rb m1 m2 c3:Nat}{q2:Option Addr}{cv dv ov bv:Value}{acc:List Nd}{p e:Int}{st cs ds:List ByteArray}{l:List ST}{parts:List UInt8}{R:Say}(hR:ReS W0 rb m1 m2 cv dv ov acc p e w)(hU:Under w wM)(hN:Under wM wN)(hlt:wM.heap.size < wN.heap.size)
    (ht:TsArg (qG rb ov) wM q2 l) (hb:TextsV w bv st) (ha:kZ (qG rb ov) bv) (hok:uI l) (h1:(rA l).length<=20000) (h2:st.length+(rA l).length<=50000) (h3:acc.length+(rA l).length+1<=900000) (hw:∀ x∈rA l,x.word.size<=1000000)
    (hcs:TextsV W0 cv cs) (hds:TextsV W0 dv ds) (hcn:cs.length<=1000000) (hdn:ds.length<=1000000) (hE:StrcAt W0) (hp:parts.length=l.length) :
    TgOk ⟨W0,wN,rb,m1,m2,wM.heap.size,cv,dv,ov,bv,acc,st,cs,ds,l,parts,q2,c3,R⟩:=by
  have hs:=hU.size;have hrb:=hR.box.lt;have hm1:=hR.f.lt;have hm2:=hR.a.lt;have hW:=hR.und.size;exact{
    nlt:=hlt
    nrc:=λh=>by
     rcases h with h|h
     . have h:wM.heap.size=rb:=h;omega
     . have h3:=(xB hR.row h).2;have h3:wM.heap.size < w.heap.size:=h3;omega
    rlt:=by show rb < wN.heap.size;omega
    m1lt:=by show m1 < wN.heap.size;omega
    m2lt:=by show m2 < wN.heap.size;omega
    wlt:=by show W0.heap.size<=wN.heap.size;omega
    lw:=by show W0.heap.size<=wM.heap.size;omega
    arg:=TsArg.ch (D:=qG rb ov) (ht.more (Qd _)) (Ch.of_under hN)
    bound:=hb.under (hU.trans hN)
    away:=nQA ha hb hs
    ok:=hok
    len:=h1
    stl:=h2
    accl:=by show acc.length+(rA l).length<=900000;omega
    words:=hw
    csT:=hcs
    dsT:=hds
    csl:=hcn
    dsl:=hdn
    strc:=hE
    plen:=hp }
theorem zCA{F:TgFix}{w:World}{p e:Int}{x:Nd}(hR:ReS F.W0 F.rb F.m1 F.m2 F.cv F.dv F.ov F.acc p e w)(hU:Under w F.wl)(hn:BoxAt F.wl F.nb 96 (sQ x))(hs:F.R=goS F.cs F.ds (fC false F.parts) F.ts x [] F.st []):TgS F 0 [] false x [] F.ov p e (.slice none 0 0) F.wl :=
 ⟨by rw[List.append_nil];exact hR.under hU,Ch.refl _,λb _ e=>e,hn,World.ownsRow_nil _ _ _ _,hs,Qd _,Nat.zero_le _⟩
theorem oSA{F:TgFix}(hF:TgOk F){w:World}{nms:List ByteArray}{wt:Bool}{x:Nd}{t:List Nd}{ov1 nv:Value}{p1 e1:Int}{wr:World}(hU:Under w F.wl)(hnb:w.heap.size<=F.nb)(h:TgS F F.ts.length nms wt x t ov1 p1 e1 nv wr){ex:Exit}{a':Act}{w':World}(hL:dTA F.W0 F.rb F.m1 F.m2 F.cv F.dv ov1 (F.acc++t) p1 e1 x wr ex a' w') :
 ex = .ret/\(∃ J,a'=⟨dL true J,[]⟩)/\ReOut F.W0 F.rb F.m1 F.m2 F.cv F.dv F.ov F.acc w F.R (.returned (.bool true)) w':=by
 obtain⟨h1,h2,ov',h3,h4,h5⟩:=hL;have hR:F.R = .ok (t++[x]):=by
  rw[h.say,List.drop_eq_nil_of_le (by rw[hF.plen];exact Qd _),List.drop_eq_nil_of_le (Qd _)];simp[fC,goS]
 have hC:=h.ch.trans (D:=qG F.rb ov1) h4 (λi hi hr=>.inl (iL h hi hr));refine⟨h1,h2,ov',_,p1,e1,h3,(Ch.of_under hU).trans hC (λi hi h=>h.elim id (λe=>by omega)),λb hb e=>h.own b (Qb hb hU.size) (h5 b (Qb hb (Ql hU.size h.ch.size)) e),?_⟩;rw[hR];exact⟨rfl,by rw[List.append_assoc]⟩
theorem aPA{F:TgFix}{w w':World}{ov2:Value}{acc2:List Nd}{e2 p2:Int}(hU:Under w F.wl)(hnb:w.heap.size<=F.nb)(hR:F.R = .error (e2,p2))(h1:ReS F.W0 F.rb F.m1 F.m2 F.cv F.dv ov2 acc2 p2 e2 w')(hC:Ch (TgC F.rb F.ov F.nb) F.wl w')(hO:∀ b,b < F.wl.heap.size->ov2.ownBlock=some b->F.ov.ownBlock=some b) :
 ReOut F.W0 F.rb F.m1 F.m2 F.cv F.dv F.ov F.acc w F.R (.returned (.bool false)) w':=by
 refine⟨ov2,acc2,p2,e2,h1,(Ch.of_under hU).trans hC (λi hi h=>h.elim id (λe=>by omega)),λb hb e=>hO b (Qb hb hU.size) e,?_⟩;rw[hR];exact⟨rfl,rfl,rfl⟩
end Go.Proofs.YtpkaiodmbicjiaaGreatDoor
