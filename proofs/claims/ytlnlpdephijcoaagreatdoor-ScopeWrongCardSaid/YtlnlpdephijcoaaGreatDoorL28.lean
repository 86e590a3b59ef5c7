/- Part 28 of what the proof rests on. -/
import Derived.Deep.RegionHeld3
import Derived.Deep.LoopGhost
import Derived.Test.YtlnlpdephijcoaaGreatDoorL26
import Derived.Test.YtlnlpdephijcoaaGreatDoorL27
set_option linter.unusedSimpArgs false
set_option linter.unusedVariables false
set_option maxRecDepth 100000
set_option maxHeartbeats 4000000
namespace Go.Proofs.YtlnlpdephijcoaaGreatDoor
open Go.Lx Go.RowKit
theorem r0A{cs ds:List ByteArray}{wt:Bool}{ks:List UInt8}{y:ST}{ys:List ST}{x:Nd}{nms st:List ByteArray}{t:List Nd} :
 goS cs ds (uB wt (100::ks)) (y::ys) x nms st t=if mH y.last.word then(if yJ ds y.last.word then goS cs ds (uB wt ks) ys ⟨x.k,x.n,x.m,y.last.word⟩ nms st t else .error (80,y.last.pos)) else .error (71,y.last.pos):=by
 have:uB wt (100::ks) = .da::uB wt ks:=by simp[uB]
 rw[this,goS]
theorem o3A(F:TgFix)(hF:TgOk F){k:Nat}(hk:k < F.ts.length){nms:List ByteArray}{wt:Bool}{x:Nd}{t:List Nd}{ov1 nv:Value}{p1 e1:Int}{w:World}(hc:F.parts[k]? = some 100)(h:TgS F k nms wt x t ov1 p1 e1 nv w)(J:Nat→Value) :
 tgRound.wp Tryz.prog (Exit.then (lT F (k+1)) (iHA F)) ⟨mD F.rb F.nb F.bv nv wt ⟨F.parts.toArray⟩ F.q2 F.ts.length F.c2 k J,[]⟩ w:=by
 have hc':(F.parts[k]'(by rw[hF.plen];exact hk))=100:=by
  rw[List.getElem?_eq_getElem (by rw[hF.plen];exact hk)]at hc;exact Option.some.inj hc
 clear hc;obtain⟨i0,hi,hz0,hz1,hz2⟩:=info_parts Tryz.infoStrZ;obtain⟨b,off,hq2,hbl,hnC,hat⟩:=hF.arg (fun e=>by rw[e]at hk;exact absurd hk (Nat.not_lt_zero _));obtain⟨qi,ci,ckl,hci,hsxl,haw⟩:=hat k F.ts[k] (List.getElem?_eq_getElem hk);have hb:b < w.heap.size:=Nat.lt_of_lt_of_le hbl h.ch.size;have ck:=(iJ h.ch hbl hnC (off+k)).trans ckl;have hsx:=sK hsxl h.ch haw;have HSxl:=Lib.hid hsxl;clear ckl hsxl;have hyl:(uA F.ts[k]).length≤20000:=Nat.le_trans (qH (List.getElem_mem hk)) hF.len;have hpk:k < F.parts.length:=by rw[hF.plen];exact hk
 have hps:k < (⟨F.parts.toArray⟩:ByteArray).size:=by simpa [ByteArray.size] using hpk
 have hpc:(⟨F.parts.toArray⟩:ByteArray)[k]'hps=F.parts[k]:=rfl;have hsay:=h.say;rw[List.drop_eq_getElem_cons hk,List.drop_eq_getElem_cons hpk]at hsay;have hyw:F.ts[k].last.word.size≤1000000:=by
  obtain⟨i,hi⟩:=bJ F.ts[k];refine hF.words _ ?_;have hm:=List.getElem_mem hk;generalize F.ts[k]=y at *;exact qK hm
 have HLa:=Lib.hid (dJ (w0:=w) F.ts[k] (q:=qi) (cap:=ci) (by omega) hsx);have HY:=Lib.hid (show F.ts[k]∈F.ts from List.getElem_mem hk);have HTk:=Lib.hid (show fA (F.ts.take (k+1))=fA (F.ts.take k)++uA F.ts[k] by rw[List.take_succ_eq_append_getElem hk,zD];simp[fA]);have HSy:=Lib.hid hsay;have HSx:=Lib.hid hsx;have HAw:=Lib.hid haw;have HF:=Lib.hid hF;have H:=Lib.hid h;have hn0:(F.ts.length:Int)≤20000:=by have:=kH F.ts;have:=hF.len;omega
 have hk0:(0:Int)≤(k:Int):=by omega
 have hkn:(k:Int) < (F.ts.length:Int):=by omega
 have HKn:=Lib.hid hk;clear hat hsx haw hsay h;generalize F.ts[k]=y at *;generalize F.parts[k]=c at *;obtain⟨ps,hps,hpc,HPs⟩:∃ ps:ByteArray,∃ hps:k < ps.size,ps[k]'hps=c∧RowKit.Hid (ps=(⟨F.parts.toArray⟩:ByteArray)):=⟨_,hps,hpc,Lib.hid rfl⟩;rw[← HPs.out];unfold tgRound bP wW;simp only[Tryz.f28,Option.getD_some,rA,dA,bC];unfold mD;rw[hq2];subst hc';rw[r0A]at HSy
 cases hnm:mH y.last.word
 · have HErr : RowKit.Hid (F.R = .error (71, y.last.pos)) := Lib.hid (by rw [HSy.out, hnm]; rfl); have hb : ((ps[k]'hps).toNat : Int) = 100 := by rw [hpc]; rfl
   go_wp2_with fail;refine HLa.out.mono ?_;rintro e w1 ⟨rfl,hU1⟩;have HU1:=Lib.hid (aA hU1 (.cells #[.int .i64 y.last.many,.int .i64 y.last.pos,.string y.last.word] 29));have HZ:=Lib.hid (xA w1 #[.int .i64 y.last.many,.int .i64 y.last.pos,.string y.last.word] 29);have hw1:=hU1.size;clear hU1 HLa;unfold sxV;have hnd:=H.out.nd.under HU1.out;have n3:(w1.alloc (.cells #[.int .i64 y.last.many,.int .i64 y.last.pos,.string y.last.word] 29)).cell? ⟨F.nb,3,none⟩=some (.string x.s):=hnd.cell 3;have nl:=hnd.lt;have nf:=hnd.free 3;have HSe:=Lib.hid (TgS.set_ch hF H.out HU1.out 3 (.string y.last.word));have hzn:w1.heap.size≠F.nb:=fun e=>by have:=H.out.nd.lt;omega
   clear hnd;have z0:(w1.alloc (.cells #[.int .i64 y.last.many,.int .i64 y.last.pos,.string y.last.word] 29)).cell? ⟨w1.heap.size,0,none⟩=some (.int .i64 y.last.many):=HZ.out.cell 0;have z1:(w1.alloc (.cells #[.int .i64 y.last.many,.int .i64 y.last.pos,.string y.last.word] 29)).cell? ⟨w1.heap.size,1,none⟩=some (.int .i64 y.last.pos):=HZ.out.cell 1;have z2:(w1.alloc (.cells #[.int .i64 y.last.many,.int .i64 y.last.pos,.string y.last.word] 29)).cell? ⟨w1.heap.size,2,none⟩=some (.string y.last.word):=HZ.out.cell 2;have zl:=HZ.out.lt;have HZ2:=Lib.hid (HZ.out.other hzn 3 (.string y.last.word));have k0:=HZ2.out.cell 0;go_wp2_with fail;generalize ((w1.alloc (.cells #[.int .i64 y.last.many,.int .i64 y.last.pos,.string y.last.word] 29)).setCell ⟨F.nb,3,none⟩ (.string y.last.word))=wz at *;generalize w1.heap.size=zb at *;clear n3 nl nf z0 z1 z2 zl k0 hzn;have HNm:=Lib.hid (fK (w0:=wz) y.last (rb:=F.rb) (m1:=F.m1) (m2:=F.m2) (by simp only[maxLen];omega) HSe.out.1.tables);rw[hnm]at HNm;unfold sxV at HNm;refine HNm.out.mono ?_;rintro e w3 ⟨rfl,hU3⟩;have hz3:=HZ2.out.under hU3;have z1:=hz3.cell 1;have z2:=hz3.cell 2;have zl:=hz3.lt;have HZ3:=Lib.hid hz3;have HU3:=Lib.hid hU3;have HRe:=Lib.hid (HSe.out.1.under hU3);have HCe:=Lib.hid (HSe.out.2.1.under hU3);clear hU3 hz3 HNm;have HWr:=Lib.hid (dG HRe.out y.last.pos 71);go_wp2_with fail;refine HWr.out.mono ?_;rintro e w4 hO;obtain⟨ov2,acc2,p2,e2,h1,h2,h3,rfl,rfl,rfl⟩:=hO;have H1:=Lib.hid h1;have H2:=Lib.hid h2;have H3:=Lib.hid h3;clear h1 h2 h3 HWr;go_wp2;refine .inr ⟨rfl,_,_,_,_,⟨_,fB (F:=dI false) (by rfl)⟩,HErr.out,H1.out,?_,?_⟩
   · exact HCe.out.trans (D:=gH F.rb ov1) H2.out (fun i hi h=>.inl (vK H.out hi h))
   · intro b hb e;exact H.out.own b hb (H3.out b (Nat.lt_of_lt_of_le hb HCe.out.size) e)
 · cases hds : yJ F.ds y.last.word
   · have HErr : RowKit.Hid (F.R = .error (80, y.last.pos)) := Lib.hid (by rw [HSy.out, hnm, hds]; rfl); have hb : ((ps[k]'hps).toNat : Int) = 100 := by rw [hpc]; rfl
     go_wp2_with fail;refine HLa.out.mono ?_;rintro e w1 ⟨rfl,hU1⟩;have HU1:=Lib.hid (aA hU1 (.cells #[.int .i64 y.last.many,.int .i64 y.last.pos,.string y.last.word] 29));have HZ:=Lib.hid (xA w1 #[.int .i64 y.last.many,.int .i64 y.last.pos,.string y.last.word] 29);have hw1:=hU1.size;clear hU1 HLa;unfold sxV;have hnd:=H.out.nd.under HU1.out;have n3:(w1.alloc (.cells #[.int .i64 y.last.many,.int .i64 y.last.pos,.string y.last.word] 29)).cell? ⟨F.nb,3,none⟩=some (.string x.s):=hnd.cell 3;have nl:=hnd.lt;have nf:=hnd.free 3;have HSe:=Lib.hid (TgS.set_ch hF H.out HU1.out 3 (.string y.last.word));have hzn:w1.heap.size≠F.nb:=fun e=>by have:=H.out.nd.lt;omega
     clear hnd; have z0 : (w1.alloc (.cells #[.int .i64 y.last.many, .int .i64 y.last.pos, .string y.last.word] 29)).cell? ⟨w1.heap.size, 0, none⟩ = some (.int .i64 y.last.many) := HZ.out.cell 0; have z1 : (w1.alloc (.cells #[.int .i64 y.last.many, .int .i64 y.last.pos, .string y.last.word] 29)).cell? ⟨w1.heap.size, 1, none⟩ = some (.int .i64 y.last.pos) := HZ.out.cell 1; have z2 : (w1.alloc (.cells #[.int .i64 y.last.many, .int .i64 y.last.pos, .string y.last.word] 29)).cell? ⟨w1.heap.size, 2, none⟩ = some (.string y.last.word) := HZ.out.cell 2; have zl := HZ.out.lt; have HZ2 := Lib.hid (HZ.out.other hzn 3 (.string y.last.word)); have k0 := HZ2.out.cell 0; go_wp2_with fail; generalize ((w1.alloc (.cells #[.int .i64 y.last.many, .int .i64 y.last.pos, .string y.last.word] 29)).setCell ⟨F.nb, 3, none⟩ (.string y.last.word)) = wz at *; generalize w1.heap.size = zb at *; clear n3 nl nf z0 z1 z2 zl k0 hzn; have HNm := Lib.hid (fK (w0 := wz) y.last (rb := F.rb) (m1 := F.m1) (m2 := F.m2) (by simp only [maxLen]; omega) HSe.out.1.tables); rw [hnm] at HNm; unfold sxV at HNm; refine HNm.out.mono ?_; rintro e w3 ⟨rfl, hU3⟩; have hz3 := HZ2.out.under hU3; have z1 := hz3.cell 1; have z2 := hz3.cell 2; have zl := hz3.lt; have HZ3 := Lib.hid hz3; have HU3 := Lib.hid hU3; have HRe := Lib.hid (HSe.out.1.under hU3); have HCe := Lib.hid (HSe.out.2.1.under hU3); clear hU3 hz3 HNm; have c1 := HRe.out.box.cell 1; have cl := HRe.out.box.lt; have HCt := Lib.hid (fun w' (hU : Under w3 w') => vP y.last.word (HF.out.dsT.under (HRe.out.und.trans hU)) HF.out.dsl); rw [hds] at HCt; have ccd := And.intro c1 z2; go_wp2_with fail; go_region_held3 (fun w' => w'.cell? ⟨F.rb, 1, none⟩ = some F.dv ∧ w'.cell? ⟨zb, 2, none⟩ = some (.string y.last.word))
       (first
         | exact ccd
         | go_keep)
       ((go_at_call 61;refine(HCt.out _ (by first | exact bA (Under.refl _) | exact Under.refl _)).mono ?_;rintro e w7 ⟨rfl,rfl⟩))
     rename_i K hK hHeld;clear hHeld ccd c1 cl z1 z2 zl;have HRe:=Lib.hid (HRe.out.under (bA (Under.refl _)));have HCe:=Lib.hid (HCe.out.under (bA (Under.refl _)));have HZ4:=Lib.hid (HZ3.out.under (bA (Under.refl _)));have HNd:=Lib.hid ((HSe.out.2.2.1.under HU3.out).under (bA (Under.refl _)));have HRw:=Lib.hid (yB (yB HSe.out.2.2.2 HU3.out) (bA (Under.refl _)));have z1:=HZ4.out.cell 1;have zl:=HZ4.out.lt;generalize w3.drew=w3 at *;have HWr:=Lib.hid (dG HRe.out y.last.pos 80);go_wp2_with fail;refine HWr.out.mono ?_;rintro e w4 hO;obtain⟨ov2,acc2,p2,e2,h1,h2,h3,rfl,rfl,rfl⟩:=hO;have H1:=Lib.hid h1;have H2:=Lib.hid h2;have H3:=Lib.hid h3;clear h1 h2 h3 HWr;go_wp2;refine .inr ⟨rfl,_,_,_,_,⟨_,fB (F:=dI false) (by rfl)⟩,HErr.out,H1.out,?_,?_⟩
     · exact HCe.out.trans (D:=gH F.rb ov1) H2.out (fun i hi h=>.inl (vK H.out hi h))
     · intro b hb e;exact H.out.own b hb (H3.out b (Nat.lt_of_lt_of_le hb HCe.out.size) e)
   · have HSay : RowKit.Hid (F.R = goS F.cs F.ds (uB wt (F.parts.drop (k + 1))) (F.ts.drop (k + 1)) ⟨x.k, x.n, x.m, y.last.word⟩ nms F.st t) := Lib.hid (by rw [HSy.out, hnm, hds]; rfl); have hb : ((ps[k]'hps).toNat : Int) = 100 := by rw [hpc]; rfl
     go_wp2_with fail;refine HLa.out.mono ?_;rintro e w1 ⟨rfl,hU1⟩;have HU1:=Lib.hid (aA hU1 (.cells #[.int .i64 y.last.many,.int .i64 y.last.pos,.string y.last.word] 29));have HZ:=Lib.hid (xA w1 #[.int .i64 y.last.many,.int .i64 y.last.pos,.string y.last.word] 29);have hw1:=hU1.size;clear hU1 HLa;unfold sxV;have hnd:=H.out.nd.under HU1.out;have n3:(w1.alloc (.cells #[.int .i64 y.last.many,.int .i64 y.last.pos,.string y.last.word] 29)).cell? ⟨F.nb,3,none⟩=some (.string x.s):=hnd.cell 3;have nl:=hnd.lt;have nf:=hnd.free 3;have HSe:=Lib.hid (TgS.set_ch hF H.out HU1.out 3 (.string y.last.word));have hzn:w1.heap.size≠F.nb:=fun e=>by have:=H.out.nd.lt;omega
     clear hnd; have z0 : (w1.alloc (.cells #[.int .i64 y.last.many, .int .i64 y.last.pos, .string y.last.word] 29)).cell? ⟨w1.heap.size, 0, none⟩ = some (.int .i64 y.last.many) := HZ.out.cell 0; have z1 : (w1.alloc (.cells #[.int .i64 y.last.many, .int .i64 y.last.pos, .string y.last.word] 29)).cell? ⟨w1.heap.size, 1, none⟩ = some (.int .i64 y.last.pos) := HZ.out.cell 1; have z2 : (w1.alloc (.cells #[.int .i64 y.last.many, .int .i64 y.last.pos, .string y.last.word] 29)).cell? ⟨w1.heap.size, 2, none⟩ = some (.string y.last.word) := HZ.out.cell 2; have zl := HZ.out.lt; have HZ2 := Lib.hid (HZ.out.other hzn 3 (.string y.last.word)); have k0 := HZ2.out.cell 0; go_wp2_with fail; generalize ((w1.alloc (.cells #[.int .i64 y.last.many, .int .i64 y.last.pos, .string y.last.word] 29)).setCell ⟨F.nb, 3, none⟩ (.string y.last.word)) = wz at *; generalize w1.heap.size = zb at *; clear n3 nl nf z0 z1 z2 zl k0 hzn; have HNm := Lib.hid (fK (w0 := wz) y.last (rb := F.rb) (m1 := F.m1) (m2 := F.m2) (by simp only [maxLen]; omega) HSe.out.1.tables); rw [hnm] at HNm; unfold sxV at HNm; refine HNm.out.mono ?_; rintro e w3 ⟨rfl, hU3⟩; have hz3 := HZ2.out.under hU3; have z1 := hz3.cell 1; have z2 := hz3.cell 2; have zl := hz3.lt; have HZ3 := Lib.hid hz3; have HU3 := Lib.hid hU3; have HRe := Lib.hid (HSe.out.1.under hU3); have HCe := Lib.hid (HSe.out.2.1.under hU3); clear hU3 hz3 HNm; have c1 := HRe.out.box.cell 1; have cl := HRe.out.box.lt; have HCt := Lib.hid (fun w' (hU : Under w3 w') => vP y.last.word (HF.out.dsT.under (HRe.out.und.trans hU)) HF.out.dsl); rw [hds] at HCt; have ccd := And.intro c1 z2; go_wp2_with fail; go_region_held3 (fun w' => w'.cell? ⟨F.rb, 1, none⟩ = some F.dv ∧ w'.cell? ⟨zb, 2, none⟩ = some (.string y.last.word))
       (first
         | exact ccd
         | go_keep)
       ((go_at_call 61;refine(HCt.out _ (by first | exact bA (Under.refl _) | exact Under.refl _)).mono ?_;rintro e w7 ⟨rfl,rfl⟩))
     rename_i K hK hHeld;clear hHeld ccd c1 cl z1 z2 zl;have HRe:=Lib.hid (HRe.out.under (bA (Under.refl _)));have HCe:=Lib.hid (HCe.out.under (bA (Under.refl _)));have HZ4:=Lib.hid (HZ3.out.under (bA (Under.refl _)));have HNd:=Lib.hid ((HSe.out.2.2.1.under HU3.out).under (bA (Under.refl _)));have HRw:=Lib.hid (yB (yB HSe.out.2.2.2 HU3.out) (bA (Under.refl _)));have z1:=HZ4.out.cell 1;have zl:=HZ4.out.lt;generalize w3.drew=w3 at *;go_wp2;refine⟨nms,wt,⟨x.k,x.n,x.m,y.last.word⟩,t,ov1,p1,e1,nv,nA (F:=mD F.rb F.nb F.bv nv wt ⟨F.parts.toArray⟩ F.q2 F.ts.length F.c2 (k+1)) (by rw[hq2,← HPs.out];rfl) ?_⟩;exact⟨HRe.out,HCe.out,H.out.own,HNd.out,HRw.out,HSay.out,Nat.le_trans H.out.nlen (Nat.le_succ _),Nat.le_trans H.out.tlen (yBA k HKn.out)⟩
theorem vYA{cs ds:List ByteArray}{wt:Bool}{c:UInt8}{ks:List UInt8}{y:ST}{ys:List ST}{x:Nd}{nms st:List ByteArray}{t:List Nd}(h1:c≠118)(h2:c≠119)(h3:c≠110)(h4:c≠100) :
 goS cs ds (uB wt (c::ks)) (y::ys) x nms st t=match aG cs ds y (if wt then st else st++nms) with | .ok t'=>goS cs ds (uB false ks) ys x (if wt then nms else []) st (t++t') | .error e=>.error e:=by
 have:uB wt (c::ks) = .te wt::uB false ks:=by simp[uB,h1,h2,h3,h4]
 rw[this,goS]
 cases aG cs ds y (if wt then st else st++nms)<;>rfl
theorem wBA{c d:UInt8}{n:Int}(h:c≠d)(hd:(d.toNat:Int)=n):((c.toNat:Int)==n)=false:=beq_false_of_ne fun e=>h (UInt8.toNat_inj.1 (by omega))
theorem fMA{F:TgFix}{k:Nat}{nms:List ByteArray}{wt:Bool}{x:Nd}{t:List Nd}{ov1 nv:Value}{p1 e1:Int}{w:World}(h:TgS F k nms wt x t ov1 p1 e1 nv w){b:Nat}(hb:b < F.wl.heap.size)(hn:¬ TgC F.rb F.ov F.nb b):¬ gH F.rb ov1 b:=fun hr=>hn (.inl (vK h hb hr))
theorem fSA{F:TgFix}{k:Nat}{nms:List ByteArray}{wt:Bool}{x:Nd}{t:List Nd}{ov1 nv:Value}{p1 e1:Int}{w:World}(h:TgS F k nms wt x t ov1 p1 e1 nv w){q:Option Addr}{y:ST}(hs:SxArg F.wl q (uA y))(ha:qFA (TgC F.rb F.ov F.nb) q):qFA (gH F.rb ov1) q:=by
 intro b off x e;have hp:=zN y;obtain⟨b',off',e',hb',_⟩:=hs (fun e=>by rw[e]at hp;exact absurd hp (Nat.lt_irrefl _));rw[e]at e'
 cases e';exact fMA h hb' (ha _ _ _ e)
theorem m3A{F:TgFix}{k:Nat}{nms:List ByteArray}{wt:Bool}{x:Nd}{t:List Nd}{ov1 nv:Value}{p1 e1:Int}{w:World}(h:TgS F k nms wt x t ov1 p1 e1 nv w){v:Value}{ss:List ByteArray}(hs:TextsV F.wl v ss)(ha:cZ (TgC F.rb F.ov F.nb) v):cZ (gH F.rb ov1) v:=by
 obtain⟨p,c,rfl,h1,h2,h3⟩:=hs;intro q n c' e hn
 cases e;intro b off x e;obtain⟨b',off',e',hb',_⟩:=h3 (fun e=>hn (by rw[List.map_eq_nil_iff.1 e];rfl));rw[e]at e'
 cases e';exact fMA h hb' (ha _ _ _ rfl hn _ _ _ e)
theorem aRA{l:List ST}{y:ST}(h:y∈l){x:Sx}(hx:x∈uA y):x∈fA l:=by
 induction l with
 | nil=>cases h
 | cons a l ih =>
   rw[fA,List.mem_append];rcases List.mem_cons.1 h with rfl | h
   · exact .inl hx
   · exact .inr (ih h)
theorem uI(k:Nat)(l:List ST):(fA (l.take k)).length≤(fA l).length:=by
 have:fA l=fA (l.take k)++fA (l.drop k):=by rw[← zD,List.take_append_drop]
 rw[this,List.length_append];omega
theorem f4A(F:TgFix)(hF:TgOk F){k:Nat}(hk:k < F.ts.length){nms:List ByteArray}{wt:Bool}{x:Nd}{t:List Nd}{ov1 nv:Value}{p1 e1:Int}{w:World}{c0:UInt8}(hc:F.parts[k]? = some c0)(g1:c0≠118)(g2:c0≠119)(g3:c0≠110)(g4:c0≠100)(ih:∀ y∈F.ts,oLA y)(h:TgS F k nms wt x t ov1 p1 e1 nv w)(J:Nat→Value) :
 tgRound.wp Tryz.prog (Exit.then (lT F (k+1)) (iHA F)) ⟨mD F.rb F.nb F.bv nv wt ⟨F.parts.toArray⟩ F.q2 F.ts.length F.c2 k J,[]⟩ w:=by
 have hc':(F.parts[k]'(by rw[hF.plen];exact hk))=c0:=by
  rw[List.getElem?_eq_getElem (by rw[hF.plen];exact hk)]at hc;exact Option.some.inj hc
 clear hc;obtain⟨i0,hi,hz0,hz1,hz2⟩:=info_parts Tryz.infoStrZ;obtain⟨b,off,hq2,hbl,hnC,hat⟩:=hF.arg (fun e=>by rw[e]at hk;exact absurd hk (Nat.not_lt_zero _));obtain⟨qi,ci,ckl,hci,hsxl,haw⟩:=hat k F.ts[k] (List.getElem?_eq_getElem hk);have hb:b < w.heap.size:=Nat.lt_of_lt_of_le hbl h.ch.size;have ck:=(iJ h.ch hbl hnC (off+k)).trans ckl;have hsx:=sK hsxl h.ch haw;have HSxl:=Lib.hid hsxl;clear ckl hsxl;have hyl:(uA F.ts[k]).length≤20000:=Nat.le_trans (qH (List.getElem_mem hk)) hF.len;have hpk:k < F.parts.length:=by rw[hF.plen];exact hk
 have hps:k < (⟨F.parts.toArray⟩:ByteArray).size:=by simpa [ByteArray.size] using hpk
 have hpc:(⟨F.parts.toArray⟩:ByteArray)[k]'hps=F.parts[k]:=rfl;have hsay:=h.say;rw[List.drop_eq_getElem_cons hk,List.drop_eq_getElem_cons hpk]at hsay;have hyw:F.ts[k].last.word.size≤1000000:=by
  obtain⟨i,hi⟩:=bJ F.ts[k];refine hF.words _ ?_;have hm:=List.getElem_mem hk;generalize F.ts[k]=y at *;exact qK hm
 have HLa:=Lib.hid (dJ (w0:=w) F.ts[k] (q:=qi) (cap:=ci) (by omega) hsx);have HY:=Lib.hid (show F.ts[k]∈F.ts from List.getElem_mem hk);have HTk:=Lib.hid (show fA (F.ts.take (k+1))=fA (F.ts.take k)++uA F.ts[k] by rw[List.take_succ_eq_append_getElem hk,zD];simp[fA]);have HSy:=Lib.hid hsay;have HSx:=Lib.hid hsx;have HAw:=Lib.hid haw;have HF:=Lib.hid hF;have H:=Lib.hid h;have hn0:(F.ts.length:Int)≤20000:=by have:=kH F.ts;have:=hF.len;omega
 have hk0:(0:Int)≤(k:Int):=by omega
 have hkn:(k:Int) < (F.ts.length:Int):=by omega
 have HKn:=Lib.hid hk;clear hat hsx haw hsay h;generalize F.ts[k]=y at *;generalize F.parts[k]=c at *;obtain⟨ps,hps,hpc,HPs⟩:∃ ps:ByteArray,∃ hps:k < ps.size,ps[k]'hps=c∧RowKit.Hid (ps=(⟨F.parts.toArray⟩:ByteArray)):=⟨_,hps,hpc,Lib.hid rfl⟩;rw[← HPs.out];unfold tgRound bP wW;simp only[Tryz.f28,Option.getD_some,rA,dA,bC];unfold mD;rw[hq2];subst hc';rw[vYA g1 g2 g3 g4]at HSy;have nb1:(((ps[k]'hps).toNat:Int)==118)=false:=by rw[hpc];exact wBA g1 rfl
 have nb2:(((ps[k]'hps).toNat:Int)==119)=false:=by rw[hpc];exact wBA g2 rfl
 have nb3:(((ps[k]'hps).toNat:Int)==110)=false:=by rw[hpc];exact wBA g3 rfl
 have nb4:(((ps[k]'hps).toNat:Int)==100)=false:=by rw[hpc];exact wBA g4 rfl
 clear hpc g1 g2 g3 g4; have HI := Lib.hid (ih y HY.out); have HOk := Lib.hid (jEA.1 hF.ok y HY.out); have HWo := Lib.hid (fun x (hx : x ∈ uA y) => hF.words x (aRA HY.out hx)); have hle1 := uI (k + 1) F.ts; rw [HTk.out, List.length_append] at hle1; have hle2 := kH (F.ts.take k); rw [List.length_take, Nat.min_eq_left (Nat.le_of_lt HKn.out)] at hle2; have HBd := Lib.hid (show F.st.length + nms.length + (uA y).length ≤ 50000 ∧ (F.acc ++ t).length + (uA y).length ≤ 900000 by
   have:=hF.stl;have:=hF.accl;have:=H.out.nlen;have:=H.out.tlen;rw[List.length_append];omega)
 have HStn:=Lib.hid (show F.st.length≤50000∧nms.length≤20000 by have:=hF.stl;have:=H.out.nlen;have:=hF.len;omega);clear hle1 hle2;have HTx:=Lib.hid (nXA hF.bound H.out.ch hF.away);obtain⟨pb,cb,hbv,_⟩:=hF.bound;rw[hbv]
 cases wt
 · have HTn := Lib.hid (TextsV.of_own H.out.row); obtain ⟨pn, cn, hnv, _⟩ := HTn.out; subst hnv; have HCo := Lib.hid (fun w' (hU : Under w w') => dEA (w0 := w'.alloc (.cells #[F.bv, .slice pn nms.length cn] 22)) (v := .slice (some ⟨w'.heap.size, 0, none⟩) 2 2) [F.st, nms] (by simp) (by have := HStn.out; simp; omega) ⟨_, _, [F.bv, .slice pn nms.length cn], rfl, Nat.le_refl _, (fun e => by cases e), vBA _ _ _ _, by
     refine⟨rfl,fun i v x hv hx=>?_⟩
     match i,hv,hx with
     | 0,hv,hx=>cases hv;cases hx;exact(HTx.out.under hU).under (aA (Under.refl _) _)
     | 1,hv,hx=>cases hv;cases hx;exact(HTn.out.under hU).under (aA (Under.refl _) _)⟩)
   go_wp2_with fail;refine HLa.out.mono ?_;rintro e w1 ⟨rfl,hU1⟩;have HU1:=Lib.hid (aA hU1 (.cells #[.int .i64 y.last.many,.int .i64 y.last.pos,.string y.last.word] 29));have HZ:=Lib.hid (xA w1 #[.int .i64 y.last.many,.int .i64 y.last.pos,.string y.last.word] 29);have hw1:=hU1.size;clear hU1 HLa;unfold sxV;have HCc:=Lib.hid (HCo.out _ HU1.out);have HUa:=Lib.hid (aA HU1.out (.cells #[F.bv,.slice pn nms.length cn] 22));rw[hbv]at HCc HUa;rw[World.size_alloc]at HCc;clear HCo;go_wp2_with fail;refine HCc.out.mono ?_;rintro e w2 ⟨v,rfl,hv,hU2⟩;have hfl:[F.st,nms].flatten=F.st++nms:=by simp
   rw[hfl]at hv;have HU2:=Lib.hid (HUa.out.trans hU2);have HRe:=Lib.hid (H.out.re.under HU2.out);have HCe:=Lib.hid (H.out.ch.under HU2.out);have HNe:=Lib.hid (H.out.nd.under HU2.out);have HCa:=Lib.hid (HI.out F.W0 w2 F.rb F.m1 F.m2 F.cv F.dv ov1 (F.acc++t) p1 e1 qi ci v (F.st++nms) F.cs F.ds HOk.out hyl hci HWo.out hF.strc hF.csT hF.dsT hF.csl hF.dsl HRe.out (HSx.out.under HU2.out) (fSA H.out HSxl.out HAw.out) (TextsV.of_own hv) (lSA hv (HRe.out.row_out hv (by decide) (by decide))) (by rw[List.length_append];exact HBd.out.1) HBd.out.2);clear hfl hU2 hv HCc HI;go_wp2_with fail;rcases hR:aG F.cs F.ds y (F.st++nms) with⟨e0,p0⟩ | ty
   · have HErr : RowKit.Hid (F.R = .error (e0, p0)) := Lib.hid (by rw [HSy.out]; simp only [Bool.false_eq_true, if_false, hR]); rw [hR] at HCa; refine HCa.out.mono ?_; rintro e w5 hO; obtain ⟨ov2, acc2, p2, e2, h1, h2, h3, rfl, rfl, rfl⟩ := hO; have H1 := Lib.hid h1; have H2 := Lib.hid h2; have H3 := Lib.hid h3; clear h1 h2 h3 HCa; go_wp2; refine .inr ⟨rfl, _, _, _, _, ⟨_, fB (F := dI false) (by rfl)⟩, HErr.out, H1.out, ?_, ?_⟩
     · exact HCe.out.trans (D:=gH F.rb ov1) H2.out (fun i hi h=>.inl (vK H.out hi h))
     · intro b hb e;exact H.out.own b hb (H3.out b (Nat.lt_of_lt_of_le hb HCe.out.size) e)
   · have HSay : RowKit.Hid (F.R = goS F.cs F.ds (uB false (F.parts.drop (k + 1))) (F.ts.drop (k + 1)) x [] F.st (t ++ ty)) := Lib.hid (by rw [HSy.out]; simp only [Bool.false_eq_true, if_false, hR]); have HLy := Lib.hid (pM y _ _ hR); rw [hR] at HCa; refine HCa.out.mono ?_; rintro e w5 hO; obtain ⟨ov2, acc2, p2, e2, h1, h2, h3, rfl, rfl⟩ := hO; have H1 := Lib.hid h1; have H2 := Lib.hid h2; have H3 := Lib.hid h3; clear h1 h2 h3 HCa; go_wp2; refine ⟨[], false, x, t ++ ty, ov2, p2, e2, (.slice none 0 0), nA (F := mD F.rb F.nb F.bv (.slice none 0 0) false ⟨F.parts.toArray⟩ F.q2 F.ts.length F.c2 (k + 1)) (by rw [hq2, hbv, ← HPs.out]; rfl) ?_⟩; refine ⟨by rw [← List.append_assoc]; exact H1.out, HCe.out.trans (D := gH F.rb ov1) H2.out (fun i hi h => .inl (vK H.out hi h)), fun b hb e => H.out.own b hb (H3.out b (Nat.lt_of_lt_of_le hb HCe.out.size) e), mI HNe.out H2.out (fun hr => hF.nrc (vK H.out hF.nlt hr)), ?_, HSay.out, ?_, ?_⟩
     · exact World.ownsRow_nil _ _ _ _
     · exact Nat.zero_le _
     · rw[List.length_append,HTk.out,List.length_append];have:=H.out.tlen;have:=HLy.out;omega
 · go_wp2_with fail; refine HLa.out.mono ?_; rintro e w1 ⟨rfl, hU1⟩; have HU1 := Lib.hid (aA hU1 (.cells #[.int .i64 y.last.many, .int .i64 y.last.pos, .string y.last.word] 29)); have HZ := Lib.hid (xA w1 #[.int .i64 y.last.many, .int .i64 y.last.pos, .string y.last.word] 29); have hw1 := hU1.size; clear hU1 HLa; unfold sxV; have HRe := Lib.hid (H.out.re.under HU1.out); have HCe := Lib.hid (H.out.ch.under HU1.out); have HNe := Lib.hid (H.out.nd.under HU1.out); have HRw := Lib.hid (yB H.out.row HU1.out); have HCa := Lib.hid (HI.out F.W0 _ F.rb F.m1 F.m2 F.cv F.dv ov1 (F.acc ++ t) p1 e1 qi ci F.bv F.st F.cs F.ds HOk.out hyl hci HWo.out hF.strc hF.csT hF.dsT hF.csl hF.dsl HRe.out (HSx.out.under HU1.out) (fSA H.out HSxl.out HAw.out) (HTx.out.under HU1.out) (m3A H.out hF.bound hF.away) (by have := HBd.out.1; omega) HBd.out.2); clear HI; rw [hbv] at HCa; go_wp2_with fail; rcases hR : aG F.cs F.ds y F.st with ⟨e0, p0⟩ | ty
   · have HErr : RowKit.Hid (F.R = .error (e0, p0)) := Lib.hid (by rw [HSy.out]; simp only [if_true, hR]); rw [hR] at HCa; refine HCa.out.mono ?_; rintro e w5 hO; obtain ⟨ov2, acc2, p2, e2, h1, h2, h3, rfl, rfl, rfl⟩ := hO; have H1 := Lib.hid h1; have H2 := Lib.hid h2; have H3 := Lib.hid h3; clear h1 h2 h3 HCa; go_wp2; refine .inr ⟨rfl, _, _, _, _, ⟨_, fB (F := dI false) (by rfl)⟩, HErr.out, H1.out, ?_, ?_⟩
     · exact HCe.out.trans (D:=gH F.rb ov1) H2.out (fun i hi h=>.inl (vK H.out hi h))
     · intro b hb e;exact H.out.own b hb (H3.out b (Nat.lt_of_lt_of_le hb HCe.out.size) e)
   · have HSay : RowKit.Hid (F.R = goS F.cs F.ds (uB false (F.parts.drop (k + 1))) (F.ts.drop (k + 1)) x nms F.st (t ++ ty)) := Lib.hid (by rw [HSy.out]; simp only [if_true, hR]); have HLy := Lib.hid (pM y _ _ hR); rw [hR] at HCa; refine HCa.out.mono ?_; rintro e w5 hO; obtain ⟨ov2, acc2, p2, e2, h1, h2, h3, rfl, rfl⟩ := hO; have H1 := Lib.hid h1; have H2 := Lib.hid h2; have H3 := Lib.hid h3; clear h1 h2 h3 HCa; go_wp2; refine ⟨nms, false, x, t ++ ty, ov2, p2, e2, nv, nA (F := mD F.rb F.nb F.bv nv false ⟨F.parts.toArray⟩ F.q2 F.ts.length F.c2 (k + 1)) (by rw [hq2, hbv, ← HPs.out]; rfl) ?_⟩; refine ⟨by rw [← List.append_assoc]; exact H1.out, HCe.out.trans (D := gH F.rb ov1) H2.out (fun i hi h => .inl (vK H.out hi h)), fun b hb e => H.out.own b hb (H3.out b (Nat.lt_of_lt_of_le hb HCe.out.size) e), mI HNe.out H2.out (fun hr => hF.nrc (vK H.out hF.nlt hr)), ?_, HSay.out, ?_, ?_⟩
     · exact bQ HRw.out H2.out (HRe.out.row_out HRw.out (by decide) (by decide))
     · exact Nat.le_trans H.out.nlen (Nat.le_succ _)
     · rw[List.length_append,HTk.out,List.length_append];have:=H.out.tlen;have:=HLy.out;omega
theorem l1A(rb nb:Nat)(bv nv:Value)(wt:Bool)(ps:ByteArray)(q2:Option Addr)(n c2:Nat)(J:Nat→Value)(w:World) :
 tgRound.wp Tryz.prog (Exit.then (fun _ _=>False) (fun e a' w'=>e = .exit 0∧∃ J,a'=⟨mD rb nb bv nv wt ps q2 n c2 n J,[]⟩∧w'=w)) ⟨mD rb nb bv nv wt ps q2 n c2 n J,[]⟩ w:=by
 unfold tgRound bP wW;simp only[Tryz.f28,Option.getD_some,rA,dA,bC];unfold mD;go_wp2;exact⟨trivial,nA (F:=mD rb nb bv nv wt ps q2 n c2 n) (by rfl) trivial⟩
theorem xN(F:TgFix)(hF:TgOk F)(ih:∀ y∈F.ts,oLA y)(a:Act)(w:World)(h0:lT F 0 a w):(Code.loop tgRound).wp Tryz.prog (iHA F) a w:=by
 refine wp_loop_ghost (fun m a w=>∃ k,m+k=F.ts.length∧lT F k a w) F.ts.length ⟨0,rfl,h0⟩ ?_;clear h0;rintro m a w ⟨k,hmk,nms,wt,x,t,ov1,p1,e1,nv,J,rfl,h⟩;by_cases hk:k < F.ts.length
 · have hpk : k < F.parts.length := by rw [hF.plen]; exact hk
   have hc:F.parts[k]? = some F.parts[k]:=List.getElem?_eq_getElem hpk;have key:tgRound.wp Tryz.prog (Exit.then (lT F (k+1)) (iHA F)) ⟨mD F.rb F.nb F.bv nv wt ⟨F.parts.toArray⟩ F.q2 F.ts.length F.c2 k J,[]⟩ w:=by
    by_cases g1:F.parts[k]=118
    · exact cSA F hF hk (.inl (by rw[hc,g1])) h J
    by_cases g2:F.parts[k]=119
    · exact cSA F hF hk (.inr (by rw[hc,g2])) h J
    by_cases g3:F.parts[k]=110
    · exact i7A F hF hk (by rw[hc,g3]) h J
    by_cases g4:F.parts[k]=100
    · exact o3A F hF hk (by rw[hc,g4]) h J
    exact f4A F hF hk hc g1 g2 g3 g4 ih h J
   refine wp_mono key ?_;rintro e a' w' h
   cases e with
   | normal=>exact⟨m - 1,by omega,k+1,by omega,h⟩
   | _=>exact h
 · obtain rfl : k = F.ts.length := by have := kH F.ts; omega
   refine wp_mono (l1A F.rb F.nb F.bv nv wt ⟨F.parts.toArray⟩ F.q2 F.ts.length F.c2 J w) ?_;rintro e a' w' h'
   cases e with
   | normal=>exact h'.elim
   | _ =>
     obtain⟨h1,J',rfl,rfl⟩:=h';exact .inl ⟨h1,nms,wt,x,t,ov1,p1,e1,nv,J',rfl,h⟩
theorem fNA(pp:Int)(s:ByteArray):oLA (.word pp s):=by
 rintro W0 w rb m1 m2 cv dv ov acc p e q cap bv st cs ds hok hn hcap hw hE hcs hds hcn hdn hR hq ha hb hab hst hacc;have HLa:=Lib.hid (dJ (w0:=w) (.word pp s) (q:=q) (cap:=cap) (by omega) hq);have HR:=Lib.hid hR;have HB:=Lib.hid hb;have hs:s.size≠0:=hok;have hne:=(dK hs).1;have hne2:=(dK hs).2;have hwx:s.size≤1000000:=hw ⟨0,pp,s⟩ (by simp[uA]);rw[aG];have HWd:=Lib.hid (fun w1 (hU:Under w w1)=>uSA ⟨0,pp,s⟩ cs st (bv:=bv) hwx (hR.under hU) (hb.under hU) (by omega) (by omega) hcs hcn);have hl1:(uA (.word pp s)).length=1:=rfl;rw[hl1]at HLa ⊢;clear hR hb hq ha hab hst hacc hn hcap hw hok hl1 hcs hds;simp only[ST.last,sxV]at HLa;simp only[sxV]at HWd;go_enter Tryz.func28,Tryz.ntmps28;go_wp2_with fail;refine wp_scope_straight ?_;go_wp2_with fail;refine HLa.out.mono ?_;rintro e w1 ⟨rfl,hU1⟩;have HU1:=Lib.hid (aA hU1 (.cells #[.int .i64 0,.int .i64 pp,.string s] 29));have hZ:=xA w1 #[.int .i64 0,.int .i64 pp,.string s] 29;have z0:(w1.alloc (.cells #[.int .i64 0,.int .i64 pp,.string s] 29)).cell? ⟨w1.heap.size,0,none⟩=some (.int .i64 (0)):=hZ.cell 0;have z1:(w1.alloc (.cells #[.int .i64 0,.int .i64 pp,.string s] 29)).cell? ⟨w1.heap.size,1,none⟩=some (.int .i64 (pp)):=hZ.cell 1;have z2:(w1.alloc (.cells #[.int .i64 0,.int .i64 pp,.string s] 29)).cell? ⟨w1.heap.size,2,none⟩=some (.string s):=hZ.cell 2;have zl:=hZ.lt;have HZ:=Lib.hid hZ;have hw1:=hU1.size;clear hU1 HLa hZ;go_wp2_with fail;refine(HWd.out _ HU1.out).mono ?_;rintro e w2 hO;have HO:=Lib.hid (ReOut.back HU1.out hO);have hv:∃ b,e = .returned (.bool b):=by
  obtain⟨_,_,_,_,_,_,_,h⟩:=hO
  split at h
  · exact⟨_,h.1⟩
  · exact⟨_,h.1⟩
 obtain⟨b,rfl⟩:=hv;clear hO HWd;go_wp2;rw[Exit.noGoto_ret];go_ret;exact HO.out
end Go.Proofs.YtlnlpdephijcoaaGreatDoor
