/- Part 20 of what the proof rests on. -/
import Derived.Conc.CompanyMem
import Derived.Conc.WalkWords
import Derived.Test.YtpkaiodmbicjiaaGreatDoorRows
import Derived.Conc.Holds
import Derived.KernelRfl
import Derived.Test.YtpkaiodmbicjiaaGreatDoorM05
import Derived.Test.YtpkaiodmbicjiaaGreatDoorM08
import Derived.Test.YtpkaiodmbicjiaaGreatDoorM12
import Derived.Test.YtpkaiodmbicjiaaGreatDoorM13
import Derived.Test.YtpkaiodmbicjiaaGreatDoorM19
import Derived.Test.YtpkaiodmbicjiaaGreatDoorM00
set_option linter.unusedSimpArgs false
set_option linter.unusedVariables false
set_option maxRecDepth 100000
set_option maxHeartbeats 4000000
namespace Go.Proofs.YtpkaiodmbicjiaaGreatDoor
open Go.Proofs.Tryz
open Go.Lx Go.RowKit
section
variable {w0 : World}
theorem mWA(d:Dc){v v':Value}(hd:Lite d)(hv:DcV w0 v d)(hv':DcV w0 v' d):Calls prog 9 #[v,v'] w0 λe w=>e = .returned (.bool true)/\Under w0 w:=by
 obtain⟨vt,vb,vc,rfl,h1,h2,h3⟩:=hv;obtain⟨vt',vb',vc',rfl,h1',h2',h3'⟩:=hv';have HT:=aA (λw (h:Under w0 w)=>hEA (w0:=w) d.type d.type (by have:=hd.type;simp only[maxLen];omega) (TermV.mono _ _ _ _ h h1) (TermV.mono _ _ _ _ h h1'));have HB:=aA (λw (h:Under w0 w)=>hEA (w0:=w) d.body d.body (by have:=hd.body;simp only[maxLen];omega) (TermV.mono _ _ _ _ h h2) (TermV.mono _ _ _ _ h h2'));rw[p8]at HT HB;obtain⟨pt,ct,rfl,_⟩:=h1;obtain⟨pb,cb,rfl,_⟩:=h2;obtain⟨pc,cc,us,rfl,_,_,hrc,hzc⟩:=h3;obtain⟨pt',ct',rfl,_⟩:=h1';obtain⟨pb',cb',rfl,_⟩:=h2';obtain⟨pc',cc',us',rfl,_,_,hrc',hzc'⟩:=h3';have HR:=aA (And.intro hrc hrc');have HZ:=aA (And.intro hzc hzc');have HB1:=aA ((zA w0 #[.int .i64 d.kind,.int .i64 d.level,.string d.name,.slice pt d.type.length ct,.slice pb d.body.length cb,.slice pc d.cons.length cc] 37).alloc (.cells #[.int .i64 d.kind,.int .i64 d.level,.string d.name,.slice pt' d.type.length ct',.slice pb' d.body.length cb',.slice pc' d.cons.length cc'] 37));have HU:=aA (bA (bA (Qu w0) (.cells #[.int .i64 d.kind,.int .i64 d.level,.string d.name,.slice pt d.type.length ct,.slice pb d.body.length cb,.slice pc d.cons.length cc] 37)) (.cells #[.int .i64 d.kind,.int .i64 d.level,.string d.name,.slice pt' d.type.length ct',.slice pb' d.body.length cb',.slice pc' d.cons.length cc'] 37));have HB2:=aA (show BoxAt ((w0.alloc (.cells #[.int .i64 d.kind,.int .i64 d.level,.string d.name,.slice pt d.type.length ct,.slice pb d.body.length cb,.slice pc d.cons.length cc] 37)).alloc (.cells #[.int .i64 d.kind,.int .i64 d.level,.string d.name,.slice pt' d.type.length ct',.slice pb' d.body.length cb',.slice pc' d.cons.length cc'] 37)) (w0.heap.size+1) 37 #[.int .i64 d.kind,.int .i64 d.level,.string d.name,.slice pt' d.type.length ct',.slice pb' d.body.length cb',.slice pc' d.cons.length cc'] from by
   have:=zA (w0.alloc (.cells #[.int .i64 d.kind,.int .i64 d.level,.string d.name,.slice pt d.type.length ct,.slice pb d.body.length cb,.slice pc d.cons.length cc] 37)) #[.int .i64 d.kind,.int .i64 d.level,.string d.name,.slice pt' d.type.length ct',.slice pb' d.body.length cb',.slice pc' d.cons.length cc'] 37
   simpa using this)
 have HD:=aA hd;have hc9:(d.cons.length:Int)<=5864062014634:=by have:=hd.cons;omega
 have hc0:(0:Int)<=(d.cons.length:Int):=by omega
 clear hrc hrc' hzc hzc' hd;go_enter func9,ntmps9;go_wp2_with fail;refine(HT.out _ HU.out).mono ?_;rintro e w1 ⟨rfl,hU1⟩;have HBa:=aA (HB1.out.under hU1);have HBb:=aA (HB2.out.under hU1);have HUa:=aA (HU.out.trans hU1);clear hU1 HT HB1 HB2 HU;have b0:=HBa.out.cell 4;have b1:=HBb.out.cell 4;have b2:=HBa.out.cell 5;have b3:=HBb.out.cell 5;have bl:=HBa.out.lt;have bl2:=HBb.out.lt;go_wp2_with fail;refine(HB.out _ HUa.out).mono ?_;rintro e w2 ⟨rfl,hU2⟩;have HB1:=aA (HBa.out.under hU2);have HB2:=aA (HBb.out.under hU2);have HUb:=aA (HUa.out.trans hU2);clear hU2 HB HBa HBb HUa b0 b1 b2 b3 bl bl2;have b2:=HB1.out.cell 5;have b3:=HB2.out.cell 5;have bl:=HB1.out.lt;have bl2:=HB2.out.lt;go_wp2;clear b2 b3 bl bl2;go_loopw [5] (λi wr=>∃ k:Nat,k<=d.cons.length/\i = .int .i64 (k:Int)/\Under w2 wr) (λi _=>d.cons.length - (intOf i).toNat)
 case atStart=>exact⟨0,Nat.zero_le _,rfl,Qu _⟩
 case round =>
   obtain⟨k,hk,rfl,hU3⟩:=hrel;have HBc:=aA (HB1.out.under hU3);have HBd:=aA (HB2.out.under hU3);have HV:=aA hU3;have HU:=aA (HUb.out.trans hU3);have hk0:(0:Int)<=(k:Int):=by omega
   clear hU3;have b2:=HBc.out.cell 5;have b3:=HBd.out.cell 5;have bl:=HBc.out.lt;have bl2:=HBd.out.lt;by_cases hlt:k < d.cons.length
   . obtain⟨u,hu,q,c',vs2,rfl,_,_,hr2,hz2⟩:=HZ.out.1.at (Qa hlt);obtain⟨u',hu',q',c2',vs2',rfl,_,_,hr2',hz2'⟩:=HZ.out.2.at (Qa hlt);obtain⟨b9,off9,rfl,hb9,hcs⟩:=HR.out.1 (λe=>by rw[e]at hu;simp at hu);obtain⟨b8,off8,rfl,hb8,hcs'⟩:=HR.out.2 (λe=>by rw[e]at hu';simp at hu');have cc9:=hcs k _ hu;have cc8:=hcs' k _ hu';have HC98:=aA (And.intro (And.intro hb9 cc9) (And.intro hb8 cc8));rw[<- iA HU.out hb9]at cc9;rw[<- iA HU.out hb8]at cc8;have hb9':=Qb hb9 HU.out.size;have hb8':=Qb hb8 HU.out.size;have hlt':(k:Int) < (d.cons.length:Int):=by omega
     obtain⟨hm,htl⟩:=HD.out.con _ (Qr hlt);have HTl:=aA htl;have HR2:=aA (And.intro hr2 hr2');have HZ2:=aA (And.intro hz2 hz2');clear hcs hu hcs' hu' hr2 hr2' hz2 hz2' htl;generalize d.cons[k]=c at *;have hm0:(0:Int)<=(c.length:Int):=by omega
     have hm9:(c.length:Int)<=5864062014634:=by omega
     have b2':wr.cell? ⟨w0.heap.size,5,none⟩=some (.slice (some ⟨b9,off9,none⟩) d.cons.length cc):=b2;have b3':wr.cell? ⟨w0.heap.size+1,5,none⟩=some (.slice (some ⟨b8,off8,none⟩) d.cons.length cc'):=b3;go_wp2_with fail;rename_i K hK;refine wp_region_noPanic ?_;refine wp_region_held_drew (S:=λw'=>w'.cell? ⟨w0.heap.size,5,none⟩=some (.slice (some ⟨b9,off9,none⟩) d.cons.length cc)/\w'.cell? ⟨w0.heap.size+1,5,none⟩=some (.slice (some ⟨b8,off8,none⟩) d.cons.length cc')/\w'.cell? ⟨b9,off9+k,none⟩=some (.slice q c.length c')/\w'.cell? ⟨b8,off8+k,none⟩=some (.slice q' c.length c2')) (by kernel_rfl) ⟨b2',b3',cc9,cc8⟩ (λhHeld=>?_);refine dA 0 rfl ?_;refine dA 1 rfl ?_;refine dA 2 rfl ?_;refine dA 3 rfl ?_;refine dA 4 rfl ?_;refine dA 5 rfl ?_;refine dA 6 rfl ?_;refine dA 7 rfl ?_;refine dA 8 rfl ?_;refine dA 9 rfl ?_;refine dA 10 rfl ?_;refine dA 11 rfl ?_;refine dA 12 rfl ?_
     try walk_nrm
     refine wpAnyH_done (by kernel_rfl) ?_ _;refine NoPanic.normal ?_;refine hK _ _ ?_;have HVd:=aA (fA HV.out);clear hHeld hK K b2' b3' b2 b3 bl bl2 cc9 cc8 hb9' hb8';go_wp2;go_loopw [6] (λi wi=>∃ j:Nat,j<=c.length/\i = .int .i64 (j:Int)/\Under w2 wi) (λi _=>c.length - (intOf i).toNat)
     case atStart=>exact⟨0,Nat.zero_le _,rfl,HVd.out⟩
     case round =>
       obtain⟨j,hj,rfl,hU4⟩:=hrel;have HBe:=aA (HB1.out.under hU4);have HBf:=aA (HB2.out.under hU4);have HVi:=aA hU4;have HUi:=aA (HUb.out.trans hU4);have hj0:(0:Int)<=(j:Int):=by omega
       clear hU4;have b2:wr.cell? ⟨w0.heap.size,5,none⟩=some (.slice (some ⟨b9,off9,none⟩) d.cons.length cc):=HBe.out.cell 5;have b3:wr.cell? ⟨w0.heap.size+1,5,none⟩=some (.slice (some ⟨b8,off8,none⟩) d.cons.length cc'):=HBf.out.cell 5;have bl:=HBe.out.lt;have bl2:=HBf.out.lt;have cc9:=(iA HUi.out HC98.out.1.1 _).trans HC98.out.1.2;have cc8:=(iA HUi.out HC98.out.2.1 _).trans HC98.out.2.2;have hb9':=Qb HC98.out.1.1 HUi.out.size;have hb8':=Qb HC98.out.2.1 HUi.out.size;by_cases hlj:j < c.length
       . obtain⟨u3,hu3,ht3⟩:=HZ2.out.1.at (Qa hlj);obtain⟨u4',hu4,ht4⟩:=HZ2.out.2.at (Qa hlj);obtain⟨b7,off7,rfl,hb7,hcs7⟩:=HR2.out.1 (λe=>by rw[e]at hu3;simp at hu3);obtain⟨b6,off6,rfl,hb6,hcs6⟩:=HR2.out.2 (λe=>by rw[e]at hu4;simp at hu4);have cc7:=(iA HUi.out hb7 _).trans (hcs7 j _ hu3);have cc6:=(iA HUi.out hb6 _).trans (hcs6 j _ hu4);have hb7':=Qb hb7 HUi.out.size;have hb6':=Qb hb6 HUi.out.size;have hlj':(j:Int) < (c.length:Int):=by omega
         have HS:=aA (λw (h:Under w0 w)=>hEA (w0:=w) c[j] c[j] (by have:=HTl.out _ (Qr hlj);simp only[maxLen];omega) (TermV.mono _ _ _ _ h ht3) (TermV.mono _ _ _ _ h ht4));rw[p8]at HS;obtain⟨p3,c3,rfl,_⟩:=ht3;obtain⟨p4,c4,rfl,_⟩:=ht4;clear hcs7 hcs6 hu3 hu4;generalize c[j]=t at *;go_wp2_with fail;rename_i K0 hK0;have HX:=aA (show ∀ w',Under wr w'->w'.cell? ⟨w0.heap.size,5,none⟩=some (.slice (some ⟨b9,off9,none⟩) d.cons.length cc)/\w'.cell? ⟨w0.heap.size+1,5,none⟩=some (.slice (some ⟨b8,off8,none⟩) d.cons.length cc')/\w'.cell? ⟨b9,off9+k,none⟩=some (.slice (some ⟨b7,off7,none⟩) c.length c')/\w'.cell? ⟨b8,off8+k,none⟩=some (.slice (some ⟨b6,off6,none⟩) c.length c2')/\w'.cell? ⟨b7,off7+j,none⟩=some (.slice p3 t.length c3)/\w'.cell? ⟨b6,off6+j,none⟩=some (.slice p4 t.length c4) from λw' h =>
           ⟨(iA h bl _).trans b2,(iA h bl2 _).trans b3,(iA h hb9' _).trans cc9,(iA h hb8' _).trans cc8,(iA h hb7' _).trans cc7,(iA h hb6' _).trans cc6⟩)
         refine wp_region_noPanic ?_;refine wp_region_held_drew (S:=λw'=>w'.cell? ⟨w0.heap.size,5,none⟩=some (.slice (some ⟨b9,off9,none⟩) d.cons.length cc)/\w'.cell? ⟨w0.heap.size+1,5,none⟩=some (.slice (some ⟨b8,off8,none⟩) d.cons.length cc')/\w'.cell? ⟨b9,off9+k,none⟩=some (.slice (some ⟨b7,off7,none⟩) c.length c')/\w'.cell? ⟨b8,off8+k,none⟩=some (.slice (some ⟨b6,off6,none⟩) c.length c2')/\w'.cell? ⟨b7,off7+j,none⟩=some (.slice p3 t.length c3)/\w'.cell? ⟨b6,off6+j,none⟩=some (.slice p4 t.length c4)) (by kernel_rfl) (HX.out _ (fA (Qu _))) (λhHeld=>?_);refine dA 0 rfl ?_;refine dA 1 rfl ?_;refine dA 2 rfl ?_;refine dA 3 rfl ?_;refine dA 4 rfl ?_;refine dA 5 rfl ?_;refine dA 6 rfl ?_;refine dA 7 rfl ?_;refine dA 8 rfl ?_;refine dA 9 rfl ?_;refine dA 10 rfl ?_;refine dA 11 rfl ?_;refine dA 12 rfl ?_;refine dA 13 rfl ?_;refine dA 14 rfl ?_;refine dA 15 rfl ?_;refine yA 16 (by kernel_rfl) rfl λK hK=>?_
         go_simp;go_at_call 19;refine(HS.out _ (fA HUi.out)).mono ?_;rintro e w9 ⟨rfl,hU9⟩;refine hK.out _ _ (HX.out _ ((fA (Qu _)).trans hU9)) (λ_=>?_);clear hK K hHeld;rename_i hHeld
         try walk_nrm
         refine dA 17 rfl ?_
         try walk_nrm
         refine wpAnyH_done (by kernel_rfl) ?_ _;refine NoPanic.normal ?_;refine hK0 _ _ ?_;have HU9:=aA ((fA HVi.out).trans hU9);clear hHeld HX hK0 K0;go_wp2;go_roundw
         case rel=>exact⟨j+1,by omega,by go_num,HU9.out⟩
         case measure=>simp[intOf];omega
       . obtain rfl:j=c.length:=by omega
         go_wp2;go_roundw
         case rel=>exact⟨k+1,by omega,by go_num,HVi.out⟩
         case measure=>simp[intOf];omega
   . obtain rfl:k=d.cons.length:=by omega
     go_wp2;go_ret;exact⟨rfl,HU.out⟩
end
end Go.Proofs.YtpkaiodmbicjiaaGreatDoor
namespace Go.Proofs.YtpkaiodmbicjiaaGreatDoor
open Go.Proofs.Tryz
open Go.Conc Go.Lx Go.RowKit
section
variable {W : World}
theorem fO{w:World}{b:Nat}{T:TypeId}{v0 v1 v2 v3 v4 v5:Value}(h:BoxAt w b T #[v0,v1,v2,v3,v4,v5]):w.cell? ⟨b,0,none⟩=some v0/\w.cell? ⟨b,1,none⟩=some v1/\w.cell? ⟨b,2,none⟩=some v2/\w.cell? ⟨b,3,none⟩=some v3/\w.cell? ⟨b,4,none⟩=some v4/\w.cell? ⟨b,5,none⟩=some v5:=⟨h.cell 0,h.cell 1,h.cell 2,h.cell 3,h.cell 4,h.cell 5⟩
theorem i6A{l:List Dc}{row:List Sx}{pl p:Option Addr}{cl cap:Nat}{vy:Value}{w:World}(hU:Under W w)(hl:l.length<=2048)(hli:∀ d∈l,Lite d)(hp:RowsV 6 DcRow W pl l)(hcl:l.length<=cl)(hp0:pl=none->cl=0)(hrow:SxArg W p row)(hcap:row.length<=cap)(hn:row.length<=150)(hg:∀ x∈row,x.word.size<=100)(hE:StrcAt W)(hS:ShapesAt 2 W)
    (hown:w.ownsRow W.heap.size 29 3 vy row.length (mD row)) (J:Nat->Value):onRest.wp prog (OnQ W) ⟨oW (.slice pl l.length cl) (.slice p row.length cap) vy row.length J,[]⟩ w:=by
  obtain⟨R,hRl,hP,hQ⟩:=e4A l row hl hli hE hS hn hg;have HU:=aA hU;have HO:=aA hown;have HP:=aA (hP w pl p cl cap hU (RowsV.under DcRow.mono hp hU) hcl hp0 (hrow.under hU) hcap);have HQ:=aA hQ;have HL:=aA (λw' (h:Under W w')=>iZA (w0:=w') (c:=cl) (ds:=l) (by omega) (RowsV.under DcRow.mono hp h));have HRl:=aA hRl;obtain⟨qy,cy,rfl,hcy,hsy⟩:=cZ hown;have HSy:=aA (And.intro hcy hsy);clear hU hown hP hQ hp hcl hp0 hrow hcap hRl hcy hsy hg hli hE hS;generalize hQ:OnQ W=Q;have HF:=aA hQ;clear hQ;unfold onRest y8;simp only[f3,Qf,jA];unfold oW;go_wp2_with fail;refine HP.out.mono ?_;rintro e w1 h;obtain⟨hU1,v1,rfl,hv1⟩:=h.flat;have HV1:=aA hv1;obtain⟨vt,vb,vc,rfl,⟨p1,c1,rfl,_⟩,⟨p2,c2,rfl,_⟩,⟨p3,c3,us3,rfl,_⟩⟩:=hv1;generalize (aK R).type.length=m1 at *;generalize (aK R).body.length=m2 at *;generalize (aK R).cons.length=m3 at *;have HB1:=aA (zA w1 #[.int .i64 (aK R).kind,.int .i64 (aK R).level,.string (aK R).name,.slice p1 m1 c1,.slice p2 m2 c2,.slice p3 m3 c3] 33);have hA:=bA (Qu w1) (.cells #[.int .i64 (aK R).kind,.int .i64 (aK R).level,.string (aK R).name,.slice p1 m1 c1,.slice p2 m2 c2,.slice p3 m3 c3] 33);have HU1:=aA (hU1.trans hA);have HV1:=aA (DcV.mono _ _ _ _ hA HV1.out);clear h hU1 hA HP;have HL:=aA (HL.out _ (HU.out.trans HU1.out));go_wp2_with fail;refine HL.out.mono ?_;rintro e w2 ⟨ql,dl,rfl,_,_,hpl,hU2⟩;have HU2:=aA (HU1.out.trans hU2);have HB2:=aA (HB1.out.under hU2);have HV2:=aA (DcV.mono _ _ _ _ hU2 HV1.out);have HQ:=aA (HQ.out w2 ql qy dl cy (HU.out.trans HU2.out) hpl (HSy.out.2.under HU2.out) HSy.out.1);clear hU2 hpl HL HU1 HB1 HV1;go_wp2_with fail;refine HQ.out.mono ?_;rintro e w3 h;obtain⟨hU3,v3,rfl,hv3⟩:=h.flat;have HV3:=aA hv3;obtain⟨vt,vb,vc,rfl,⟨q1,d1,rfl,_⟩,⟨q2,d2,rfl,_⟩,⟨q3,d3,us4,rfl,_⟩⟩:=hv3;generalize (aK R).type.length=n1 at *;generalize (aK R).body.length=n2 at *;generalize (aK R).cons.length=n3 at *;have hA:=bA (Qu w3) (.cells #[.int .i64 (aK R).kind,.int .i64 (aK R).level,.string (aK R).name,.slice q1 n1 d1,.slice q2 n2 d2,.slice q3 n3 d3] 37);have HC4:=aA (zA w3 #[.int .i64 (aK R).kind,.int .i64 (aK R).level,.string (aK R).name,.slice q1 n1 d1,.slice q2 n2 d2,.slice q3 n3 d3] 37);have HU4:=aA (HU2.out.trans (hU3.trans hA));have HB4:=aA (HB2.out.under (hU3.trans hA));have HV4:=aA (DcV.mono _ _ _ _ (hU3.trans hA) HV2.out);have HW4:=aA (DcV.mono _ _ _ _ hA HV3.out);clear h hU3 hA HQ HU2 HB2 HV2 HV3 HSy HO;go_wp2_with fail;rename_i K0 hK0;obtain⟨w4,hw4⟩:∃ w4,w4=w3.alloc (.cells #[.int .i64 (aK R).kind,.int .i64 (aK R).level,.string (aK R).name,.slice q1 n1 d1,.slice q2 n2 d2,.slice q3 n3 d3] 37):=⟨_,rfl⟩;rw[<- hw4]at HC4 HU4 HB4 HV4 HW4 ⊢;clear hw4;generalize w1.heap.size=ba at *;generalize w3.heap.size=bc at *;have b4:=fO HB4.out;have c4:=fO HC4.out
  have bl:=HB4.out.lt;have dl4:=HC4.out.lt;have HTh:=aA (λw' (h:Under w4 w')=>vNA (w0:=w') (aK R) (DcV.mono _ _ _ _ h HV4.out));have HSm:=aA (λw' (h:Under w4 w')=>mWA (w0:=w') (aK R) HRl.out (DcV.mono _ _ _ _ h HV4.out) (DcV.mono _ _ _ _ h HW4.out));refine wp_region_noPanic ?_;refine wp_region_held_drew (S:=λw=>(w.cell? ⟨ba,0,none⟩=some (.int .i64 (aK R).kind)/\w.cell? ⟨ba,1,none⟩=some (.int .i64 (aK R).level)/\w.cell? ⟨ba,2,none⟩=some (.string (aK R).name)/\w.cell? ⟨ba,3,none⟩=some (.slice p1 m1 c1)/\w.cell? ⟨ba,4,none⟩=some (.slice p2 m2 c2)/\w.cell? ⟨ba,5,none⟩=some (.slice p3 m3 c3))/\w.cell? ⟨bc,0,none⟩=some (.int .i64 (aK R).kind)/\w.cell? ⟨bc,1,none⟩=some (.int .i64 (aK R).level)/\w.cell? ⟨bc,2,none⟩=some (.string (aK R).name)/\w.cell? ⟨bc,3,none⟩=some (.slice q1 n1 d1)/\w.cell? ⟨bc,4,none⟩=some (.slice q2 n2 d2)/\w.cell? ⟨bc,5,none⟩=some (.slice q3 n3 d3)) (by kernel_rfl) ⟨b4,c4⟩ (λhHeld=>?_);refine dA 0 rfl ?_;refine dA 2 rfl ?_;refine yA 1 (by kernel_rfl) rfl λK hK=>?_
  go_simp;go_at_call 10;refine(HTh.out _ (fA (Qu w4))).mono ?_;rintro e w5 ⟨rfl,hU5⟩;have HU5:=aA ((fA (Qu w4)).trans hU5);refine hK.out _ _ ⟨fO (HB4.out.under HU5.out),fO (HC4.out.under HU5.out)⟩ (λ_=>?_);clear hU5;clear hK K hHeld;rename_i hHeld
  try walk_nrm
  refine yA 3 (by kernel_rfl) rfl λK hK=>?_
  go_simp;go_at_call 9;refine(HSm.out _ HU5.out).mono ?_;rintro e w6 ⟨rfl,hU6⟩;have HU6:=aA (HU5.out.trans hU6);refine hK.out _ _ ⟨fO (HB4.out.under HU6.out),fO (HC4.out.under HU6.out)⟩ (λ_=>?_);clear hU6;clear hK K hHeld;rename_i hHeld
  try walk_nrm
  refine dA 4 rfl ?_;refine dA 5 rfl ?_;refine dA 6 rfl ?_;refine dA 7 rfl ?_;refine dA 8 rfl ?_;refine dA 9 rfl ?_;refine dA 10 rfl ?_;refine dA 11 rfl ?_;refine dA 12 rfl ?_;refine dA 13 rfl ?_;refine dA 14 rfl ?_
  try walk_nrm
  refine wpAnyH_done (by kernel_rfl) ?_ _;refine NoPanic.normal ?_;refine hK0 _ _ ?_;clear hK0 K0 b4 c4 bl dl4 hHeld;go_wp2;rw[<- HF.out];exact jR rfl rfl ⟨by simp,(HU.out.trans HU4.out).trans HU6.out⟩
end
theorem i3A(l:List Dc)(row:List Sx){pl p:Option Addr}{cl cap:Nat}(W:World)(hlc:l.length<=cl)(hl:l.length<=9223372036854775807)(hp0:pl=none->cl=0)(hp:RowsV 6 DcRow W pl l)(hs:∀ x∈l,SzD x)(hrow:SxArg W p row)(hcap:row.length<=cap)(hmx:row.length<=maxLen)(hE:StrcAt W)(hS:ShapesAt 2 W) :
 CallsG prog 3 #[.slice pl l.length cl,.slice p row.length cap] W (TrueU W):=by
 refine iM nD func3 rfl ?_ TrueU.re;simp only[ntmps3,List.size_toArray,Qk,List.length_nil,Nat.reduceAdd,Nat.reduceSub,Array.replicate_succ,Array.replicate_zero,List.push_toArray,List.append_toArray,List.nil_append,List.cons_append];refine fG nD (vD nD λτ d9=>?_);go_wp2;refine qK ?_ τ d9;refine fG nD (fG nD ?_);refine o8 nD 8 (by decide) λτ d9=>?_
 simp only[List.take_succ_cons,List.take_zero];have HU1:=aA ((Qu W).re τ d9);have HHv:=aA (hRA (w0:=re W τ d9) (c:=cl) l hl hs (RowsV.under DcRow.mono hp HU1.out));go_wp2_with fail;refine HHv.out.mono ?_;rintro e w2 ⟨hU2,b,rfl,hb⟩;have HU2:=aA (HU1.out.trans hU2);have HSh:=aA (nW w2 (hE.under HU2.out) (hS.under HU2.out));clear HHv hU2
 cases b
 . obtain⟨hl2,hlw⟩:=hb rfl;have HLw:=aA (And.intro hl2 hlw);have HArg:=aA (And.intro hp (And.intro hs (And.intro hrow (And.intro hcap (And.intro hlc hp0)))));clear hb hl2 hlw hp hs hl hrow hcap hlc hp0;by_cases h2:(150:Int) < (row.length:Int)
   . go_wp2;refine wH nD 8 3 0 (by decide) λτ d=>?_
     simp only[List.drop_succ_cons,List.drop_zero,List.take_succ_cons,List.take_zero];walk_nrm;go_wp2;refine jL nD ?_;simp only[Exit.then];refine qK ?_ τ d;refine aZ nD (t:=true) rfl ?_;simp only[if_true];refine fG nD (oO nD ?_);refine yL (i:=0) (rest:=List.range' 1 1) nD rfl (by rfl) (yI (vs:=#[]) rfl func5 (by kernel_rfl) rfl (by simp)) HSh.out ?_;rintro v w3 ⟨rfl,hU3⟩;refine wH nD 1 1 0 (by decide) λτ d=>?_
     simp only[List.drop_succ_cons,List.drop_zero,List.take_succ_cons,List.take_zero];walk_nrm;go_wp2;refine jL nD ?_;simp only[Exit.then];refine vD nD λτ d=>?_
     go_wp2;exact jR rfl rfl ⟨rfl,(HU2.out.trans hU3).re _ _⟩
   go_wp2;have e2:decide ((150:Int) < (row.length:Int))=false:=decide_eq_false (by omega);simp only[e2,Bool.or_self];refine yL (i:=8) (rest:=List.range' 9 2) nD rfl (by rfl) (yI (vs:=#[]) rfl func5 (by kernel_rfl) rfl (by simp)) HSh.out ?_;rintro v w4 ⟨rfl,hU4⟩;have HU4:=aA (HU2.out.trans hU4);clear hU4 HSh;refine wH nD 9 2 0 (by decide) λτ d9=>?_
   simp only[List.drop_succ_cons,List.drop_zero,List.take_succ_cons,List.take_zero];walk_nrm;go_wp2;refine jL nD ?_;simp only[Exit.then];refine qK ?_ τ d9;refine aZ nD (t:=false) rfl ?_;simp only[Qs,if_false];refine vD nD λτ d9=>?_
   go_wp2;refine qK ?_ τ d9;refine fG nD (vD nD λτ d9=>?_);have HU5:=aA (HU4.out.re τ d9);have HR5:=aA (xM (re w4 τ d9) W.heap.size 29 3 (show W.heap.size<=(re w4 τ d9).heap.size from HU5.out.size));have HU6:=aA (bA HU5.out (.cells #[] 29));go_wp2;refine fG nD (fG nD (vD nD λτ d9=>?_));go_wp2;refine qK ?_ τ d9;refine yHA nD (uLA (Q:=z8A W (.slice pl l.length cl) (.slice p row.length cap) row) (r4A (.slice pl l.length cl) row (by omega) HArg.out.2.2.1 hE hS _ _ ⟨.slice (some ⟨w4.heap.size,0,none⟩) 0 0,_,fB (F:=oW (.slice pl l.length cl) (.slice p row.length cap) (.slice (some ⟨w4.heap.size,0,none⟩) 0 0) 0) (by rfl),HR5.out,HU6.out⟩) ?_);rintro e a w5 (⟨rfl,⟨vy,J,rfl,hown,hU⟩,hg⟩|⟨rfl,h⟩)
   . exact vD nD λτ d=>i6A (w:=re w5 τ d) (hU.re τ d) HLw.out.1 (λx hx=>r6A (HLw.out.2 x hx) (HArg.out.2.1 x hx)) HArg.out.1 HArg.out.2.2.2.2.1 HArg.out.2.2.2.2.2 HArg.out.2.2.1 HArg.out.2.2.2.1 (by omega) hg hE hS hown J
   . exact h
 . go_wp2;refine wH nD 8 3 0 (by decide) λτ d=>?_
   simp only[List.drop_succ_cons,List.drop_zero,List.take_succ_cons,List.take_zero];walk_nrm;go_wp2;refine jL nD ?_;simp only[Exit.then];refine qK ?_ τ d;refine aZ nD (t:=true) rfl ?_;simp only[if_true];refine fG nD (oO nD ?_);refine yL (i:=0) (rest:=List.range' 1 1) nD rfl (by rfl) (yI (vs:=#[]) rfl func5 (by kernel_rfl) rfl (by simp)) HSh.out ?_;rintro v w3 ⟨rfl,hU3⟩;refine wH nD 1 1 0 (by decide) λτ d=>?_
   simp only[List.drop_succ_cons,List.drop_zero,List.take_succ_cons,List.take_zero];walk_nrm;go_wp2;refine jL nD ?_;simp only[Exit.then];refine vD nD λτ d=>?_
   go_wp2;exact jR rfl rfl ⟨rfl,(HU2.out.trans hU3).re _ _⟩
end Go.Proofs.YtpkaiodmbicjiaaGreatDoor
namespace Go.Proofs.YtpkaiodmbicjiaaGreatDoor
open Go.Proofs.Tryz
open Go
theorem oKA:mapsRowed Tryz.pinned.checked.prog=true:=by kernel_rfl
theorem iNA:(Rows.declsOnesRow.inPlace==Tryz.pinned.checked.prog.inPlace 3)=true:=by kernel_rfl
theorem iLA:(Rows.declsOnesRow.unfollowed==Tryz.pinned.checked.prog.unfollowed 3)=true:=by kernel_rfl
theorem iMA:(Rows.declsOnesRow.recurses==Tryz.pinned.checked.prog.recurses 3)=true:=by kernel_rfl
theorem aOA:(Rows.declsOnesRow.named==Tryz.pinned.checked.prog.varsNamed 3)=true:=by kernel_rfl
theorem rFA:joinedFacts Tryz.pinned.checked.prog 3 f3 Rows.declsOnesSpec Rows.declsOnesRow=true:=by
 unfold joinedFacts;rw[oKA,iNA,iLA,iMA,aOA]
 kernel_rfl
end Go.Proofs.YtpkaiodmbicjiaaGreatDoor
namespace Go.Proofs.YtpkaiodmbicjiaaGreatDoor
open Go.Proofs.Tryz
open Go.ChangeShapes Go.WideShapes Go.ChangeAt Go.WideMaps Go.WideElems Go.RowKit Go.Lx Go.Deep Go.Conc
theorem wBA(os:Os)(started:os.Started)(H:Type)(enc:TypeId×Value->H) :
 ReturnsInLeavingWide {} Tryz.checked os 3 .any (λw args=>(Rows.declsOnesSpec.pre enc prog f3 [] false w args/\laidMetH prog dLA w)/\sizedMet enc prog f3 (OpenSpec.ofChange Rows.declsOnesSpec) false w args)
   (Rows.declsOnesSpec.post enc prog f3 false true false false):=by
 refine zBA (C:=Tryz.checked) (X:=λw _=>laidMetH prog dLA w) (λ_ _ _ hh h=>h.of_heap hh) Tryz.own started func3
   (ChangeSpec.witness_shaped (enc:=enc) (C:=Tryz.checked) (os:=os) (X:=λw _=>laidMetH prog dLA w) false (World.doorLaid prog 400 os) #[.slice none 0 0,.slice none 0 0] 8 rfl (World.shaped_of_RefB (by kernel_rfl) (by kernel_rfl)) (by kernel_rfl) (by kernel_rfl) (by kernel_rfl) (v0A os _)) ?_
 intro W base args ds gs before hval0 hW _ hsz hL _;have hval:∀(j:Nat) t v,f3.params[j]? = some t->args[j]? = some v->Value.okWide prog W .any base t v:=hval0;have hW':=hW;obtain⟨p,q,hA0,hV,rfl,_,_⟩:=hW;have hA:DataW.TrodAll enc prog W 0 (λ_=>true) true f3.params.toList args.toList ds p:=hA0;rw[params3]at hA hval;have hlt:=hA.lt;obtain⟨v0,v1,d0,d1,p0,p1,rfl,rfl,rfl,h0,h1⟩:=trodAll_two hA;obtain⟨rfl,rfl⟩:=trodVars_none hV;have g0:=h0;obtain⟨a0,b0,c0,rfl⟩:=okWide_slice underlying22 (hval 0 22 v0 rfl rfl);obtain⟨fuel0,hf0⟩:=g0;obtain⟨q0,k0,l0,hcs0,hle0,hnil0,ha0,hsd0,hmx0⟩:=gAB hf0 (fWA hsz (j:=0) (t:=22) (d:=d0) rfl rfl);simp only[Value.cells,List.cons.injEq,and_true,Value.slice.injEq]at hcs0;obtain⟨rfl,rfl,rfl⟩:=hcs0;have g1:=h1;obtain⟨a1,b1,c1,rfl⟩:=okWide_slice underlying23 (hval 1 23 v1 rfl rfl);obtain⟨fuel1,hf1⟩:=g1;obtain⟨q1,k1,l1,hcs1,hle1,hmx1,_,hx1⟩:=gBB hf1;simp only[Value.cells,List.cons.injEq,and_true,Value.slice.injEq]at hcs1;obtain⟨rfl,rfl,rfl⟩:=hcs1;have hB:=m5A hL;refine aFA (P:=prog) func3 rfl rfl (by kernel_rfl) ((i3A l0 l1 W hle0 hmx0 hnil0 ha0 hsd0 hx1 hle1 hmx1 hB.1 hB.2).mono ?_);rintro v w ⟨rfl,hU⟩ τ d;refine ChangeSpec.post_alike (W'':=re w W.tape d) ?_ ⟨rfl,rfl,rfl⟩;have hb:=jVA hU d;refine⟨_,_,_,[],p0++p1,[],hW',?_,?_,rfl,hb.frame _,λh=>by cases h⟩
 . exact trodAll_mk1 (iQA true)
 . exact trodAll_mk2 (a4A (by kernel_rfl) (by decide +kernel) hU d (λx hx=>hlt x (by simp[hx])) h0) (a4A (by kernel_rfl) (by decide +kernel) hU d (λx hx=>hlt x (by simp[hx])) h1)
theorem declsOnes_holds : Rows.DeclsOnesSaid :=
 OpenClaim.holds_of_wide_leaving 3 f3 rfl rfl rfl rfl rfl rfl rfl ⟨rfl,rfl,rfl,rfl,rfl⟩ rfl rfl rfl rfl rfl (by kernel_rfl) func3 rFA
   (of_decide_eq_true (by kernel_rfl)) (by unfold Func.isWrapper;first|(rw[if_pos (by decide +kernel)];kernel_rfl)|(rw[if_neg (by decide +kernel)];exact⟨rfl,rfl⟩))
   (λos started H enc _=>wBA os started H enc)
end Go.Proofs.YtpkaiodmbicjiaaGreatDoor
