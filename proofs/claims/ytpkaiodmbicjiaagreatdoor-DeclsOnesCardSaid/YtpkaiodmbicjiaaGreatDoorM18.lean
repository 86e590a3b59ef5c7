/- Part 18 of what the proof rests on. -/
import Derived.Deep.RegionHeld3
import Derived.Deep.AppendLies
import Derived.Deep.DeepAppendWide
import Derived.Lib.SliceRun
import Derived.Laws.AppendOwnNone
import Derived.TacticsInMore
import Derived.LoopNIn
import Derived.LoopIn
import Derived.Shelf.Abstract
import Derived.Shelf.RegionOpen
import Derived.Conc.CompanyMem
import Derived.Conc.WalkWords
import Derived.Test.YtpkaiodmbicjiaaGreatDoorM00
import Derived.Test.YtpkaiodmbicjiaaGreatDoorM05
import Derived.Test.YtpkaiodmbicjiaaGreatDoorM06
import Derived.Test.YtpkaiodmbicjiaaGreatDoorM08
import Derived.Test.YtpkaiodmbicjiaaGreatDoorM12
import Derived.Test.YtpkaiodmbicjiaaGreatDoorM13
import Derived.Test.YtpkaiodmbicjiaaGreatDoorM14
import Derived.Test.YtpkaiodmbicjiaaGreatDoorM15
import Derived.Test.YtpkaiodmbicjiaaGreatDoorM17
set_option linter.unusedSimpArgs false
set_option linter.unusedVariables false
set_option maxRecDepth 100000
set_option maxHeartbeats 4000000
namespace Go.Proofs.YtpkaiodmbicjiaaGreatDoor
open Go.Proofs.Tryz
open Go.Lx Go.RowKit
def g0A(a:Nat)(v:Value)(k:Nat)(J:Nat->Value):Array Value:=#[v,undef,.pointer (some ⟨a,0,none⟩),.pointer (some ⟨a+1,0,none⟩),.int .i64 (k:Int),.agg #[.slice none 0 0,.slice none 0 0],J 6,J 7,J 8,J 9,J 10,J 11,J 12,J 13,J 14,J 15,J 16,J 17,J 18,J 19,J 20,J 21,J 22,J 23,J 24,J 25,J 26,J 27,J 28,J 29,J 30,J 31,J 32,J 33,J 34,J 35,J 36,J 37,J 38,J 39,J 40,J 41,J 42,J 43,J 44,J 45,J 46,J 47,J 48,J 49,J 50,J 51,undef]
def RkQ(w0:World)(l:List Dc)(v:Value)(k:Nat)(e:Exit)(a':Act)(w':World):Prop:=e = .normal/\(∃ J,a'=⟨g0A w0.heap.size v k J,[]⟩)/\KnR 91 w0 l (k+1) w'
section
variable {w0 : World}
theorem bRA(l:List Dc){p:Option Addr}{c:Nat}(hl:l.length<=100000)(hp:RowsV 6 DcRow w0 p l):Calls prog 39 #[.slice p l.length c] w0 (a9A w0 l):=by
 obtain⟨i0,hi,hz0,hz1,hz2⟩:=info_parts Tryz.infoStrK;have HP:=aA hp;have HL:=aA hl;have hn9:(l.length:Int)<=100000:=by omega
 have hn0:(0:Int)<=(l.length:Int):=by omega
 clear hp hl;go_enter func39,ntmps39;go_wp2;have HK0:=aA (show KnR 91 w0 l 0 ((w0.alloc (.cells #[.slice none 0 0,.slice none 0 0] 91)).alloc (.cells #[.slice none 0 0,.slice none 0 0] 91)) from by
   have hb:=zA (w0.alloc (.cells #[.slice none 0 0,.slice none 0 0] 91)) #[.slice none 0 0,.slice none 0 0] 91;exact⟨⟨_,_,by simpa using hb,World.ownsRow_nil _ _ _ _,World.ownsRow_nil _ _ _ _,.inl rfl⟩,(zA w0 _ _).alloc _,bA (bA (Qu w0) _) _⟩)
 generalize (w0.alloc (.cells #[.slice none 0 0,.slice none 0 0] 91)).alloc (.cells #[.slice none 0 0,.slice none 0 0] 91)=w1 at *;go_loopw [4] (λi wr=>∃ k:Nat,k<=l.length/\i = .int .i64 k/\KnR 91 w0 l k wr) (λi _=>l.length - (intOf i).toNat)
 case atStart=>exact⟨0,Nat.zero_le _,rfl,HK0.out⟩
 case round =>
   obtain⟨k,hk,rfl,hK⟩:=hrel;have HK:=aA hK;have hk0:(0:Int)<=(k:Int):=by omega
   by_cases hlt:k < l.length
   . have HN:=aA (yTA l hlt);obtain⟨b,off,r,rfl,hb,hrl,hr,hc⟩:=HP.out.at (Qa hlt) (by decide);obtain⟨v1,v2,v3,rfl,⟨p1,c1,rfl,_⟩,⟨p2,c2,rfl,_⟩,⟨p3,c3,us3,rfl,_⟩⟩:=hr;have cc0:=hc 0 _ rfl;have cc2:=hc 2 _ rfl;simp only[Nat.add_zero,<- Nat.add_assoc]at cc0 cc2;rw[<- iA hK.und hb]at cc0 cc2;have hb':=Qb hb hK.und.size;have hlt':(k:Int) < (l.length:Int):=by omega
     clear hc hrl hK;generalize l[k]=d at *;obtain⟨⟨vc,vd,hBn,hT⟩,hR,hUr⟩:=HK.out;have hlc:=(eQ (l.take k)).1;have hld:=(eQ (l.take k)).2;rw[List.length_take]at hlc hld;have hl8:=HL.out;have hlc9:(knC (l.take k)).length<=100000:=by omega
     have hld9:(knD (l.take k)).length<=100000:=by omega
     have HC:=aA hT.one;have HD:=aA hT.two;have HNe:=aA hT.ne;obtain⟨qc,kc,rfl,_,_⟩:=RowArg.of_own hT.one;obtain⟨qd,kd,rfl,_,_⟩:=RowArg.of_own hT.two;have HBn:=aA hBn;have HRs:=aA hR;have HUr:=aA hUr;have n0:=HBn.out.cell 0;have n1:=HBn.out.cell 1;have nl:=HBn.out.lt;have HUs:=aA hUr.size;clear hBn hR hUr hT hlc hld hl8;have HCC:=aA (λw' (h:Under w0 w')=>(iA h hb (off+k * 6+2)).trans ((iA HUr.out hb _).symm.trans cc2));have hkk:((d.kind==3)=false/\(d.kind==1)=true)∨((d.kind==3)=false/\(d.kind==1)=false/\(d.kind==2)=true)∨((d.kind==3)=true/\(d.kind==1)=false/\(d.kind==2)=false)∨((d.kind==3)=false/\(d.kind==1)=false/\(d.kind==2)=false):=by
      simp only[beq_iff_eq,beq_eq_false_iff_ne,ne_eq];omega
     rcases hkk with⟨h3,h1⟩|⟨h3,h1,h2⟩|⟨h3,h1,h2⟩|⟨h3,h1,h2⟩
     rotate_left 2
     . rw[h1,h2,h3]at HN;generalize knC (l.take k)=cs at *;generalize knD (l.take k)=ds at *;go_wp2_with fail;rename_i K hK;refine wp_mono (Q:=RkQ w0 l (.slice (some ⟨b,off,none⟩) l.length c) k) ?_ ?_
       . have hk9:(k:Int)<=100000:=by omega
         refine wp_region_noPanic ?_;refine wp_region_held_drew (S:=λw'=>w'.cell? ⟨b,off+k * 6+2,none⟩=some (.string d.name)) (by kernel_rfl) (HCC.out _ (fA HUr.out)) (λhHeld=>?_);refine dA 0 rfl ?_;refine dA 2 rfl ?_;refine dA 3 rfl ?_;refine dA 4 rfl ?_;refine dA 5 rfl ?_;refine dA 6 rfl ?_
         try walk_nrm
         refine kG 1 7 (by kernel_rfl) rfl rfl (λK hK=>?_) (λK hK=>?_)
         all_goals
          go_simp
          first
           | (refine hK.out _ _ (HCC.out _ (fA HUr.out)) (λ_=>?_);clear hK K hHeld;rename_i hHeld;try walk_nrm;refine yA 7 (by kernel_rfl) rfl λK hK=>?_)
           | (refine hK.out _ _ (HCC.out _ (bA (fA HUr.out) _)) (λ_=>?_);clear hK K hHeld;rename_i hHeld;try walk_nrm;refine yA 1 (by kernel_rfl) rfl λK hK=>?_)
          go_simp;refine hK.out _ _ (HCC.out _ (bA (fA HUr.out) _)) (λ_=>?_);clear hK K hHeld;rename_i hHeld
          try walk_nrm
          refine yA 8 (by kernel_rfl) rfl λK hK=>?_
          refine step_append_lies _ (by rfl) _ _ _ (by rfl) (w0.heap.size+2) 9 i0 _ 1 16 underlying80 hi hz0 hz1 hz2 rfl (by omega) _ (ds).length ((ds).map .string) (by rfl) (HD.out.drew.alloc _) ⟨wr.heap.size,0,none⟩ 1 1 [.string d.name] (by rfl) (by rfl) (World.news_of_block (cs:=#[.string d.name]) (t:=9) (fr:=(0,0)) (zA wr.drew _ _)) (by first|(simp[Value.oneCell'];done)|rfl) (by omega) (by simp only[maxLen];omega) (by omega) (by have:=HBn.out.lt;first|omega|(simp;omega)) (wr.heap.size+1) (by first|rfl|simp) ?_;intro gg cg w6 hown hgrow hat hlt6;have HAs:=aA hown;have hbk:=λg e=>(xB HD.out (g:=g) e).1
          have HBs:=aA ((HBn.out.drew.alloc _).grown hgrow (λe=>by have:=hbk _ e.symm;omega));have HRe:=aA ((HRs.out.drew.alloc _).grown hgrow (λe=>by have:=hbk _ e.symm;omega));have HOs:=aA (rC (HC.out.drew.alloc _) hgrow (HNe.out));have HUe:=aA (eB (bA (fA HUr.out) _) hgrow (λg e=>by have:=hbk _ e;omega));have HNs:=aA (show(.slice qc cs.length kc:Value).ownBlock=none∨(.slice qc cs.length kc:Value).ownBlock≠some gg from by
            rcases hat with e|rfl
            . rw[<- e];exact HNe.out
            . cases hv:(.slice qc cs.length kc:Value).ownBlock with
              | none=>exact .inl rfl
              | some g'=>right;intro e;cases e;have:=(xB HC.out hv).2;omega)
          clear hown hgrow hat hlt6 hbk;refine hK.out _ _ (HCC.out _ HUe.out) (λ_=>?_);clear hK K hHeld;rename_i hHeld
          try walk_nrm
          have n0:=HBs.out.cell 0;have n1:=HBs.out.cell 1;have f0:=HBs.out.free 1;have nl:=HBs.out.lt;refine dA 9 rfl ?_;refine yA 10 (by kernel_rfl) rfl λK hK=>?_
          go_simp;refine hK.out _ _ (HCC.out _ (nA HUe.out (by omega) _ _)) (λ_=>?_);clear hK K hHeld;rename_i hHeld
          try walk_nrm
          refine wpAnyH_done (by kernel_rfl) ?_ _;refine NoPanic.normal ?_;exact⟨rfl,⟨_,fB (F:=g0A w0.heap.size _ k) (by rfl)⟩,yIA (HBs.out.set 1 _) (HRe.out.other (by omega) _ _) (nA HUe.out (by omega) _ _) HN.out.1 HN.out.2 (by simpa using qD HOs.out (bC HBs.out HOs.out (by decide)) _ _) (by simpa using qD HAs.out (bC HBs.out HAs.out (by decide)) _ _) HNs.out⟩
       rintro e a' w7 ⟨rfl,⟨J,rfl⟩,hK7⟩;have HK7:=aA hK7;clear hK7
       try simp only[Exit.then]
       refine hK _ _ ?_;unfold g0A;go_wp2;go_roundw
       case rel=>exact⟨k+1,by omega,by go_num,HK7.out⟩
       case measure=>simp[intOf];omega
     . rw[h1,h2,h3]at HN;go_wp2;go_roundw
       case rel=>exact⟨k+1,by omega,by go_num,KnR.same HN.out.1 HN.out.2 HK.out⟩
       case measure=>simp[intOf];omega
     all_goals
      first|rw[h1,h2,h3]at HN|rw[h1,h3]at HN
      generalize knC (l.take k)=cs at *;generalize knD (l.take k)=ds at *;go_wp2_with fail;rename_i K hK;refine wp_mono (Q:=RkQ w0 l (.slice (some ⟨b,off,none⟩) l.length c) k) ?_ ?_
      . have hk9:(k:Int)<=100000:=by omega
        refine wp_region_noPanic ?_;refine wp_region_held_drew (S:=λw'=>w'.cell? ⟨b,off+k * 6+2,none⟩=some (.string d.name)) (by kernel_rfl) (HCC.out _ (fA HUr.out)) (λhHeld=>?_);refine dA 0 rfl ?_;refine dA 2 rfl ?_;refine dA 3 rfl ?_;refine dA 4 rfl ?_;refine dA 5 rfl ?_;refine dA 6 rfl ?_
        try walk_nrm
        refine kG 1 7 (by kernel_rfl) rfl rfl (λK hK=>?_) (λK hK=>?_)
        all_goals
         go_simp
         first
          | (refine hK.out _ _ (HCC.out _ (fA HUr.out)) (λ_=>?_);clear hK K hHeld;rename_i hHeld;try walk_nrm;refine yA 7 (by kernel_rfl) rfl λK hK=>?_)
          | (refine hK.out _ _ (HCC.out _ (bA (fA HUr.out) _)) (λ_=>?_);clear hK K hHeld;rename_i hHeld;try walk_nrm;refine yA 1 (by kernel_rfl) rfl λK hK=>?_)
         go_simp;refine hK.out _ _ (HCC.out _ (bA (fA HUr.out) _)) (λ_=>?_);clear hK K hHeld;rename_i hHeld
         try walk_nrm
         refine yA 8 (by kernel_rfl) rfl λK hK=>?_
         refine step_append_lies _ (by rfl) _ _ _ (by rfl) (w0.heap.size+2) 9 i0 _ 1 16 underlying80 hi hz0 hz1 hz2 rfl (by omega) _ (cs).length ((cs).map .string) (by rfl) (HC.out.drew.alloc _) ⟨wr.heap.size,0,none⟩ 1 1 [.string d.name] (by rfl) (by rfl) (World.news_of_block (cs:=#[.string d.name]) (t:=9) (fr:=(0,0)) (zA wr.drew _ _)) (by first|(simp[Value.oneCell'];done)|rfl) (by omega) (by simp only[maxLen];omega) (by omega) (by have:=HBn.out.lt;first|omega|(simp;omega)) (wr.heap.size+1) (by first|rfl|simp) ?_;intro gg cg w6 hown hgrow hat hlt6;have HAs:=aA hown;have hbk:=λg e=>(xB HC.out (g:=g) e).1
         have HBs:=aA ((HBn.out.drew.alloc _).grown hgrow (λe=>by have:=hbk _ e.symm;omega));have HRe:=aA ((HRs.out.drew.alloc _).grown hgrow (λe=>by have:=hbk _ e.symm;omega));have HOs:=aA (rC (HD.out.drew.alloc _) hgrow (qV HNe.out));have HUe:=aA (eB (bA (fA HUr.out) _) hgrow (λg e=>by have:=hbk _ e;omega));have HNs:=aA (show(.slice qd ds.length kd:Value).ownBlock=none∨(.slice qd ds.length kd:Value).ownBlock≠some gg from by
           rcases hat with e|rfl
           . rw[<- e];exact qV HNe.out
           . cases hv:(.slice qd ds.length kd:Value).ownBlock with
             | none=>exact .inl rfl
             | some g'=>right;intro e;cases e;have:=(xB HD.out hv).2;omega)
         clear hown hgrow hat hlt6 hbk;refine hK.out _ _ (HCC.out _ HUe.out) (λ_=>?_);clear hK K hHeld;rename_i hHeld
         try walk_nrm
         have n0:=HBs.out.cell 0;have n1:=HBs.out.cell 1;have f0:=HBs.out.free 0;have nl:=HBs.out.lt;refine dA 9 rfl ?_;refine yA 10 (by kernel_rfl) rfl λK hK=>?_
         go_simp;refine hK.out _ _ (HCC.out _ (nA HUe.out (by omega) _ _)) (λ_=>?_);clear hK K hHeld;rename_i hHeld
         try walk_nrm
         refine wpAnyH_done (by kernel_rfl) ?_ _;refine NoPanic.normal ?_;exact⟨rfl,⟨_,fB (F:=g0A w0.heap.size _ k) (by rfl)⟩,yIA (HBs.out.set 0 _) (HRe.out.other (by omega) _ _) (nA HUe.out (by omega) _ _) HN.out.1 HN.out.2 (by simpa using qD HAs.out (bC HBs.out HAs.out (by decide)) _ _) (by simpa using qD HOs.out (bC HBs.out HOs.out (by decide)) _ _) (qV HNs.out)⟩
      rintro e a' w7 ⟨rfl,⟨J,rfl⟩,hK7⟩;have HK7:=aA hK7;clear hK7
      try simp only[Exit.then]
      refine hK _ _ ?_;unfold g0A;go_wp2;go_roundw
      case rel=>exact⟨k+1,by omega,by go_num,HK7.out⟩
      case measure=>simp[intOf];omega
   . obtain rfl:k=l.length:=by omega
     obtain⟨⟨vc,vd,hBn,hT⟩,hR,hUr⟩:=HK.out;rw[List.take_length]at hT;obtain⟨qc,kc,rfl,_,_⟩:=RowArg.of_own hT.one;obtain⟨qd,kd,rfl,_,_⟩:=RowArg.of_own hT.two;have HT:=aA hT;have HR:=aA hR;have HU:=aA hUr;have n0:=hBn.cell 0;have n1:=hBn.cell 1;have nl:=hBn.lt;have r0:=hR.cell 0;have r1:=hR.cell 1;have g0:=hR.free 0;have g1:=hR.free 1;have rl:=hR.lt;clear hBn hT hR hUr;go_wp2;obtain⟨wf,hwf⟩:∃ wf,wf=(wr.setCell ⟨w0.heap.size,0,none⟩ (.slice qc (knC l).length kc)).setCell ⟨w0.heap.size,1,none⟩ (.slice qd (knD l).length kd):=⟨_,rfl⟩;have HF:=aA (show BoxAt wf w0.heap.size 91 #[.slice qc (knC l).length kc,.slice qd (knD l).length kd] by rw[hwf];exact(HR.out.set 0 _).set 1 _);have HC:=aA (show Ch (λb=>b=w0.heap.size) wr wf by rw[hwf];exact((Ch.refl (C:=λb=>b=w0.heap.size) wr).set (λ_=>rfl) _ _).set (λ_=>rfl) _ _);rw[<- hwf];clear hwf n0 n1 r0 r1 g0 g1;have e0:=HF.out.cell 0;have e1:=HF.out.cell 1;refine bodyPost_ret (v:=.agg #[.slice qc (knC l).length kc,.slice qd (knD l).length kd]) ((bQ rfl _ _ _).trans (by simp[go_sem,e0,e1])) rfl ⟨_,_,rfl,⟨uD (iE HT.out.one HC.out λg hg hc=>by have:=(xB HT.out.one hg).1;omega) (by omega),uD (iE HT.out.two HC.out λg hg hc=>by have:=(xB HT.out.two hg).1;omega) (by omega),HT.out.ne⟩,dB HU.out HC.out λb hb=>by omega⟩
end
section
variable {w0 : World}
theorem bVA(l:List Dc)(s:ByteArray){p:Option Addr}{c:Nat}(hl:l.length<=100000)(hp:RowsV 6 DcRow w0 p l):Calls prog 38 #[.slice p l.length c,.string s] w0 (lTA w0 s l):=by
 have HP:=aA hp;have hn9:(l.length:Int)<=100000:=by omega
 have hn0:(0:Int)<=(l.length:Int):=by omega
 clear hp hl;go_enter func38,ntmps38;go_wp2;have HB1:=aA (zA w0 dcZ 37);have HU1:=aA (bA (Qu w0) (.cells dcZ 37));generalize w0.alloc (.cells dcZ 37)=w1 at *;go_loopw [6] (λi wr=>∃ k:Nat,k<=l.length/\i = .int .i64 k/\bH s l=bH s (l.drop k)/\Under w1 wr) (λi _=>l.length - (intOf i).toNat)
 case atStart=>exact⟨0,Nat.zero_le _,rfl,by simp,Qu _⟩
 case round =>
   obtain⟨k,hk,rfl,hN,hU⟩:=hrel;have HN:=aA hN;have HB:=aA (HB1.out.under hU);have HU:=aA (HU1.out.trans hU);have HV:=aA hU;have hk0:(0:Int)<=(k:Int):=by omega
   have d0:=HB.out.cell 0;have d1:=HB.out.cell 1;have d2:=HB.out.cell 2;have d3:=HB.out.cell 3;have d4:=HB.out.cell 4;have d5:=HB.out.cell 5;have g0:=HB.out.free 0;have g1:=HB.out.free 1;have g2:=HB.out.free 2;have g3:=HB.out.free 3;have g4:=HB.out.free 4;have g5:=HB.out.free 5;have dl:=HB.out.lt;clear hN hU;by_cases hlt:k < l.length
   . have hdr:=Qi hlt;obtain⟨b,off,r,rfl,hb,hrl,hr,hc⟩:=HP.out.at (Qa hlt) (by decide);have HR:=aA (DcRow.val hr);obtain⟨v1,v2,v3,rfl,⟨p1,c1,rfl,_⟩,⟨p2,c2,rfl,_⟩,⟨p3,c3,us3,rfl,_⟩⟩:=hr;have cc0:=hc 0 _ rfl;have cc1:=hc 1 _ rfl;have cc2:=hc 2 _ rfl;have cc3:=hc 3 _ rfl;have cc4:=hc 4 _ rfl;have cc5:=hc 5 _ rfl;simp only[Nat.add_zero,<- Nat.add_assoc]at cc0 cc1 cc2 cc3 cc4 cc5;rw[<- iA HU.out hb]at cc0 cc1 cc2 cc3 cc4 cc5;have hb':=Qb hb HU.out.size;have hlt':(k:Int) < (l.length:Int):=by omega
     have HDr:=aA hdr;clear hc hrl hdr;generalize l[k]=d at *
     cases hx:(d.name.toList==s.toList)
     . have HFd:=aA (show bH s (d::l.drop (k+1))=bH s (l.drop (k+1)) by unfold bH;rw[List.find?_cons_of_neg (p:=λd:Dc=>d.name.toList==s.toList) (by rw[hx];simp)]);go_wp2;go_roundw
       case rel=>exact⟨k+1,by omega,by go_num,by rw[HN.out,HDr.out,HFd.out],HV.out⟩
       case measure=>simp[intOf];omega
     . have HFd:=aA (show bH s (d::l.drop (k+1))=some d by unfold bH;rw[List.find?_cons_of_pos (p:=λd:Dc=>d.name.toList==s.toList) hx]);go_wp2;obtain⟨wf,hwf⟩:∃ wf,wf=(((((wr.setCell ⟨w0.heap.size,0,none⟩ (.int .i64 d.kind)).setCell ⟨w0.heap.size,1,none⟩ (.int .i64 d.level)).setCell ⟨w0.heap.size,2,none⟩ (.string d.name)).setCell ⟨w0.heap.size,3,none⟩ (.slice p1 d.type.length c1)).setCell ⟨w0.heap.size,4,none⟩ (.slice p2 d.body.length c2)).setCell ⟨w0.heap.size,5,none⟩ (.slice p3 d.cons.length c3):=⟨_,rfl⟩;have HF:=aA (show BoxAt wf w0.heap.size 37 #[.int .i64 d.kind,.int .i64 d.level,.string d.name,.slice p1 d.type.length c1,.slice p2 d.body.length c2,.slice p3 d.cons.length c3] by rw[hwf];exact(((((HB.out.set 0 _).set 1 _).set 2 _).set 3 _).set 4 _).set 5 _);have HX:=aA (show Under w0 wf by rw[hwf];exact nA (nA (nA (nA (nA (nA HU.out (Qd _) _ _) (Qd _) _ _) (Qd _) _ _) (Qd _) _ _) (Qd _) _ _) (Qd _) _ _);rw[<- hwf];clear hwf d0 d1 d2 d3 d4 d5 g0 g1 g2 g3 g4 g5;have e0:=HF.out.cell 0;have e1:=HF.out.cell 1;have e2:=HF.out.cell 2;have e3:=HF.out.cell 3;have e4:=HF.out.cell 4;have e5:=HF.out.cell 5;refine bodyPost_ret (v:=.tuple #[.agg #[.int .i64 d.kind,.int .i64 d.level,.string d.name,.slice p1 d.type.length c1,.slice p2 d.body.length c2,.slice p3 d.cons.length c3],.bool _]) ((results_cell_tmp rfl _ _ _).trans (by simp[go_sem,e0,e1,e2,e3,e4,e5];rfl)) rfl ?_;exact⟨_,by rw[HN.out,HDr.out,HFd.out];rfl,by rw[HN.out,HDr.out,HFd.out];exact DcV.mono _ _ _ _ HX.out HR.out,HX.out⟩
   . obtain rfl:k=l.length:=by omega
     have HFd:=aA (show bH s l=none by rw[HN.out,List.drop_eq_nil_of_le (by omega)];rfl);go_wp2;obtain⟨wf,hwf⟩:∃ wf,wf=(((((wr.setCell ⟨w0.heap.size,0,none⟩ (.int .i64 0)).setCell ⟨w0.heap.size,1,none⟩ (.int .i64 0)).setCell ⟨w0.heap.size,2,none⟩ (.string ⟨#[]⟩)).setCell ⟨w0.heap.size,3,none⟩ (.slice none 0 0)).setCell ⟨w0.heap.size,4,none⟩ (.slice none 0 0)).setCell ⟨w0.heap.size,5,none⟩ (.slice none 0 0):=⟨_,rfl⟩;have HF:=aA (show BoxAt wf w0.heap.size 37 #[.int .i64 0,.int .i64 0,.string ⟨#[]⟩,.slice none 0 0,.slice none 0 0,.slice none 0 0] by rw[hwf];exact(((((HB.out.set 0 _).set 1 _).set 2 _).set 3 _).set 4 _).set 5 _);have HX:=aA (show Under w0 wf by rw[hwf];exact nA (nA (nA (nA (nA (nA HU.out (Qd _) _ _) (Qd _) _ _) (Qd _) _ _) (Qd _) _ _) (Qd _) _ _) (Qd _) _ _);rw[<- hwf];clear hwf d0 d1 d2 d3 d4 d5 g0 g1 g2 g3 g4 g5;have e0:=HF.out.cell 0;have e1:=HF.out.cell 1;have e2:=HF.out.cell 2;have e3:=HF.out.cell 3;have e4:=HF.out.cell 4;have e5:=HF.out.cell 5;refine bodyPost_ret (v:=.tuple #[.agg #[.int .i64 0,.int .i64 0,.string ⟨#[]⟩,.slice none 0 0,.slice none 0 0,.slice none 0 0],.bool _]) ((results_cell_tmp rfl _ _ _).trans (by simp[go_sem,e0,e1,e2,e3,e4,e5];rfl)) rfl ?_;exact⟨_,by rw[HFd.out];rfl,by rw[HFd.out];exact wOA _,HX.out⟩
end
section
variable {w0 : World}
variable {k l e : Int} {nm lg : Bool} {nt nb nc : Nat}
theorem vPA(s:ByteArray):Calls prog 37 #[.string s] w0 λe w=>e = .returned (.bool (bN s))/\Under w0 w:=by
 have HN:=aA (lJ (w0:=w0) s);have HK:=aA (xN (w0:=w0) s);have HD:=aA (show bN s=(fD s && !kwW s) by unfold bN;rw[t8A]);generalize bN s=r at *;generalize kwW s=k at *
 cases hb:fD s
 . rw[hb]at HN HD;go_enter func37,ntmps37;go_wp2_with fail;refine HN.out.mono ?_;rintro e w1 ⟨rfl,rfl⟩;go_wp2;go_ret;exact⟨by rw[HD.out];rfl,Qu _⟩
 . rw[hb]at HN HD;go_enter func37,ntmps37;go_wp2_with fail;refine HN.out.mono ?_;rintro e w1 ⟨rfl,rfl⟩;go_wp2_with fail;refine HK.out.mono ?_;rintro e w2 ⟨rfl,hU2⟩;have HU:=aA hU2;clear hU2;go_wp2;go_ret;exact⟨by rw[HD.out];simp,HU.out⟩
end
theorem zI{fn:Func}{R:Ending->World->Prop}{A:Array Value}{wf:World}{b:Nat}{v0 v1 v2 v3 v4 v5 x y:Value}(hr:fn.results=#[.cell 4 37,.tmp 5,.tmp 6])(h2:A.getD 4 undef = .pointer (some ⟨b,0,none⟩))(h3:A.getD 5 undef=x)(h4:A.getD 6 undef=y)(hB:BoxAt wf b 37 #[v0,v1,v2,v3,v4,v5])
    (hR:R (.returned (.tuple #[.agg #[v0,v1,v2,v3,v4,v5],x,y])) wf) :
    bodyPost prog fn R .ret ⟨A,[]⟩ wf :=
  hUA (λw' h=>by
    have e0:=h.cell 0;have e1:=h.cell 1;have e2:=h.cell 2;have e3:=h.cell 3;have e4:=h.cell 4;have e5:=h.cell 5;simp[go_sem,e0,e1,e2,e3,e4,e5]) hr h2 h3 h4 hB hR
def dBB(B0:Nat)(w:World)(v:Value)(d:Dc):Prop:=∃ vt vb vc B,v = .agg #[.int .i64 d.kind,.int .i64 d.level,.string d.name,vt,vb,vc]/\OwnTm 96 w vt d.type/\OwnTm 96 w vb d.body/\B0<=B/\ConsT B w vc d.cons
def zTA(w0:World)(R:lS)(e:Ending)(w:World):Prop:=Under w0 w/\match R with
 | .ok d=>∃ v,e = .returned (.tuple #[v,.int .i64 0,.int .i64 0])/\dBB w0.heap.size w v d
 | .error x=>e = .returned (.tuple #[.agg dcZ,.int .i64 x.2,.int .i64 x.1])
def t1A(pl:Option Addr)(n cl b0 b off m pc db nb:Nat)(p:Int)(J:Nat->Value):Array Value:=#[.slice pl n cl,J 1,J 2,J 3,.pointer (some ⟨b0,0,none⟩),J 5,J 6,.int .i64 p,.slice (some ⟨b,off,none⟩) m pc,J 9,.pointer (some ⟨db,0,none⟩),J 11,J 12,.pointer (some ⟨nb,0,none⟩),J 14,J 15,J 16,J 17,J 18,J 19,J 20,J 21,J 22,J 23,J 24,J 25,J 26,J 27,J 28,J 29,J 30,J 31,J 32,J 33,J 34,J 35,J 36,J 37,J 38,J 39,J 40,J 41,J 42,J 43,J 44,J 45,J 46,J 47,J 48,J 49,J 50,J 51,J 52,J 53,J 54,J 55,J 56,J 57,J 58,J 59,J 60,J 61,J 62,J 63,J 64,J 65,J 66,J 67,J 68,J 69,J 70,J 71,J 72,J 73,J 74,J 75,J 76,J 77,J 78,J 79,J 80,J 81,J 82,J 83,J 84,J 85,J 86,J 87,J 88,J 89,J 90,J 91,J 92,J 93,J 94,J 95,J 96,J 97,J 98,J 99,J 100,J 101,J 102,J 103,J 104,J 105,J 106,J 107,J 108,J 109,J 110,J 111,J 112,J 113,J 114,J 115,J 116,J 117,J 118,J 119,J 120,J 121,J 122,J 123,J 124,J 125,J 126,J 127,J 128,J 129,J 130,J 131,J 132,J 133,J 134,J 135,J 136,J 137,J 138,J 139,J 140,J 141,J 142,J 143,J 144,J 145,J 146,J 147,J 148,J 149,J 150,J 151,J 152,J 153,J 154,J 155,J 156,J 157,J 158,J 159,J 160,J 161,J 162,J 163,J 164,J 165,J 166,J 167,J 168,J 169,J 170,J 171,J 172,J 173,J 174,J 175,J 176,J 177,J 178,J 179,J 180,J 181,J 182,J 183,J 184,J 185,J 186,J 187,J 188,J 189,J 190,J 191,J 192,J 193,J 194,J 195,J 196,J 197,J 198,J 199,J 200,J 201,J 202,J 203,J 204,J 205,J 206,J 207,J 208,J 209,J 210,J 211,J 212,J 213,J 214,J 215,J 216,J 217,J 218,J 219,J 220,J 221,J 222,J 223,J 224,J 225,J 226,J 227,J 228,J 229,J 230,J 231,J 232,J 233,J 234,J 235,J 236,J 237,J 238,J 239,J 240,J 241,J 242,J 243,J 244,J 245,J 246,J 247,J 248,J 249,J 250,J 251,J 252,J 253,J 254,J 255,J 256,J 257,J 258,J 259,J 260,J 261,J 262,J 263,J 264,J 265,J 266,J 267]
noncomputable def roRest:Code:=jA (jA (jA (jA (jA (jA (jA (jA (jA (jA (jA (jA (jA (f18.body.getD .skip)))))))))))))
def RmAt(W:World)(cs ds:List ByteArray)(T:ST):Prop:=∀ w,Under W w->∀(q:Option Addr) (c:Nat),(qA T).length<=c->SxArg w q (qA T)->∀(v1 v2:Option Addr) (d1 d2:Nat),TextsV w (.slice v1 cs.length d1) cs->TextsV w (.slice v2 ds.length d2) ds->Calls prog 40 #[.agg #[.slice v1 cs.length d1,.slice v2 ds.length d2],.slice q (qA T).length c] w (TermOwn w (oF cs ds T))
structure RoS (w0 W:World) (b0 db nb B b off lo:Nat) (k:Int) (nm:ByteArray) (v1 v2:Option Addr) (d1 d2:Nat) (cs ds:List ByteArray) (ls:List (List Sx)) (w:World):Prop where
 un:Under w0 w
 low:w0.heap.size<=b0
 mid:b0 < W.heap.size
 top:W.heap.size<=db
 end_:db < B
 bn:B<=nb
 uw:Under W w
 lo:lo=W.heap.size
 rb:BoxAt w b0 37 dcZ
 db:BoxAt w db 37 #[.int .i64 k,.int .i64 0,.string nm,.slice none 0 0,.slice none 0 0,.slice none 0 0]
 nb:BoxAt w nb 91 #[.slice v1 cs.length d1,.slice v2 ds.length d2]
 two:TwoT B w (.slice v1 cs.length d1) (.slice v2 ds.length d2) cs ds
 bl:b < W.heap.size
 pa:∀ i l,ls[i]? = some l->∃ q c,W.cell? ⟨b,off+i,none⟩=some (.slice q l.length c)/\l.length<=c/\SxArg W q l
def m3A:Say->(List Nd->lS)->lS
  | .error x,_=>.error x
  | .ok t,f=>f t
def hTA(l:List Dc)(nm:ByteArray)(t:List Nd):List ST->lS
  | []=>.ok ⟨2,0,nm,t,[],[]⟩
  | b::_=>m3A (oF (knC l) (knD l) b) λu=>.ok ⟨1,0,nm,t,u,[]⟩
theorem lOA{l:List Dc}{k:Int}{nm:ByteArray}{p:Int}{T:ST}{qs:List ST}(hk:k≠3):lL l k nm p (T::qs)=m3A (oF (knC l) (knD l) T) λt=>hTA l nm t qs:=by
 cases qs with
 | nil =>
   simp only[lL,if_neg hk,l6,hTA]
   cases oF (knC l) (knD l) T<;>rfl
 | cons b r =>
   simp only[lL,if_neg hk,tVA,hTA]
   cases oF (knC l) (knD l) T with
   | error x=>rfl
   | ok t=>cases oF (knC l) (knD l) b<;>rfl
section
variable {w0 W w : World}
theorem gUA{l:List Dc}{pl:Option Addr}{cl b0 db nb B b off lo m pc d1 d2:Nat}{p k:Int}{nm:ByteArray}{v1 v2:Option Addr}{h n T:ST}{qs:List ST}(hS:RoS w0 W b0 db nb B b off lo k nm v1 v2 d1 d2 (knC l) (knD l) ((h::n::T::qs).map qA) w)(hm:m=qs.length+3)(hk:(k=1/\m=4)∨(k=2/\m=3))(hT:∀ t∈T::qs,RmAt W (knC l) (knD l) t)(J:Nat->Value) :
 roRest.wp prog (bodyPost prog f18 (zTA w0 (lL l k nm p (T::qs)))) ⟨t1A pl l.length cl b0 b off m pc db nb p J,[]⟩ w:=by
 have HS:=aA hS;obtain⟨q2,c2,e0,e1,e2⟩:=hS.pa 2 (qA T) rfl;have hm2:(2:Int) < (m:Int):=by omega
 have hk3:k < 3:=by omega
 have HT:=aA (hT T (by simp));have HPS:=aA (lOA (l:=l) (nm:=nm) (p:=p) (T:=T) (qs:=qs) (show k≠3 by omega));generalize lL l k nm p (T::qs)=RR at *;have p2:w.cell? ⟨b,off+2,none⟩=some (.slice q2 (qA T).length c2):=(iA hS.uw hS.bl _).trans e0;have hbl:=Qb hS.bl hS.uw.size;have n0:=hS.nb.cell 0;have n1:=hS.nb.cell 1;have nl:=hS.nb.lt;have kd0:=hS.db.cell 0;have kdl:=hS.db.lt;have HC:=aA (HT.out w.drew (hS.uw.trans (fA (Qu _))) q2 c2 e1 (e2.under (hS.uw.trans (fA (Qu _)))) v1 v2 d1 d2 (TextsV.of_own (uA hS.two.one (fA (Qu _)))) (TextsV.of_own (uA hS.two.two (fA (Qu _)))));have HE1:=aA (show ∀ p,oF (knC l) (knD l) T≠.error (0,p) from iK);generalize oF (knC l) (knD l) T=RT at *;have HMm:=aA hm;have HKk:=aA hk;clear hS e0 e1 e2 hm hk;unfold roRest;simp only[f18,Qf,jA];unfold t1A;go_wp2_with fail;rename_i K0 hK0;refine wp_region_noPanic ?_;refine wp_region_held_drew (S:=λw=>w.cell? ⟨nb,0,none⟩=some (.slice v1 (knC l).length d1)/\w.cell? ⟨nb,1,none⟩=some (.slice v2 (knD l).length d2)/\w.cell? ⟨b,off+2,none⟩=some (.slice q2 (qA T).length c2)) (by kernel_rfl) ⟨n0,n1,p2⟩ (λhHeld=>?_);refine dA 0 rfl ?_;refine dA 1 rfl ?_;refine dA 2 rfl ?_;refine dA 3 rfl ?_;refine yA 4 (by kernel_rfl) rfl λK hK=>?_
 go_simp;go_at_call 40;refine HC.out.mono ?_;rintro e w1 ⟨hU1,hh⟩;have HU1:=aA ((fA (Qu w)).trans hU1);clear hU1 HC
 cases RT with
 | error x =>
   obtain⟨c,q⟩:=x;replace hh:e = .returned (.tuple #[.slice none 0 0,.int .i64 q,.int .i64 c]):=hh;subst hh;have hc:(c != 0)=true:=by simp only[bne_iff_ne,ne_eq];rintro rfl;exact HE1.out q rfl
   have HPS:RowKit.Hid (RR = .error (c,q)):=HPS;refine hK.out _ _ ⟨(iA HU1.out nl 0).trans n0,(iA HU1.out nl 1).trans n1,(iA HU1.out hbl _).trans p2⟩ (λ_=>?_);clear hK K hHeld;rename_i hHeld
   try walk_nrm
   refine dA 5 rfl ?_;refine dA 6 rfl ?_;refine dA 7 rfl ?_;refine dA 8 rfl ?_;refine dA 9 rfl ?_;refine dA 10 rfl ?_;refine dA 11 rfl ?_
   try walk_nrm
   refine wpAnyH_done (by kernel_rfl) ?_ _;refine NoPanic.normal ?_;refine hK0 _ _ ?_;have HRb:=aA (HS.out.rb.under HU1.out);unfold dcZ at HRb;have HB:=HRb;have d0:=HB.out.cell 0;have d1:=HB.out.cell 1;have d2:=HB.out.cell 2;have d3:=HB.out.cell 3;have d4:=HB.out.cell 4;have d5:=HB.out.cell 5;have g0:=HB.out.free 0;have g1:=HB.out.free 1;have g2:=HB.out.free 2;have g3:=HB.out.free 3;have g4:=HB.out.free 4;have g5:=HB.out.free 5;have dl:=HB.out.lt;clear kd0 kdl n0 n1 nl p2 hbl;go_wp2;refine zI rfl rfl rfl rfl (wD HRb.out _ _ _ _ _ _) ?_;exact⟨dB (HS.out.un.trans HU1.out) (jE _ _ _ _ _ _ _ _) λb hb=>by have:=HS.out.low;omega,by rw[HPS.out];rfl⟩
 | ok t =>
   obtain⟨u,rfl,hu⟩:=hh;have HPS:RowKit.Hid (RR=hTA l nm t qs):=HPS;have HTu:=aA hu;obtain⟨pu,cu,rfl,_⟩:=hu.val;clear hu;refine hK.out _ _ ⟨(iA HU1.out nl 0).trans n0,(iA HU1.out nl 1).trans n1,(iA HU1.out hbl _).trans p2⟩ (λ_=>?_);clear hK K hHeld;rename_i hHeld
   try walk_nrm
   refine dA 5 rfl ?_;refine dA 6 rfl ?_;refine dA 7 rfl ?_;refine dA 8 rfl ?_;refine dA 9 rfl ?_;refine dA 10 rfl ?_;refine dA 11 rfl ?_
   try walk_nrm
   refine wpAnyH_done (by kernel_rfl) ?_ _;refine NoPanic.normal ?_;have HDb:=aA (HS.out.db.under HU1.out);have HRb:=aA (HS.out.rb.under HU1.out);have HNb:=aA (HS.out.nb.under HU1.out);have hnd:b0≠db:=by have:=HS.out.mid;have:=HS.out.top;omega
   have hnn:nb≠db:=by have:=HS.out.end_;have:=HS.out.bn;omega
   have HC1:=aA ((Ch.refl (C:=λg=>g=db) w1).set (λ_=>rfl) 3 (.slice pu t.length cu));have HD2:=aA (show BoxAt (w1.setCell ⟨db,3,none⟩ (.slice pu t.length cu)) db 37 #[.int .i64 k,.int .i64 0,.string nm,.slice pu t.length cu,.slice none 0 0,.slice none 0 0] from HDb.out.set 3 _);have HR2:=aA (HRb.out.other hnd 3 (.slice pu t.length cu));have HN2:=aA (HNb.out.other hnn 3 (.slice pu t.length cu));have HTw:=aA (iDA (⟨uA HS.out.two.one HU1.out,uA HS.out.two.two HU1.out,HS.out.two.ne⟩:TwoT B w1 _ _ _ _) HC1.out (λb hb=>by have:=HS.out.end_;omega));have HTv:=aA (HTu.out.ch HC1.out (λb hb=>⟨37,_,hb▸HDb.out,by decide⟩));have HW2:=aA (dB (HS.out.uw.trans HU1.out) HC1.out (λb hb=>by have:=HS.out.top;omega));have HU2:=aA (dB (HS.out.un.trans HU1.out) HC1.out (λb hb=>by have:=HS.out.top;have:=HS.out.mid;have:=HS.out.low;omega));have z0:=HDb.out.cell 0;have z1:=HDb.out.cell 1;have z2:=HDb.out.cell 2;have z3:=HDb.out.cell 3;have z4:=HDb.out.cell 4;have z5:=HDb.out.cell 5;have zf:=HDb.out.free 3;have zl:=HDb.out.lt;clear kd0 kdl n0 n1 nl p2 hbl;rcases HKk.out with⟨rfl,hm⟩|⟨rfl,hm⟩
   . obtain⟨T2,rfl⟩:∃ T2,qs=[T2]:=by
       match qs,HMm.out with
       | [b],_=>exact⟨b,rfl⟩
       | [],h=>simp at h;omega
       | _::_::_,h=>simp at h;omega
     obtain⟨q3,c3,f0,f1,f2⟩:=HS.out.pa 3 (qA T2) rfl;have HQ3:=aA (And.intro f0 (And.intro f1 f2));have HT2:=aA (hT T2 (by simp));have hm3:(3:Int) < (m:Int):=by omega
     have HPS:RowKit.Hid (RR=m3A (oF (knC l) (knD l) T2) λu=>.ok ⟨1,0,nm,t,u,[]⟩):=HPS;clear hm f0 f1 f2 hT;refine hK0 _ _ ?_;clear hK0 K0;go_wp2_with fail;rename_i K0 hK0;clear z0 z1 z2 z3 z4 z5 zf zl;generalize w1.setCell ⟨db,3,none⟩ (.slice pu t.length cu)=w2 at *;clear HTu HDb HRb HNb HC1 HU1 hHeld;have p3:w2.cell? ⟨b,off+3,none⟩=some (.slice q3 (qA T2).length c3):=(iA HW2.out HS.out.bl _).trans HQ3.out.1;have hbl:=Qb HS.out.bl HW2.out.size;have n0:=HN2.out.cell 0;have n1:=HN2.out.cell 1;have nl:=HN2.out.lt;have HC:=aA (HT2.out w2.drew (HW2.out.trans (fA (Qu _))) q3 c3 HQ3.out.2.1 (HQ3.out.2.2.under (HW2.out.trans (fA (Qu _)))) v1 v2 d1 d2 (TextsV.of_own (uA HTw.out.one (fA (Qu _)))) (TextsV.of_own (uA HTw.out.two (fA (Qu _)))));have HE2:=aA (show ∀ p,oF (knC l) (knD l) T2≠.error (0,p) from iK);generalize oF (knC l) (knD l) T2=RT2 at *;refine wp_region_noPanic ?_;refine wp_region_held_drew (S:=λw=>w.cell? ⟨nb,0,none⟩=some (.slice v1 (knC l).length d1)/\w.cell? ⟨nb,1,none⟩=some (.slice v2 (knD l).length d2)/\w.cell? ⟨b,off+3,none⟩=some (.slice q3 (qA T2).length c3)) (by kernel_rfl) ⟨n0,n1,p3⟩ (λhHeld=>?_);refine dA 0 rfl ?_;refine dA 1 rfl ?_;refine dA 2 rfl ?_;refine dA 3 rfl ?_;refine yA 4 (by kernel_rfl) rfl λK hK=>?_
     go_simp;go_at_call 40;refine HC.out.mono ?_;rintro e w3 ⟨hU3,hh⟩;have HU3:=aA ((fA (Qu w2)).trans hU3);have HR3:=aA (HR2.out.under HU3.out);unfold dcZ at HR3;clear hU3 HC
     cases RT2 with
     | error x =>
       obtain⟨c,q⟩:=x;replace hh:e = .returned (.tuple #[.slice none 0 0,.int .i64 q,.int .i64 c]):=hh;subst hh;have hc:(c != 0)=true:=by simp only[bne_iff_ne,ne_eq];rintro rfl;exact HE2.out q rfl
       have HPS:RowKit.Hid (RR = .error (c,q)):=HPS;refine hK.out _ _ ⟨(iA HU3.out nl 0).trans n0,(iA HU3.out nl 1).trans n1,(iA HU3.out hbl _).trans p3⟩ (λ_=>?_);clear hK K hHeld;rename_i hHeld
       try walk_nrm
       refine dA 5 rfl ?_;refine dA 6 rfl ?_;refine dA 7 rfl ?_;refine dA 8 rfl ?_;refine dA 9 rfl ?_;refine dA 10 rfl ?_;refine dA 11 rfl ?_
       try walk_nrm
       refine wpAnyH_done (by kernel_rfl) ?_ _;refine NoPanic.normal ?_;refine hK0 _ _ ?_;have HB:=HR3;have d0:=HB.out.cell 0;have d1:=HB.out.cell 1;have d2:=HB.out.cell 2;have d3:=HB.out.cell 3;have d4:=HB.out.cell 4;have d5:=HB.out.cell 5;have g0:=HB.out.free 0;have g1:=HB.out.free 1;have g2:=HB.out.free 2;have g3:=HB.out.free 3;have g4:=HB.out.free 4;have g5:=HB.out.free 5;have dl:=HB.out.lt;clear n0 n1 nl p3 hbl;go_wp2;refine zI rfl rfl rfl rfl (wD HR3.out _ _ _ _ _ _) ?_;exact⟨dB (HU2.out.trans HU3.out) (jE _ _ _ _ _ _ _ _) λb hb=>by have:=HS.out.low;omega,by rw[HPS.out];rfl⟩
     | ok u =>
       obtain⟨vu,rfl,hu⟩:=hh;have HPS:RowKit.Hid (RR = .ok ⟨1,0,nm,t,u,[]⟩):=HPS;have HTx:=aA hu;have HTz:=aA (HTv.out.under HU3.out);obtain⟨px,cx,rfl,_⟩:=hu.val;clear hu;refine hK.out _ _ ⟨(iA HU3.out nl 0).trans n0,(iA HU3.out nl 1).trans n1,(iA HU3.out hbl _).trans p3⟩ (λ_=>?_);clear hK K hHeld;rename_i hHeld
       try walk_nrm
       refine dA 5 rfl ?_;refine dA 6 rfl ?_;refine dA 7 rfl ?_;refine dA 8 rfl ?_;refine dA 9 rfl ?_;refine dA 10 rfl ?_;refine dA 11 rfl ?_
       try walk_nrm
       refine wpAnyH_done (by kernel_rfl) ?_ _;refine NoPanic.normal ?_;have HD3:=aA (HD2.out.under HU3.out);have z0:=HD3.out.cell 0;have z1:=HD3.out.cell 1;have z2:=HD3.out.cell 2;have z3:=HD3.out.cell 3;have z4:=HD3.out.cell 4;have z5:=HD3.out.cell 5;have zf:=HD3.out.free 4;have zl:=HD3.out.lt;clear n0 n1 nl p3 hbl;have HB:=HR3;have d0:=HB.out.cell 0;have d1:=HB.out.cell 1;have d2:=HB.out.cell 2;have d3:=HB.out.cell 3;have d4:=HB.out.cell 4;have d5:=HB.out.cell 5;have g0:=HB.out.free 0;have g1:=HB.out.free 1;have g2:=HB.out.free 2;have g3:=HB.out.free 3;have g4:=HB.out.free 4;have g5:=HB.out.free 5;have dl:=HB.out.lt;refine hK0 _ _ ?_;clear hK0 K0;have HC4:=aA ((Ch.refl (C:=λg=>g=db) w3).set (λ_=>rfl) 4 (.slice px u.length cx));have HR4:=aA (HR3.out.other hnd 4 (.slice px u.length cx));have hx:∀ b,b=db->∃ T cs,BoxAt w3 b T cs/\96≠T:=λb hb=>⟨37,_,hb▸HD3.out,by decide⟩
       have HTm:=aA (And.intro (HTz.out.ch HC4.out hx) (HTx.out.ch HC4.out hx));have HU4:=aA (dB (HU2.out.trans HU3.out) HC4.out (λb hb=>by have:=HS.out.top;have:=HS.out.mid;have:=HS.out.low;omega));clear hx;go_wp2;refine zI rfl rfl rfl rfl (wD HR4.out _ _ _ _ _ _) ?_;refine⟨dB HU4.out (jE _ _ _ _ _ _ _ _) λb hb=>by have:=HS.out.low;omega,?_⟩;rw[HPS.out];have hx:∀ b,b=b0->∃ T cs,BoxAt (w3.setCell ⟨db,4,none⟩ (.slice px u.length cx)) b T cs/\96≠T:=λb hb=>⟨37,_,hb▸HR4.out,by decide⟩
       exact⟨_,rfl,_,_,_,_,rfl,HTm.out.1.ch (jE _ _ _ _ _ _ _ _) hx,HTm.out.2.ch (jE _ _ _ _ _ _ _ _) hx,Qd _,ConsT.nil _ _⟩
   . obtain rfl:qs=[]:=List.length_eq_zero_iff.1 (by have:=HMm.out;omega);have HPS:RowKit.Hid (RR = .ok ⟨2,0,nm,t,[],[]⟩):=HPS;clear hm;refine hK0 _ _ ?_;clear hK0 K0;have HB:=HRb;unfold dcZ at HB;have d0:=HB.out.cell 0;have d1:=HB.out.cell 1;have d2:=HB.out.cell 2;have d3:=HB.out.cell 3;have d4:=HB.out.cell 4;have d5:=HB.out.cell 5;have g0:=HB.out.free 0;have g1:=HB.out.free 1;have g2:=HB.out.free 2;have g3:=HB.out.free 3;have g4:=HB.out.free 4;have g5:=HB.out.free 5;have dl:=HB.out.lt;go_wp2;unfold dcZ at HR2;refine zI rfl rfl rfl rfl (wD HR2.out _ _ _ _ _ _) ?_;refine⟨dB HU2.out (jE _ _ _ _ _ _ _ _) λb hb=>by have:=HS.out.low;omega,?_⟩;rw[HPS.out];have hx:∀ b,b=b0->∃ T cs,BoxAt (w1.setCell ⟨db,3,none⟩ (.slice pu t.length cu)) b T cs/\96≠T:=λb hb=>⟨37,_,hb▸HR2.out,by decide⟩
     exact⟨_,rfl,_,_,_,_,rfl,HTv.out.ch (jE _ _ _ _ _ _ _ _) hx,kV 96 _,Qd _,ConsT.nil _ _⟩
end
structure RiS (w0 W:World) (b0 db nb B:Nat) (lev:Int) (nm:ByteArray) (cs ds:List ByteArray) (v1 v2:Option Addr) (d1 d2:Nat) (vc:Value) (acc:List (List (List Nd))) (w:World):Prop where
 un:Under w0 w
 uw:Under W w
 rb:BoxAt w b0 37 #[.int .i64 0,.int .i64 0,.string ⟨#[]⟩,.slice none 0 0,.slice none 0 0,.slice none 0 0]
 dc:BoxAt w db 37 #[.int .i64 3,.int .i64 lev,.string nm,.slice none 0 0,.slice none 0 0,vc]
 nb:BoxAt w nb 91 #[.slice v1 cs.length d1,.slice v2 ds.length d2]
 two:TwoT B w (.slice v1 cs.length d1) (.slice v2 ds.length d2) cs ds
 con:ConsT B w vc acc
theorem RiS.under{w0 W:World}{b0 db nb B:Nat}{lev:Int}{nm:ByteArray}{cs ds:List ByteArray}{v1 v2:Option Addr}{d1 d2:Nat}{vc:Value}{acc:List (List (List Nd))}{w w':World}(h:RiS w0 W b0 db nb B lev nm cs ds v1 v2 d1 d2 vc acc w)(hU:Under w w'):RiS w0 W b0 db nb B lev nm cs ds v1 v2 d1 d2 vc acc w' :=
 ⟨h.un.trans hU,h.uw.trans hU,h.rb.under hU,h.dc.under hU,h.nb.under hU,⟨uA h.two.one hU,uA h.two.two hU,h.two.ne⟩,h.con.keep (Ch.of_under (C:=λ_=>False) hU) (λ_ h=>h.elim) (λ_ h=>h.elim)⟩
def kCB(w0 W:World)(b0 db nb B:Nat)(lev p:Int)(nm:ByteArray)(cs ds:List ByteArray)(v1 v2:Option Addr)(d1 d2:Nat)(qs:List ST)(i:Value)(wr:World):Prop:=∃(k j:Nat) (vc:Value) (acc:List (List (List Nd))),k=j+3/\j<=qs.length/\i = .int .i64 (k:Int)/\acc.length=j/\lI cs ds p [] qs=lI cs ds p acc (qs.drop j)/\RiS w0 W b0 db nb B lev nm cs ds v1 v2 d1 d2 vc acc wr
def oCB(wi:World)(cs ds:List ByteArray)(r:List ST)(va i:Value)(wr:World):Prop:=∃(k:Nat) (us:List Value) (acc:List (List Nd)),k<=r.length/\i = .int .i64 (k:Int)/\acc.length=k/\mP cs ds [] r=mP cs ds acc (r.drop k)/\wr.ownsRow wi.heap.size 30 1 va k us/\Zip (OwnTm 96 wr) us acc/\Under wi wr
section
variable {w0 W w : World}
theorem fAB{l:List Dc}{pl:Option Addr}{cl b0 db nb B b off lo m pc d1 d2:Nat}{p:Int}{nm:ByteArray}{v1 v2:Option Addr}{h n a:ST}{qs:List ST}(hS:RoS w0 W b0 db nb B b off lo 3 nm v1 v2 d1 d2 (knC l) (knD l) ((h::n::a::qs).map qA) w)(hl:l.length<=100000)(hm:m=qs.length+3)(hm9:m<=100000)(hok:uI qs)(hlen:∀ y∈a::qs,(qA y).length<=20000)(hT:∀ y∈qs,∀ q r,y=ST.list q r->∀ t∈r,RmAt W (knC l) (knD l++[nm]) t)(J:Nat->Value) :
 roRest.wp prog (bodyPost prog f18 (zTA w0 (lL l 3 nm p (a::qs)))) ⟨t1A pl l.length cl b0 b off m pc db nb p J,[]⟩ w:=by
 have HS:=aA hS;obtain⟨q2,c2,e0,e1,e2⟩:=hS.pa 2 (qA a) rfl;have hm2:(2:Int) < (m:Int):=by omega
 have HRo:=aA (λw (h:Under W w)=>cO (w0:=w) (cap:=c2) a (q:=q2) (by have:=hlen a (by simp);omega) (e2.under h));have HQs:=aA (And.intro hok (And.intro (λy hy=>hlen y (Qh _ hy)) hT));have HM:=aA (And.intro hm hm9);have HPR:RowKit.Hid (lL l 3 nm p (a::qs)=vLA l nm p a qs):=aA rfl;have HPI:RowKit.Hid (vLA l nm p a qs=match pR a.last.word with|none=>.error (71,a.last.pos)|some lev=>if 6 < qs.length then .error (21,p) else match lI (knC l) (knD l++[nm]) p [] qs with|.error x=>.error x|.ok c=>.ok ⟨3,lev,nm,[],[],c⟩):=aA rfl;generalize vLA l nm p a qs=PR at *;generalize lL l 3 nm p (a::qs)=RR at *;obtain rfl:RR=PR:=HPR.out;have p2:w.cell? ⟨b,off+2,none⟩=some (.slice q2 (qA a).length c2):=(iA hS.uw hS.bl _).trans e0;have hbl:=Qb hS.bl hS.uw.size;have HR1:=aA (HRo.out w hS.uw);have kd0:=hS.db.cell 0;have kdl:=hS.db.lt;have HF1:=λ(a b:Int) (s:ByteArray) (w:World)=>(show(Instr.field 29 (.agg #[.int .i64 a,.int .i64 b,.string s]) 1).run prog w = .ok (.int .i64 b) w by kernel_rfl)
 have HF2:=λ(a b:Int) (s:ByteArray) (w:World)=>(show(Instr.field 29 (.agg #[.int .i64 a,.int .i64 b,.string s]) 2).run prog w = .ok (.string s) w by kernel_rfl)
 clear hS e0 e1 e2 hm hm9 hok hlen hT;unfold roRest;simp only[f18,Qf,jA];unfold t1A;go_wp2_with fail;refine HR1.out.mono ?_;rintro e w1 ⟨rfl,hU1⟩;have HU1:=aA hU1;have HRb:=aA (HS.out.rb.under hU1);have HRt:=aA (HRo.out w1 (HS.out.uw.trans hU1));have p2':w1.cell? ⟨b,off+2,none⟩=some (.slice q2 (qA a).length c2):=(iA hU1 hbl _).trans p2;have hbl1:=Qb hbl hU1.size;clear hU1 HR1 HRo p2 kd0 kdl;unfold dcZ at HRb;generalize a.last=ax at *;obtain⟨am,ap,aw⟩:=ax;simp only[sxV]
 cases hlv:pR aw with
 | none =>
   have HPS:=aA (show RR = .error (71,ap) by rw[HPI.out];simp only[hlv]);clear HPI;obtain hneg|⟨x,rfl,hx⟩:=gGA hlv
   . have h1':((aw.size:Int) != 1)=true:=by simp;omega
     clear hneg hlv;go_wp2_with fail;refine HRt.out.mono ?_;rintro e w2 ⟨rfl,hU2⟩;have HU2:=aA (HU1.out.trans hU2);have HR2:=aA (HRb.out.under hU2);have HB:=HR2;have d0:=HB.out.cell 0;have d1:=HB.out.cell 1;have d2:=HB.out.cell 2;have d3:=HB.out.cell 3;have d4:=HB.out.cell 4;have d5:=HB.out.cell 5;have g0:=HB.out.free 0;have g1:=HB.out.free 1;have g2:=HB.out.free 2;have g3:=HB.out.free 3;have g4:=HB.out.free 4;have g5:=HB.out.free 5;have dl:=HB.out.lt;clear hU2 p2' hbl1;simp only[sxV];go_wp2;refine zI rfl rfl rfl rfl (wD HR2.out _ _ _ _ _ _) ?_;exact⟨dB (HS.out.un.trans HU2.out) (jE _ _ _ _ _ _ _ _) λb hb=>by have:=HS.out.low;omega,by rw[HPS.out];rfl⟩
   . have h1:(⟨⟨[x]⟩⟩:ByteArray).size=1:=rfl;clear hlv;rcases hx with hx|hx
     . have hb1:((⟨⟨[x]⟩⟩:ByteArray)[0].toNat:Int) < 49:=by show(x.toNat:Int) < 49;omega
       clear hx;go_wp2_with fail;refine HRt.out.mono ?_;rintro e w2 ⟨rfl,hU2⟩;have HU2:=aA (HU1.out.trans hU2);have HR2:=aA (HRb.out.under hU2);have HB:=HR2;have d0:=HB.out.cell 0;have d1:=HB.out.cell 1;have d2:=HB.out.cell 2;have d3:=HB.out.cell 3;have d4:=HB.out.cell 4;have d5:=HB.out.cell 5;have g0:=HB.out.free 0;have g1:=HB.out.free 1;have g2:=HB.out.free 2;have g3:=HB.out.free 3;have g4:=HB.out.free 4;have g5:=HB.out.free 5;have dl:=HB.out.lt;clear hU2 p2' hbl1;simp only[sxV];go_wp2;refine zI rfl rfl rfl rfl (wD HR2.out _ _ _ _ _ _) ?_;exact⟨dB (HS.out.un.trans HU2.out) (jE _ _ _ _ _ _ _ _) λb hb=>by have:=HS.out.low;omega,by rw[HPS.out];rfl⟩
     . have hb1:¬((⟨⟨[x]⟩⟩:ByteArray)[0].toNat:Int) < 49:=by show ¬(x.toNat:Int) < 49;omega
       have hb2:(57:Int) < ((⟨⟨[x]⟩⟩:ByteArray)[0].toNat:Int):=by show(57:Int) < (x.toNat:Int);omega
       clear hx;go_wp2_with fail;refine HRt.out.mono ?_;rintro e w2 ⟨rfl,hU2⟩;have HU2:=aA (HU1.out.trans hU2);have HR2:=aA (HRb.out.under hU2);have HB:=HR2;have d0:=HB.out.cell 0;have d1:=HB.out.cell 1;have d2:=HB.out.cell 2;have d3:=HB.out.cell 3;have d4:=HB.out.cell 4;have d5:=HB.out.cell 5;have g0:=HB.out.free 0;have g1:=HB.out.free 1;have g2:=HB.out.free 2;have g3:=HB.out.free 3;have g4:=HB.out.free 4;have g5:=HB.out.free 5;have dl:=HB.out.lt;clear hU2 p2' hbl1;simp only[sxV];go_wp2;refine zI rfl rfl rfl rfl (wD HR2.out _ _ _ _ _ _) ?_;exact⟨dB (HS.out.un.trans HU2.out) (jE _ _ _ _ _ _ _ _) λb hb=>by have:=HS.out.low;omega,by rw[HPS.out];rfl⟩
 | some lev =>
   obtain⟨x,rfl,hx1,hx2,hlev⟩:=yEA hlv;have HPS:=aA (show RR=if 6 < qs.length then .error (21,p) else match lI (knC l) (knD l++[nm]) p [] qs with|.error x=>.error x|.ok c=>.ok ⟨3,lev,nm,[],[],c⟩ by rw[HPI.out];simp only[hlv]);have h1:(⟨⟨[x]⟩⟩:ByteArray).size=1:=rfl;have hb1:¬((⟨⟨[x]⟩⟩:ByteArray)[0].toNat:Int) < 49:=by show ¬(x.toNat:Int) < 49;omega
   have hb2:¬(57:Int) < ((⟨⟨[x]⟩⟩:ByteArray)[0].toNat:Int):=by show ¬(57:Int) < (x.toNat:Int);omega
   have hb3:IntKind.u8.wrap (((⟨⟨[x]⟩⟩:ByteArray)[0].toNat:Int) - 48)=lev:=by
    rw[hlev];show IntKind.u8.wrap ((x.toNat:Int) - 48)=_
    rw[IntKind.wrap_u8];omega
   have hb4:IntKind.i64.wrap lev=lev:=by rw[IntKind.wrap_i64];omega
   clear HPI hlv hx1 hx2 hlev HRt p2' hbl1;have HDb:=aA (HS.out.db.under HU1.out);have HNb:=aA (HS.out.nb.under HU1.out);have hnd:b0≠db:=by have:=HS.out.mid;have:=HS.out.top;omega
   have hnn:nb≠db:=by have:=HS.out.end_;have:=HS.out.bn;omega
   have kd1:=HDb.out.cell 1;have kd2:=HDb.out.cell 2;have kf1:=HDb.out.free 1;have kl:=HDb.out.lt;have n1:=HNb.out.cell 1;have nf:=HNb.out.free 1;have nl:=HNb.out.lt;obtain⟨i0,hi0,hz0,hz1,hz2⟩:=info_parts Tryz.infoStrK;obtain⟨wa,hwa⟩:∃ wa,wa=w1.setCell ⟨db,1,none⟩ (.int .i64 lev):=⟨_,rfl⟩;have HCa:=aA (show Ch (λg=>g=db) w1 wa by rw[hwa];exact(Ch.refl (C:=λg=>g=db) w1).set (λ_=>rfl) 1 (.int .i64 lev));have HTa:=aA (iDA (⟨uA HS.out.two.one HU1.out,uA HS.out.two.two HU1.out,HS.out.two.ne⟩:TwoT B w1 _ _ _ _) HCa.out (λb hb=>by have:=HS.out.end_;omega));have HDa:=aA (show BoxAt wa db 37 #[.int .i64 3,.int .i64 lev,.string nm,.slice none 0 0,.slice none 0 0,.slice none 0 0] by rw[hwa];exact HDb.out.set 1 _);have HRa:=aA (show BoxAt wa b0 37 _ by rw[hwa];exact HRb.out.other hnd 1 (.int .i64 lev));have HNa:=aA (show BoxAt wa nb 91 _ by rw[hwa];exact HNb.out.other hnn 1 (.int .i64 lev));have HUa:=aA (dB (HS.out.un.trans HU1.out) HCa.out (λb hb=>by have:=HS.out.top;have:=HS.out.mid;have:=HS.out.low;omega));have HWa:=aA (dB (HS.out.uw.trans HU1.out) HCa.out (λb hb=>by have:=HS.out.top;omega));have HBz:=aA (show B<=wa.heap.size from by have:=HNa.out.lt;have:=HS.out.bn;omega);have HK:=aA (show(knD l).length+1<=maxLen/\((knD l).length+1) * 16<=140737488355328 from by have:=(eQ l).2;simp only[maxLen];omega);have hsz:wa.heap.size=w1.heap.size:=by rw[hwa];simp
   have HSz:=aA hsz;clear hsz;have HK1:=aA (show ∀ j u,[Value.string nm][j]? = some u->(wa.alloc (.cells #[.string nm] 9)).cell? ((⟨w1.heap.size,0,none⟩:Addr).add j)=some u from λjj u hj=>by
     match jj,hj with
     | 0,hj=>cases hj;rw[<- HSz.out];simp[Addr.add])
   have HK2:=aA (show ∀ u∈[Value.string nm],u.oneCell'=true from λu hu=>by simp at hu;subst hu;rfl);have HK5:=aA (show B<=(wa.alloc (.cells #[.string nm] 9)).heap.size from by simp;have:=HBz.out;omega);go_wp2_with (at_builtin;rw[<- hwa];refine wpList_append_own_at _ rfl _ _ 80 rfl B 9 i0 _ 1 16 underlying80 hi0 hz0 hz1 hz2 rfl (by decide) _ _ _ rfl (uA HTa.out.two (bA (Qu _) _)) ⟨w1.heap.size,0,none⟩ 1 1 [.string nm] rfl rfl HK1.out HK2.out HK.out.1 HK.out.2 HK5.out ?_);intro v' w2 hown hgrow hnil hat;rw[<- hwa]at hgrow;rw[<- HSz.out]at hat;obtain⟨q5,c5,rfl,_⟩:=RowArg.of_own hown;have hA:=bA (Qu wa) (.cells #[.string nm] 9);have hvb:∀ g,(Value.slice v2 (knD l).length d2).ownBlock=some g->B<=g:=λg e=>(xB HTa.out.two e).1
   have HN2:=aA ((HNa.out.under hA).grown hgrow (λe=>bC HNa.out HTa.out.two (by decide) e.symm));have HD2:=aA ((HDa.out.under hA).grown hgrow (λe=>by have:=hvb _ e.symm;have:=HS.out.end_;omega));have HR2:=aA ((HRa.out.under hA).grown hgrow (λe=>by have:=hvb _ e.symm;have:=HS.out.end_;have:=HS.out.mid;have:=HS.out.top;omega));have HV2:=aA (rC (uA HTa.out.one hA) hgrow HTa.out.ne);have HO2:=aA (show w2.ownsRow B 9 1 (.slice q5 ((knD l).length+1) c5) (knD l++[nm]).length ((knD l++[nm]).map .string) by rw[Qc,List.map_append];exact hown);have HU2:=aA (eB (HUa.out.trans hA) hgrow (λg e=>by have:=hvb _ e;have:=HS.out.end_;have:=HS.out.mid;have:=HS.out.top;have:=HS.out.low;omega));have HW2:=aA (eB (HWa.out.trans hA) hgrow (λg e=>by have:=hvb _ e;have:=HS.out.end_;have:=HS.out.top;omega));have HNe:=aA (show(Value.slice v1 (knC l).length d1).ownBlock=none∨(Value.slice v1 (knC l).length d1).ownBlock≠(Value.slice q5 ((knD l).length+1) c5).ownBlock by
     rcases hat with h|h
     . rcases HTa.out.ne with h1|h1
       . exact .inl h1
       . exact .inr (by rw[h];exact h1)
     . by_cases hv : (Value.slice v1 (knC l).length d1).ownBlock = none
       . exact .inl hv
       . obtain⟨g,hg⟩:=Option.ne_none_iff_exists'.1 hv
         right
         rw[hg,h];intro e;have:=(xB HTa.out.one hg).2
         cases e;omega)
   have HC3:=aA ((Ch.refl (C:=λb=>b=nb) w2).set (λ_=>rfl) 1 (.slice q5 ((knD l).length+1) c5));have hnr:b0≠nb:=by have:=HS.out.mid;have:=HS.out.top;have:=HS.out.end_;have:=HS.out.bn;omega
   have HD3:=aA (show RiS w0 W b0 db nb B lev nm (knC l) (knD l++[nm]) v1 q5 d1 c5 (.slice none 0 0) [] (w2.setCell ⟨nb,1,none⟩ (.slice q5 ((knD l).length+1) c5)) from
     ⟨dB HU2.out HC3.out (λb hb=>by have:=HS.out.end_;have:=HS.out.mid;have:=HS.out.top;have:=HS.out.low;have:=HS.out.bn;omega),dB HW2.out HC3.out (λb hb=>by have:=HS.out.end_;have:=HS.out.top;have:=HS.out.bn;omega),HR2.out.other hnr 1 _,HD2.out.other hnn.symm 1 _,by have:=HN2.out.set 1 (.slice q5 ((knD l).length+1) c5);simpa using this,⟨iE HV2.out HC3.out (λg hg h=>bC HN2.out HV2.out (by decide) (by rw[hg,h])),by
       have:=iE HO2.out HC3.out (λg hg h=>bC HN2.out HO2.out (by decide) (by rw[hg,h]))
       simpa using this,by rw[Qc];exact HNe.out⟩,ConsT.nil _ _⟩)
   clear hown hgrow hnil hat hA hvb kd1 kd2 kf1 kl n1 nf nl hb1 hb2 hb3 hb4 HCa HTa HDa HRa HNa HUa HWa HBz HK HK1 HK2 HK5 HSz HDb HNb HV2 HO2 HNe hwa;have y1:=HN2.out.lt;have y2:=HN2.out.free 1;have y3:=HN2.out.cell 1;by_cases h6:6 < qs.length
   . have HPS:=aA (show RR = .error (21,p) by rw[HPS.out,if_pos h6]);have h6':(6:Int) < (m:Int) - 3:=by have:=HM.out.1;omega
     have hmx:(m:Int)<=100000:=by have:=HM.out.2;omega
     have HB:=aA HR2.out;have d0:=HB.out.cell 0;have d1:=HB.out.cell 1;have d2:=HB.out.cell 2;have d3:=HB.out.cell 3;have d4:=HB.out.cell 4;have d5:=HB.out.cell 5;have g0:=HB.out.free 0;have g1:=HB.out.free 1;have g2:=HB.out.free 2;have g3:=HB.out.free 3;have g4:=HB.out.free 4;have g5:=HB.out.free 5;have dl:=HB.out.lt;clear h6;go_wp2;refine zI rfl rfl rfl rfl (wD HD3.out.rb _ _ _ _ _ _) ?_;exact⟨dB HD3.out.un (jE _ _ _ _ _ _ _ _) λb hb=>by have:=HS.out.low;omega,by rw[HPS.out];rfl⟩
   . have HPS := aA (show RR = match lI (knC l) (knD l ++ [nm]) p [] qs with | .error x => .error x | .ok c => .ok ⟨3, lev, nm, [], [], c⟩ by rw [HPS.out, if_neg h6]); have h6' : ¬ (6 : Int) < (m : Int) - 3 := by have := HM.out.1; omega
     have hmx:(m:Int)<=100000:=by have:=HM.out.2;omega
     go_wp2;clear y1 y2 y3 HN2 HD2 HR2 HU2 HW2 HC3 h6' HRb HU1 hbl hm2 hz0 hz1 hz2 hi0 i0;generalize w2.setCell ⟨nb,1,none⟩ (.slice q5 ((knD l).length+1) c5)=w3 at *;generalize knD l++[nm]=ds at *;generalize hcs:knC l=cs at *;have HQ9:=aA (show qs.length<=6 by omega);clear h6 hcs;go_loopw [21] (λi wr=>kCB w0 W b0 db nb B lev p nm cs ds v1 q5 d1 c5 qs i wr) (λi _=>qs.length+3 - (intOf i).toNat)
     case atStart=>exact⟨3,0,_,[],rfl,Nat.zero_le _,rfl,rfl,by rw[List.drop_zero],HD3.out⟩
     case round =>
       obtain⟨k,j,vc,acc,hkj,hj,rfl,hak,hcs,hR⟩:=hrel;have hk0:(0:Int)<=(k:Int):=by omega
       have hk9:(k:Int)<=100000:=by have:=HQ9.out;omega
       have HD:=aA hR;have HCs:=aA hcs;have HAk:=aA hak;have HKj:=aA hkj;clear hR hcs hak HD3;by_cases hlt:j < qs.length
       . have hlt':(k:Int) < (m:Int):=by have:=HM.out.1;omega
         have hrow:((h::n::a::qs).map qA)[k]? = some (qA qs[j]):=by rw[hkj];simp[Qa hlt]
         obtain⟨qj,cj,p1,p2,p3⟩:=HS.out.pa k _ hrow;have cc1:wr.cell? ⟨b,off+k,none⟩=some (.slice qj (qA qs[j]).length cj):=(iA HD.out.uw HS.out.bl _).trans p1;have hbw:=Qb HS.out.bl HD.out.uw.size;have HPt:=aA (qZ (w0:=wr) (cap:=cj) (qA qs[j]) (p:=qj) (by have:=HQs.out.2.1 _ (Qr hlt);omega) p2 (p3.under HD.out.uw));have HLs:=aA (λw (h:Under wr w)=>cO (w0:=w) (cap:=cj) qs[j] (q:=qj) (by have:=HQs.out.2.1 _ (Qr hlt);omega) (p3.under (HD.out.uw.trans h)));have hokj:=rO.1 HQs.out.1 _ (Qr hlt);have HTj:=aA (HQs.out.2.2 _ (Qr hlt));have HCw:=aA (λ(q:Int) (s:ByteArray) (h:qs[j] = .word q s)=>qDA (cs:=cs) (ds:=ds) (p:=p) (acc:=acc) hlt h);have HCl:=aA (λ(q:Int) (r:List ST) (h:qs[j] = .list q r)=>tFA (cs:=cs) (ds:=ds) (p:=p) (acc:=acc) hlt h);generalize qs[j]=y at *;clear hrow p1 p2 p3 hkj;go_wp2_with fail;refine HPt.out.mono ?_;rintro e w8 ⟨pq,pc8,rfl,hrows,hU8⟩;have HD8:=aA (HD.out.under hU8);have HL8:=aA (HLs.out w8 hU8);have cc2:w8.cell? ⟨b,off+k,none⟩=some (.slice qj (qA y).length cj):=(iA hU8 hbw _).trans cc1;have hbw8:=Qb hbw hU8.size;clear hU8 HPt HLs cc1 hbw
         cases y with
         | word q s =>
           rw[zS hokj]at hrows ⊢;have HPS:=aA (show RR = .error (71,q) by rw[HPS.out,HCs.out,HCw.out q s rfl]);rw[show(ST.word q s).last=⟨0,q,s⟩ from rfl]at HL8;clear HCw HCl HTj hokj hrows;simp only[Option.getD_none,Option.isSome_none,List.length_nil];go_wp2_with fail;refine HL8.out.mono ?_;rintro e w9 ⟨rfl,hU9⟩;simp only[sxV];have HD9:=aA (HD8.out.under hU9);have HB:=aA HD9.out.rb;have d0:=HB.out.cell 0;have d1:=HB.out.cell 1;have d2:=HB.out.cell 2;have d3:=HB.out.cell 3;have d4:=HB.out.cell 4;have d5:=HB.out.cell 5;have g0:=HB.out.free 0;have g1:=HB.out.free 1;have g2:=HB.out.free 2;have g3:=HB.out.free 3;have g4:=HB.out.free 4;have g5:=HB.out.free 5;have dl:=HB.out.lt;clear hU9 cc2 hbw8;go_wp2;refine zI rfl rfl rfl rfl (wD HD9.out.rb _ _ _ _ _ _) ?_;exact⟨dB HD9.out.un (jE _ _ _ _ _ _ _ _) λb hb=>by have:=HS.out.low;omega,by rw[HPS.out];rfl⟩
         | list q r =>
           rw[xL hokj]at hrows ⊢;simp only[Qf,Option.isSome_some]at hrows ⊢;have hrl:(r.map qA).length=r.length:=by simp
           have HRo:=aA hrows;rw[hrl];have HCq:=aA (HCs.out.trans (HCl.out q r rfl));have HTr:=aA (λt (ht:t∈r)=>HTj.out q r rfl t ht);clear HCw HCl HTj hokj hrows hrl HL8 cc2 hbw8;by_cases h6:6 < r.length
           . have HPS:=aA (show RR = .error (21,p) by rw[HPS.out,HCq.out,if_pos h6]);have h6':(6:Int) < (r.length:Int):=by omega
             have HB:=aA HD8.out.rb;have d0:=HB.out.cell 0;have d1:=HB.out.cell 1;have d2:=HB.out.cell 2;have d3:=HB.out.cell 3;have d4:=HB.out.cell 4;have d5:=HB.out.cell 5;have g0:=HB.out.free 0;have g1:=HB.out.free 1;have g2:=HB.out.free 2;have g3:=HB.out.free 3;have g4:=HB.out.free 4;have g5:=HB.out.free 5;have dl:=HB.out.lt;clear h6;go_wp2;refine zI rfl rfl rfl rfl (wD HD8.out.rb _ _ _ _ _ _) ?_;exact⟨dB HD8.out.un (jE _ _ _ _ _ _ _ _) λb hb=>by have:=HS.out.low;omega,by rw[HPS.out];rfl⟩
           . have HCq:=aA (HCq.out.trans (if_neg h6));have h6':¬(6:Int) < (r.length:Int):=by omega
             have hr9:(r.length:Int)<=6:=by omega
             have hr0:(0:Int)<=(r.length:Int):=by omega
             clear h6;go_wp2;go_loopw [24,25] (λva i wi=>oCB w8 cs ds r va i wi) (λ_ i _=>r.length - (intOf i).toNat)
             case atStart=>exact⟨0,[],[],Nat.zero_le _,rfl,rfl,by rw[List.drop_zero],aUA (n:=0) (cs:=[]) (zA w8 #[] 30) rfl (by decide) (Qd _),Zip.nil _,bA (Qu _) _⟩
             case round =>
               obtain⟨t,us,ac,ht,rfl,hka,hcs2,hown,hz,hU⟩:=hrel;have ht0:(0:Int)<=(t:Int):=by omega
               have HO:=aA hown;have HZ:=aA hz;have HUi:=aA hU;have HC2:=aA hcs2;have HKa:=aA hka;have HDi:=aA (HD8.out.under hU);obtain⟨qa,ca,rfl,_⟩:=RowArg.of_own hown;clear hown hz hU hcs2 hka;by_cases hkt:t < r.length
               . have hkt':(t:Int) < (r.length:Int):=by omega
                 obtain⟨b2,off2,rfl,hb2,hcs3⟩:=HRo.out (λe=>by rw[List.map_eq_nil_iff]at e;rw[e]at hkt;simp at hkt);obtain⟨q3,c3,a0,a1,a2⟩:=hcs3 t (qA r[t]) (by simp[Qa hkt]);rw[<- iA HUi.out hb2]at a0;have hb3:=Qb hb2 HUi.out.size;have HDr:=aA (xDA (cs:=cs) (ds:=ds) (acc:=ac) hkt);have HTm:=aA (HTr.out r[t] (Qr hkt));have HSx:=aA (And.intro a1 (a2.under HUi.out));generalize r[t]=tm at *;clear hcs3 a1 a2 hb2;have HUd:=aA (fA (Qu wr));have HC:=aA (HTm.out wr.drew (HDi.out.uw.trans HUd.out) q3 c3 HSx.out.1 (HSx.out.2.under HUd.out) v1 q5 d1 c5 (TextsV.of_own (uA HDi.out.two.one HUd.out)) (TextsV.of_own (uA HDi.out.two.two HUd.out)));have HE1:=aA (show ∀ p,oF cs ds tm≠.error (0,p) from iK);generalize oF cs ds tm=RT at *;go_wp2_with fail;rename_i K1 hK1;have n0:=HDi.out.nb.cell 0;have n1:=HDi.out.nb.cell 1;have nl:=HDi.out.nb.lt;refine wp_region_noPanic ?_;refine wp_region_held_drew (S:=λw=>w.cell? ⟨nb,0,none⟩=some (.slice v1 cs.length d1)/\w.cell? ⟨nb,1,none⟩=some (.slice q5 ds.length c5)/\w.cell? ⟨b2,off2+t,none⟩=some (.slice q3 (qA tm).length c3)) (by kernel_rfl) ⟨n0,n1,a0⟩ (λhHeld=>?_);refine dA 0 rfl ?_;refine dA 1 rfl ?_;refine dA 2 rfl ?_;refine dA 3 rfl ?_;refine dA 4 rfl ?_;refine yA 5 (by kernel_rfl) rfl λK hK=>?_
                 go_simp;go_at_call 40;refine HC.out.mono ?_;rintro e w9 ⟨hU9,hh⟩;have HU9:=aA (HUd.out.trans hU9);have HD9:=aA (HDi.out.under HU9.out);clear hU9 HC
                 cases RT with
                 | error x =>
                   obtain⟨c,qe⟩:=x;replace hh:e = .returned (.tuple #[.slice none 0 0,.int .i64 qe,.int .i64 c]):=hh;subst hh;have hc:(c != 0)=true:=by simp only[bne_iff_ne,ne_eq];rintro rfl;exact HE1.out qe rfl
                   have HPS:=aA (show RR = .error (c,qe) by rw[HPS.out,HCq.out,HC2.out,HDr.out]);refine hK.out _ _ ⟨(iA HU9.out nl 0).trans n0,(iA HU9.out nl 1).trans n1,(iA HU9.out hb3 _).trans a0⟩ (λ_=>?_);clear hK K hHeld;rename_i hHeld
                   try walk_nrm
                   refine dA 6 rfl ?_;refine dA 7 rfl ?_;refine dA 8 rfl ?_;refine dA 9 rfl ?_;refine dA 10 rfl ?_;refine dA 11 rfl ?_;refine dA 12 rfl ?_
                   try walk_nrm
                   refine wpAnyH_done (by kernel_rfl) ?_ _;refine NoPanic.normal ?_;refine hK1 _ _ ?_;clear hK1 K1 hHeld n0 n1 nl a0 hb3;have HB:=aA HD9.out.rb;have d0:=HB.out.cell 0;have d1:=HB.out.cell 1;have d2:=HB.out.cell 2;have d3:=HB.out.cell 3;have d4:=HB.out.cell 4;have d5:=HB.out.cell 5;have g0:=HB.out.free 0;have g1:=HB.out.free 1;have g2:=HB.out.free 2;have g3:=HB.out.free 3;have g4:=HB.out.free 4;have g5:=HB.out.free 5;have dl:=HB.out.lt;go_wp2;refine zI rfl rfl rfl rfl (wD HD9.out.rb _ _ _ _ _ _) ?_;exact⟨dB HD9.out.un (jE _ _ _ _ _ _ _ _) λb hb=>by have:=HS.out.low;omega,by rw[HPS.out];rfl⟩
                 | ok tt =>
                   obtain⟨u,rfl,hu⟩:=hh;have HTu:=aA hu;obtain⟨pu,cu,rfl,_⟩:=hu.val;clear hu;refine hK.out _ _ ⟨(iA HU9.out nl 0).trans n0,(iA HU9.out nl 1).trans n1,(iA HU9.out hb3 _).trans a0⟩ (λ_=>?_);clear hK K hHeld;rename_i hHeld
                   try walk_nrm
                   refine dA 6 rfl ?_;refine dA 7 rfl ?_;refine dA 8 rfl ?_;refine dA 9 rfl ?_;refine dA 10 rfl ?_;refine dA 11 rfl ?_;refine dA 12 rfl ?_
                   try walk_nrm
                   refine wpAnyH_done (by kernel_rfl) ?_ _;refine NoPanic.normal ?_;refine hK1 _ _ ?_;clear hK1 K1 hHeld n0 n1 nl a0 hb3;obtain⟨i0,hi0,hz0,hz1,hz2⟩:=info_parts Tryz.infoNdsC;have HO9:=aA (uA HO.out HU9.out);have HK1:=aA (show ∀ j u,[Value.slice pu tt.length cu][j]? = some u->(w9.alloc (.cells #[.slice pu tt.length cu] 30)).cell? ((⟨w9.heap.size,0,none⟩:Addr).add j)=some u from λjj u hj=>by
                     match jj,hj with
                     | 0,hj=>cases hj;simp[Addr.add])
                   have HK2:=aA (show ∀ u∈[Value.slice pu tt.length cu],u.oneCell'=true from λu hu=>by simp at hu;subst hu;rfl);have HK5:=aA (show w8.heap.size<=(w9.alloc (.cells #[.slice pu tt.length cu] 30)).heap.size from by have:=HUi.out.size;have:=HU9.out.size;simp;omega);have HMb:=aA (show t+1<=maxLen/\(t+1) * 24<=140737488355328 from by simp only[maxLen];omega);go_wp2_with (at_builtin;refine wpList_append_own_at _ rfl _ _ 62 rfl w8.heap.size 30 i0 _ 1 24 underlying62 hi0 hz0 hz1 hz2 rfl (by decide) _ _ _ rfl (uA HO9.out (bA (Qu _) _)) ⟨w9.heap.size,0,none⟩ 1 1 [.slice pu tt.length cu] rfl rfl HK1.out HK2.out HMb.out.1 HMb.out.2 HK5.out ?_);intro v' w10 hown hgrow hnil hat;have hA:=bA (Qu w9) (.cells #[.slice pu tt.length cu] 30);have HO':=aA hown;have HU10:=aA (eB ((HUi.out.trans HU9.out).trans hA) hgrow (λg e=>(xB HO9.out e).1));have HZ10:=aA (((HZ.out.mono λv x (h:OwnTm 96 wr v x)=>(h.under (HU9.out.trans hA)).grown (uA HO9.out hA) hgrow (by decide))).app (Zip.one ((HTu.out.under hA).grown (uA HO9.out hA) hgrow (by decide))));obtain⟨qn,cn,rfl,_⟩:=RowArg.of_own hown;clear hown hgrow hnil hat hA HK1 HK2 HK5;go_wp2;go_roundw
                   case rel=>exact⟨t+1,us++[.slice pu tt.length cu],ac++[tt],by omega,by go_num,by rw[Qc,HKa.out];rfl,by rw[HC2.out,HDr.out],HO'.out,HZ10.out,HU10.out⟩
                   case measure=>simp[intOf];omega
               . obtain rfl:t=r.length:=by omega
                 have hA2:mP cs ds [] r = .ok ac:=by rw[HC2.out,List.drop_length];rfl
                 have HCs:=aA (show lI cs ds p [] qs=lI cs ds p (acc++[ac]) (qs.drop (j+1)) by rw[HCq.out,hA2]);obtain⟨vs3,ho3,hz3⟩:=HDi.out.con;have HO3:=aA (And.intro ho3 hz3);obtain⟨qv,cv,rfl,_⟩:=RowArg.of_own ho3;have HBw:=aA (show B<=w8.heap.size from by have:=HD8.out.nb.lt;have:=HS.out.bn;omega);have HOc:=aA (uD HO.out HBw.out);have d5:=HDi.out.dc.cell 5;have f5:=HDi.out.dc.free 5;have dl:=HDi.out.dc.lt;have HMb:=aA (show acc.length+1<=maxLen/\(acc.length+1) * 24<=140737488355328 from by have:=HAk.out;have:=HQ9.out;simp only[maxLen];omega);generalize hal:acc.length=na at *;have HNa:=aA hal;clear hA2 hal ho3 hz3;obtain⟨i0,hi0,hz0,hz1,hz2⟩:=info_parts Tryz.infoNds2C;have HK1:=aA (show ∀ j u,[Value.slice qa r.length ca][j]? = some u->(wr.alloc (.cells #[.slice qa r.length ca] 62)).cell? ((⟨wr.heap.size,0,none⟩:Addr).add j)=some u from λjj u hj=>by
                   match jj,hj with
                   | 0,hj=>cases hj;simp[Addr.add])
                 have HK2:=aA (show ∀ u∈[Value.slice qa r.length ca],u.oneCell'=true from λu hu=>by simp at hu;subst hu;rfl);have HK5:=aA (show B<=(wr.alloc (.cells #[.slice qa r.length ca] 62)).heap.size from by have:=HBw.out;have:=HUi.out.size;simp;omega);go_wp2_with (at_builtin;refine wpList_append_own_at _ rfl _ _ 31 rfl B 62 i0 _ 1 24 underlying31 hi0 hz0 hz1 hz2 rfl (by decide) _ _ _ rfl (uA HO3.out.1 (bA (Qu _) _)) ⟨wr.heap.size,0,none⟩ 1 1 [.slice qa r.length ca] rfl rfl HK1.out HK2.out HMb.out.1 HMb.out.2 HK5.out ?_);intro v' w9 hown hgrow hnil hat;obtain⟨q5',c5',rfl,_⟩:=RowArg.of_own hown;have hA:=bA (Qu wr) (.cells #[.slice qa r.length ca] 62);have HO':=aA hown;have hvb:∀ g,(Value.slice qv na cv).ownBlock=some g->B<=g:=λg e=>(xB HO3.out.1 e).1
                 have HEd:=aA (And.intro HS.out.low (And.intro HS.out.mid (And.intro HS.out.top (And.intro HS.out.end_ HS.out.bn))));have HUg:=aA (eB (HDi.out.un.trans hA) hgrow (λg e=>by have:=hvb g e;have:=HEd.out;omega));have HWg:=aA (eB (HDi.out.uw.trans hA) hgrow (λg e=>by have:=hvb g e;have:=HEd.out;omega));have HRg:=aA ((HDi.out.rb.under hA).grown hgrow (λe=>by have:=hvb _ e.symm;have:=HEd.out;omega));have HBg:=aA ((HDi.out.dc.under hA).grown hgrow (λe=>by have:=hvb _ e.symm;have:=HEd.out;omega));have HNg:=aA ((HDi.out.nb.under hA).grown hgrow (λe=>bC (HDi.out.nb.under hA) (uA HO3.out.1 hA) (by decide) e.symm));have HTg:=aA (show TwoT B w9 (.slice v1 cs.length d1) (.slice q5 ds.length c5) cs ds from⟨rC (uA HDi.out.two.one hA) hgrow (own_ne (uA HDi.out.two.one hA) (uA HO3.out.1 hA) (by decide)),rC (uA HDi.out.two.two hA) hgrow (own_ne (uA HDi.out.two.two hA) (uA HO3.out.1 hA) (by decide)),HDi.out.two.ne⟩);have HZg:=aA (((HO3.out.2.app (Zip.one (show ∃ us',wr.ownsRow B 30 1 (.slice qa r.length ca) ac.length us'/\Zip (OwnTm 96 wr) us' ac from⟨us,by rw[HKa.out];exact HOc.out,HZ.out⟩))).mono λv x ⟨us,hu,hz⟩=>(⟨us,rC (uA hu hA) hgrow (own_ne (uA hu hA) (uA HO3.out.1 hA) (by decide)),hz.mono λv x h=>(h.under hA).grown (uA HO3.out.1 hA) hgrow (by decide)⟩:∃ us,w9.ownsRow B 30 1 v x.length us/\Zip (OwnTm 96 w9) us x)));clear hown hgrow hnil hat hA hvb d5 f5 dl HK1 HK2 HK5;have d5:=HBg.out.cell 5;have f5:=HBg.out.free 5;have dl:=HBg.out.lt;have HC5:=aA ((Ch.refl (C:=λb=>b=db) w9).set (λ_=>rfl) 5 (.slice q5' (na+1) c5'));have hx:∀ b,b=db->∃ T cs,BoxAt w9 b T cs/\96≠T:=λb hb=>⟨37,_,hb▸HBg.out,by decide⟩
                 have HX:=aA hx;clear hx;go_wp2;go_roundw
                 case rel=>exact⟨k+1,j+1,_,acc++[ac],by have:=HKj.out;omega,by omega,by go_num,by rw[Qc,HNa.out];simp;have:=HAk.out;omega,HCs.out,dB HUg.out HC5.out (λb hb=>by have:=HEd.out;omega),dB HWg.out HC5.out (λb hb=>by have:=HEd.out;omega),HRg.out.other hnd 5 _,HBg.out.set 5 _,HNg.out.other hnn 5 _,iDA HTg.out HC5.out (λb hb=>by have:=HEd.out;omega),⟨_,by rw[Qc,HNa.out];exact iE HO'.out HC5.out (λg hg h=>by have:=(xB HO'.out hg).1;have:=HEd.out;omega),HZg.out.mono λ_ _ ⟨us,hu,hz⟩=>⟨us,iE hu HC5.out (λg hg h=>by have:=(xB hu hg).1;have:=HEd.out;omega),hz.mono λ_ _ h=>h.ch HC5.out HX.out⟩⟩⟩
                 case measure=>simp[intOf];have:=HKj.out;omega
       . obtain rfl:j=qs.length:=by omega
         have hlt':¬(k:Int) < (m:Int):=by have:=HM.out.1;omega
         have HPS:=aA (show RR = .ok ⟨3,lev,nm,[],[],acc⟩ by rw[HPS.out,HCs.out,List.drop_length];rfl);have HCo:=aA HD.out.con;obtain⟨vs3,ho3,hz3⟩:=HD.out.con;obtain⟨qv,cv,rfl,_⟩:=RowArg.of_own ho3;have HDc:=aA HD.out.dc;have z0:=HDc.out.cell 0;have z1:=HDc.out.cell 1;have z2:=HDc.out.cell 2;have z3:=HDc.out.cell 3;have z4:=HDc.out.cell 4;have z5:=HDc.out.cell 5;have zl:=HDc.out.lt;have HB:=aA HD.out.rb;have d0:=HB.out.cell 0;have d1:=HB.out.cell 1;have d2:=HB.out.cell 2;have d3:=HB.out.cell 3;have d4:=HB.out.cell 4;have d5:=HB.out.cell 5;have g0:=HB.out.free 0;have g1:=HB.out.free 1;have g2:=HB.out.free 2;have g3:=HB.out.free 3;have g4:=HB.out.free 4;have g5:=HB.out.free 5;have dl:=HB.out.lt;clear ho3 hz3 hkj;go_wp2;refine zI rfl rfl rfl rfl (wD HD.out.rb _ _ _ _ _ _) ?_;refine⟨dB HD.out.un (jE _ _ _ _ _ _ _ _) λb hb=>by have:=HS.out.low;omega,?_⟩;rw[HPS.out];have hx:∀ b,b=b0->∃ T cs,BoxAt wr b T cs/\96≠T:=λb hb=>⟨37,_,hb▸HD.out.rb,by decide⟩
         exact⟨_,rfl,_,_,_,B,rfl,kV 96 _,kV 96 _,by have:=HS.out.low;have:=HS.out.mid;have:=HS.out.top;have:=HS.out.end_;omega,HCo.out.keep (jE _ _ _ _ _ _ _ _) (λb hb=>by have:=HS.out.mid;have:=HS.out.top;have:=HS.out.end_;omega) hx⟩
end
def rYA(pl:Option Addr)(n cl b0 b off m pc db:Nat)(p:Int)(J:Nat->Value):Array Value:=#[.slice pl n cl,J 1,J 2,J 3,.pointer (some ⟨b0,0,none⟩),J 5,J 6,.int .i64 p,.slice (some ⟨b,off,none⟩) m pc,J 9,.pointer (some ⟨db,0,none⟩),J 11,J 12,J 13,J 14,J 15,J 16,J 17,J 18,J 19,J 20,J 21,J 22,J 23,J 24,J 25,J 26,J 27,J 28,J 29,J 30,J 31,J 32,J 33,J 34,J 35,J 36,J 37,J 38,J 39,J 40,J 41,J 42,J 43,J 44,J 45,J 46,J 47,J 48,J 49,J 50,J 51,J 52,J 53,J 54,J 55,J 56,J 57,J 58,J 59,J 60,J 61,J 62,J 63,J 64,J 65,J 66,J 67,J 68,J 69,J 70,J 71,J 72,J 73,J 74,J 75,J 76,J 77,J 78,J 79,J 80,J 81,J 82,J 83,J 84,J 85,J 86,J 87,J 88,J 89,J 90,J 91,J 92,J 93,J 94,J 95,J 96,J 97,J 98,J 99,J 100,J 101,J 102,J 103,J 104,J 105,J 106,J 107,J 108,J 109,J 110,J 111,J 112,J 113,J 114,J 115,J 116,J 117,J 118,J 119,J 120,J 121,J 122,J 123,J 124,J 125,J 126,J 127,J 128,J 129,J 130,J 131,J 132,J 133,J 134,J 135,J 136,J 137,J 138,J 139,J 140,J 141,J 142,J 143,J 144,J 145,J 146,J 147,J 148,J 149,J 150,J 151,J 152,J 153,J 154,J 155,J 156,J 157,J 158,J 159,J 160,J 161,J 162,J 163,J 164,J 165,J 166,J 167,J 168,J 169,J 170,J 171,J 172,J 173,J 174,J 175,J 176,J 177,J 178,J 179,J 180,J 181,J 182,J 183,J 184,J 185,J 186,J 187,J 188,J 189,J 190,J 191,J 192,J 193,J 194,J 195,J 196,J 197,J 198,J 199,J 200,J 201,J 202,J 203,J 204,J 205,J 206,J 207,J 208,J 209,J 210,J 211,J 212,J 213,J 214,J 215,J 216,J 217,J 218,J 219,J 220,J 221,J 222,J 223,J 224,J 225,J 226,J 227,J 228,J 229,J 230,J 231,J 232,J 233,J 234,J 235,J 236,J 237,J 238,J 239,J 240,J 241,J 242,J 243,J 244,J 245,J 246,J 247,J 248,J 249,J 250,J 251,J 252,J 253,J 254,J 255,J 256,J 257,J 258,J 259,J 260,J 261,J 262,J 263,J 264,J 265,J 266,J 267]
noncomputable def roMid:Code:=jA (jA (jA (jA (jA (jA (jA (jA (f18.body.getD .skip))))))))
theorem RmAt.under{w0 W:World}{cs ds:List ByteArray}{T:ST}(h:RmAt w0 cs ds T)(hU:Under w0 W):RmAt W cs ds T:=λw hW=>h w (hU.trans hW)
structure RmS (w0 W:World) (b0 db b off:Nat) (k:Int) (nm:ByteArray) (ls:List (List Sx)) (w:World):Prop where
 un:Under w0 w
 low:w0.heap.size<=b0
 mid:b0 < W.heap.size
 top:W.heap.size<=db
 uw:Under W w
 rb:BoxAt w b0 37 dcZ
 db:BoxAt w db 37 #[.int .i64 k,.int .i64 0,.string nm,.slice none 0 0,.slice none 0 0,.slice none 0 0]
 bl:b < W.heap.size
 pa:∀ i l,ls[i]? = some l->∃ q c,W.cell? ⟨b,off+i,none⟩=some (.slice q l.length c)/\l.length<=c/\SxArg W q l
def p5A(l:List Dc)(k:Int)(nm:ByteArray)(np p:Int)(q:List ST):lS:=if bN nm=false then .error (71,np) else if(bH nm l).isSome=true then .error (4,np) else if 40<=l.length then .error (21,p) else lL l k nm p q
section
variable {w0 W w : World}
theorem eAB{l:List Dc}{pl:Option Addr}{cl b0 db b off m pc:Nat}{p k:Int}{h n:ST}{q:List ST}(hS:RmS w0 W b0 db b off k n.last.word ((h::n::q).map qA) w)(hl:l.length<=100000)(hp:RowsV 6 DcRow w0 pl l)(hm:m=q.length+2)(hm9:m<=100000)(hk:(k=1/\m=4)∨(k=2/\m=3)∨(k=3/\3<=m))(hok:uI q)(hlen:∀ y∈n::q,(qA y).length<=20000)(hT:∀ t∈q,RmAt W (knC l) (knD l) t/\∀ q r,t = .list q r->∀ u∈r,RmAt W (knC l) (knD l++[n.last.word]) u)(J:Nat->Value) :
 roMid.wp prog (bodyPost prog f18 (zTA w0 (p5A l k n.last.word n.last.pos p q))) ⟨rYA pl l.length cl b0 b off m pc db p J,[]⟩ w:=by
 have HS:=aA hS;obtain⟨q1,c1,e0,e1,e2⟩:=hS.pa 1 (qA n) rfl;have hm2:(1:Int) < (m:Int):=by rcases hk with h|h|h<;>omega
 have HRo:=aA (λw (h:Under W w)=>cO (w0:=w) (cap:=c1) n (q:=q1) (by have:=hlen n (by simp);omega) (e2.under h));have HP1:=aA (And.intro e0 e1);have HRs:=aA (And.intro hm (And.intro hm9 (And.intro hk (And.intro hok (And.intro hlen hT)))));have HL:=aA (And.intro hl hp);have hll:(l.length:Int)<=100000:=by omega
 have hl0:(0:Int)<=(l.length:Int):=by omega
 have HPA:RowKit.Hid (p5A l k n.last.word n.last.pos p q=if bN n.last.word=false then .error (71,n.last.pos) else if(bH n.last.word l).isSome=true then .error (4,n.last.pos) else if 40<=l.length then .error (21,p) else lL l k n.last.word p q):=aA rfl;generalize p5A l k n.last.word n.last.pos p q=RR at *;have kd2:=hS.db.cell 2;have kdl:=hS.db.lt;have HFd:=aA (λw (h:Under w0 w)=>bVA (w0:=w) (c:=cl) l n.last.word hl (RowsV.under DcRow.mono hp h));have HKn:=aA (λw (h:Under w0 w)=>bRA (w0:=w) (c:=cl) l hl (RowsV.under DcRow.mono hp h));have HDn:=aA (vPA (w0:=w) n.last.word);have HF1:=λ(a b:Int) (s:ByteArray) (w:World)=>(show(Instr.field 29 (.agg #[.int .i64 a,.int .i64 b,.string s]) 1).run prog w = .ok (.int .i64 b) w by kernel_rfl)
 have hfr:f18.results=#[.cell 4 37,.tmp 5,.tmp 6]:=rfl;generalize hfn:f18=fn at hfr ⊢;have HFr:=aA hfr;have HFn:=aA hfn;clear hS e0 e1 e2 hm hm9 hk hok hlen hT hl hp hfr hfn;rw[show roMid = .seq (aB roMid) (.seq (aB (jA roMid)) (.seq (aB (jA (jA roMid))) (.seq (aB (jA (jA (jA roMid)))) (.seq (aB (jA (jA (jA (jA roMid))))) roRest)))) from rfl];generalize hC:roRest=c at *;have HC:=aA hC;clear hC;unfold roMid;simp only[f18,Qf,jA,aB];unfold rYA;go_wp2_with fail;refine HDn.out.mono ?_;rintro e w1 ⟨rfl,hU⟩;have HW1:=aA (HS.out.uw.trans hU);have HU1:=aA (HS.out.un.trans hU);have HRb:=aA (HS.out.rb.under hU);have HDb:=aA (HS.out.db.under hU);clear hU kd2 kdl HDn
 cases hdn:bN n.last.word with
 | false =>
   have HPS:=aA (show RR = .error (71,n.last.pos) by rw[HPA.out,if_pos hdn]);clear hdn HFd HKn HRs HPA;have p1':=(iA (HW1.out) HS.out.bl (off+1)).trans HP1.out.1;have hbl:=Qb HS.out.bl (HW1.out).size;have HQ:=aA (HRo.out _ (HW1.out));have HB:=aA (HRb.out);unfold dcZ at HB;clear HRo HP1;generalize n.last=nx at *;obtain⟨nxm,nxp,nxw⟩:=nx;simp only[sxV]at HQ;go_wp2_with fail;refine HQ.out.mono ?_;rintro e w9 ⟨rfl,hU9⟩;have HU9:=aA ((HU1.out).trans hU9);have HR9:=aA (HB.out.under hU9);clear hU9 p1' hbl HB;have HB:=HR9;have d0:=HB.out.cell 0;have d1:=HB.out.cell 1;have d2:=HB.out.cell 2;have d3:=HB.out.cell 3;have d4:=HB.out.cell 4;have d5:=HB.out.cell 5;have g0:=HB.out.free 0;have g1:=HB.out.free 1;have g2:=HB.out.free 2;have g3:=HB.out.free 3;have g4:=HB.out.free 4;have g5:=HB.out.free 5;have dl:=HB.out.lt;go_wp2;refine zI HFr.out rfl rfl rfl (wD HR9.out _ _ _ _ _ _) ?_;exact⟨dB HU9.out (jE _ _ _ _ _ _ _ _) λb hb=>by have:=HS.out.low;omega,by rw[HPS.out];rfl⟩
 | true =>
   have HPB:=aA (show RR=if(bH n.last.word l).isSome=true then .error (4,n.last.pos) else if 40<=l.length then .error (21,p) else lL l k n.last.word p q by rw[HPA.out,if_neg (by simp[hdn])]);clear hdn HPA;have kd2:=HDb.out.cell 2;have kdl:=HDb.out.lt;have HFd:=aA (HFd.out w1 HU1.out);go_wp2_with fail;refine HFd.out.mono ?_;rintro e w2 ⟨v,rfl,⟨vt,vb,vc,rfl,⟨p1,c1,rfl,_⟩,⟨p2,c2,rfl,_⟩,⟨p3,c3,us3,rfl,_⟩⟩,hU⟩;have HW2:=aA (HW1.out.trans hU);have HU2:=aA (HU1.out.trans hU);have HRb:=aA (HRb.out.under hU);have HDb:=aA (HDb.out.under hU);clear hU kd2 kdl HFd HW1 HU1;generalize hfd:(bH n.last.word l).getD qLA=fd at *;clear hfd;generalize fd.type.length=m1 at *;generalize fd.body.length=m2 at *;generalize fd.cons.length=m3 at *;have hA:=bA (Qu w2) (.cells #[.int .i64 fd.kind,.int .i64 fd.level,.string fd.name,.slice p1 m1 c1,.slice p2 m2 c2,.slice p3 m3 c3] 37);have HW3:=aA (HW2.out.trans hA);have HU3:=aA (HU2.out.trans hA);have HRb3:=aA (HRb.out.under hA);have HDb3:=aA (HDb.out.under hA);clear hA
   cases hfs:(bH n.last.word l).isSome with
   | true =>
     have HPS:=aA (show RR = .error (4,n.last.pos) by rw[HPB.out,if_pos hfs]);clear hfs HKn HRs HPB;have p1':=(iA (HW2.out) HS.out.bl (off+1)).trans HP1.out.1;have hbl:=Qb HS.out.bl (HW2.out).size;have HQ:=aA (HRo.out _ (HW3.out));have HB:=aA (HRb3.out);unfold dcZ at HB;clear HRo HP1;generalize n.last=nx at *;obtain⟨nxm,nxp,nxw⟩:=nx;simp only[sxV]at HQ;go_wp2_with fail;refine HQ.out.mono ?_;rintro e w9 ⟨rfl,hU9⟩;have HU9:=aA ((HU3.out).trans hU9);have HR9:=aA (HB.out.under hU9);clear hU9 p1' hbl HB;have HB:=HR9;have d0:=HB.out.cell 0;have d1:=HB.out.cell 1;have d2:=HB.out.cell 2;have d3:=HB.out.cell 3;have d4:=HB.out.cell 4;have d5:=HB.out.cell 5;have g0:=HB.out.free 0;have g1:=HB.out.free 1;have g2:=HB.out.free 2;have g3:=HB.out.free 3;have g4:=HB.out.free 4;have g5:=HB.out.free 5;have dl:=HB.out.lt;go_wp2;refine zI HFr.out rfl rfl rfl (wD HR9.out _ _ _ _ _ _) ?_;exact⟨dB HU9.out (jE _ _ _ _ _ _ _ _) λb hb=>by have:=HS.out.low;omega,by rw[HPS.out];rfl⟩
   | false =>
     have HPC:=aA (show RR=if 40<=l.length then .error (21,p) else lL l k n.last.word p q by rw[HPB.out,if_neg (by simp[hfs])]);clear hfs HPB;by_cases hl40:40<=l.length
     . have HPS:=aA (show RR = .error (21,p) by rw[HPC.out,if_pos hl40]);have hl40':(40:Int)<=(l.length:Int):=by omega
       have HB:=aA HRb.out;unfold dcZ at HB;clear hl40 HKn HRs HRo HP1 HPC;have d0:=HB.out.cell 0;have d1:=HB.out.cell 1;have d2:=HB.out.cell 2;have d3:=HB.out.cell 3;have d4:=HB.out.cell 4;have d5:=HB.out.cell 5;have g0:=HB.out.free 0;have g1:=HB.out.free 1;have g2:=HB.out.free 2;have g3:=HB.out.free 3;have g4:=HB.out.free 4;have g5:=HB.out.free 5;have dl:=HB.out.lt;go_wp2;refine zI HFr.out rfl rfl rfl ((wD HB.out _ _ _ _ _ _).alloc _) ?_;exact⟨bA (dB HU2.out (jE _ _ _ _ _ _ _ _) λb hb=>by have:=HS.out.low;omega) _,by rw[HPS.out];rfl⟩
     . have HPS:=aA (show RR=lL l k n.last.word p q by rw[HPC.out,if_neg hl40]);have hl40':¬(40:Int)<=(l.length:Int):=by omega
       clear hl40 HPC;have HKn:=aA (HKn.out _ HU3.out);go_wp2_with fail;refine HKn.out.mono ?_;rintro e w4 ⟨vk,vd,rfl,hTw,hU4⟩;obtain⟨qk,ck,rfl,_⟩:=RowArg.of_own hTw.one;obtain⟨qd,cd,rfl,_⟩:=RowArg.of_own hTw.two;have HTw:=aA hTw;have HU4:=aA hU4;clear hTw hU4;have hA:=bA (Qu w4) (.cells #[.slice qk (knC l).length ck,.slice qd (knD l).length cd] 91);have HRO:=aA (show RoS w0 W b0 db w4.heap.size (w2.alloc (.cells #[.int .i64 fd.kind,.int .i64 fd.level,.string fd.name,.slice p1 m1 c1,.slice p2 m2 c2,.slice p3 m3 c3] 37)).heap.size b off W.heap.size k n.last.word qk qd ck cd (knC l) (knD l) ((h::n::q).map qA) (w4.alloc (.cells #[.slice qk (knC l).length ck,.slice qd (knD l).length cd] 91)) from
         ⟨(HU3.out.trans HU4.out).trans hA,HS.out.low,HS.out.mid,HS.out.top,HDb3.out.lt,HU4.out.size,(HW3.out.trans HU4.out).trans hA,rfl,(HRb3.out.under HU4.out).under hA,(HDb3.out.under HU4.out).under hA,zA w4 _ _,⟨uA HTw.out.one hA,uA HTw.out.two hA,HTw.out.ne⟩,HS.out.bl,HS.out.pa⟩)
       clear hA HKn HRo HP1;go_wp2;obtain rfl:=HC.out;obtain rfl:=HFn.out;obtain⟨r1,r2,r3,r4,r5,r6⟩:=HRs.out;have HPS:=HPS.out;subst HPS;refine kU (F:=t1A pl l.length cl b0 b off m pc db w4.heap.size p) (by rfl) (λJ=>?_);obtain⟨a,qs,rfl⟩:∃ a qs,q=a::qs:=by
        cases q with
        | nil=>simp at r1;rcases r3 with h|h|h<;>omega
        | cons a qs=>exact⟨a,qs,rfl⟩
       rcases r3 with h3|h3|h3
       . exact gUA HRO.out (by simpa using r1) (.inl h3) (λt ht=>(r6 t ht).1) J
       . exact gUA HRO.out (by simpa using r1) (.inr h3) (λt ht=>(r6 t ht).1) J
       . obtain⟨rfl,_⟩:=h3;exact fAB HRO.out HL.out.1 (by simpa using r1) r2 r4.2 (λy hy=>r5 y (Qh _ hy)) (λy hy=>(r6 y (Qh _ hy)).2) J
end
end Go.Proofs.YtpkaiodmbicjiaaGreatDoor
