/- Part 19 of what the proof rests on. -/
import Derived.Lib.MinMax
import Derived.Conc.CompanyMem
import Derived.Conc.WalkWords
import Derived.Deep.DeepAppendWide
import Derived.Lib.SliceRun
import Derived.Laws.AppendOwnNone
import Derived.TacticsInMore
import Derived.LoopNIn
import Derived.LoopIn
import Derived.Shelf.Abstract
import Derived.Shelf.RegionOpen
import Derived.Deep.RegionHeld3
import Derived.Laws.ResultCell
import Derived.Test.YtpkaiodmbicjiaaGreatDoorM00
import Derived.Test.YtpkaiodmbicjiaaGreatDoorM05
import Derived.Test.YtpkaiodmbicjiaaGreatDoorM06
import Derived.Test.YtpkaiodmbicjiaaGreatDoorM08
import Derived.Test.YtpkaiodmbicjiaaGreatDoorM09
import Derived.Test.YtpkaiodmbicjiaaGreatDoorM11
import Derived.Test.YtpkaiodmbicjiaaGreatDoorM12
import Derived.Test.YtpkaiodmbicjiaaGreatDoorM13
import Derived.Test.YtpkaiodmbicjiaaGreatDoorM14
import Derived.Test.YtpkaiodmbicjiaaGreatDoorM18
set_option linter.unusedSimpArgs false
set_option linter.unusedVariables false
set_option maxRecDepth 100000
set_option maxHeartbeats 4000000
namespace Go.Proofs.YtpkaiodmbicjiaaGreatDoor
open Go.Proofs.Tryz
open Go.Lx Go.RowKit
theorem n6A{hw:ByteArray}{m:Nat}(h:cK (kI hw) m=true):((hw.toList==[100,101,102])=true/\kI hw=1/\(m:Int)=4)∨((hw.toList==[100,101,102])=false/\(hw.toList==[97,120,105,111,109])=true/\kI hw=2/\(m:Int)=3)∨((hw.toList==[100,101,102])=false/\(hw.toList==[97,120,105,111,109])=false/\(hw.toList==[105,110,100,117,99,116,105,118,101])=true/\kI hw=3/\3<=m/\¬(m:Int) < 3):=by
 cases e1:(hw.toList==[100,101,102])<;>cases e2:(hw.toList==[97,120,105,111,109])<;>cases e3:(hw.toList==[105,110,100,117,99,116,105,118,101])<;>simp[kI,e1,e2,e3,cK]at h ⊢ <;> omega
theorem o6A{hw:ByteArray}{m:Nat}(h:cK (kI hw) m=false):((hw.toList==[100,101,102])=true/\(m:Int)≠4)∨((hw.toList==[100,101,102])=false/\(hw.toList==[97,120,105,111,109])=true/\(m:Int)≠3)∨((hw.toList==[100,101,102])=false/\(hw.toList==[97,120,105,111,109])=false/\(hw.toList==[105,110,100,117,99,116,105,118,101])=true/\(m:Int) < 3)∨((hw.toList==[100,101,102])=false/\(hw.toList==[97,120,105,111,109])=false/\(hw.toList==[105,110,100,117,99,116,105,118,101])=false):=by
 cases e1:(hw.toList==[100,101,102])<;>cases e2:(hw.toList==[97,120,105,111,109])<;>cases e3:(hw.toList==[105,110,100,117,99,116,105,118,101])<;>simp[kI,e1,e2,e3,cK]at h ⊢ <;> omega
noncomputable def aT:Code:=f18.body.getD .skip
noncomputable def vYA(c:Code):Code:=.seq (aB aT) (.seq (aB (jA aT)) (.seq (aB (jA (jA aT))) (.seq (aB (jA (jA (jA aT)))) (.seq (aB (jA (jA (jA (jA aT))))) (.seq (aB (jA (jA (jA (jA (jA aT)))))) (.seq (aB (jA (jA (jA (jA (jA (jA aT))))))) (.seq (aB (jA (jA (jA (jA (jA (jA (jA aT)))))))) c)))))))
section
variable {w0 : World}
theorem k1A{l:List Dc}{pl q:Option Addr}{cl cap:Nat}{T:ST}(hl:l.length<=100000)(hp:RowsV 6 DcRow w0 pl l)(hq:SxArg w0 q (qA T))(hcap:(qA T).length<=cap)(hn:(qA T).length<=20000)(hok:okS T)
    (hT:∀ p ts,T = .list p ts->ts.length<=100000/\(∀ t∈ts,t.last.word.size<=1000000)/\∀ t∈ts,RmAt w0 (knC l) (knD l) t/\∀ nm:ByteArray,nm.size<=1000000->∀ q r,t = .list q r->∀ u∈r,RmAt w0 (knC l) (knD l++[nm]) u) :
    Calls prog 18 #[.slice pl l.length cl,.slice q (qA T).length cap] w0 (zTA w0 (gL l T)):=by
  have HRt:=aA (λw (h:Under w0 w)=>cO (w0:=w) (cap:=cap) T (q:=q) (by omega) (hq.under h));have HPt:=aA (λw (h:Under w0 w)=>qZ (w0:=w) (cap:=cap) (qA T) (p:=q) (by omega) hcap (hq.under h));have HX:=aA (And.intro hp (And.intro hok hT));have HN:=aA hn;have HL:=aA hl;have HF1:=λ(a b:Int) (s:ByteArray) (w:World)=>(show(Instr.field 29 (.agg #[.int .i64 a,.int .i64 b,.string s]) 1).run prog w = .ok (.int .i64 b) w by kernel_rfl)
  have HF2:=λ(a b:Int) (s:ByteArray) (w:World)=>(show(Instr.field 29 (.agg #[.int .i64 a,.int .i64 b,.string s]) 2).run prog w = .ok (.string s) w by kernel_rfl)
  have HU0:=aA (bA (Qu w0) (.cells dcZ 37));have HB0:=aA (zA w0 dcZ 37);clear hp hq hcap hn hok hT;refine calls_of_wp func18 (c:=vYA roMid) rfl ?_;generalize hC:roMid=c at *;have HC:=aA hC;clear hC;unfold vYA aT;simp only[ntmps18,f18,Qf,jA,aB,List.size_toArray,Qk,List.length_nil,Nat.reduceAdd,Nat.reduceSub,Array.replicate_succ,Array.replicate_zero,List.push_toArray,List.append_toArray,List.nil_append,List.cons_append];go_wp2_with fail;refine(HRt.out _ HU0.out).mono ?_;rintro e w1 ⟨rfl,hU1⟩;have HU1:=aA (HU0.out.trans hU1);have HB1:=aA (HB0.out.under hU1);have HP1:=aA (HPt.out _ HU1.out);clear hU1 HRt HU0 HB0 HPt;unfold dcZ at HB1
  cases T with
  | word p s =>
    have hok:s.size≠0:=HX.out.2.1;rw[zS hok]at HP1;have HPS:RowKit.Hid (gL l (.word p s) = .error (71,p)):=aA rfl;generalize gL l (.word p s)=RR at *;simp only[sxV,ST.last];go_wp2_with fail;refine HP1.out.mono ?_;rintro e w2 ⟨q2,c2,rfl,_,hU2⟩;simp only[Option.getD_none,Option.isSome_none,List.length_nil];have HU2:=aA (HU1.out.trans hU2);have HB:=aA (HB1.out.under hU2);have d0:=HB.out.cell 0;have d1:=HB.out.cell 1;have d2:=HB.out.cell 2;have d3:=HB.out.cell 3;have d4:=HB.out.cell 4;have d5:=HB.out.cell 5;have g0:=HB.out.free 0;have g1:=HB.out.free 1;have g2:=HB.out.free 2;have g3:=HB.out.free 3;have g4:=HB.out.free 4;have g5:=HB.out.free 5;have dl:=HB.out.lt;clear hU2;go_wp2;refine zI rfl rfl rfl rfl (wD HB.out _ _ _ _ _ _) ?_;exact⟨dB HU2.out (jE _ _ _ _ _ _ _ _) λb hb=>by omega,by rw[HPS.out];rfl⟩
  | list p ts =>
    have hok1:uI ts:=HX.out.2.1;rw[xL hok1]at HP1;have hxp:(ST.list p ts).last=⟨ts.length,p,⟨#[]⟩⟩:=rfl;rw[hxp];simp only[sxV];clear hxp
    cases ts with
    | nil =>
      have HPS:RowKit.Hid (gL l (.list p []) = .error (71,p)):=aA rfl;generalize gL l (.list p [])=RR at *;go_wp2_with fail;refine HP1.out.mono ?_;rintro e w2 ⟨q2,c2,rfl,_,hU2⟩;simp only[Qf,Option.isSome_some,List.map_nil,List.length_nil];have HU2:=aA (HU1.out.trans hU2);have HB:=aA (HB1.out.under hU2);have d0:=HB.out.cell 0;have d1:=HB.out.cell 1;have d2:=HB.out.cell 2;have d3:=HB.out.cell 3;have d4:=HB.out.cell 4;have d5:=HB.out.cell 5;have g0:=HB.out.free 0;have g1:=HB.out.free 1;have g2:=HB.out.free 2;have g3:=HB.out.free 3;have g4:=HB.out.free 4;have g5:=HB.out.free 5;have dl:=HB.out.lt;clear hU2;go_wp2;refine zI rfl rfl rfl rfl (wD HB.out _ _ _ _ _ _) ?_;exact⟨dB HU2.out (jE _ _ _ _ _ _ _ _) λb hb=>by omega,by rw[HPS.out];rfl⟩
    | cons h r =>
      go_wp2_with fail;refine HP1.out.mono ?_;rintro e w2 ⟨q2,c2,rfl,hrows,hU2⟩;simp only[Qf,Option.isSome_some]at hrows ⊢;obtain⟨b,off,rfl,hb,hpa⟩:=hrows (by simp);have hm1:(List.map qA (h::r)).length=r.length+1:=by simp
      rw[hm1];obtain⟨q0,c0,a0,ac0,aq0⟩:=hpa 0 (qA h) rfl;rw[Nat.add_zero]at a0;have HPa:=aA hpa;have HU2:=aA (HU1.out.trans hU2);have HB2:=aA (HB1.out.under hU2);have HQ0:=aA (λw (hU:Under w2 w)=>cO (w0:=w) (cap:=c0) h (q:=q0) (by have:=eG (p:=p) (t:=h) (ts:=h::r) (by simp);have:=HN.out;omega) (aq0.under hU));have hts0:(0:Int) < ((r.length+1:Nat):Int):=by omega
      have hts1:((r.length+1:Nat):Int)≠0:=by omega
      generalize hmm:r.length+1=m at *;clear hU2 HP1 hrows hpa ac0 aq0 hm1 HU1 HB1;go_wp2_with fail;refine(HQ0.out _ (bA (Qu w2) (.cells #[.int .i64 0,.int .i64 0,.string ⟨#[]⟩,.slice none 0 0,.slice none 0 0,.slice none 0 0] 37))).mono ?_;rintro e w3 ⟨rfl,hU3⟩;have HU3:=aA ((bA (Qu w2) (.cells #[.int .i64 0,.int .i64 0,.string ⟨#[]⟩,.slice none 0 0,.slice none 0 0,.slice none 0 0] 37)).trans hU3);have HD3:=aA ((zA w2 #[.int .i64 0,.int .i64 0,.string ⟨#[]⟩,.slice none 0 0,.slice none 0 0,.slice none 0 0] 37).under hU3);have HB3:=aA (HB2.out.under HU3.out);clear hU3 HQ0 a0
      cases hmo:cK (kI h.last.word) m with
      | false =>
        have HPS:RowKit.Hid (gL l (.list p (h::r)) = .error (71,p)):=aA (by show(if cK (kI h.last.word) (r.length+1)=false then _ else _)=_;rw[hmm,hmo];rfl);generalize gL l (.list p (h::r))=RR at *;generalize h.last=hx at *;obtain⟨hxk,hxq,hw⟩:=hx;simp only[sxV];rcases o6A hmo with⟨e1,hm4⟩|⟨e1,e2,hm4⟩|⟨e1,e2,e3,hm4⟩|⟨e1,e2,e3⟩
        rotate_left 3
        . have kd0:=HD3.out.cell 0;have kdl:=HD3.out.lt;have HB:=HB3;have d0:=HB.out.cell 0;have d1:=HB.out.cell 1;have d2:=HB.out.cell 2;have d3:=HB.out.cell 3;have d4:=HB.out.cell 4;have d5:=HB.out.cell 5;have g0:=HB.out.free 0;have g1:=HB.out.free 1;have g2:=HB.out.free 2;have g3:=HB.out.free 3;have g4:=HB.out.free 4;have g5:=HB.out.free 5;have dl:=HB.out.lt;go_wp2;refine zI rfl rfl rfl rfl (wD HB3.out _ _ _ _ _ _) ?_;exact⟨dB (HU2.out.trans HU3.out) (jE _ _ _ _ _ _ _ _) λb hb=>by omega,by rw[HPS.out];rfl⟩
        all_goals
         have kd0:=HD3.out.cell 0;have kf0:=HD3.out.free 0;have kdl:=HD3.out.lt;have HBk:=aA (λk:Int=>HB3.out.other (show w0.heap.size≠w2.heap.size by have:=HB2.out.lt;omega) 0 (.int .i64 k));have HUk:=aA (λk:Int=>nA (HU2.out.trans HU3.out) (show w0.heap.size<=w2.heap.size from HU2.out.size) 0 (.int .i64 k));have hnb:w0.heap.size≠w2.heap.size:=by have:=HB2.out.lt;omega
         have HB:=HB3;have d0:=HB.out.cell 0;have d1:=HB.out.cell 1;have d2:=HB.out.cell 2;have d3:=HB.out.cell 3;have d4:=HB.out.cell 4;have d5:=HB.out.cell 5;have g0:=HB.out.free 0;have g1:=HB.out.free 1;have g2:=HB.out.free 2;have g3:=HB.out.free 3;have g4:=HB.out.free 4;have g5:=HB.out.free 5;have dl:=HB.out.lt;go_wp2;refine zI rfl rfl rfl rfl (wD (HBk.out _) _ _ _ _ _ _) ?_;exact⟨dB (HUk.out _) (jE _ _ _ _ _ _ _ _) λb hb=>by omega,by rw[HPS.out];rfl⟩
      | true =>
        have HPS:RowKit.Hid (∀ n qs,r=n::qs->gL l (.list p (h::r))=p5A l (kI h.last.word) n.last.word n.last.pos p qs):=aA (by
          rintro n qs rfl
          show(if cK (kI h.last.word) ((n::qs).length+1)=false then _ else _)=_
          rw[hmm,hmo];rfl)
        generalize gL l (.list p (h::r))=RR at *;generalize h.last=hx at *;obtain⟨hxk,hxq,hw⟩:=hx;simp only[sxV];rcases n6A hmo with⟨e1,hkw,hm4⟩|⟨e1,e2,hkw,hm4⟩|⟨e1,e2,e3,hkw,hm4,hm3⟩
        all_goals
         simp only[hkw]at HPS;clear hmo;have kd0:=HD3.out.cell 0;have kf0:=HD3.out.free 0;have kdl:=HD3.out.lt;obtain⟨n,qs,rfl⟩:∃ n qs,r=n::qs:=by
          cases r with
          | nil=>simp at hmm;omega
          | cons n qs=>exact⟨n,qs,rfl⟩
         obtain⟨q1,c1,a1,ac1,aq1⟩:=HPa.out 1 (qA n) rfl;have hne:b≠w2.heap.size:=by omega
         have hne0:w0.heap.size≠w2.heap.size:=by have:=HB2.out.lt;omega
         have hb3:=Qb hb HU3.out.size;have a1':=(iA HU3.out hb (off+1)).trans a1;have hm2:(1:Int) < (m:Int):=by omega
         have HD4:=aA (λk:Int=>show BoxAt (w3.setCell ⟨w2.heap.size,0,none⟩ (.int .i64 k)) w2.heap.size 37 #[.int .i64 k,.int .i64 0,.string ⟨#[]⟩,.slice none 0 0,.slice none 0 0,.slice none 0 0] from HD3.out.set 0 _);have HB4:=aA (λk:Int=>HB3.out.other hne0 0 (.int .i64 k));have HW4:=aA (λk:Int=>nA HU3.out (Qd _) 0 (.int .i64 k));have HRo:=aA (λk:Int=>cO (w0:=w3.setCell ⟨w2.heap.size,0,none⟩ (.int .i64 k)) (cap:=c1) n (q:=q1) (by have:=eG (p:=p) (t:=n) (ts:=h::n::qs) (by simp);have:=HN.out;omega) (aq1.under (HW4.out k)));clear a1 ac1 aq1;go_wp2_with fail;refine(HRo.out _).mono ?_;rintro e w5 ⟨rfl,hU5⟩;have HD5:=aA ((HD4.out _).under hU5);have HB5:=aA ((HB4.out _).under hU5);have HW5:=aA ((HW4.out _).trans hU5);have kf2:=HD5.out.free 2;have kd2:=HD5.out.cell 2;have kdl5:=HD5.out.lt;clear hU5 kd0 kf0 kdl a1' hb3 HRo HD4 HB4 HW4 HB3 HD3;generalize hnx:n.last=nx at *;obtain⟨nxm,nxp,nxw⟩:=nx;simp only[sxV];go_wp2;have hnw:n.last.word=nxw:=by rw[hnx]
         have hnp:n.last.pos=nxp:=by rw[hnx]
         subst hnw hnp;clear hnx;obtain⟨hp,hok,hT⟩:=HX.out;obtain⟨t1,t2,t3⟩:=hT p _ rfl;obtain rfl:=HC.out;rw[HPS.out _ _ rfl];exact kU (F:=rYA pl l.length cl w0.heap.size b off m c2 w2.heap.size p) (by rfl) (λJ=>eAB ⟨HU2.out.trans (nA HW5.out (Qd _) _ _),Qd _,HB2.out.lt,Qd _,nA HW5.out (Qd _) _ _,HB5.out.other hne0 _ _,HD5.out.set 2 _,hb,HPa.out⟩ HL.out hp (by simp at hmm;omega) (by simp at t1 hmm;omega) (by first|exact .inl ⟨rfl,by omega⟩|exact .inr (.inl ⟨rfl,by omega⟩)|exact .inr (.inr ⟨rfl,hm4⟩)) hok.2.2 (λy hy=>by have:=eG (p:=p) (t:=y) (ts:=h::n::qs) (Qh _ hy);have:=HN.out;omega) (λy hy=>⟨((t3 y (by simp[hy])).1).under HU2.out,λq0 r0 e u hu=>((t3 y (by simp[hy])).2 n.last.word (t2 n (by simp)) q0 r0 e u hu).under HU2.out⟩) J)
end
section
variable {w0 : World}
theorem zYA{pl q:Option Addr}{n cl cap:Nat}{row:List Sx}(hq:SxArg w0 q row)(hcap:row.length<=cap)(hn:row.length<=1000000)(hb:∀ ls,qC row=some ls->ls.length≠1) :
 Calls prog 7 #[.slice pl n cl,.slice q row.length cap] w0 (OnOut w0 (.error (71,0))):=by
 have HI:=aA (λw (h:Under w0 w)=>sJ (w0:=w) (cap:=cap) (p:=q) row hn hcap (hq.under h));have HBd:=aA hb;clear hq hcap hn hb;generalize qC row=R at *;have HU0:=aA (bA (Qu w0) (.cells dcZ 37));have HB0:=aA (zA w0 dcZ 37);go_enter func7,ntmps7;go_wp2_with fail;refine(HI.out _ HU0.out).mono ?_;rintro e w1 ⟨q1,c1,rfl,_,hU1⟩;have HU:=aA (HU0.out.trans hU1);have HB:=aA (HB0.out.under hU1);clear hU1 HI HU0 HB0;unfold dcZ at HB;have d0:=HB.out.cell 0;have d1:=HB.out.cell 1;have d2:=HB.out.cell 2;have d3:=HB.out.cell 3;have d4:=HB.out.cell 4;have d5:=HB.out.cell 5;have g0:=HB.out.free 0;have g1:=HB.out.free 1;have g2:=HB.out.free 2;have g3:=HB.out.free 3;have g4:=HB.out.free 4;have g5:=HB.out.free 5;have dl:=HB.out.lt
 cases R with
 | none =>
   simp only[Option.getD_none,Option.isSome_none,List.length_nil];go_wp2;refine zI rfl rfl rfl rfl (wD HB.out _ _ _ _ _ _) ?_;exact⟨dB HU.out (jE _ _ _ _ _ _ _ _) λb hb=>by omega,rfl⟩
 | some ls =>
   have hne:=HBd.out ls rfl;have h1':(ls.length:Int)≠1:=by omega
   simp only[Qf,Option.isSome_some];clear hne;go_wp2;refine zI rfl rfl rfl rfl (wD HB.out _ _ _ _ _ _) ?_;exact⟨dB HU.out (jE _ _ _ _ _ _ _ _) λb hb=>by omega,rfl⟩
theorem oUA{l:List Dc}{pl q:Option Addr}{cl cap:Nat}{T:ST}(hl:l.length<=100000)(hp:RowsV 6 DcRow w0 pl l)(hq:SxArg w0 q (qA T))(hcap:(qA T).length<=cap)(hn:(qA T).length<=20000)(hok:okS T)
    (hT:∀ p ts,T = .list p ts->ts.length<=100000/\(∀ t∈ts,t.last.word.size<=1000000)/\∀ t∈ts,RmAt w0 (knC l) (knD l) t/\∀ nm:ByteArray,nm.size<=1000000->∀ q r,t = .list q r->∀ u∈r,RmAt w0 (knC l) (knD l++[nm]) u) :
    Calls prog 7 #[.slice pl l.length cl,.slice q (qA T).length cap] w0 (OnOut w0 (gL l T)):=by
  have HI:=aA (λw (h:Under w0 w)=>sJ (w0:=w) (cap:=cap) (p:=q) (qA T) (by omega) hcap (hq.under h));have hit:qC (qA T)=some [qA T]:=by
   have:=gF (ts:=[T]) ⟨hok,trivial⟩
   simpa [rA] using this
  rw[hit]at HI;have HO:=aA (λw (h:Under w0 w)=>k1A (w0:=w) (l:=l) (pl:=pl) (q:=q) (cl:=cl) (cap:=cap) (T:=T) hl (RowsV.under DcRow.mono hp h) (hq.under h) hcap hn hok (λp ts e=>by
    obtain⟨t1,t2,t3⟩:=hT p ts e;exact⟨t1,t2,λt ht=>⟨(t3 t ht).1.under h,λnm hnm q r e u hu=>((t3 t ht).2 nm hnm q r e u hu).under h⟩⟩))
  clear hl hp hq hcap hn hok hT hit;generalize gL l T=RR at *;generalize l.length=nl at *;generalize (qA T).length=nT at *;have HU0:=aA (bA (Qu w0) (.cells dcZ 37));have HB0:=aA (zA w0 dcZ 37);go_enter func7,ntmps7;go_wp2_with fail;refine(HI.out _ HU0.out).mono ?_;rintro e w1 ⟨q1,c1,rfl,_,hU1⟩;have HU1:=aA (HU0.out.trans hU1);have HB1:=aA (HB0.out.under hU1);have HO:=aA (HO.out _ HU1.out);clear hU1 HI HU0 HB0;unfold dcZ at HB1;simp only[Qf,Option.isSome_some,Qk,List.length_nil];go_wp2_with fail;refine HO.out.mono ?_;rintro e w2 ⟨hU2,h⟩;have HU:=aA (HU1.out.trans hU2);have HB:=aA (HB1.out.under hU2);have HLt:=aA HB1.out.lt;clear hU2 HU1 HB1 HO;have d0:=HB.out.cell 0;have d1:=HB.out.cell 1;have d2:=HB.out.cell 2;have d3:=HB.out.cell 3;have d4:=HB.out.cell 4;have d5:=HB.out.cell 5;have g0:=HB.out.free 0;have g1:=HB.out.free 1;have g2:=HB.out.free 2;have g3:=HB.out.free 3;have g4:=HB.out.free 4;have g5:=HB.out.free 5;have dl:=HB.out.lt
  cases RR with
  | error x =>
    obtain rfl:=h;unfold dcZ;go_wp2;refine zI rfl rfl rfl rfl (wD HB.out _ _ _ _ _ _) ?_;exact⟨dB HU.out (jE _ _ _ _ _ _ _ _) λb hb=>by omega,rfl⟩
  | ok d =>
    obtain⟨v,rfl,vt,vb,vc,B,rfl,ht,hb,hB,hc⟩:=h;have HV:=aA (λ(w':World) (h:Ch (λg=>g=w0.heap.size) w2 w')=>(show TermV w' vt d.type/\TermV w' vb d.body/\ConsV w' vc d.cons from by
      have hx:∀ b,b=w0.heap.size->∃ T cs,BoxAt w2 b T cs/\96≠T:=λb e=>⟨37,_,e▸HB.out,by decide⟩
      exact⟨(ht.ch h hx).val,(hb.ch h hx).val,(hc.keep h (λb e=>by have:=HLt.out;omega) hx).val⟩))
    obtain⟨p1,e1,rfl,_⟩:=ht.val;obtain⟨p2,e2,rfl,_⟩:=hb.val;obtain⟨p3,e3,us3,rfl,_⟩:=hc.val;clear ht hb hc hB;go_wp2;refine zI rfl rfl rfl rfl (wD HB.out _ _ _ _ _ _) ?_;exact⟨dB HU.out (jE _ _ _ _ _ _ _ _) λb hb=>by omega,⟨_,rfl,_,_,_,rfl,HV.out _ (jE _ _ _ _ _ _ _ _)⟩⟩
end
theorem p1A{W:World}{cs ds:List ByteArray}{T:ST}(hok:okS T)(hn:(qA T).length<=20000)(hw:∀ x∈qA T,x.word.size<=1000000)(hE:StrcAt W)(hS:ShapesAt 2 W)(hcn:cs.length<=1000000)(hdn:ds.length<=1000000):iCA W cs ds T :=
 λw hU q c hc hq v1 v2 d1 d2 h1 h2=>j3A T (kWA T) cs ds hok hn hc hq hw (hE.under hU) (hS.under hU) h1 h2 hcn hdn
section
variable {w0 : World}
def gCB(w0:World)(t:List Nd)(n i:Value)(wr:World):Prop:=w0=wr/\∃(k:Nat) (z:Int),k<=t.length/\i = .int .i64 (k:Int)/\n = .int .i64 z/\0<=z/\z<=1049600/\(z<=2048->t.length<=2048)
theorem rCA(t:List Nd){v:Value}(hn:t.length<=maxLen)(hv:TermV w0 v t):Calls prog 20 #[v] w0 λe w=>w=w0/\∃ z:Int,e = .returned (.int .i64 z)/\0<=z/\z<=1049600/\(z<=2048->t.length<=2048):=by
 obtain⟨p,c,rfl,hc,h0,hr⟩:=hv;have HR:=aA hr;have hn9:(t.length:Int)<=9223372036854775807:=by simp only[maxLen]at hn;omega
 have hl0:(0:Int)<=(t.length:Int):=by omega
 clear hr hn hc h0;go_enter func20,ntmps20;go_wp2;go_loopw [3,4] (λn i wr=>gCB w0 t n i wr) (λ_ i _=>t.length - (intOf i).toNat)
 case atStart=>exact⟨rfl,0,_,Nat.zero_le _,rfl,rfl,by omega,by omega,by omega⟩
 case round =>
   obtain⟨rfl,k,z,hk,rfl,rfl,hz0,hz1,hz2⟩:=hrel;have hk0:(0:Int)<=(k:Int):=by omega
   by_cases hlt:k < t.length
   . have hlt':(k:Int) < (t.length:Int):=by omega
     by_cases hz:z<=8192
     . obtain⟨b,off,rfl,hb,hcs⟩:=HR.out (λe=>by rw[eBA e]at hlt;exact absurd hlt (by simp));have cc:=hcs _ _ (dX (Qa hlt)).2.2.2;rw[<- Nat.add_assoc]at cc;generalize t[k]=x at *;have hx0:(0:Int)<=(x.s.size:Int):=by omega
       clear hcs;go_wp2;go_roundw
       case rel=>exact⟨rfl,k+1,_,by omega,by go_num,rfl,by omega,by omega,by omega⟩
       case measure=>simp[intOf];omega
     . have hz':8192 < z:=by omega
       clear hz;go_wp2;go_ret;exact⟨rfl,_,rfl,hz0,hz1,hz2⟩
   . have hlt':¬(k:Int) < (t.length:Int):=by omega
     go_wp2;go_ret;exact⟨rfl,_,rfl,hz0,hz1,hz2⟩
def tIA:List (List (List Nd))->Nat
  | []=>0
  | c::l=>min c.length 1024+tIA l
theorem wVA{l:List (List (List Nd))}{k:Nat}(h:k < l.length):tIA (l.take (k+1))=tIA (l.take k)+min l[k].length 1024:=by
 induction l generalizing k with
 | nil=>simp at h
 | cons c l ih =>
   cases k with
   | zero=>simp[tIA]
   | succ k =>
     have:=ih (k:=k) (by simpa using h);simp only[List.take_succ_cons,tIA,List.getElem_cons_succ];omega
structure WB (d:Dc):Prop where
 type:d.type.length<=2048
 body:d.body.length<=2048
 caps:tIA d.cons<=2047
 terms:∀ c∈d.cons,∀ t∈c,t.length<=2048
def WtF(d:Dc)(k:Nat)(z:Int):Prop:=1<=z/\z<=3000000/\(z<=2048->d.type.length<=2048/\d.body.length<=2048/\(tIA (d.cons.take k):Int) < z/\∀ c∈d.cons.take k,∀ t∈c,t.length<=2048)
def WtI(d:Dc)(k:Nat)(c:List (List Nd))(j:Nat)(z:Int):Prop:=1<=z/\z<=3000000/\(z<=2048->d.type.length<=2048/\d.body.length<=2048/\(tIA (d.cons.take k):Int)+min (c.length:Int) 1024 < z/\(∀ c∈d.cons.take k,∀ t∈c,t.length<=2048)/\∀ t∈c.take j,t.length<=2048)
theorem nM{α:Type}{l:List α}{k:Nat}(h:k < l.length){x:α}(hx:x∈l.take (k+1)):x∈l.take k∨x=l[k]:=by
 rw[Qj h,List.mem_append,List.mem_singleton]at hx;exact hx
theorem WtF.out{d:Dc}{k:Nat}{z:Int}(h:WtF d k z)(hk:k=d.cons.length∨2048 < z):z<=2048->WB d:=by
 intro hz;obtain⟨_,_,h3⟩:=h;obtain⟨a,b,c,e⟩:=h3 hz;obtain rfl:k=d.cons.length:=by omega
 rw[List.take_length]at c e;exact⟨a,b,by omega,e⟩
theorem WtF.go{d:Dc}{k:Nat}{z:Int}(h:WtF d k z)(hz:z<=2048)(hk:k < d.cons.length):WtI d k d.cons[k] 0 (z+min (d.cons[k].length:Int) 1024):=by
 obtain⟨h1,h2,h3⟩:=h;obtain⟨a,b,c,e⟩:=h3 hz;exact⟨by omega,by omega,λ_=>⟨a,b,by omega,e,λt ht=>by simp at ht⟩⟩
theorem WtI.out{d:Dc}{k j:Nat}{z:Int}(hk:k < d.cons.length)(h:WtI d k d.cons[k] j z)(hj:j=d.cons[k].length∨2048 < z):WtF d (k+1) z:=by
 obtain⟨h1,h2,h3⟩:=h;refine⟨h1,h2,λhz=>?_⟩;obtain⟨a,b,c,e,f⟩:=h3 hz;obtain rfl:j=d.cons[k].length:=by omega
 rw[List.take_length]at f;refine⟨a,b,by rw[wVA hk];omega,λx hx=>?_⟩;rcases nM hk hx with hx|rfl
 . exact e x hx
 . exact f
theorem WtI.go{d:Dc}{k j:Nat}{c:List (List Nd)}{z y:Int}(h:WtI d k c j z)(hz:z<=2048)(hj:j < c.length)(hy0:0<=y)(hy1:y<=1049600)(hy:y<=2048->c[j].length<=2048):WtI d k c (j+1) (z+y):=by
 obtain⟨h1,h2,h3⟩:=h;obtain⟨a,b,cc,e,f⟩:=h3 hz;refine⟨by omega,by omega,λhzy=>⟨a,b,by omega,e,λt ht=>?_⟩⟩;rcases nM hj ht with ht|rfl
 . exact f t ht
 . exact hy (by omega)
def dAB(db:Nat)(z:Int)(J:Nat->Value):Array Value:=#[J 0,.pointer (some ⟨db,0,none⟩),.int .i64 0,.int .i64 z,J 4,J 5,J 6,J 7,J 8,J 9,J 10,J 11,J 12,J 13,J 14,J 15,J 16,J 17,J 18,J 19,J 20,J 21,J 22,J 23,J 24,J 25,J 26,J 27,J 28,J 29,J 30,J 31,J 32,J 33,J 34,J 35,J 36,J 37,J 38,J 39,J 40,J 41,J 42,J 43,J 44,J 45,J 46,J 47,J 48,J 49,J 50,J 51,J 52,J 53,J 54,J 55,J 56,J 57,J 58,J 59,J 60,J 61,J 62,J 63,J 64,J 65,J 66,J 67,J 68,J 69]
def WtQ(w1:World)(db:Nat)(d:Dc)(e:Exit)(a':Act)(w':World):Prop:=e = .normal/\∃ z,WtF d 0 z/\(∃ J,a'=⟨dAB db z J,[]⟩)/\Under w1 w'
theorem qPA(d:Dc){v:Value}(hs:SzD d)(hv:DcV w0 v d):Calls prog 11 #[v] w0 λe w=>Under w0 w/\∃ z:Int,e = .returned (.int .i64 z)/\1<=z/\z<=3000000/\(z<=2048->WB d):=by
 obtain⟨vt,vb,vc,rfl,ht,hb,hc⟩:=hv;have HT:=aA (λw (h:Under w0 w)=>rCA (w0:=w) d.type hs.type.1 (TermV.mono _ _ _ _ h ht));have HB:=aA (λw (h:Under w0 w)=>rCA (w0:=w) d.body hs.body.1 (TermV.mono _ _ _ _ h hb));have HS:=aA hs;obtain⟨pt,ct,rfl,_⟩:=ht;obtain⟨pb,cb,rfl,_⟩:=hb;obtain⟨pc,cc,us,rfl,_,_,hrc,hzc⟩:=hc;have HRc:=aA hrc;have HZc:=aA hzc;have hn9:(d.name.size:Int)<=9223372036854775807:=by have:=hs.name;simp only[maxLen]at this;omega
 have hn0:(0:Int)<=(d.name.size:Int):=by omega
 have hc9:(d.cons.length:Int)<=5864062014634:=by have:=hs.cons;omega
 have hc0:(0:Int)<=(d.cons.length:Int):=by omega
 have HX:=aA (zA w0 #[.int .i64 d.kind,.int .i64 d.level,.string d.name,.slice pt d.type.length ct,.slice pb d.body.length cb,.slice pc d.cons.length cc] 33);have HU:=aA (bA (Qu w0) (.cells #[.int .i64 d.kind,.int .i64 d.level,.string d.name,.slice pt d.type.length ct,.slice pb d.body.length cb,.slice pc d.cons.length cc] 33));clear hrc hzc hs;go_enter func11,ntmps11;go_wp2;rename_i K0 hK0;obtain⟨w1,hw1⟩:∃ w1,w1=w0.alloc (.cells #[.int .i64 d.kind,.int .i64 d.level,.string d.name,.slice pt d.type.length ct,.slice pb d.body.length cb,.slice pc d.cons.length cc] 33):=⟨_,rfl⟩;rw[<- hw1]at HX HU ⊢;clear hw1;refine wp_mono (Q:=WtQ w1 w0.heap.size d) ?_ ?_
 . clear hK0;have c2:=HX.out.cell 2;have c3:=HX.out.cell 3;have c4:=HX.out.cell 4;have c5:=HX.out.cell 5;have cl:=HX.out.lt;refine wp_region_noPanic ?_;refine wp_region_held_drew (S:=λw'=>w'.cell? ⟨w0.heap.size,2,none⟩=some (.string d.name)/\w'.cell? ⟨w0.heap.size,3,none⟩=some (.slice pt d.type.length ct)/\w'.cell? ⟨w0.heap.size,4,none⟩=some (.slice pb d.body.length cb)/\w'.cell? ⟨w0.heap.size,5,none⟩=some (.slice pc d.cons.length cc)) (by kernel_rfl) ⟨c2,c3,c4,c5⟩ (λhHeld=>?_);refine dA 0 rfl ?_;refine dA 1 rfl ?_;refine dA 4 rfl ?_;refine dA 5 rfl ?_;refine dA 8 rfl ?_;refine dA 9 rfl ?_;refine dA 10 rfl ?_;refine dA 11 rfl ?_;refine dA 13 rfl ?_;refine dA 14 rfl ?_;refine dA 15 rfl ?_;refine dA 16 rfl ?_;refine yA 2 (by kernel_rfl) rfl λK hK=>?_
   go_simp;go_at_call 20;refine(HT.out _ (fA HU.out)).mono ?_;rintro e wx ⟨rfl,zHT,rfl,hzHT0,hzHT1,hzHT2⟩;refine hK.out _ _ ⟨c2,c3,c4,c5⟩ (λ_=>?_);clear hK K hHeld;rename_i hHeld
   try walk_nrm
   refine dA 3 rfl ?_;refine yA 6 (by kernel_rfl) rfl λK hK=>?_
   go_simp;go_at_call 20;refine(HB.out _ (fA HU.out)).mono ?_;rintro e wx ⟨rfl,zHB,rfl,hzHB0,hzHB1,hzHB2⟩;refine hK.out _ _ ⟨c2,c3,c4,c5⟩ (λ_=>?_);clear hK K hHeld;rename_i hHeld
   try walk_nrm
   refine dA 7 rfl ?_;refine dA 12 rfl ?_;refine dA 17 rfl ?_;refine dA 18 rfl ?_
   try walk_nrm
   refine wpAnyH_done (by kernel_rfl) ?_ _;refine NoPanic.normal ?_;have e1:IntKind.i64.wrap (1+zHT)=1+zHT:=by rw[IntKind.wrap_i64];omega
   have e2:IntKind.i64.wrap (1+zHT+zHB)=1+zHT+zHB:=by rw[IntKind.wrap_i64];omega
   have e3:IntKind.i64.wrap (1+zHT+zHB+min (d.name.size:Int) 1024)=1+zHT+zHB+min (d.name.size:Int) 1024:=by rw[IntKind.wrap_i64];omega
   have e4:IntKind.i64.wrap (1+zHT+zHB+min (d.name.size:Int) 1024+min (d.cons.length:Int) 1024)=1+zHT+zHB+min (d.name.size:Int) 1024+min (d.cons.length:Int) 1024:=by rw[IntKind.wrap_i64];omega
   rw[e1,e2,e3,e4];refine⟨rfl,1+zHT+zHB+min (d.name.size:Int) 1024+min (d.cons.length:Int) 1024,⟨by omega,by omega,λh=>⟨by omega,by omega,by simp[tIA];omega,λc hc=>by simp at hc⟩⟩,⟨_,fB (F:=dAB w0.heap.size _) (by rfl)⟩,fA (Qu _)⟩
 rintro e a' w2 ⟨rfl,z,hz,⟨J,rfl⟩,hU2⟩;refine hK0 _ _ ?_;have HX:=aA (HX.out.under hU2);have HU:=aA (HU.out.trans hU2);have HZ0:=aA hz;clear hU2 hK0 hz;have hbx:=HX.out;clear HT HB;unfold dAB;go_wp2;go_loopw [3,4] (λn i wr=>w2=wr/\∃(k:Nat) (z:Int),k<=d.cons.length/\i = .int .i64 (k:Int)/\n = .int .i64 z/\WtF d k z) (λ_ i _=>d.cons.length - (intOf i).toNat)
 case atStart=>exact⟨rfl,0,z,Nat.zero_le _,rfl,rfl,HZ0.out⟩
 case round =>
   obtain⟨rfl,k,z,hk,rfl,rfl,hz⟩:=hrel;have c5:=hbx.cell 5;have cl:=hbx.lt;have hk0:(0:Int)<=(k:Int):=by omega
   have hz1:=hz.1;have hz2:=hz.2.1;have HF:=aA hz;clear hz;by_cases hlt:k < d.cons.length
   . have hlt':(k:Int) < (d.cons.length:Int):=by omega
     by_cases hzz:z<=2048
     . obtain⟨u,hu,q,c9,us9,rfl,hq1,hq2,hq3,hq4⟩:=HZc.out.at (Qa hlt);obtain⟨b,off,rfl,hb,hcs⟩:=HRc.out (λe=>by rw[e]at hu;simp at hu);have cc':=hcs k _ hu;rw[<- iA HU.out hb]at cc';have hb':=Qb hb HU.out.size;have HG:=aA (HF.out.go hzz hlt);have HQ3:=aA hq3;have HQ4:=aA hq4;have HSc:=aA (λt (ht:t∈d.cons[k])=>HS.out.terms _ (Qr hlt) t ht);have HOut:=aA (λj z (h:WtI d k d.cons[k] j z) (hj:j=d.cons[k].length∨2048 < z)=>h.out hlt hj);have hm9:(d.cons[k].length:Int)<=5864062014634:=by have:=HS.out.con _ (Qr hlt);omega
       clear hcs hu hq1 hq2 hq3 hq4 hb HZ0;generalize d.cons[k]=c at *;have hm0:(0:Int)<=(c.length:Int):=by omega
       go_wp2;go_loopw [3,5] (λn i wr=>w2=wr/\∃(j:Nat) (z:Int),j<=c.length/\i = .int .i64 (j:Int)/\n = .int .i64 z/\WtI d k c j z) (λ_ i _=>c.length - (intOf i).toNat)
       case atStart=>exact⟨rfl,0,_,Nat.zero_le _,rfl,rfl,HG.out⟩
       case round =>
         obtain⟨rfl,j,z,hj,rfl,rfl,hz⟩:=hrel;have hj0:(0:Int)<=(j:Int):=by omega
         have hz1:=hz.1;have hz2:=hz.2.1;have HI:=aA hz;clear hz;by_cases hjl:j < c.length
         . have hjl':(j:Int) < (c.length:Int):=by omega
           by_cases hzz:z<=2048
           . obtain⟨y,hy,hyt⟩:=HQ4.out.at (Qa hjl);have HBk:=aA (rCA (w0:=w2) c[j] (HSc.out _ (Qr hjl)).1 (TermV.mono _ _ _ _ HU.out hyt));obtain⟨qy,cy,rfl,_⟩:=hyt;obtain⟨b9,off9,rfl,hb9,hcs9⟩:=HQ3.out (λe=>by rw[e]at hy;simp at hy);have cc9:=hcs9 j _ hy;rw[<- iA HU.out hb9]at cc9;have hb9':=Qb hb9 HU.out.size;have HGo:=aA (λy (h0:0<=y) (h1:y<=1049600) (h2:y<=2048->c[j].length<=2048)=>HI.out.go hzz hjl h0 h1 h2);clear hcs9 hy hb9;generalize c[j]=t at *;go_wp2_with fail;refine HBk.out.mono ?_;rintro e wx ⟨rfl,y,rfl,hy0,hy1,hy2⟩;have HW:=aA (HGo.out y hy0 hy1 hy2);clear HGo HBk;go_wp2;go_roundw
             case rel=>exact⟨trivial,j+1,_,by omega,by go_num,rfl,HW.out⟩
             case measure=>simp[intOf];omega
           . have hzz':2048 < z:=by omega
             have HW:=aA (HOut.out j z HI.out (.inr hzz'));clear hzz;go_wp2;go_roundw
             case rel=>exact⟨trivial,k+1,_,by omega,by go_num,rfl,HW.out⟩
             case measure=>simp[intOf];omega
         . have hjl':¬(j:Int) < (c.length:Int):=by omega
           have HW:=aA (HOut.out j z HI.out (.inl (by omega)));go_wp2;go_roundw
           case rel=>exact⟨trivial,k+1,_,by omega,by go_num,rfl,HW.out⟩
           case measure=>simp[intOf];omega
     . have hzz':2048 < z:=by omega
       clear hzz;go_wp2;go_ret;exact⟨HU.out,_,rfl,hz1,hz2,HF.out.out (.inr hzz')⟩
   . have hlt':¬(k:Int) < (d.cons.length:Int):=by omega
     go_wp2;go_ret;exact⟨HU.out,_,rfl,hz1,hz2,HF.out.out (.inl (by omega))⟩
def bDB(w0:World)(l:List Dc)(e:Ending)(w:World):Prop:=Under w0 w/\∃ b,e = .returned (.bool b)/\(b=false->l.length<=2048/\∀ d∈l,WB d)
theorem hRA(l:List Dc){p:Option Addr}{c:Nat}(hl:l.length<=9223372036854775807)(hs:∀ d∈l,SzD d)(hp:RowsV 6 DcRow w0 p l):Calls prog 4 #[.slice p l.length c] w0 (bDB w0 l):=by
 have HP:=aA hp;have HS:=aA hs;have hl0:(0:Int)<=(l.length:Int):=by omega
 have hl9:(l.length:Int)<=9223372036854775807:=by omega
 clear hp hs hl;go_enter func4,ntmps4;go_wp2;go_loopw [3,4] (λn i wr=>Under w0 wr/\∃(k:Nat) (z:Int),k<=l.length/\i = .int .i64 (k:Int)/\n = .int .i64 z/\0<=z/\z<=3100000/\(z<=2048->k<=2048/\(k:Int)<=z/\∀ d∈l.take k,WB d)) (λ_ i _=>l.length - (intOf i).toNat)
 case atStart=>exact⟨Qu _,0,0,Nat.zero_le _,rfl,rfl,by omega,by omega,λ_=>⟨by omega,by omega,λd hd=>by simp at hd⟩⟩
 case round =>
   obtain⟨hU,k,z,hk,rfl,rfl,hz0,hz1,hz2⟩:=hrel;have HU:=aA hU;have HF:=aA hz2;have hk0:(0:Int)<=(k:Int):=by omega
   clear hU hz2;by_cases hlt:k < l.length
   . have hlt':(k:Int) < (l.length:Int):=by omega
     by_cases hzz:z<=2048
     . obtain⟨b,off,r,rfl,hb,hrl,hr,hc⟩:=HP.out.at (Qa hlt) (by decide);have HW:=aA (qPA (w0:=wr) l[k] (HS.out _ (Qr hlt)) (DcV.mono _ _ _ _ HU.out (DcRow.val hr)));obtain⟨v1,v2,v3,rfl,⟨p1,c1,rfl,_⟩,⟨p2,c2,rfl,_⟩,⟨p3,c3,us3,rfl,_⟩⟩:=hr;have cc0:=hc 0 _ rfl;have cc1:=hc 1 _ rfl;have cc2:=hc 2 _ rfl;have cc3:=hc 3 _ rfl;have cc4:=hc 4 _ rfl;have cc5:=hc 5 _ rfl;simp only[Nat.add_zero,<- Nat.add_assoc]at cc0 cc1 cc2 cc3 cc4 cc5;rw[<- iA HU.out hb]at cc0 cc1 cc2 cc3 cc4 cc5;have hb':=Qb hb HU.out.size;have HG:=aA (λy (h1:1<=y) (h2:y<=2048->WB l[k])=>show z+y<=2048->k+1<=2048/\((k+1:Nat):Int)<=z+y/\∀ d∈l.take (k+1),WB d from λh=>by
         obtain⟨a1,a2,a3⟩:=HF.out (by omega);refine⟨by omega,by omega,λd hd=>?_⟩;rcases nM hlt hd with hd|rfl
         . exact a3 d hd
         . exact h2 (by omega))
       clear hc hrl hb;generalize l[k]=x at *;go_wp2_with fail;refine HW.out.mono ?_;rintro e w9 ⟨hU9,y,rfl,hy1,hy2,hy3⟩;have HU:=aA (HU.out.trans hU9);have HN:=aA (HG.out y hy1 hy3);clear hU9 HG HW hy3;go_wp2;go_roundw
       case rel=>exact⟨HU.out,k+1,_,by omega,by go_num,rfl,by omega,by omega,HN.out⟩
       case measure=>simp[intOf];omega
     . have hzz':2048 < z:=by omega
       clear hzz;go_wp2;go_ret;exact⟨HU.out,true,rfl,λh=>by cases h⟩
   . obtain rfl:k=l.length:=by omega
     by_cases hzz:z<=2048
     . have hzz':¬ 2048 < z:=by omega
       go_wp2;go_ret;exact⟨HU.out,false,rfl,λ_=>⟨(HF.out hzz).1,λd hd=>(HF.out hzz).2.2 d (by rw[List.take_length];exact hd)⟩⟩
     . have hzz':2048 < z:=by omega
       go_wp2;go_ret;exact⟨HU.out,true,rfl,λh=>by cases h⟩
end
section
theorem r6A{d:Dc}(hw:WB d)(hs:SzD d):Lite d :=
 ⟨by have:=hw.type;omega,by have:=hw.body;omega,hs.cons,λc hc=>⟨hs.con c hc,λt ht=>by have:=hw.terms c hc t ht;omega⟩⟩
end
end Go.Proofs.YtpkaiodmbicjiaaGreatDoor
namespace Go.Proofs.YtpkaiodmbicjiaaGreatDoor
open Go.Proofs.Tryz
open Go.Conc Go.Lx Go.RowKit
theorem zU{cs ds:List ByteArray}{T:ST}{t:List Nd}(h:oF cs ds T = .ok t):t.length<=(qA T).length:=by
 unfold oF at h
 split at h
 . cases h
 . rename_i t' he
   split at h
   . cases h;exact aP T _ _ he
   . cases h
theorem aHA{cs ds:List ByteArray}{N:Nat}:∀ {r:List ST} {acc c:List (List Nd)},mP cs ds acc r = .ok c->(∀ t∈acc,t.length<=N)->(∀ T∈r,(qA T).length<=N)->c.length=acc.length+r.length/\∀ t∈c,t.length<=N
  | [], acc, c, h, h1, _ => by
    cases h;exact⟨by simp,h1⟩
  | T :: r, acc, c, h, h1, h2 => by
    unfold mP at h
    split at h
    . cases h
    . rename_i t ht;obtain⟨a,b⟩:=aHA h (λx hx=>by
        rcases List.mem_append.1 hx with hx|hx
        . exact h1 x hx
        . simp only[List.mem_singleton]at hx;subst hx;exact Ql (zU ht) (h2 T (by simp))) (λx hx=>h2 x (by simp[hx]))
      exact⟨by rw[a];simp;omega,b⟩
theorem eHA{cs ds:List ByteArray}{p:Int}{N:Nat}:∀ {q:List ST} {acc c:List (List (List Nd))},lI cs ds p acc q = .ok c->(∀ x∈acc,x.length<=6/\∀ t∈x,t.length<=N)->(∀ T∈q,(qA T).length<=N)->c.length=acc.length+q.length/\∀ x∈c,x.length<=6/\∀ t∈x,t.length<=N
  | [], acc, c, h, h1, _ => by
    cases h;exact⟨by simp,h1⟩
  | .word _ _::r,acc,c,h,h1,h2=>by simp[lI]at h
  | .list q0 l :: r, acc, c, h, h1, h2 => by
    unfold lI at h
    split at h
    . cases h
    . rename_i h6
      split at h
      . cases h
      . rename_i x hx;obtain⟨a1,b1⟩:=aHA hx (by simp) (λT hT=>Ql (Nat.le_of_lt (eG (p:=q0) hT)) (h2 _ (by simp)));obtain⟨a,b⟩:=eHA h (λy hy=>by
          rcases List.mem_append.1 hy with hy|hy
          . exact h1 y hy
          . simp only[List.mem_singleton]at hy;subst hy;exact⟨by rw[a1];simp;omega,b1⟩) (λy hy=>h2 y (by simp[hy]))
        exact⟨by rw[a];simp;omega,b⟩
theorem pUA{l:List Dc}{T:ST}{d:Dc}(h:gL l T = .ok d)(hn:(qA T).length<=20000):Lite d:=by
 cases T with
 | word p s=>cases h
 | list p ts =>
   have hm:∀ t∈ts,(qA t).length<=20000:=λt ht=>by have:=eG (p:=p) ht;omega
   cases ts with
   | nil=>cases h
   | cons a r =>
     cases r with
       | nil =>
         simp only[gL]at h
         split at h<;>cases h
       | cons n q =>
         simp only[gL]at h
         split at h
         . cases h
         split at h
         . cases h
         . split at h
           . cases h
           . split at h
             . cases h
             . cases q with
               | nil=>cases h
               | cons b q =>
                 have hb:=hm b (by simp);simp only[lL]at h
                 split at h
                 . unfold vLA at h
                   split at h
                   . cases h
                   . split at h
                     . cases h
                     . rename_i h6
                       split at h
                       . cases h
                       . rename_i c hc
                         cases h;obtain⟨a1,b1⟩:=eHA (N:=20000) hc (by simp) (λy hy=>hm y (by simp[hy]));exact⟨by simp,by simp,by simp only[List.length_nil]at a1;show c.length<=_;omega,λx hx=>⟨by have:=(b1 x hx).1;omega,λt ht=>by have:=(b1 x hx).2 t ht;omega⟩⟩
                 . split at h
                   . unfold l6 at h
                     split at h
                     . cases h
                     . rename_i t ht
                       cases h;exact⟨by have:=zU ht;simp only;omega,by simp,by simp,λx hx=>(List.not_mem_nil hx).elim⟩
                   . rename_i c q';have hcc:=hm _ (show _∈a::n::b::_::_ from .tail _ (.tail _ (.tail _ (.head _))));unfold tVA at h
                     split at h
                     . cases h
                     . rename_i t ht
                       split at h
                       . cases h
                       . rename_i u hu
                         cases h;exact⟨by have:=zU ht;simp only;omega,by have:=zU hu;simp only;omega,by simp,λx hx=>(List.not_mem_nil hx).elim⟩
def aK:lS->Dc
  | .ok d=>d
  | .error _=>qLA
def nDB:lS->Int
  | .ok _=>0
  | .error x=>x.2
def gDB:lS->Int
  | .ok _=>0
  | .error x=>x.1
theorem OnOut.flat{w0 w:World}{R:lS}{e:Ending}(h:OnOut w0 R e w):Under w0 w/\∃ v,e = .returned (.tuple #[v,.int .i64 (nDB R),.int .i64 (gDB R)])/\DcV w v (aK R):=by
 obtain⟨hU,h⟩:=h
 cases R with
 | ok d=>exact⟨hU,h⟩
 | error x=>exact⟨hU,_,h,wOA w⟩
theorem tDA{p:Int}{ts:List ST}{t:ST}{x:Sx}(h:t∈ts)(hx:x∈qA t):x∈qA (.list p ts):=by
 have:∀ ts:List ST,t∈ts->x∈rA ts:=by
  intro ts
  induction ts with
  | nil=>intro h;cases h
  | cons a r ih =>
    intro h;simp only[rA,List.mem_append];rcases List.mem_cons.1 h with rfl|h
    . exact .inl hx
    . exact .inr (ih h)
 simp only[qA,List.mem_append];exact .inl (this ts h)
theorem nMA(T:ST):T.last∈qA T:=by
 obtain⟨i,h⟩:=zF T;rw[h];simp
section
variable {W : World}
theorem p8A{cs ds:List ByteArray}{T:ST}(hok:okS T)(hn:(qA T).length<=20000)(hcn:cs.length<=1000000)(hdn:ds.length<=1000000):RmAt W cs ds T :=
 λw hU q c hc hq v1 v2 d1 d2 h1 h2=>tWA T cs ds hok hn hc hq h1 h2 hcn hdn
theorem qJA{p:Int}{ts:List ST}{t:ST}(h:okS (.list p ts))(ht:t∈ts):okS t:=rO.1 h t ht
theorem e4A(l:List Dc)(row:List Sx)(hl:l.length<=2048)(hli:∀ d∈l,Lite d)(hE:StrcAt W)(hS:ShapesAt 2 W)(hn:row.length<=150)(hw:∀ x∈row,x.word.size<=100):∃ R:lS,Lite (aK R) /\
 (∀(w:World) (pl q:Option Addr) (cl cap:Nat),Under W w->RowsV 6 DcRow w pl l->l.length<=cl->(pl=none->cl=0)->SxArg w q row->row.length<=cap->Calls prog 6 #[.slice pl l.length cl,.slice q row.length cap] w (OnOut w R)) /\
 (∀(w:World) (pl q:Option Addr) (cl cap:Nat),Under W w->RowsV 6 DcRow w pl l->SxArg w q row->row.length<=cap->Calls prog 7 #[.slice pl l.length cl,.slice q row.length cap] w (OnOut w R)):=by
 have hk:=eQ l;by_cases h:∃ ls,qC row=some ls/\ls.length=1
 . obtain⟨ls,h1,h2⟩:=h;obtain⟨ts,hok,rfl,rfl⟩:=cDA h1;obtain⟨T,rfl⟩:∃ T,ts=[T]:=List.length_eq_one_iff.1 (by simpa using h2);have e:rA [T]=qA T:=by simp[rA]
   rw[e]at hn hw ⊢;have hsub:∀ p us,T = .list p us->∀ t∈us,okS t/\(qA t).length<=20000/\∀ x∈qA t,x.word.size<=1000000:=by
    rintro p us rfl t ht;exact⟨qJA hok.1 ht,by have:=eG (p:=p) ht;omega,λx hx=>Ql (hw x (tDA ht hx)) (by decide)⟩
   have hsub2:∀ p us,T = .list p us->∀ t∈us,∀ q r,t = .list q r->∀ u∈r,okS u/\(qA u).length<=20000/\∀ x∈qA u,x.word.size<=1000000:=by
    rintro p us rfl t ht q r rfl u hu;have h1:=qJA hok.1 ht;exact⟨qJA h1 hu,by have:=eG (p:=p) ht;have:=eG (p:=q) hu;omega,λx hx=>Ql (hw x (tDA ht (tDA hu hx))) (by decide)⟩
   have hlen:∀ p us,T = .list p us->us.length<=100000:=by
    rintro p us rfl;have h0:∀ us:List ST,us.length<=(rA us).length:=by
     intro us
     induction us with
     | nil=>exact Qd _
     | cons a r ih=>have:=tL a;simp only[rA,Qc,Qk];omega
    have:=h0 us;simp only[qA,Qc,List.length_singleton]at hn;omega
   refine⟨gL l T,?_,λw pl q cl cap hU g1 g2 g3 g4 g5=>?_,λw pl q cl cap hU g1 g4 g5=>?_⟩
   . cases ho:gL l T with
     | ok d=>exact pUA ho (by omega)
     | error x=>exact(⟨by decide,by decide,by decide,by decide⟩:Lite qLA)
   . have:=d0A (w0:=w) (l:=l) (pl:=pl) (q:=q) (cl:=cl) (cap:=cap) (ts:=[T]) (by omega) hli g1 g2 g3 (by rw[e];exact g4) (by rw[e];exact g5) (by rw[e];omega) hok (hE.under hU) (by
       rintro p us hT;simp only[List.cons.injEq,and_true]at hT;exact⟨hlen p us hT,λt ht=>(hsub p us hT t ht).2.2 _ (nMA t),λt ht=>⟨p1A (hsub p us hT t ht).1 (hsub p us hT t ht).2.1 (hsub p us hT t ht).2.2 (hE.under hU) (hS.under hU) (by omega) (by omega),λnm _ q r hq u hu=>p1A (hsub2 p us hT t ht q r hq u hu).1 (hsub2 p us hT t ht q r hq u hu).2.1 (hsub2 p us hT t ht q r hq u hu).2.2 (hE.under hU) (hS.under hU) (by omega) (by simp;omega)⟩⟩)
     rw[e]at this;exact this
   . exact oUA (w0:=w) (l:=l) (pl:=pl) (q:=q) (cl:=cl) (cap:=cap) (T:=T) (by omega) g1 g4 g5 (by omega) hok.1 (by
       rintro p us hT;exact⟨hlen p us hT,λt ht=>(hsub p us hT t ht).2.2 _ (nMA t),λt ht=>⟨p8A (hsub p us hT t ht).1 (hsub p us hT t ht).2.1 (by omega) (by omega),λnm _ q r hq u hu=>p8A (hsub2 p us hT t ht q r hq u hu).1 (hsub2 p us hT t ht q r hq u hu).2.1 (by omega) (by simp;omega)⟩⟩)
 . have hb:∀ ls,qC row=some ls->ls.length≠1:=λls h1 h2=>h ⟨ls,h1,h2⟩
   exact⟨.error (71,0),(⟨by decide,by decide,by decide,by decide⟩:Lite qLA),λw pl q cl cap _ _ _ _ g4 g5=>f4A g4 g5 (by omega) hb,λw pl q cl cap _ _ g4 g5=>zYA g4 g5 (by omega) hb⟩
end
def Tok.p(t:Tok):PTok:=⟨t.kind,t.at_,t.text⟩
theorem fNA(all:List Tok):∀ k t,all[k]? = some t->(aI all)[k * 3]? = some (.int .i64 t.kind)/\(aI all)[k * 3+1]? = some (.int .i64 (t.at_:Int))/\(aI all)[k * 3+2]? = some (.string t.text):=by
 induction all with
 | nil=>intro k t h;simp at h
 | cons x l ih =>
   intro k t h
   cases k with
   | zero=>cases h;exact⟨rfl,rfl,rfl⟩
   | succ k =>
     have:=ih k t h;rw[show(k+1) * 3=k * 3+1+1+1 by omega,show k * 3+1+1+1+1=(k * 3+1)+1+1+1 by omega,show k * 3+1+1+1+2=(k * 3+2)+1+1+1 by omega];exact this
def ReadPost(W:World)(R:Except (Int×Int) (List Sx))(v:Value)(w:World):Prop :=
 Under W w/\match R with
  | .ok row=>∃ vr,v = .tuple #[vr,.int .i64 0,.int .i64 0]/\w.ownsRow W.heap.size 28 3 vr row.length (mD row)
  | .error (p,c)=>v = .tuple #[.slice none 0 0,.int .i64 p,.int .i64 c]
theorem n9A{w:World}{base:Nat}{e:TypeId}{size n:Nat}{v:Value}{xs:List Value}(h:w.ownsRow base e size v n xs)(τ:Nat->Question->Nat)(d:Nat):(re w τ d).ownsRow base e size v n xs:=h
theorem ReadPost.re{W:World}{R:Except (Int×Int) (List Sx)}(v:Value)(w:World)(τ:Nat->Question->Nat)(d:Nat)(h:ReadPost W R v w):ReadPost W R v (re w τ d):=by
 obtain⟨h1,h2⟩:=h;refine⟨h1.re τ d,?_⟩
 cases R with
 | error p=>exact h2
 | ok row=>obtain⟨vr,e,h3⟩:=h2;exact⟨vr,e,n9A h3 τ d⟩
theorem v6A{W w:World}{l:Value}{all:List Tok}(h:w.ownsRow W.heap.size 118 3 l all.length (aI all)):∃ p cap,l = .slice p all.length cap/\rSA w p (all.map Tok.p):=by
 rcases h.2 with⟨rfl,h0⟩|⟨g,cap,cur,rfl,hb,hg,rest⟩
 . refine⟨none,0,by rw[h0],λhne=>?_⟩;have:all=[]:=List.length_eq_zero_iff.1 h0;subst this;exact absurd rfl hne
 . refine⟨_,cap,rfl,λ_=>⟨g,0,rfl,(Qe.1 hg).1,λk t ht=>?_⟩⟩;rw[List.getElem?_map]at ht;obtain⟨u,hu,rfl⟩:=Option.map_eq_some_iff.1 ht;obtain⟨h1,h2,h3⟩:=fNA all k u hu;rw[Nat.zero_add];exact⟨rD h rfl h1,rD h rfl h2,rD h rfl h3⟩
theorem jX{P:Program}{fn:Func}{t u r:Tmp}{Post:Value->World->Prop}{a:Act}{w:World}(h:fn.results=#[.tmp t,.tmp u,.tmp r])(hd:a.defers=[])(hp:Post (.tuple #[a.tmps.getD t undef,a.tmps.getD u undef,a.tmps.getD r undef]) w):pV P fn Post .ret a w :=
 ⟨hd,_,λ_ _=>results_tmp3 h _ P _,hp⟩
theorem uPA{s:ByteArray}{all:List Tok}(h:Lexes s all)(hk:∀ t∈all,t.kind=1∨t.kind=2∨t.kind=3)(W:World) :
 CallsG prog 21 #[.string s] W (ReadPost W (mF (all.map Tok.p) [] [] ⟨0,0,⟨#[]⟩⟩)):=by
 refine iM nD func21 rfl ?_ ReadPost.re;simp only[ntmps21,List.size_toArray,Qk,List.length_nil,Nat.reduceAdd,Nat.reduceSub,Array.replicate_succ,Array.replicate_zero,List.push_toArray,List.append_toArray,List.nil_append,List.cons_append];refine fG nD (vD nD λτ d=>?_);go_wp2;refine qK ?_ τ d;refine fG nD ?_;refine o8 nD 1 (by decide) λτ d=>?_
 simp only[List.take_succ_cons,List.take_zero];go_wp2;refine tTA ?_ τ d;refine yL (i:=1) (rest:=List.range' 2 7) nD rfl (by rfl) (yI (vs:=#[.string s]) rfl func41 (by kernel_rfl) rfl (by simp[Act.eval])) (h.calls W) ?_;rintro v w1 ⟨l,rfl,hown,hU1⟩;obtain⟨p,cap,rfl,hp⟩:=v6A hown;have hlen:(all.map Tok.p).length<=1000000:=by rw[List.length_map];exact h.len
 have hkk:∀ t∈all.map Tok.p,t.kind=1∨t.kind=2∨t.kind=3:=by
  intro t ht;obtain⟨u,hu,rfl⟩:=List.mem_map.1 ht;exact hk u hu
 have hc:=λτ d=>pVA (w0:=re w1 τ d) (cap:=cap) (all.map Tok.p) hlen hp hkk
 simp only[List.length_map]at hc;have HC:=aA hc;clear hc;clear hown hp hkk hlen hk h;generalize mF (all.map Tok.p) [] [] ⟨0,0,⟨#[]⟩⟩=R at *;refine wH nD 2 7 0 (by decide) λτ d=>?_
 simp only[List.drop_succ_cons,List.drop_zero,List.take_succ_cons,List.take_zero];walk_nrm;go_wp2;refine jL nD ?_;simp only[Exit.then];refine qK ?_ τ d;refine vD nD λτ d=>?_
 go_wp2_with fail;refine(HC.out τ d).mono ?_;rintro e w2 ⟨hU2,hR⟩;have hUU:Under W w2:=hU1.trans ⟨hU2.os,hU2.output,hU2.size,hU2.low⟩;have hz:W.heap.size<=(re w1 τ d).heap.size:=hU1.size
 cases R with
 | ok row =>
   obtain⟨vr,rfl,ho⟩:=hR;have HO:=aA ho;clear ho;go_wp2;exact jX rfl rfl ⟨hUU,vr,rfl,lZ HO.out hz⟩
 | error pc =>
   obtain⟨p',c⟩:=pc;subst hR;go_wp2;exact jX rfl rfl ⟨hUU,rfl⟩
theorem cIA{p:UInt8->Bool}(h:(List.range 256).all (λn=>p n.toUInt8)=true)(c:UInt8):p c=true:=by
 have:=List.all_eq_true.1 h c.toNat (List.mem_range.2 c.toNat_lt);have e:c.toNat.toUInt8=c:=by simp
 rwa [e]at this
def bU(c:UInt8):Bool:=inB [9,10,13,32] c
theorem yNA(c:UInt8)(h:bU c=true):rM c=false:=by
 have:=cIA (p:=λc => !bU c || !rM c) (by decide +kernel) c
 simpa [h] using this
theorem nLA(c:UInt8)(h:rM c=true):bU c=false:=by
 have:=cIA (p:=λc => !bU c || !rM c) (by decide +kernel) c
 simpa [h] using this
theorem hLA(c:UInt8)(h:rM c=true):First 0 c:=⟨by decide,h,λj hj=>absurd hj (by omega)⟩
theorem mIA(c:UInt8)(h:bU c=true):First 1 c:=⟨by decide,h,λj hj=>by
  obtain rfl:j=0:=by omega
  exact yNA c h⟩
theorem vMA:First 2 40:=⟨by decide,by decide,by decide⟩
theorem eNA:First 3 41:=⟨by decide,by decide,by decide⟩
theorem yZ(p:UInt8->Bool):∀(l r:List UInt8),(∀ c∈l,p c=true)->(∀ c,r.head? = some c->p c=false)->many p (l++r)=l.length
  | [], r, _, hr => by
    cases r with
    | nil=>rfl
    | cons c r=>simp[many,hr c rfl]
  | c :: l, r, hl, hr => by
    have:=yZ p l r (λx hx=>hl x (Qh _ hx)) hr;simp only[many,List.cons_append,List.takeWhile_cons,hl c Qn,if_true,Qk]at this ⊢;omega
def eAA(t:PTok):Tok:=⟨t.kind,t.pos.toNat,t.text⟩
def noW(r:List UInt8):Prop:=∀ c,r.head? = some c->rM c=false
section
variable {s : ByteArray}
theorem iV{k:Nat}{c:UInt8}{l:List UInt8}(hd:s.data.toList.drop k=c::l):∃ hlt:k < s.size,s[k]'hlt=c:=by
 have hlen:(s.data.toList.drop k).length=s.size - k:=by rw[List.length_drop];rfl
 have hlen2:=congrArg List.length hd;rw[hlen,Qk]at hlen2;have hlt:k < s.size:=by omega
 refine⟨hlt,?_⟩;have:(s.data.toList.drop k).head? = some c:=by rw[hd];rfl
 rw[List.head?_drop]at this;have e:s.data.toList[k]? = some (s[k]'hlt):=by
  rw[Qa (by exact hlt)];rfl
 rw[e]at this;exact Qt this
theorem lY{k:Nat}{a r:List UInt8}(hd:s.data.toList.drop k=a++r):s.data.toList.drop (k+a.length)=r:=by
 rw[<- List.drop_drop,hd,List.drop_left]
theorem aM{k:Nat}{a r:List UInt8}(hd:s.data.toList.drop k=a++r)(hk:k<=s.size):k+a.length<=s.size:=by
 have hlen:(s.data.toList.drop k).length=s.size - k:=by rw[List.length_drop];rfl
 have hlen2:=congrArg List.length hd;rw[hlen,Qc]at hlen2;omega
theorem qR{k:Nat}{a r:List UInt8}(hd:s.data.toList.drop k=a++r):s.extract k (k+a.length)=⟨a.toArray⟩:=by
 apply ByteArray.ext;apply Array.ext';rw[ByteArray.data_extract,Array.toList_extract,List.extract_eq_take_drop,hd,Nat.add_sub_cancel_left,List.take_left]
theorem gKA{k:Nat}{acts:List SAct}(l r:List UInt8)(hd:s.data.toList.drop k=l++r)(hk:k<=s.size)(hl:∀ c∈l,bU c=true)(hr:∀ c,r.head? = some c->bU c=false)(h:Scans s (k+l.length) acts) :
 ∃ acts',Scans s k acts'/\sends acts'=sends acts:=by
 cases l with
 | nil=>exact⟨acts,by simpa using h,rfl⟩
 | cons c l =>
   obtain⟨hlt,hc⟩:=iV hd;have hsz:=aM hd hk;have hm:goN 1 (s.data.toList.drop k)=(c::l).length:=by rw[hd];exact yZ _ _ _ hl hr
   exact⟨_,.blank hlt (by rw[hc];exact mIA c (hl c Qn)) rfl hm hsz h,rfl⟩
theorem xLA{k:Nat}{acts:List SAct}(x:ByteArray)(r:List UInt8)(hd:s.data.toList.drop k=x.data.toList++r)(hk:k<=s.size)(hne:x.size≠0)(hl:∀ c∈x.data.toList,rM c=true)(hr:noW r)(h:Scans s (k+x.data.toList.length) acts) :
 ∃ acts',Scans s k acts'/\sends acts'=rP ⟨1,k,x⟩::sends acts:=by
 have hsz:=aM hd hk;have hex:=qR hd;have hex2:s.extract k (k+x.data.toList.length)=x:=by rw[hex]
 cases hx:x.data.toList with
 | nil =>
   have:x.data.toList.length=x.size:=by rw[Array.length_toList];rfl
   rw[hx]at this;exact absurd this.symm hne
 | cons c l =>
   have hd':=hd;rw[hx,List.cons_append]at hd';obtain⟨hlt,hc⟩:=iV hd';have hm:goN 0 (s.data.toList.drop k)=x.data.toList.length:=by rw[hd];exact yZ _ _ _ hl hr
   refine⟨_,.token hlt (by rw[hc];exact hLA c (hl c (by rw[hx];exact Qn))) rfl hm hsz h,?_⟩;rw[hex2];rfl
theorem qRA{k:Nat}{acts:List SAct}(r:List UInt8)(hd:s.data.toList.drop k=40::r)(h:Scans s (k+1) acts):∃ acts',Scans s k acts'/\sends acts'=rP ⟨2,k,⟨#[40]⟩⟩::sends acts:=by
 obtain⟨hlt,hc⟩:=iV hd;have hex:=qR (s:=s) (a:=[40]) (r:=r) hd;refine⟨_,.token (i:=2) (m:=1) hlt (by rw[hc];exact vMA) (by decide) rfl (by omega) h,?_⟩;rw[show s.extract k (k+1)=⟨#[40]⟩ from hex];rfl
theorem cQA{k:Nat}{acts:List SAct}(r:List UInt8)(hd:s.data.toList.drop k=41::r)(h:Scans s (k+1) acts):∃ acts',Scans s k acts'/\sends acts'=rP ⟨3,k,⟨#[41]⟩⟩::sends acts:=by
 obtain⟨hlt,hc⟩:=iV hd;have hex:=qR (s:=s) (a:=[41]) (r:=r) hd;refine⟨_,.token (i:=3) (m:=1) hlt (by rw[hc];exact eNA) (by decide) rfl (by omega) h,?_⟩;rw[show s.extract k (k+1)=⟨#[41]⟩ from hex];rfl
theorem iWA{p:UInt8->Bool}(hp:∀ c,p c=true->rM c=true)(x:SX)(h:okX p x)(r:List UInt8):∀ c,(bG x++r).head? = some c->bU c=false:=by
 intro c hc
 cases x with
 | w s =>
   unfold okX at h;unfold bG at hc
   cases hs:s.data.toList with
   | nil =>
     have:s.data.toList.length=s.size:=by rw[Array.length_toList];rfl
     rw[hs]at this;exact absurd this.symm h.1
   | cons a l =>
     rw[hs]at hc h;obtain rfl:a=c:=by simpa using hc
     exact nLA _ (hp _ (h.2 _ Qn))
 | l xs =>
   unfold bG at hc;obtain rfl:(40:UInt8)=c:=by simpa using hc
   decide
def gSA(s:ByteArray)(x:SX):Prop:=∀(k:Nat) (r:List UInt8) (acts:List SAct),s.data.toList.drop k=bG x++r->noW r->k<=s.size->Scans s (k+(bG x).length) acts->∃ acts',Scans s k acts'/\sends acts'=(kH k x).map (λt=>rP (eAA t))++sends acts
theorem wKA(l:List SX){r:List UInt8}(h:noW r):noW (wQ l++r):=by
 cases l with
 | nil=>exact h
 | cons a l =>
   intro c hc;unfold wQ at hc;obtain rfl:(32:UInt8)=c:=by simpa using hc
   decide
theorem uDA{p:UInt8->Bool}(hp:∀ c,p c=true->rM c=true):∀(l:List SX),kVA p l->(∀ a∈l,gSA s a)->∀(k:Nat) (r:List UInt8) (acts:List SAct),s.data.toList.drop k=wQ l++r->noW r->k<=s.size->Scans s (k+(wQ l).length) acts ->
 ∃ acts',Scans s k acts'/\sends acts'=(fK k l).map (λt=>rP (eAA t))++sends acts
 | [],_,_,k,r,acts,hd,hr,hk,h=>⟨acts,by simpa [wQ] using h,by simp[fK]⟩
 | a :: l, ho, ha, k, r, acts, hd, hr, hk, h => by
   unfold wQ at hd h;have hd0:s.data.toList.drop k=[32]++(bG a++(wQ l++r)):=by rw[hd];simp
   have hd1:=lY hd0;have hk1:=aM hd0 hk;have hd2:=lY hd1;have hk2:=aM hd1 hk1;obtain⟨a1,h1,g1⟩:=uDA hp l ho.2 (λb hb=>ha b (Qh _ hb)) _ r acts hd2 hr hk2 (by
     rw[show k+[(32:UInt8)].length+(bG a).length+(wQ l).length=k+(32::(bG a++wQ l)).length by simp;omega];exact h)
   obtain⟨a2,h2,g2⟩:=ha a Qn _ _ a1 hd1 (wKA l hr) hk1 h1;obtain⟨a3,h3,g3⟩:=gKA [32] _ hd0 hk (by intro c hc;rw[List.mem_singleton.1 hc];decide) (iWA hp a ho.1 _) h2;refine⟨a3,h3,?_⟩;rw[g3,g2,g1,fK,List.map_append,List.append_assoc];rfl
theorem hMA{p:UInt8->Bool}(hp:∀ c,p c=true->rM c=true)(x:SX):okX p x->gSA s x:=by
 induction x using SX.rec (motive_2:=λl=>kVA p l->∀ a∈l,gSA s a) with
 | w y =>
   intro h k r acts hd hr hk hs;unfold bG at hd hs;obtain⟨a,h1,g1⟩:=xLA y r hd hk h.1 (λc hc=>hp c (h.2 c hc)) hr hs;exact⟨a,h1,by rw[g1];simp[kH,eAA]⟩
 | l xs ih =>
   intro h k r acts hd hr hk hs;have hX:=ih h;unfold bG at hd hs;have hd0:s.data.toList.drop k=[40]++(yM xs++41::r):=by rw[hd];simp
   have hd1:=lY hd0;have hk1:=aM hd0 hk;have hd2:=lY hd1;have hk2:=aM hd1 hk1;obtain⟨a1,h1,g1⟩:=cQA r hd2 (by rw[show k+[(40:UInt8)].length+(yM xs).length+1=k+(40::(yM xs++[41])).length by simp;omega];exact hs);have hn:noW (41::r):=λc hc=>by
    obtain rfl:(41:UInt8)=c:=by simpa using hc
    decide
   have mid:∃ acts',Scans s (k+[(40:UInt8)].length) acts'/\sends acts'=(sO (k+1) xs).map (λt=>rP (eAA t))++sends a1:=by
    cases xs with
    | nil=>exact⟨a1,by simpa [yM] using h1,by simp[sO]⟩
    | cons a l =>
      unfold yM at hd1 h1;rw[List.append_assoc]at hd1;have hd3:=lY hd1;have hk3:=aM hd1 hk1;obtain⟨a2,h2,g2⟩:=uDA hp l h.2 (λb hb=>hX b (Qh _ hb)) _ _ a1 hd3 hn hk3 (by rw[Qc,<- Nat.add_assoc]at h1;exact h1);obtain⟨a3,h3,g3⟩:=hX a Qn _ _ a2 hd1 (wKA l hn) hk1 h2;refine⟨a3,h3,?_⟩;rw[g3,g2,sO,List.map_append,List.append_assoc];rfl
   obtain⟨a2,h2,g2⟩:=mid;obtain⟨a3,h3,g3⟩:=qRA _ hd h2;refine⟨a3,h3,?_⟩;rw[g3,g2,g1,kH,List.map_cons,List.map_append,List.cons_append,List.append_assoc];rfl
 | nil=>rename_i h a ha;cases ha
 | cons a l iha ihl =>
   rename_i h b hb;rcases List.mem_cons.1 hb with rfl|hb
   . exact iha h.1
   . exact ihl h.2 b hb
end
theorem wFA:∀(l:List SX),(∀ a∈l,∀ k,∀ t∈kH k a,(eAA t).p=t/\(t.kind=1∨t.kind=2∨t.kind=3))->∀ k,∀ t∈fK k l,(eAA t).p=t/\(t.kind=1∨t.kind=2∨t.kind=3)
  | [],_,k,t,ht=>by simp[fK]at ht
  | a :: l, h, k, t, ht => by
    unfold fK at ht;rcases List.mem_append.1 ht with ht|ht
    . exact h a Qn _ t ht
    . exact wFA l (λb hb=>h b (Qh _ hb)) _ t ht
theorem dHA(x:SX):∀ k,∀ t∈kH k x,(eAA t).p=t/\(t.kind=1∨t.kind=2∨t.kind=3):=by
 induction x using SX.rec (motive_2:=λl=>∀ a∈l,∀ k,∀ t∈kH k a,(eAA t).p=t/\(t.kind=1∨t.kind=2∨t.kind=3)) with
 | w s =>
   intro k t ht;unfold kH at ht;rw[List.mem_singleton.1 ht];exact⟨rfl,.inl rfl⟩
 | l xs ih =>
   intro k t ht;unfold kH at ht;rcases List.mem_cons.1 ht with rfl|ht
   . exact⟨rfl,.inr (.inl rfl)⟩
   rcases List.mem_append.1 ht with ht|ht
   . cases xs with
     | nil=>simp[sO]at ht
     | cons a l =>
       unfold sO at ht;rcases List.mem_append.1 ht with ht|ht
       . exact ih a Qn _ t ht
       . exact wFA l (λb hb=>ih b (Qh _ hb)) _ t ht
   . rw[List.mem_singleton.1 ht];exact⟨rfl,.inr (.inr rfl)⟩
 | nil=>rename_i a ha k t ht;cases ha
 | cons a l iha ihl =>
   rename_i b hb k t ht;rcases List.mem_cons.1 hb with rfl|hb
   . exact iha k t ht
   . exact ihl b hb k t ht
theorem gMA{x:SX}(h:okX rM x)(hn:(bG x).length<=20000):Lexes ⟨(bG x).toArray⟩ ((kH 0 x).map eAA):=by
 have hsz:(⟨(bG x).toArray⟩:ByteArray).size=(bG x).length:=by simp[ByteArray.size]
 obtain⟨acts,h1,h2⟩:=hMA (s:=⟨(bG x).toArray⟩) (λc hc=>hc) x h 0 [] [] (by simp) (λc hc=>by cases hc) (Nat.zero_le _) (by rw[Nat.zero_add,<- hsz];exact .done);have hl:(kH 0 x).length<=(bG x).length:=m2A x h 0;refine⟨by rw[hsz];exact hn,⟨acts,h1,?_⟩,by rw[List.length_map];omega⟩;rw[h2];simp[sends]
theorem tLA{x:SX}(h:okX rM x)(hn:(bG x).length<=20000)(hd:tKA x<=60):Lexes ⟨(bG x).toArray⟩ ((kH 0 x).map eAA)/\(∀ t∈(kH 0 x).map eAA,t.kind=1∨t.kind=2∨t.kind=3)/\mF (((kH 0 x).map eAA).map Tok.p) [] [] ⟨0,0,⟨#[]⟩⟩ = .ok (qA (cNA 0 x)):=by
 refine⟨gMA h hn,λt ht=>?_,?_⟩
 . obtain⟨u,hu,rfl⟩:=List.mem_map.1 ht;exact(dHA x 0 u hu).2
 . have e:((kH 0 x).map eAA).map Tok.p=kH 0 x:=by
     rw[List.map_map]
     conv=>rhs;rw[<- List.map_id (kH 0 x)]
     exact List.map_congr_left λt ht=>(dHA x 0 t ht).1
   rw[e];exact nPA x hd 0
def axX:SX:=.l [.w ⟨#[97,120,105,111,109]⟩,.w ⟨#[97]⟩,.w ⟨#[85,110,105,116]⟩]
def AxPost(W:World)(v:Value)(w:World):Prop:=Under W w/\∃ g c,v = .tuple #[.slice (some ⟨g,0,none⟩) 1 c,.int .i64 0,.int .i64 0]/\g < w.heap.size/\w.cell? ⟨g,0,none⟩=some (.int .i64 2)
theorem AxPost.re{W:World}(v:Value)(w:World)(τ:Nat->Question->Nat)(d:Nat)(h:AxPost W v w):AxPost W v (re w τ d):=⟨h.1.re τ d,h.2⟩
def axL:List ST:=[.word 1 ⟨#[97,120,105,111,109]⟩,.word 7 ⟨#[97]⟩,.word 9 ⟨#[85,110,105,116]⟩]
theorem q6A:cNA 0 axX = .list 0 axL:=rfl
theorem e5A:gL [] (.list 0 axL) = .ok ⟨2,0,⟨#[97]⟩,[⟨16,0,0,⟨#[]⟩⟩],[],[]⟩:=by kernel_rfl
theorem pDA{t:ST}(h:t∈axL):okS t/\(qA t).length<=20000/\∀ x∈qA t,x.word.size<=1000000:=by
 simp only[axL,List.mem_cons,List.not_mem_nil,or_false]at h;rcases h with rfl|rfl|rfl<;>(simp[okS,qA];decide)
theorem tMA(W:World)(hE:StrcAt W)(hS:ShapesAt 2 W):CallsG prog 12 #[.string ⟨#[40,97,120,105,111,109,32,97,32,85,110,105,116,41]⟩] W (AxPost W):=by
 obtain⟨h1,h2,h3⟩:=tLA (x:=axX) (by unfold axX;simp[okX,kVA];decide) (by decide) (by decide);rw[show(⟨(bG axX).toArray⟩:ByteArray)=⟨#[40,97,120,105,111,109,32,97,32,85,110,105,116,41]⟩ by decide]at h1;rw[q6A]at h3;refine iM nD func12 rfl ?_ AxPost.re;simp only[ntmps12,List.size_toArray,Qk,List.length_nil,Nat.reduceAdd,Nat.reduceSub,Array.replicate_succ,Array.replicate_zero,List.push_toArray,List.append_toArray,List.nil_append,List.cons_append];refine fG nD (vD nD λτ d=>?_);go_wp2;refine qK ?_ τ d;refine fG nD ?_;refine o8 nD 1 (by decide) λτ d=>?_
 simp only[List.take_succ_cons,List.take_zero];go_wp2;refine tTA ?_ τ d;refine yL (i:=1) (rest:=List.range' 2 7) nD rfl (by rfl) (yI (vs:=#[.string ⟨#[40,97,120,105,111,109,32,97,32,85,110,105,116,41]⟩]) rfl func21 (by kernel_rfl) rfl (by simp[Act.eval])) (uPA h1 h2 W) ?_;rintro v w3 ⟨hU3,hR⟩;rw[h3]at hR;obtain⟨vr,rfl,hown⟩:=hR;obtain⟨q,cap,rfl,hcap,hsx⟩:=cZ hown;have hf:(qA (.list 0 axL)).length=4:=rfl;have hok:okS (.list 0 axL):=rO.2 λt h=>(pDA h).1
 have hIt:qC (qA (.list 0 axL))=some [qA (.list 0 axL)]:=by
  have:=gF (ts:=[.list 0 axL]) ⟨hok,trivial⟩
  simpa [rA] using this
 have HI:=aA (λτ d=>oQ (w0:=re w3 τ d) (cap:=cap) (p:=q) (qA (.list 0 axL)) (by rw[hf];decide) hcap hsx);have HU3:=aA hU3;rw[hf]at hcap;rw[hf,hIt]at HI;have HES:=aA (And.intro hE (And.intro hS hok));clear hU3 hown hsx hIt hE hS hok;refine wH nD 2 7 0 (by decide) λτ d=>?_
 simp only[List.drop_succ_cons,List.drop_zero,List.take_succ_cons,List.take_zero];walk_nrm;go_wp2;refine jL nD ?_;simp only[Exit.then];refine qK ?_ τ d;refine vD nD λτ d=>?_
 go_wp2_with fail;refine(HI.out τ d).mono ?_;rintro e w4 ⟨hU4,vo,vs,rfl,g1,g2⟩;obtain⟨pq,pc,rfl,hrows⟩:=jT g1 g2;obtain⟨b,off,rfl,hb,hcs⟩:=hrows (by simp);obtain⟨q0,c0,a0,ac0,aq0⟩:=hcs 0 _ rfl;rw[hf,Nat.add_zero]at a0;simp only[List.length_singleton];have HU4:=aA ((HU3.out.re τ d).trans hU4);have HA:=aA (And.intro a0 (And.intro hb (And.intro ac0 aq0)));have HRb:=aA (zA w4 #[.slice none 0 0,.int .i64 0,.int .i64 0] 54);have HFo:=aA (fEA (w0:=w4.alloc (.cells #[.slice none 0 0,.int .i64 0,.int .i64 0] 54)));clear hU4 g1 g2 hrows hcs a0 ac0 aq0 hb HI HU3;go_wp2_with fail;refine HFo.out.mono ?_;rintro e w6 ⟨rfl,hM,hU6⟩;have hs4:(w4.alloc (.cells #[.slice none 0 0,.int .i64 0,.int .i64 0] 54)).heap.size=w4.heap.size+1:=by simp
 rw[hs4]at hM ⊢;have HR6:=aA (HRb.out.under hU6);have HU6:=aA (Under.trans (bA (Qu w4) (.cells #[.slice none 0 0,.int .i64 0,.int .i64 0] 54)) hU6);have HA6:=aA ((iA HU6.out HA.out.2.1 off).trans HA.out.1);have HL6:=aA (Qb HA.out.2.1 HU6.out.size);have HW6:=aA (HU4.out.trans HU6.out);have HTh:=aA (pCA (W:=W) (l:=[]) (pl:=none) (rb:=w4.heap.size) (cap:=c0) (T:=.list 0 axL) HW6.out (by decide) (λd h=>(List.not_mem_nil h).elim) ⟨[],RowArg.nil,λr h=>(List.not_mem_nil h).elim,Zip.nil _⟩ (λ_=>rfl) HR6.out HU4.out.size hM (HA.out.2.2.2.under HU6.out) HA.out.2.2.1 (by rw[hf];decide) HES.out.2.2 (HES.out.1.under HW6.out) (λp ts e=>by
   obtain⟨rfl,rfl⟩:=(ST.list.injEq _ _ _ _).mp e.symm;exact⟨by decide,λt h=>(pDA h).2.2 _ (by obtain⟨i,hi⟩:=zF t;rw[hi];simp),λt h=>⟨p1A (pDA h).1 (pDA h).2.1 (pDA h).2.2 HES.out.1 HES.out.2.1 (by decide) (by decide),λnm hn q r e=>by
     simp only[axL,List.mem_cons,List.not_mem_nil,or_false]at h;rcases h with rfl|rfl|rfl<;>cases e⟩⟩))
 rw[e5A,hf]at HTh;clear hM hU6 HFo HRb hs4;go_wp2;go_loopw [34] (λi wr=>(i = .int .i64 0/\w6=wr)∨(i = .int .i64 1/\Ch (λb=>b=w4.heap.size) w6 wr/\∃ g c x y,BoxAt wr w4.heap.size 54 #[.slice (some ⟨g,0,none⟩) 1 c,.int .i64 x,.int .i64 y]/\g < wr.heap.size/\wr.cell? ⟨g,0,none⟩=some (.int .i64 2))) (λi _=>1 - (intOf i).toNat)
 case atStart=>exact .inl ⟨rfl,rfl⟩
 case round =>
   rcases hrel with⟨rfl,rfl⟩|⟨rfl,hch,g,c,x,y,hB,hg,hc⟩
   . have a0:=HA6.out;have al:=HL6.out;go_wp2_with fail;refine HTh.out.mono ?_;rintro e w7 ⟨hch,rfl,g,c,x,y,vt,vb,vc,hB,hg,hb7,hcc,_⟩;have HP:=aA (And.intro hch (And.intro hB (And.intro hb7 (hcc 0 _ rfl))));clear hch hB hg hb7 hcc HTh;go_wp2;go_roundw
     case rel=>exact .inr ⟨rfl,HP.out.1,g,c,x,y,HP.out.2.1,HP.out.2.2.1,HP.out.2.2.2⟩
     case measure=>simp[intOf]
   . have HUe:=aA (dB HW6.out hch (λb hb=>by have:=HU4.out.size;omega));have HC:=aA (And.intro hg hc);have c0:=hB.cell 0;have bl:=hB.lt;clear hch hB hg hc;go_wp2;exact jX rfl rfl ⟨HUe.out,g,c,rfl,HC.out.1,HC.out.2⟩
theorem nW(W:World)(hE:StrcAt W)(hS:ShapesAt 2 W):CallsG prog 5 #[] W (TrueU W):=by
 have hR:=tMA W hE hS;refine iM nD func5 rfl ?_ TrueU.re;simp only[ntmps5,List.size_toArray,Qk,List.length_nil,Nat.reduceAdd,Nat.reduceSub,Array.replicate_succ,Array.replicate_zero,List.push_toArray,List.append_toArray,List.nil_append,List.cons_append];refine fG nD (vD nD λτ d=>?_);go_wp2;refine qK ?_ τ d;refine fG nD ?_;refine oO nD ?_;refine yL (i:=0) (rest:=List.range' 1 7) nD rfl (by rfl) (yI (vs:=#[.string ⟨#[40,97,120,105,111,109,32,97,32,85,110,105,116,41]⟩]) rfl func12 (by kernel_rfl) rfl (by simp[Act.eval])) hR ?_;rintro v w1 ⟨hU1,g,c,rfl,hg,hc⟩;refine wH nD 1 7 0 (by decide) λτ d=>?_
 simp only[List.drop_succ_cons,List.drop_zero,List.take_succ_cons,List.take_zero];walk_nrm;go_wp2;refine jL nD ?_;simp only[Exit.then];refine qK ?_ τ d;refine vD nD λτ d=>?_
 have hU1':=aA (hU1.re τ d);have c0:(re w1 τ d).cell? ⟨g,0,none⟩=some (.int .i64 2):=hc;have gl:g < (re w1 τ d).heap.size:=hg;clear hR hU1 hc hg;go_wp2;exact jR rfl rfl ⟨rfl,hU1'.out⟩
noncomputable def y8:Code:=f3.body.getD .skip
noncomputable def uJA:Code:=aB (jA (jA (jA y8)))
noncomputable def onRound:Code:=nC (nC (jA uJA))
noncomputable def onRest:Code:=jA (jA (jA (jA y8)))
def oW(vl vx vy:Value)(k:Nat)(J:Nat->Value):Array Value:=#[vl,vx,J 2,J 3,J 4,vy,.int .i64 (k:Int),J 7,J 8,J 9,J 10,J 11,J 12,J 13,J 14,J 15,J 16,J 17,J 18,J 19,J 20,J 21,J 22,J 23,J 24,J 25,J 26,J 27,J 28,J 29,J 30,J 31,J 32,J 33,J 34,J 35,J 36,J 37,J 38,J 39,J 40,J 41,J 42,J 43,J 44,J 45,J 46,J 47,J 48,J 49,J 50,J 51,J 52,J 53,J 54,J 55,J 56,J 57,J 58,J 59,J 60,J 61,J 62,J 63,J 64,J 65,J 66,J 67,J 68,J 69,J 70,J 71,J 72,J 73,J 74,J 75]
def OnQ(W:World)(e:Exit)(a:Act)(w:World):Prop:=pV prog f3 (TrueU W) e a w
theorem Tryz.infoSx10:(Tryz.prog.info? 29).map (λi=>(i.zero,i.size,i.bytes))=some (some (.agg #[.int .i64 0,.int .i64 0,.string ⟨#[]⟩]),3,32):=by kernel_rfl
section
variable {W : World}
def aKA(W:World)(vl vx:Value)(k:Nat)(row:List Sx)(a':Act)(w':World):Prop:=∃ vy J,a'=⟨oW vl vx vy k J,[]⟩/\w'.ownsRow W.heap.size 29 3 vy k (mD row)/\Under W w'
def nOA(a:Act):Nat:=match a.tmps.getD 6 undef with|.int _ n=>n.toNat|_=>0
theorem rHA(vl vx vy:Value)(k:Nat)(J:Nat->Value):nOA ⟨oW vl vx vy k J,[]⟩=k:=by
 have:(oW vl vx vy k J).getD 6 undef = .int .i64 k:=rfl;simp only[nOA,this];omega
section
variable {b off n cap k : Nat} {vl vy : Value} {x : Sx} {row : List Sx}
def i9A(vl vx vy:Value)(n:Nat)(w:World)(e:Exit)(a':Act)(w':World):Prop:=e = .exit 0/\∃ J,a'=⟨oW vl vx vy n J,[]⟩/\w'=w
theorem g7A(p:Option Addr)(J:Nat->Value)(w:World) :
 onRound.wp prog (Exit.then (λ_ _=>False) (i9A vl (.slice p n cap) vy n w)) ⟨oW vl (.slice p n cap) vy n J,[]⟩ w:=by
 unfold onRound uJA y8;simp only[f3,Qf,aB,jA,nC];unfold oW;go_wp2;exact⟨rfl,bB (F:=oW vl (.slice p n cap) vy n) (by rfl) rfl⟩
theorem m6A(hk:k < n)(hn:n<=1000000)(hx:x.word.size<=100)(J:Nat->Value)(w:World)(hP:w.ownsRow W.heap.size 29 3 vy k (mD row))(hU:Under W w)
    (hb0:b < W.heap.size) (c0:W.cell? ⟨b,off+k * 3,none⟩=some (.int .i64 x.many)) (c1:W.cell? ⟨b,off+k * 3+1,none⟩=some (.int .i64 x.pos)) (c2:W.cell? ⟨b,off+k * 3+2,none⟩=some (.string x.word)) :
    onRound.wp prog (Exit.then (aKA W vl (.slice (some ⟨b,off,none⟩) n cap) (k+1) (row++[x])) (λ_ _ _=>False)) ⟨oW vl (.slice (some ⟨b,off,none⟩) n cap) vy k J,[]⟩ w:=by
  have hb:=Qb hb0 hU.size;rw[<- iA hU hb0]at c0 c1 c2;obtain⟨i0,hi,hz0,hz1,hz2⟩:=info_parts Tryz.infoSx10;have hin:(k:Int) < n:=by omega
  have hx':¬(100:Int) < x.word.size:=by omega
  have hmx:k+1<=maxLen:=by simp only[maxLen];omega
  have hby:(k+1) * 32<=140737488355328:=by omega
  have hws:=hU.size;have HP:=aA hP;have HU:=aA hU;have HK1:=aA (show ∀ j u,[Value.int .i64 x.many,.int .i64 x.pos,.string x.word][j]? = some u->(w.alloc (.cells #[.int .i64 x.many,.int .i64 x.pos,.string x.word] 29)).cell? ((⟨w.heap.size,0,none⟩:Addr).add j)=some u from λj u hj=>by
    match j,hj with
    | 0,hj=>cases hj;simp[Addr.add]
    | 1,hj=>cases hj;simp[Addr.add]
    | 2,hj=>cases hj;simp[Addr.add])
  have HK2:=aA (show ∀ u∈[Value.int .i64 x.many,.int .i64 x.pos,.string x.word],u.oneCell'=true from λu hu=>by simp at hu;rcases hu with rfl|rfl|rfl<;>rfl);have HK5:=aA (show W.heap.size<=(w.alloc (.cells #[.int .i64 x.many,.int .i64 x.pos,.string x.word] 29)).heap.size from by simp;omega);clear hP hU hx;unfold onRound uJA y8;simp only[f3,Qf,aB,jA,nC];unfold oW;go_wp2_with (at_builtin;refine wpList_append_own_at _ rfl _ _ 26 rfl W.heap.size 29 i0 _ 3 32 underlying26 hi hz0 hz1 hz2 rfl (by decide) _ _ _ rfl (HP.out.alloc _) ⟨w.heap.size,0,none⟩ 1 1 [.int .i64 x.many,.int .i64 x.pos,.string x.word] rfl rfl HK1.out HK2.out hmx hby HK5.out ?_);intro v' w' hown hgrow hnil hat;have HW:=aA hown;have HU2:=aA (eB (bA HU.out _) hgrow λg e=>(xB HP.out e).1);clear hown hgrow hnil hat;go_wp2;exact⟨v',bB (F:=oW _ _ v' (k+1)) (by rfl) ⟨by rw[aJ];exact HW.out,HU2.out⟩⟩
theorem mAB(hk:k < n)(hn:n<=1000000)(hx:100 < x.word.size)(J:Nat->Value)(w:World)(hE:StrcAt w)(hS:ShapesAt 2 w)(hU:Under W w)(hb:b < w.heap.size)(c2:w.cell? ⟨b,off+k * 3+2,none⟩=some (.string x.word)) :
 onRound.wpG prog (λe a w=>e = .ret/\OnQ W e a w) ⟨oW vl (.slice (some ⟨b,off,none⟩) n cap) vy k J,[]⟩ w:=by
 have hin:(k:Int) < n:=by omega
 have hx':(100:Int) < x.word.size:=by omega
 clear hx;have HSh:=aA (nW w hE hS);clear hE hS;generalize hQ:(λ(e:Exit) (a:Act) (w:World)=>e = .ret/\OnQ W e a w)=Q;unfold onRound uJA y8;simp only[f3,Qf,aB,jA,nC];unfold oW;refine fG nD (vD nD λτ d=>?_);go_wp2;refine qK ?_ τ d;refine fG nD (yHA nD (fG nD (fG nD (vD nD λτ d=>?_))));have c2':(re w τ d).cell? ⟨b,off+k * 3+2,none⟩=some (.string x.word):=c2;have hb':b < (re w τ d).heap.size:=hb;go_wp2;refine qK ?_ τ d;refine aZ nD (t:=true) rfl ?_;simp only[if_true];refine fG nD (oO nD ?_);refine yL (i:=0) (rest:=List.range' 1 1) nD rfl (by rfl) (yI (vs:=#[]) rfl func5 (by kernel_rfl) rfl (by simp)) HSh.out ?_;rintro v w1 ⟨rfl,hU1⟩;refine wH nD 1 1 0 (by decide) λτ d=>?_
 simp only[List.drop_succ_cons,List.drop_zero,List.take_succ_cons,List.take_zero];walk_nrm;go_wp2;refine jL nD ?_;simp only[Exit.then];refine vD nD λτ d=>?_
 go_wp2;subst hQ;exact⟨rfl,jR rfl rfl ⟨rfl,(hU.trans hU1).re _ _⟩⟩
end
def z8A(W:World)(vl vx:Value)(row:List Sx)(e:Exit)(a:Act)(w:World):Prop :=
 (e = .exit 0/\aKA W vl vx row.length row a w/\∀ x∈row,x.word.size<=100)∨(e = .ret/\OnQ W e a w)
theorem r4A(vl:Value)(row:List Sx){p:Option Addr}{cap:Nat}(hn:row.length<=1000000)(hp:SxArg W p row)(hE:StrcAt W)(hS:ShapesAt 2 W)(a:Act)(w:World)(h0:aKA W vl (.slice p row.length cap) 0 [] a w) :
 (Code.loop onRound).wpG prog (z8A W vl (.slice p row.length cap) row) a w:=by
 refine i1A nD (λa w=>∃ k,k<=row.length/\(∀ t∈row.take k,t.word.size<=100)/\aKA W vl (.slice p row.length cap) k (row.take k) a w) (λa _=>row.length - nOA a) ⟨0,Nat.zero_le _,by simp,h0⟩ ?_;clear h0;rintro a w ⟨k,hkn,hg,vy,J,rfl,hown,hU⟩;rw[rHA];by_cases hk:k=row.length
 . subst hk;refine vD nD λτ d=>wp_mono (g7A p J (re w τ d)) ?_
   rintro e a' w' h
   cases e with
   | normal=>exact h.elim
   | _ =>
     obtain⟨h1,J',rfl,rfl⟩:=h;rw[List.take_length]at hg hown;exact .inl ⟨h1,⟨vy,J',rfl,hown,hU.re τ d⟩,hg⟩
 have hlt:k < row.length:=by omega
 obtain⟨b,off,rfl,hb0,ht⟩:=hp (λe=>by rw[e]at hlt;exact absurd hlt (Nat.not_lt_zero _));obtain⟨c0,c1,c2⟩:=ht k row[k] (Qa hlt);by_cases hx:row[k].word.size<=100
 . refine vD nD λτ d=>wp_mono (m6A (cap:=cap) hlt hn hx J (re w τ d) hown (hU.re τ d) hb0 c0 c1 c2) ?_
   rintro e a' w' h
   cases e with
   | normal =>
     refine⟨⟨k+1,by omega,(λt ht=>by
       rcases nM hlt ht with h|rfl
       . exact hg t h
       . exact hx),by rw[Qj hlt];exact h⟩,?_⟩
     obtain⟨vy',J',rfl,_⟩:=h;rw[rHA];omega
   | _=>exact h.elim
 . have hb:=Qb hb0 hU.size;rw[<- iA hU hb0]at c2;refine uLA (mAB (cap:=cap) (x:=row[k]) hlt hn (by omega) J w (hE.under hU) (hS.under hU) hU hb c2) ?_;rintro e a' w' ⟨rfl,h⟩;exact .inr ⟨rfl,h⟩
end
end Go.Proofs.YtpkaiodmbicjiaaGreatDoor
namespace Go.Proofs.YtpkaiodmbicjiaaGreatDoor
open Go.Proofs.Tryz
open Go.Lx Go.RowKit
section
variable {w0 : World}
theorem vNA(d:Dc){v:Value}(hv:DcV w0 v d):Calls prog 10 #[v] w0 λe w=>e = .returned v/\Under w0 w:=by
 obtain⟨vt,vb,vc,rfl,⟨p1,c1,rfl,_⟩,⟨p2,c2,rfl,_⟩,⟨p3,c3,us3,rfl,_⟩⟩:=hv;generalize d.type.length=n1;generalize d.body.length=n2;generalize d.cons.length=n3;go_enter func10,ntmps10;go_wp2;refine bodyPost_ret (v:=.agg #[.int .i64 d.kind,.int .i64 d.level,.string d.name,.slice p1 n1 c1,.slice p2 n2 c2,.slice p3 n3 c3]) ?_ rfl ⟨rfl,bA (bA (Qu _) _) _⟩;simp[results,f10,go_sem]
end
end Go.Proofs.YtpkaiodmbicjiaaGreatDoor
