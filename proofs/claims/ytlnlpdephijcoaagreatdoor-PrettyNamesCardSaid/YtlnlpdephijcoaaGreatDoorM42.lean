/- Part 42 of what the proof rests on. -/
import Derived.Deep.RegionLaw
import Derived.Deep.RegionHeld3
import Derived.Sort.KeysCollected
import Derived.Maps.OwnSet
import Derived.Sort.Walk0
import Derived.Test.YtlnlpdephijcoaaGreatDoorM14
import Derived.Test.YtlnlpdephijcoaaGreatDoorM38
import Derived.Test.YtlnlpdephijcoaaGreatDoorM41
set_option linter.unusedSimpArgs false
set_option linter.unusedVariables false
set_option maxRecDepth 100000
set_option maxHeartbeats 8000000
namespace Go.Proofs.YtlnlpdephijcoaaGreatDoor
open Go.Lx Go.RowKit
attribute [local go_sem] uT
theorem tMA(x:Nd)(l:List Tm)(f0:(x.k==0)=false)(f1:(x.k==1)=false)(f2:(x.k==2)=false)(fp:sH x=false)(ih:∀ a∈l,jJ a):jJ (.mk x l):=by
 obtain⟨i0,hi,hz0,hz1,hz2'⟩:=info_parts Tryz.infoStrZ;have g0:x.k≠0:=by simpa using f0
 have g1:x.k≠1:=by simpa using f1
 have g2:x.k≠2:=by simpa using f2
 rintro hok hd hn W0 w pb hq tb ks st av sv tv hW hS hP hT hv hA ha hst hss hin;have hx:=hok.1;have hte:(flat (.mk x l))[(flat (.mk x l)).length - 1]? = some x:=by rw[flat];simp
 have hpos:1≤(flat (.mk x l)).length:=by rw[flat];simp
 have hlen:=hok.2.1;have hl8:=gG hx;have hbr:(if nA x then binds x else [])=binds x:=if_pos hx;have hb2:∀ b∈binds x,b≤2:=fun b hb=>by have:=nK (x:=x);unfold oF at this;rw[hbr]at this;exact this b hb
 unfold inT at hin;rw[if_neg (by omega)]at hin;obtain⟨p,c,rfl,hc,hp0,hr⟩:=hv;obtain⟨b,off,rfl,hb,c0,c1,c2,c3⟩:=RowArg.node hr hte;have HBn:=Lib.hid (fun w1 (hU:Under w w1)=>pBA (w0:=w1) x (by have:=rV hx;simp only[maxLen];omega) ((hS.under hP.und).under hU));have hfl:(flat (.mk x l)).length=(qA l).length+1:=by rw[flat];simp
 obtain⟨M,hM⟩:∃ M,(flat (.mk x l)).length=M+1:=⟨(flat (.mk x l)).length - 1,by omega⟩;rw[hM]at c0 c1 c2 c3;simp only[Nat.add_sub_cancel]at c0 c1 c2 c3;have hM0:(0:Int)≤(M:Int):=by omega
 have hM4:(M:Int)≤4000:=by omega
 have hMi:((M:Int)+1 - 1)=(M:Int):=by omega
 have hk:=oH hx;obtain⟨w1,hw1⟩:∃ w1,w1=(w.alloc (.cells #[.pointer (some ⟨pb,0,none⟩)] 88)).alloc (.cells #[.int .i64 x.k,.int .i64 x.n,.int .i64 x.m,.string x.s] 76):=⟨_,rfl⟩;have hU1:Under w w1:=by rw[hw1];exact aA (aA (Under.refl w) _) _
 have hB1:BoxAt w1 w.heap.size 88 #[.pointer (some ⟨pb,0,none⟩)]:=by rw[hw1];exact(yA w _ _).alloc _
 have hB2:BoxAt w1 (w.heap.size+1) 76 #[.int .i64 x.k,.int .i64 x.n,.int .i64 x.m,.string x.s]:=by
  have:=yA (w.alloc (.cells #[.pointer (some ⟨pb,0,none⟩)] 88)) #[.int .i64 x.k,.int .i64 x.n,.int .i64 x.m,.string x.s] 76;rw[World.size_alloc]at this;rw[hw1];exact this
 have hP1:=hP.under hU1;have d0:w1.cell? ⟨w.heap.size,0,none⟩=some (.pointer (some ⟨pb,0,none⟩)):=hB1.cell 0;have d1:w1.cell? ⟨pb,0,none⟩=some (.map (some hq)):=hP1.box.cell 0;have d2:w1.cell? ⟨w.heap.size+1,0,none⟩=some (.int .i64 x.k):=hB2.cell 0;have d3:MapIAt w1 hq vE:=hP1.heads;have hsz1:w1.heap.size=w.heap.size+2:=by rw[hw1];simp
 have HFd:=aM;have HLk:=fun(w':World) (h:MapIAt w' hq vE)=>bM h hk.1 hk.2
 rw[hM];have HU1:=Lib.hid hU1;have HB1:=Lib.hid hB1;have HB2:=Lib.hid hB2;have HP1:=Lib.hid hP1;have HP:=Lib.hid hP;have HT0:=Lib.hid hT;have dd:=And.intro d0 (And.intro d1 (And.intro d2 d3));have HK:=Lib.hid hk;have HIn:=Lib.hid hin;have HLen:=Lib.hid hlen;have HL8:=Lib.hid hl8;have HBr:=Lib.hid hbr;have HB22b:=Lib.hid hb2;have HX:=Lib.hid hx;have HSS:=Lib.hid hss;have HW:=Lib.hid hW;have HS:=Lib.hid hS;have HFl:=Lib.hid hfl;have HHa:=Lib.hid ha;have HM:=Lib.hid hM;rw[hM]at hc hn hst;have HN4:=Lib.hid hn;have Hih:=Lib.hid ih;have Hok:=Lib.hid hok;have Hd:=Lib.hid hd;have Hr:=Lib.hid hr;have Hc:=Lib.hid hc;have HSt:=Lib.hid hst;clear hte hr hok hin hst hss hA hT hS hW hP hU1 hB1 hB2 hP1 hpos hn hM hp0 hx hd d0 d1 d2 d3 hk hlen hl8 hbr hb2 hfl ha ih;have hn9:=kU HX.out;obtain⟨u,hu⟩:∃ u:Nat,x.n=u:=⟨x.n.toNat,by omega⟩;obtain⟨D,hD⟩:∃ D,D=Lib.decDigits u:=⟨_,rfl⟩;have HI20:=Lib.hid (fun w=>Tryz.strconv_Itoa_small u (by omega) w);have hDl:=dW u (by omega);have hHl:=yJA x.k.toNat;rw[← hD]at HI20 hDl;have hEn:=fBB (av:=av) (st:=st) HX.out HLen.out g0 g1 g2 fp;have hs26:(x.k==26)=true→(x.s.toList==[])=false:=fun h=>by
  rcases fG HX.out with⟨_,h2⟩ | ⟨h2,_⟩
  · rw[show x.k=26 by simpa using h]at h2;cases h2
  · have := (uP h2).1; rw [ByteArray.toList_eq]
    cases e:x.s.data.toList with
    | nil=>rw[e]at this;simp at this
    | cons a b=>rfl
 have hname:(x.s.toList==[])=false→(x.k==3)=false∧(x.k==6)=false:=fun h=>by
  rcases fG HX.out with⟨h2,_⟩ | ⟨_,h2⟩
  · rw[h2]at h;cases h
  · refine⟨?_,?_⟩<;>(refine beq_false_of_ne fun e=>?_)<;>(rw[e]at h2;cases h2)
 have hcat:(x.k=3∨x.k=6)→0 < u→kJ x.k.toNat++(⟨D.toArray⟩:ByteArray)=uD x:=fun h1 h2=>by
  unfold uD;rw[if_pos ⟨h1,by omega⟩,hu,Int.toNat_natCast,← hD];exact ByteArray.ext (by simp)
 have hhd:¬((x.k=3∨x.k=6)∧0 < u)→kJ x.k.toNat=uD x:=fun h=>by unfold uD;rw[if_neg (by omega)]
 have hfl:(x.s.toList==[])=true→(x.k==26)=false→((l.length:Int)==0)=false:=fun fs f26=>by
  have:=m3A HX.out g0 g1 g2 fp fs (by simpa using f26);rw[HLen.out];exact beq_false_of_ne (by omega)
 have hex:vY x=(if x.s.toList==[] then [] else [x.s])++(if(x.k==26) then [⟨D.toArray⟩] else []):=by
  unfold vY;rw[hu,Int.toNat_natCast,← hD];by_cases h:x.k=26<;>simp[h]
 rw[hex]at hEn;have HEn:=Lib.hid hEn;obtain⟨cT,hcT⟩:∃ c,pwTail=c:=⟨_,rfl⟩;have hcl:=hcT;unfold pwTail vEA at hcl;simp only[Tryz.f44,Option.getD_some,fA]at hcl;have HcT:=Lib.hid hcT;subst hw1;clear g0 g1 g2 fp HX hD hEn hex hcT;obtain⟨k,n,m,s⟩:=x;simp only at *;subst hu;generalize uD ⟨k,(u:Int),m,s⟩=W at *;generalize kJ k.toNat=H0 at *;have hu0:(0:Int)≤(u:Int):=by omega
 have HA := Lib.hid (And.intro hs26 (And.intro hname (And.intro hcat (And.intro hhd hfl)))); clear hs26 hname hcat hhd hfl; go_enter Tryz.func44, Tryz.ntmps44; rw [hcl]; clear hcl; go_wp2_with fail; go_region_held3 (fun w' => w'.cell? ⟨w.heap.size, 0, none⟩ = some (.pointer (some ⟨pb, 0, none⟩)) ∧ w'.cell? ⟨pb, 0, none⟩ = some (.map (some hq)) ∧ w'.cell? ⟨w.heap.size + 1, 0, none⟩ = some (.int .i64 k) ∧ MapIAt w' hq vE)
   (first
     | exact dd
     | go_keep)
   (fail)
 rename_i hHeld;clear dd hHeld HLk HFd c0 c1 c2 c3;go_wp2_with fail;refine(HBn.out _ (HU1.out.trans (bA (Under.refl _)))).mono ?_;rintro e w2 ⟨vb,rfl,hrb,hU2⟩;rw[HBr.out]at hrb;have HU2:=Lib.hid ((HU1.out.trans (bA (Under.refl _))).trans hU2);have HB12:=Lib.hid (HB1.out.under ((bA (Under.refl _)).trans hU2));have hB22:=HB2.out.under ((bA (Under.refl _)).trans hU2);have HB22:=Lib.hid hB22;have HRb:=Lib.hid hrb;obtain⟨qb,cb,rfl,_,_⟩:=RowArg.of_own hrb;rw[← HLen.out];have e3:w2.cell? ⟨w.heap.size+1,3,none⟩=some (.string s):=hB22.cell 3;have e1:w2.cell? ⟨w.heap.size+1,1,none⟩=some (.int .i64 (u:Int)):=hB22.cell 1;have e0:w2.cell? ⟨w.heap.size+1,0,none⟩=some (.int .i64 k):=hB22.cell 0;have el:=hB22.lt;have hU3:Under w2 ((w2.alloc (.cells #[.string W] 9)).alloc (.cells #[.slice (some ⟨w2.heap.size,0,none⟩) 1 1] 22)):=aA (aA (Under.refl _) _) _;have hB3:=hB22.under hU3;have m3:((w2.alloc (.cells #[.string W] 9)).alloc (.cells #[.slice (some ⟨w2.heap.size,0,none⟩) 1 1] 22)).cell? ⟨w.heap.size+1,3,none⟩=some (.string s):=hB3.cell 3;have m1:((w2.alloc (.cells #[.string W] 9)).alloc (.cells #[.slice (some ⟨w2.heap.size,0,none⟩) 1 1] 22)).cell? ⟨w.heap.size+1,1,none⟩=some (.int .i64 (u:Int)):=hB3.cell 1;have m0:((w2.alloc (.cells #[.string W] 9)).alloc (.cells #[.slice (some ⟨w2.heap.size,0,none⟩) 1 1] 22)).cell? ⟨w.heap.size+1,0,none⟩=some (.int .i64 k):=hB3.cell 0;have ml:=hB3.lt;have hL3:=yA (w2.alloc (.cells #[.string W] 9)) #[.slice (some ⟨w2.heap.size,0,none⟩) 1 1] 22;rw[World.size_alloc]at hL3;have l0:((w2.alloc (.cells #[.string W] 9)).alloc (.cells #[.slice (some ⟨w2.heap.size,0,none⟩) 1 1] 22)).cell? ⟨w2.heap.size+1,0,none⟩=some (.slice (some ⟨w2.heap.size,0,none⟩) 1 1):=hL3.cell 0;have ll:=hL3.lt;have hz2:w.heap.size≤w2.heap.size:=HU2.out.size;have hbs:W0.heap.size≤w2.heap.size:=(HP.out.und.trans HU2.out).size;have hR3:=uA (lVA w2 W0.heap.size 9 (.string W) hbs) (aA (Under.refl _) (.cells #[.slice (some ⟨w2.heap.size,0,none⟩) 1 1] 22));have hv3:∀ i,(Value.slice (some ⟨w2.heap.size,0,none⟩) 1 1).ownBlock=some i→w2.heap.size≤i:=fun i h=>by cases h;exact Nat.le_refl _
 have HU23:=Lib.hid hU3;have HL3:=Lib.hid hL3;have HR3:=Lib.hid hR3;have HV3:=Lib.hid hv3;clear hrb hU2 hB22 hU3 hB3 hL3 hR3 hv3
 cases fs:(s.toList==[])
 · obtain ⟨f3, f6⟩ := HA.out.2.1 fs; obtain rfl : H0 = W := HA.out.2.2.2.1 fun h => by simp at f3 f6; omega
   have HEn2:=Lib.hid HEn.out;rw[fs]at HEn2
   cases f26:(k==26)
   · rw [f26] at HEn2
     cases fl:((l.length:Int)==0)
     all_goals
      go_wp2_with (at_builtin;refine wpList_append_lies _ rfl _ _ 22 rfl W0.heap.size 9 i0 _ 1 16 Tryz.underlying22 hi hz0 hz1 hz2' rfl (by decide) (.slice (some ⟨w2.heap.size,0,none⟩) 1 1) 1 ([H0].map .string) rfl (HR3.out.alloc _) _ 1 1 [.string s] rfl rfl (fun j u hj=>by have h:=cell_one_new ((w2.alloc (.cells #[.string H0] 9)).alloc (.cells #[.slice (some ⟨w2.heap.size,0,none⟩) 1 1] 22)) (.string s) 9 j u hj;simpa using h) (by simp[Value.oneCell']) (by omega) (by simp only[maxLen];omega) (by omega) (by simp;omega) ((((w2.alloc (.cells #[.string H0] 9)).alloc (.cells #[.slice (some ⟨w2.heap.size,0,none⟩) 1 1] 22))).heap.size+1) (by simp) ?_);intro gg cc w5 hown hgrow hat hlt;obtain⟨p1,p2,p3,p4,p5⟩:=nQA (ls:=[H0]) (x:=s) HU23.out (Nat.le_succ _) HL3.out HR3.out HV3.out hown hgrow (hat.imp id (fun e=>by first | omega | (simp at e;omega)));have pb5:w5.cell? ⟨w2.heap.size+1,0,none⟩=some (.slice (some ⟨w2.heap.size,0,none⟩) 1 1):=p1.cell 0;have pf5:=p1.free 0;have pl5:=p1.lt;have hB5:=HB22.out.under p2;have r1:(w5.setCell ⟨w2.heap.size+1,0,none⟩ (.slice (some ⟨gg,0,none⟩) (1+1) cc)).cell? ⟨w.heap.size+1,1,none⟩=some (.int .i64 (u:Int)):=hB5.cell 1;have r0:(w5.setCell ⟨w2.heap.size+1,0,none⟩ (.slice (some ⟨gg,0,none⟩) (1+1) cc)).cell? ⟨w.heap.size+1,0,none⟩=some (.int .i64 k):=hB5.cell 0;have rl:=hB5.lt;have rb:(w5.setCell ⟨w2.heap.size+1,0,none⟩ (.slice (some ⟨gg,0,none⟩) (1+1) cc)).cell? ⟨w2.heap.size+1,0,none⟩=some (.slice (some ⟨gg,0,none⟩) (1+1) cc):=p3.cell 0;have rbl:=p3.lt;have HU23:=Lib.hid p2;have HL3:=Lib.hid p3;have HR3:=Lib.hid p4;have HV3:=Lib.hid p5;clear p1 p2 p3 p4 p5 hown hgrow hat hlt hB5 e3 e1 e0 el m3 m1 m0 ml l0 ll;simp only[List.length_cons,List.length_nil,Nat.zero_add,Nat.reduceAdd,List.cons_append,List.nil_append]at HR3 HL3 HV3 HU23 r1 r0 rl rb rbl;go_wp2;rw[← HcT.out];refine aY (F:=iL (.slice (some ⟨b,off,none⟩) (M+1) c) w.heap.size (w.heap.size+1) (.slice qb l.length cb) (w2.heap.size+1)) (by rfl) fun J=>?_
      exact xL (LS:=[H0,s]) (LV:=(.slice (some ⟨gg,0,none⟩) 2 cc)) ⟨k,(u:Int),m,s⟩ l Hih.out Hok.out Hd.out HM.out HN4.out HW.out HS.out HP.out HT0.out Hc.out Hr.out HHa.out HSt.out HSS.out HIn.out (HU2.out.trans HU23.out) (by omega) (fun i h=>Nat.le_trans hz2 (HV3.out i h)) (HB12.out.under HU23.out) (HB22.out.under HU23.out) (by have h:=uA HRb.out HU23.out;rw[← HLen.out]at h ⊢;exact h) HL3.out HR3.out (by simp) (by simp) HEn2.out J
   · rw [f26] at HEn2
     cases fl:((l.length:Int)==0)
     all_goals
      go_wp2_with (at_builtin;refine wpList_append_lies _ rfl _ _ 22 rfl W0.heap.size 9 i0 _ 1 16 Tryz.underlying22 hi hz0 hz1 hz2' rfl (by decide) (.slice (some ⟨w2.heap.size,0,none⟩) 1 1) 1 ([H0].map .string) rfl (HR3.out.alloc _) _ 1 1 [.string s] rfl rfl (fun j u hj=>by have h:=cell_one_new ((w2.alloc (.cells #[.string H0] 9)).alloc (.cells #[.slice (some ⟨w2.heap.size,0,none⟩) 1 1] 22)) (.string s) 9 j u hj;simpa using h) (by simp[Value.oneCell']) (by omega) (by simp only[maxLen];omega) (by omega) (by simp;omega) ((((w2.alloc (.cells #[.string H0] 9)).alloc (.cells #[.slice (some ⟨w2.heap.size,0,none⟩) 1 1] 22))).heap.size+1) (by simp) ?_);intro gg cc w5 hown hgrow hat hlt;obtain⟨p1,p2,p3,p4,p5⟩:=nQA (ls:=[H0]) (x:=s) HU23.out (Nat.le_succ _) HL3.out HR3.out HV3.out hown hgrow (hat.imp id (fun e=>by first | omega | (simp at e;omega)));have pb5:w5.cell? ⟨w2.heap.size+1,0,none⟩=some (.slice (some ⟨w2.heap.size,0,none⟩) 1 1):=p1.cell 0;have pf5:=p1.free 0;have pl5:=p1.lt;have hB5:=HB22.out.under p2;have r1:(w5.setCell ⟨w2.heap.size+1,0,none⟩ (.slice (some ⟨gg,0,none⟩) (1+1) cc)).cell? ⟨w.heap.size+1,1,none⟩=some (.int .i64 (u:Int)):=hB5.cell 1;have r0:(w5.setCell ⟨w2.heap.size+1,0,none⟩ (.slice (some ⟨gg,0,none⟩) (1+1) cc)).cell? ⟨w.heap.size+1,0,none⟩=some (.int .i64 k):=hB5.cell 0;have rl:=hB5.lt;have rb:(w5.setCell ⟨w2.heap.size+1,0,none⟩ (.slice (some ⟨gg,0,none⟩) (1+1) cc)).cell? ⟨w2.heap.size+1,0,none⟩=some (.slice (some ⟨gg,0,none⟩) (1+1) cc):=p3.cell 0;have rbl:=p3.lt;have HU23:=Lib.hid p2;have HL3:=Lib.hid p3;have HR3:=Lib.hid p4;have HV3:=Lib.hid p5;clear p1 p2 p3 p4 p5 hown hgrow hat hlt hB5 e3 e1 e0 el m3 m1 m0 ml l0 ll;simp only[List.length_cons,List.length_nil,Nat.zero_add,Nat.reduceAdd,List.cons_append,List.nil_append]at HR3 HL3 HV3 HU23 r1 r0 rl rb rbl;go_wp2_with fail;rename_i K hK;generalize (w5.setCell ⟨w2.heap.size+1,0,none⟩ (.slice (some ⟨gg,0,none⟩) 2 cc))=w3' at HU23 HL3 HR3 r1 r0 rl rb rbl ⊢;have HRd:=Lib.hid (uA HR3.out (bA (Under.refl w3')));have hbz:W0.heap.size≤w3'.heap.size:=Nat.le_trans hbs HU23.out.size;have hwz:w2.heap.size≤w3'.heap.size:=HU23.out.size;have r3:(w3'.drew.alloc (.cells #[.string ⟨D.toArray⟩] 9)).cell? ⟨w2.heap.size+1,0,none⟩=some (.slice (some ⟨gg,0,none⟩) 2 cc):=((HL3.out.drew).alloc _).cell 0;refine wp_mono (Q:=fun e a' w'=>e = .normal∧∃ gg2 cc2 J,a'=⟨iL (.slice (some ⟨b,off,none⟩) (M+1) c) w.heap.size (w.heap.size+1) (.slice qb l.length cb) (w2.heap.size+1) J,[]⟩∧RowKit.Hid (Under w2 w'∧BoxAt w' (w2.heap.size+1) 22 #[.slice (some ⟨gg2,0,none⟩) 3 cc2]∧w'.ownsRow W0.heap.size 9 1 (.slice (some ⟨gg2,0,none⟩) 3 cc2) 3 ([H0,s,⟨D.toArray⟩].map .string)∧∀ i,(Value.slice (some ⟨gg2,0,none⟩) 3 cc2).ownBlock=some i→w2.heap.size≤i)) ?_ ?_
      · refine wp_region_noPanic ?_
        go_region_law
          (first
            | (go_simp;go_at_call 77;refine(HI20.out _).mono ?_;rintro e wI ⟨rfl,rfl⟩)
            | (refine step_append_lies _ (by rfl) _ _ _ (by rfl) W0.heap.size 9 i0 _ 1 16 Tryz.underlying22 hi hz0 hz1 hz2' rfl (by omega) (.slice (some ⟨gg, 0, none⟩) 2 cc) 2 ([H0, s].map .string) (by rfl) (HRd.out.alloc _) ⟨w3'.heap.size, 0, none⟩ 1 1 [.string ⟨D.toArray⟩] (by rfl) (by rfl) (cell_one_new w3'.drew _ _) (by simp [Value.oneCell']) (by omega) (by simp only [maxLen]; omega) (by omega) (by simp; omega) (w3'.heap.size + 1) (by simp) ?_
               intro gg2 cc2 w6 hown hgrow hat hlt;obtain⟨p1,p2,p3,p4,p5⟩:=nQA (ls:=[H0,s]) (x:=⟨D.toArray⟩) (HU23.out.trans (bA (Under.refl _))) (Nat.le_succ _) (HL3.out.drew) HRd.out HV3.out hown hgrow (hat.imp id (fun e=>by omega));have pc6:w6.cell? ⟨w2.heap.size+1,0,none⟩=some (.slice (some ⟨gg,0,none⟩) 2 cc):=p1.cell 0;have pf6:=p1.free 0;have pl6:=p1.lt;have P2:=Lib.hid p2;have P3:=Lib.hid p3;have P4:=Lib.hid p4;have P5:=Lib.hid p5;clear p1 p2 p3 p4 p5 hown hgrow hat hlt))
        all_goals exact⟨rfl,gg2,cc2,rA (F:=iL (.slice (some ⟨b,off,none⟩) (M+1) c) w.heap.size (w.heap.size+1) (.slice qb l.length cb) (w2.heap.size+1)) (by rfl) (Lib.hid ⟨P2.out,P3.out,P4.out,P5.out⟩)⟩
      rintro ex a' w6 ⟨rfl,gg2,cc2,J,rfl,hG⟩;simp only[Exit.then];refine hK _ _ ?_;have HU23:=Lib.hid hG.out.1;have HL3:=Lib.hid hG.out.2.1;have HR3:=Lib.hid hG.out.2.2.1;have HV3:=Lib.hid hG.out.2.2.2;clear hG r1 r0 rl rb rbl r3 HRd hK K;unfold iL;go_wp2;rw[← HcT.out];refine aY (F:=iL (.slice (some ⟨b,off,none⟩) (M+1) c) w.heap.size (w.heap.size+1) (.slice qb l.length cb) (w2.heap.size+1)) (by rfl) fun J=>?_
      exact xL (LS:=[H0,s,⟨D.toArray⟩]) (LV:=(.slice (some ⟨gg2,0,none⟩) 3 cc2)) ⟨k,(u:Int),m,s⟩ l Hih.out Hok.out Hd.out HM.out HN4.out HW.out HS.out HP.out HT0.out Hc.out Hr.out HHa.out HSt.out HSS.out HIn.out (HU2.out.trans HU23.out) (by omega) (fun i h=>Nat.le_trans hz2 (HV3.out i h)) (HB12.out.under HU23.out) (HB22.out.under HU23.out) (by have h:=uA HRb.out HU23.out;rw[← HLen.out]at h ⊢;exact h) HL3.out HR3.out (by simp) (by simp) HEn2.out J
 · have f26 : (k == 26) = false := by
     cases h:(k==26)
     · rfl
     · have:=HA.out.1 h;rw[fs]at this;cases this
   have fl:=HA.out.2.2.2.2 fs f26;have HEn2:=Lib.hid HEn.out;rw[fs,f26]at HEn2;have h5:((k==3)=false∧(k==6)=false)∨((k==3)=true∧¬(0:Int) < (u:Int))∨((k==3)=false∧(k==6)=true∧¬(0:Int) < (u:Int))∨((k==3)=true∧(0:Int) < (u:Int))∨((k==3)=false∧(k==6)=true∧(0:Int) < (u:Int)):=by
    cases h3:(k==3)<;>cases h6:(k==6)<;>simp<;>omega
   rcases h5 with⟨f3,f6⟩ | ⟨f3,fu⟩ | ⟨f3,f6,fu⟩ | ⟨f3,fu⟩ | ⟨f3,f6,fu⟩
   · obtain rfl : H0 = W := HA.out.2.2.2.1 fun h => by simp at f3 f6; omega
     go_wp2;rw[← HcT.out];refine aY (F:=iL (.slice (some ⟨b,off,none⟩) (M+1) c) w.heap.size (w.heap.size+1) (.slice qb l.length cb) (w2.heap.size+1)) (by rfl) fun J=>?_
     exact xL (LS:=[H0]) (LV:=(.slice (some ⟨w2.heap.size,0,none⟩) 1 1)) ⟨k,(u:Int),m,s⟩ l Hih.out Hok.out Hd.out HM.out HN4.out HW.out HS.out HP.out HT0.out Hc.out Hr.out HHa.out HSt.out HSS.out HIn.out (HU2.out.trans HU23.out) (by omega) (fun i h=>Nat.le_trans hz2 (HV3.out i h)) (HB12.out.under HU23.out) (HB22.out.under HU23.out) (by have h:=uA HRb.out HU23.out;rw[← HLen.out]at h ⊢;exact h) HL3.out HR3.out (by simp) (by simp) HEn2.out J
   · obtain rfl : H0 = W := HA.out.2.2.2.1 fun h => by omega
     go_wp2;rw[← HcT.out];refine aY (F:=iL (.slice (some ⟨b,off,none⟩) (M+1) c) w.heap.size (w.heap.size+1) (.slice qb l.length cb) (w2.heap.size+1)) (by rfl) fun J=>?_
     exact xL (LS:=[H0]) (LV:=(.slice (some ⟨w2.heap.size,0,none⟩) 1 1)) ⟨k,(u:Int),m,s⟩ l Hih.out Hok.out Hd.out HM.out HN4.out HW.out HS.out HP.out HT0.out Hc.out Hr.out HHa.out HSt.out HSS.out HIn.out (HU2.out.trans HU23.out) (by omega) (fun i h=>Nat.le_trans hz2 (HV3.out i h)) (HB12.out.under HU23.out) (HB22.out.under HU23.out) (by have h:=uA HRb.out HU23.out;rw[← HLen.out]at h ⊢;exact h) HL3.out HR3.out (by simp) (by simp) HEn2.out J
   · obtain rfl : H0 = W := HA.out.2.2.2.1 fun h => by omega
     go_wp2;rw[← HcT.out];refine aY (F:=iL (.slice (some ⟨b,off,none⟩) (M+1) c) w.heap.size (w.heap.size+1) (.slice qb l.length cb) (w2.heap.size+1)) (by rfl) fun J=>?_
     exact xL (LS:=[H0]) (LV:=(.slice (some ⟨w2.heap.size,0,none⟩) 1 1)) ⟨k,(u:Int),m,s⟩ l Hih.out Hok.out Hd.out HM.out HN4.out HW.out HS.out HP.out HT0.out Hc.out Hr.out HHa.out HSt.out HSS.out HIn.out (HU2.out.trans HU23.out) (by omega) (fun i h=>Nat.le_trans hz2 (HV3.out i h)) (HB12.out.under HU23.out) (HB22.out.under HU23.out) (by have h:=uA HRb.out HU23.out;rw[← HLen.out]at h ⊢;exact h) HL3.out HR3.out (by simp) (by simp) HEn2.out J
   all_goals
    have hcat:H0++(⟨D.toArray⟩:ByteArray)=W:=HA.out.2.2.1 (by simp at *;omega) (by omega);have hD1:¬ 9223372036854775807 < H0.size+D.toArray.size:=by simp;omega
    go_wp2_with fail;refine(HI20.out _).mono ?_;rintro e wI ⟨rfl,hwI⟩;obtain rfl:w2=wI:=hwI.symm;go_wp2;rw[← HcT.out];refine aY (F:=iL (.slice (some ⟨b,off,none⟩) (M+1) c) w.heap.size (w.heap.size+1) (.slice qb l.length cb) (w2.heap.size+1)) (by rfl) fun J=>?_
    exact xL (LS:=[W]) (LV:=(.slice (some ⟨w2.heap.size,0,none⟩) 1 1)) ⟨k,(u:Int),m,s⟩ l Hih.out Hok.out Hd.out HM.out HN4.out HW.out HS.out HP.out HT0.out Hc.out Hr.out HHa.out HSt.out HSS.out HIn.out (HU2.out.trans HU23.out) (by omega) (fun i h=>Nat.le_trans hz2 (HV3.out i h)) (HB12.out.under HU23.out) (HB22.out.under HU23.out) (by have h:=uA HRb.out HU23.out;rw[← HLen.out]at h ⊢;exact h) HL3.out HR3.out (by simp) (by simp) HEn2.out J
attribute [local go_sem] uT
theorem oNA(x:Nd)(l:List Tm)(hp:sH x=true)(ih:∀ a∈l,jJ a):jJ (.mk x l):=by
 have h6:x.k=10∨x.k=11∨x.k=14∨x.k=16∨x.k=17∨x.k=29:=by simpa [sH,or_assoc] using hp
 have g0:x.k≠0:=by omega
 have f0:(x.k==0)=false:=beq_false_of_ne (by omega);have f1:(x.k==1)=false:=beq_false_of_ne (by omega);have f2:(x.k==2)=false:=beq_false_of_ne (by omega);have hb0:binds x=[]:=by rcases h6 with h | h | h | h | h | h<;>simp[binds,h,pE]
 rintro hok hd hn W0 w pb hq tb ks st av sv tv hW hS hP hT hv hA ha hst hss hin;have hx:=hok.1;have hte:(flat (.mk x l))[(flat (.mk x l)).length - 1]? = some x:=by rw[flat];simp
 have hpos:1≤(flat (.mk x l)).length:=by rw[flat];simp
 have hsl:=wEA av (by omega) (.mk x l) hok st hss (by omega);have hlen:=hok.2.1;have hl8:=gG hx;have hbr:(if nA x then binds x else [])=binds x:=if_pos hx;have hb2:∀ b∈binds x,b≤2:=fun b hb=>by have:=nK (x:=x);unfold oF at this;rw[hbr]at this;exact this b hb
 unfold inT at hin;rw[if_neg (by omega)]at hin;obtain⟨p,c,rfl,hc,hp0,hr⟩:=hv;obtain⟨b,off,rfl,hb,c0,c1,c2,c3⟩:=RowArg.node hr hte;have HAr:=Lib.hid (fun w1 (hU:Under w w1)=>xPA (w0:=w1) x l (t:=flat (.mk x l)) (b:=b) (off:=off) (c:=c) rfl hok hd hn hc (hr.under hU) ((hS.under hP.und).under hU));have HBn:=Lib.hid (fun w1 (hU:Under w w1)=>pBA (w0:=w1) x (by have:=rV hx;simp only[maxLen];omega) ((hS.under hP.und).under hU));have HUn:=Lib.hid (fun a (ha':a∈l)=>jBA a (wR.1 hok.2.2 a ha') (Nat.le_trans (tIA ha') hd) (by have:=vV ha';rw[flat,List.length_append]at hn;omega) (ih a ha'));have hfl:(flat (.mk x l)).length=(qA l).length+1:=by rw[flat];simp
 obtain⟨M,hM⟩:∃ M,(flat (.mk x l)).length=M+1:=⟨(flat (.mk x l)).length - 1,by omega⟩;rw[hM]at c0 c1 c2 c3;simp only[Nat.add_sub_cancel]at c0 c1 c2 c3;have hM0:(0:Int)≤(M:Int):=by omega
 have hM4:(M:Int)≤4000:=by omega
 have hMi:((M:Int)+1 - 1)=(M:Int):=by omega
 have hk:=oH hx;obtain⟨w1,hw1⟩:∃ w1,w1=(w.alloc (.cells #[.pointer (some ⟨pb,0,none⟩)] 88)).alloc (.cells #[.int .i64 x.k,.int .i64 x.n,.int .i64 x.m,.string x.s] 76):=⟨_,rfl⟩;have hU1:Under w w1:=by rw[hw1];exact aA (aA (Under.refl w) _) _
 have hB1:BoxAt w1 w.heap.size 88 #[.pointer (some ⟨pb,0,none⟩)]:=by rw[hw1];exact(yA w _ _).alloc _
 have hB2:BoxAt w1 (w.heap.size+1) 76 #[.int .i64 x.k,.int .i64 x.n,.int .i64 x.m,.string x.s]:=by
  have:=yA (w.alloc (.cells #[.pointer (some ⟨pb,0,none⟩)] 88)) #[.int .i64 x.k,.int .i64 x.n,.int .i64 x.m,.string x.s] 76;rw[World.size_alloc]at this;rw[hw1];exact this
 have hP1:=hP.under hU1;have d0:w1.cell? ⟨w.heap.size,0,none⟩=some (.pointer (some ⟨pb,0,none⟩)):=hB1.cell 0;have d1:w1.cell? ⟨pb,0,none⟩=some (.map (some hq)):=hP1.box.cell 0;have d2:w1.cell? ⟨w.heap.size+1,0,none⟩=some (.int .i64 x.k):=hB2.cell 0;have d3:MapIAt w1 hq vE:=hP1.heads;have hsz1:w1.heap.size=w.heap.size+2:=by rw[hw1];simp
 have HFd:=aM;have HLk:=fun(w':World) (h:MapIAt w' hq vE)=>bM h hk.1 hk.2
 rw[hM];have HU1:=Lib.hid hU1;have HB1:=Lib.hid hB1;have HB2:=Lib.hid hB2;have HP1:=Lib.hid hP1;have HP:=Lib.hid hP;have HT0:=Lib.hid hT;have dd:=And.intro d0 (And.intro d1 (And.intro d2 d3));have HK:=Lib.hid hk;have HIn:=Lib.hid hin;have HLen:=Lib.hid hlen;have HL8:=Lib.hid hl8;have HBr:=Lib.hid hbr;have HB22b:=Lib.hid hb2;have HX:=Lib.hid hx;have HSS:=Lib.hid hss;have HW:=Lib.hid hW;have HS:=Lib.hid hS;have HFl:=Lib.hid hfl;have HSt:=Lib.hid hst;have HHa:=Lib.hid ha;have HM:=Lib.hid hM;rw[hM]at hc hsl HAr hn;have HSl:=Lib.hid hsl;have HN4:=Lib.hid hn;clear hte hr hok hin hst hss hA hT hS hW hP hU1 hB1 hB2 hP1 hpos hn hM hp0 hx hd d0 d1 d2 d3 hk hsl hlen hl8 hbr hb2 hfl ha ih;have hs0:x.s=⟨#[]⟩:=(vI HX.out).2.2 (by rcases h6 with h | h | h | h | h | h<;>rw[h]<;>rfl);have HT:RowKit.Hid (aG av (.mk x l) st=(uD x).data.toList):=Lib.hid (by unfold aG;rw[if_neg g0,if_neg (by omega),if_pos hp]);have HWd:RowKit.Hid (kJ x.k.toNat=uD x):=Lib.hid (by unfold uD;rw[if_neg (by omega)]);rw[HWd.out]at HLk;generalize uD x=W at *;have hl0:l.length=0:=by rw[HLen.out,hb0];rfl
 subst hw1; clear hp HWd HX g0 h6; obtain ⟨k, n, m, s⟩ := x; simp only at *; subst hs0; go_enter Tryz.func44, Tryz.ntmps44; go_wp2_with fail; go_region_held3 (fun w' => w'.cell? ⟨w.heap.size, 0, none⟩ = some (.pointer (some ⟨pb, 0, none⟩)) ∧ w'.cell? ⟨pb, 0, none⟩ = some (.map (some hq)) ∧ w'.cell? ⟨w.heap.size + 1, 0, none⟩ = some (.int .i64 k) ∧ MapIAt w' hq vE)
   (first
     | exact dd
     | go_keep)
   (fail)
 rename_i hHeld;clear dd hHeld HLk HFd c0 c1 c2 c3;go_wp2_with fail;refine(HBn.out _ (HU1.out.trans (bA (Under.refl _)))).mono ?_;rintro e w2 ⟨vb,rfl,hrb,hU2⟩;rw[HBr.out,hb0]at hrb;obtain⟨qb,cb,rfl,_,_⟩:=RowArg.of_own hrb;have hB22:=HB2.out.under ((bA (Under.refl _)).trans hU2);have e3:w2.cell? ⟨w.heap.size+1,3,none⟩=some (.string ⟨#[]⟩):=hB22.cell 3;have el:=hB22.lt;have HU2:=Lib.hid ((HU1.out.trans (bA (Under.refl _))).trans hU2);clear hrb hU2 hB22;go_wp2;go_ret;exact⟨dAA (by rw[HT.out,eY]),sv,HP.out.under HU2.out,Ch.of_under HU2.out,fun b _ e=>e⟩
theorem eYA(T:Tm):jJ T:=by
 induction T using Tm.rec (motive_2:=fun l=>∀ a∈l,jJ a) with
 | mk x l ih =>
   intro hok;have hx:=hok.1;have hk:=oH hx
   revert hok
   by_cases h0:x.k=0
   · exact rXA x l h0
   by_cases h1:x.k=1
   · exact gNA x l h1
   by_cases h2:x.k=2
   · by_cases hn : x.n = 0
     · exact cUA x l h2 hn
     · exact hSA x l h2 hn
   cases hp:sH x
   · exact tMA x l (beq_false_of_ne h0) (beq_false_of_ne h1) (beq_false_of_ne h2) hp ih
   · exact oNA x l hp ih
 | nil=>rename_i a ha;cases ha
 | cons a l iha ihl =>
   rename_i b hb;rcases List.mem_cons.1 hb with rfl | hb
   · exact iha
   · exact ihl b hb
abbrev byt(s:ByteArray):List UInt8:=s.data.toList
theorem zXA{a b:List UInt8}(h:¬ a < b)(hne:a≠b):b < a:=by
 apply Classical.byContradiction;intro h2;exact hne (List.le_antisymm (List.not_lt.1 h2) (List.not_lt.1 h))
theorem wMA(a b:ByteArray):Op.bytesLess a.toList b.toList=true↔byt a < byt b:=by
 rw[Go.Proofs.bytesLess_eq,ByteArray.toList_eq,ByteArray.toList_eq];simp
theorem pY (s : ByteArray) : ∀ l, aN s l true = l
  | []=>rfl
  | x::r=>by simp[aN,pY s r]
theorem iAA (s x : ByteArray) : ∀ l, x ∈ aN s l false ↔ x ∈ l ∨ x = s
  | []=>by simp[aN]
  | y :: r => by
    simp only[aN,Bool.not_false,Bool.true_and]
    split
    · rw [pY]; simp only [List.mem_cons]; constructor
      · rintro (rfl | h)
        · exact .inr rfl
        · exact .inl h
      · rintro (h | rfl)
        · exact .inr h
        · exact .inl rfl
    · rw[List.mem_cons,iAA s x r,List.mem_cons,or_assoc]
theorem gPA (s : ByteArray) : ∀ l : List ByteArray, l.Pairwise (fun a b => byt a < byt b) → s ∉ l → (aN s l false).Pairwise (fun a b => byt a < byt b)
  | [],_,_=>by simp[aN]
  | y :: r, h, hn => by
    rw[List.pairwise_cons]at h;simp only[aN,Bool.not_false,Bool.true_and]
    split
    · rename_i hl; have hsy := (wMA s y).1 hl; rw [pY, List.pairwise_cons, List.pairwise_cons]; refine ⟨fun b hb => ?_, h.1, h.2⟩; rcases List.mem_cons.1 hb with rfl | hb
      · exact hsy
      · exact List.lt_trans hsy (h.1 b hb)
    · rename_i hl; have hsy : ¬ byt s < byt y := fun e => hl ((wMA s y).2 e)
      rw[List.pairwise_cons];refine⟨fun b hb=>?_,gPA s r h.2 (fun e=>hn (List.mem_cons_of_mem _ e))⟩;rcases(iAA s b r).1 hb with hb | rfl
      · exact h.1 b hb
      · exact zXA hsy (fun e=>hn (by rw[vL e];exact List.mem_cons_self ..))
theorem i2A(l:List ByteArray)(s x:ByteArray):x∈cMA l s↔x∈l∨x=s:=by
 unfold cMA
 split
 · rename_i h; have := wP.1 ((hasB_amongB l s).symm.trans h); constructor
   · exact .inl
   · rintro (h | rfl)
     · exact h
     · exact this
 · exact iAA s x l
where hasB_amongB (l:List ByteArray) (s:ByteArray):hasB l s=rD l s:=rfl
theorem v7A(l:List ByteArray)(s:ByteArray)(h:l.Pairwise (fun a b=>byt a < byt b)):(cMA l s).Pairwise (fun a b=>byt a < byt b):=by
 unfold cMA
 split
 · exact h
 · rename_i hh;exact gPA s l h (fun e=>hh (wP.2 e))
theorem dBA (p : Nd → Bool) : ∀ (t : List Nd) (l : List ByteArray), l.Pairwise (fun a b => byt a < byt b) → (aC p l t).Pairwise (fun a b => byt a < byt b)
  | [],l,h=>h
  | x :: t, l, h => by
    rw[aC];refine dBA p t _ ?_
    split
    · exact v7A l x.s h
    · exact h
theorem yJ (p : Nd → Bool) (s : ByteArray) : ∀ (t : List Nd) (l : List ByteArray), s ∈ aC p l t ↔ s ∈ l ∨ ∃ x ∈ t, p x = true ∧ x.s = s
  | [],l=>by simp[aC]
  | x :: t, l => by
    rw[aC,yJ p s t];by_cases hp:p x=true
    · rw [if_pos hp, i2A]; constructor
      · rintro ((h | rfl) | ⟨y, h1, h2⟩)
        · exact .inl h
        · exact .inr ⟨x,List.mem_cons_self ..,hp,rfl⟩
        · exact .inr ⟨y,List.mem_cons_of_mem _ h1,h2⟩
      · rintro (h | ⟨y, h1, h2, h3⟩)
        · exact .inl (.inl h)
        · rcases List.mem_cons.1 h1 with rfl | h1
          · exact .inl (.inr h3.symm)
          · exact .inr ⟨y,h1,h2,h3⟩
    · rw [if_neg hp]; constructor
      · rintro (h | ⟨y, h1, h2⟩)
        · exact .inl h
        · exact .inr ⟨y,List.mem_cons_of_mem _ h1,h2⟩
      · rintro (h | ⟨y, h1, h2, h3⟩)
        · exact .inl h
        · rcases List.mem_cons.1 h1 with rfl | h1
          · exact absurd h2 hp
          · exact .inr ⟨y,h1,h2,h3⟩
theorem jQA(p:Nd→Bool)(t:List Nd){ss:List (List UInt8)}(hnd:ss.Nodup)(hm:∀ x,x∈ss↔∃ y∈t,p y=true∧byt y.s=x):(ss.mergeSort leB).map encStr=(aC p [] t).map .string:=by
 have tr:∀ a b c:List UInt8,leB a b=true→leB b c=true→leB a c=true:=fun a b c h1 h2=>by simp only[leB,decide_eq_true_eq]at *;exact List.le_trans h1 h2
 have to:∀ a b:List UInt8,(leB a b||leB b a)=true:=fun a b=>by simp only[leB,Bool.or_eq_true,decide_eq_true_eq];exact List.le_total a b
 have hup:=dBA p t [] List.Pairwise.nil;have hup2:((aC p [] t).map byt).Pairwise (fun a b=>a < b):=List.pairwise_map.2 hup;have hnd2:((aC p [] t).map byt).Nodup:=hup2.imp (fun h e=>by rw[e]at h;exact List.lt_irrefl _ h);have he:ss.mergeSort leB=(aC p [] t).map byt:=by
  refine List.Perm.eq_of_pairwise (le:=fun a b=>leB a b=true) (fun a b _ _ h1 h2=>?_) (List.pairwise_mergeSort tr to ss) (hup2.imp (fun h=>by simp only[leB,decide_eq_true_eq];exact List.le_of_lt h)) ((List.mergeSort_perm ss leB).trans ((List.perm_ext_iff_of_nodup hnd hnd2).2 fun x=>?_))
  · simp only[leB,decide_eq_true_eq]at h1 h2;exact List.le_antisymm h1 h2
  · rw [hm, List.mem_map]; constructor
    · rintro⟨y,h1,h2,rfl⟩;exact⟨y.s,(yJ p _ t []).2 (.inr ⟨y,h1,h2,rfl⟩),rfl⟩
    · rintro ⟨s, h1, rfl⟩; rcases (yJ p s t []).1 h1 with h | ⟨y, q1, q2, q3⟩
      · simp at h
      · exact⟨y,q1,q2,by rw[q3]⟩
 rw[he,List.map_map];refine List.map_congr_left fun s _=>?_
 simp[encStr]
theorem rMA(p:Nd→Bool)(t:List Nd){w:World}{b n:Nat}{D:DataW Unit}(hown:w.ownsMap Tryz.prog 9 (plainElem Tryz.prog 3) b n D)(hm:∀ x:List UInt8,Maps.has D (.string x)=true↔∃ y∈t,p y=true∧byt y.s=x){ss:List (List UInt8)}(hp:ss.Perm (strKeys D)) :
 (ss.mergeSort leB).map encStr=(aC p [] t).map .string∧ss.length=(aC p [] t).length:=by
 have K:Maps.Keyed Tryz.prog 9:=Maps.string_keyed Tryz.underlying9;obtain⟨es,hD,hpw,_⟩:=hown.entries K;obtain⟨es',hD',hko⟩:=hown.keysOf;obtain rfl:es=es':=by rw[hD]at hD';simpa using hD'
 subst hD;have hup:=dBA p t [] List.Pairwise.nil;have hup2:((aC p [] t).map byt).Pairwise (fun a b=>a < b):=List.pairwise_map.2 hup;have hnd2:((aC p [] t).map byt).Nodup:=hup2.imp (fun h e=>by rw[e]at h;exact List.lt_irrefl _ h);have hmem:∀ x,x∈(aC p [] t).map byt↔∃ y∈t,p y=true∧byt y.s=x:=fun x=>by
  rw[List.mem_map];constructor
  · rintro ⟨s, h1, rfl⟩; rcases (yJ p s t []).1 h1 with h | ⟨y, q1, q2, q3⟩
    · simp at h
    · exact⟨y,q1,q2,by rw[q3]⟩
  · rintro⟨y,h1,h2,rfl⟩;exact⟨y.s,(yJ p _ t []).2 (.inr ⟨y,h1,h2,rfl⟩),rfl⟩
 have hpm:=perm_strKeys hpw (fun p hp=>by obtain⟨v,hv⟩:=hko p hp;obtain⟨x,_,hx,_⟩:=Maps.keyOf_str Tryz.underlying9 hv;exact⟨x,hx⟩) hnd2 (fun x=>by rw[hmem,hm]);have hss:=hp.trans hpm.symm;refine⟨jQA p t (hss.nodup_iff.2 hnd2) (fun x=>by rw[hss.mem_iff,hmem]),by rw[hss.length_eq,List.length_map]⟩
def NzMap(p:Nd→Bool)(w:World)(b n:Nat)(t:List Nd):Prop:=∃ D:DataW Unit,w.ownsMap Tryz.prog 9 (plainElem Tryz.prog 3) b n D∧∀ x:List UInt8,Maps.has D (.string x)=true↔∃ y∈t,p y=true∧byt y.s=x
def mDB(w0:World)(ba bb:Nat)(t:List Nd)(i:Value)(wr:World):Prop:=∃ k:Nat,k≤t.length∧i = .int .i64 (k:Int)∧NzMap vG wr ba k (t.take k)∧NzMap qJ wr bb k (t.take k)∧Under w0 wr
theorem a2A{p:Nd→Bool}{D:DataW Unit}{t:List Nd}{y:Nd}{d:DataW Unit}(hD:Maps.IsMap D)(hp:p y=true)(hm:∀ x:List UInt8,Maps.has D (.string x)=true↔∃ y∈t,p y=true∧byt y.s=x) :
 ∀ x:List UInt8,Maps.has (D.put (.string (byt y.s)) d) (.string x)=true↔∃ z∈t++[y],p z=true∧byt z.s=x:=by
 intro x;by_cases e:x=byt y.s
 · subst e;rw[Maps.has_put_same (k:=.string (byt y.s)) hD trivial];simp only[true_iff];exact⟨y,by simp,hp,rfl⟩
 · rw [Maps.has_put_other (by simpa using e), hm x]; constructor
   · rintro⟨z,h1,h2⟩;exact⟨z,List.mem_append_left _ h1,h2⟩
   · rintro ⟨z, h1, h2, h3⟩; rcases List.mem_append.1 h1 with h1 | h1
     · exact⟨z,h1,h2,h3⟩
     · rw[List.mem_singleton.1 h1]at h3;exact absurd h3.symm e
theorem lDA{p:Nd→Bool}{D:DataW Unit}{t:List Nd}{y:Nd}(hp:p y=false)(hm:∀ x:List UInt8,Maps.has D (.string x)=true↔∃ y∈t,p y=true∧byt y.s=x) :
 ∀ x:List UInt8,Maps.has D (.string x)=true↔∃ z∈t++[y],p z=true∧byt z.s=x:=by
 intro x;rw[hm x];constructor
 · rintro⟨z,h1,h2⟩;exact⟨z,List.mem_append_left _ h1,h2⟩
 · rintro ⟨z, h1, h2, h3⟩; rcases List.mem_append.1 h1 with h1 | h1
   · exact⟨z,h1,h2,h3⟩
   · rw [List.mem_singleton.1 h1, hp] at h2
     cases h2
end Go.Proofs.YtlnlpdephijcoaaGreatDoor
