/- Part 37 of what the proof rests on. -/
import Derived.Deep.RegionHeld3
import Derived.Laws.ResultCell
import Derived.Test.YtlnlpdephijcoaaGreatDoorM11
import Derived.Test.YtlnlpdephijcoaaGreatDoorM13
import Derived.Test.YtlnlpdephijcoaaGreatDoorM36
set_option linter.unusedSimpArgs false
set_option linter.unusedVariables false
set_option maxRecDepth 100000
set_option maxHeartbeats 2000000
namespace Go.Proofs.YtlnlpdephijcoaaGreatDoor
open Go.Lx Go.RowKit
theorem bCA : ∀ (l : List Tm) (d : Nat), 1 ≤ d → lI d l = max d (zP (l.map rC) + 1)
  | [],d,h=>by show d=max d (0+1);omega
  | a :: l, d, h => by
    show lI (max d (rC a+1)) l=max d (max (rC a) (zP (l.map rC))+1)
    rw[bCA l _ (by omega)];omega
theorem oUA(x:Nd)(l:List Tm):rC (.mk x l)=zP (l.map rC)+1:=by
 show lI 1 l=_
 rw[bCA l 1 (Nat.le_refl _)];omega
theorem vNA:∀(T:Tm),okT T→∀(rest:List Nd) (st:List Nat),eH (flat T++rest) st=if 60 < rC T then true else eH rest (st++[rC T]):=by
 intro T
 induction T using Tm.rec (motive_2:=fun l=>jM l→∀(rest:List Nd) (st:List Nat),eH (qA l++rest) st=if 60 < zP (l.map rC) then true else eH rest (st++l.map rC)) with
 | mk x l ih =>
   rintro⟨hx,hl,hls⟩ rest st;rw[flat,List.append_assoc,ih hls,oUA]
   show(if 60 < zP (l.map rC) then true else eH (x::rest) (st++l.map rC))=_
   have hk:(st++l.map rC).length - (binds x).length=st.length:=by rw[List.length_append,List.length_map];omega
   unfold eH;rw[hk,List.drop_left,List.take_left];by_cases h:60 < zP (l.map rC)
   · rw[if_pos h,if_pos (by omega)]
   · rw [if_neg h]
     cases rest<;>rfl
 | nil=>rename_i hh rest st;simp[qA,zP]
 | cons a l iha ihl =>
   rename_i hh rest st;obtain⟨ha,hl⟩:=hh;rw[qA,List.append_assoc,iha ha,ihl hl]
   show _=if 60 < max (rC a) (zP (l.map rC)) then true else eH rest (st++rC a::l.map rC)
   rw[List.append_assoc];by_cases h:60 < rC a
   · rw[if_pos h,if_pos (by omega)]
   · rw [if_neg h]; by_cases h2 : 60 < zP (l.map rC)
     · rw[if_pos h2,if_pos (by omega)]
     · rw[if_neg h2,if_neg (by omega)];rfl
theorem xDA : ∀ (t : List Nd) (i : Nat) (all op : List (Nat × Nat)), lF t op.length = match qC t i all op with | none => false | some r => r.2.length == 1
  | [],i,all,op=>rfl
  | x :: t, i, all, op => by
    unfold lF qC;by_cases h:nA x=false∨op.length < (binds x).length
    · rw[if_pos h,if_pos h]
    · rw [if_neg h, if_neg h]; simp only; rw [← xDA t (i + 1)]; congr 1
      rw[List.length_append,List.length_take,Nat.min_eq_left (Nat.sub_le _ _)];rfl
theorem f1A(t:List Nd):vB t=if 4000 < t.length then 21 else if lF t 0=false then 20 else if eH t [] then 22 else 0:=by
 unfold vB
 split
 · rfl
 have hw:=xDA t 0 [] [];rw[List.length_nil]at hw;rw[hw]
 cases hm:qC t 0 [] [] with
 | none=>rfl
 | some r =>
   obtain⟨all,op⟩:=r;simp only;by_cases h1:op.length=1
   · have e1 : ¬ (op.length ≠ 1) := by simpa using h1
     have e2:¬((op.length==1)=false):=by simp[h1]
     rw[if_neg e1,if_neg e2];clear e1 e2;obtain⟨Gs,g1,g2,g3⟩:=sQ t [] [] (by simp[jM]) hm;simp only at g3;rw[g3,sO]at h1
     match Gs,h1 with
     | [T], _ =>
       simp only[qA,List.nil_append,List.append_nil]at g2;obtain⟨a',q1,q2,q3⟩:=nN T g1.1 [] [];rw[g2]at q1;rw[show qC t (qA []).length [] (uE 0 [])=qC t 0 [] [] from rfl,hm]at q1;simp only[Option.some.injEq,Prod.mk.injEq]at q1;have hl:a'.getLastD (0,0)=((qA []).length,rC T):=by rw[List.getLastD_eq_getLast?,q3];rfl
       rw[q1.1,List.nil_append,hl];have hd:=vNA T g1.1 [] [];rw[List.append_nil,g2]at hd;rw[hd];by_cases h:60 < rC T
       · rw[if_pos h,if_pos h];rfl
       · rw[if_neg h,if_neg h];rfl
   · rw[if_pos (by simpa using h1),if_pos (by simpa using h1)]
section
variable {w0 : World}
theorem fHA(t:List Nd){v:Value}(hn:t.length≤maxLen)(hv:TermV w0 v t):Calls Tryz.prog 33 #[v] w0 fun e w=>e = .returned (.int .i64 (vB t))∧Under w0 w:=by
 have HV:=Lib.hid hv;obtain⟨p,c,rfl,_,_,_⟩:=hv;have HE:=Lib.hid (f1A t);by_cases h:4000 < t.length
 · have h' : (4000 : Int) < (t.length : Int) := by omega
   have HE:=Lib.hid (HE.out.trans (if_pos h));clear h;go_enter Tryz.func33,Tryz.ntmps33;go_wp2;go_ret;exact⟨uL HE.out.symm,Under.refl _⟩
 · have h' : (t.length : Int) ≤ 4000 := by omega
   have HE:=Lib.hid (HE.out.trans (if_neg h));have HW:=Lib.hid (v0A t (by omega) HV.out)
   cases hw:lF t 0
   · have HE:=Lib.hid (HE.out.trans (if_pos hw));rw[hw]at HW;clear h hw;go_enter Tryz.func33,Tryz.ntmps33;go_wp2_with fail;refine HW.out.mono ?_;rintro e w1 ⟨rfl,hU1⟩;have HU1:=Lib.hid hU1;clear hU1;go_wp2;go_ret;exact⟨uL HE.out.symm,HU1.out⟩
   · have HE := Lib.hid (HE.out.trans (if_neg (by rw [hw]; decide))); have HD := Lib.hid (fun w1 (hU : Under w0 w1) => mSA (w0 := w1) t (by omega) (TermV.mono _ _ _ _ hU HV.out) hw); rw [hw] at HW; clear h hw
     cases hd:eH t []
     all_goals
      rw[hd]at HD HE;clear hd;go_enter Tryz.func33,Tryz.ntmps33;go_wp2_with fail;refine HW.out.mono ?_;rintro e w1 ⟨rfl,hU1⟩;have HU1:=Lib.hid hU1;clear hU1;go_wp2_with fail;refine(HD.out _ HU1.out).mono ?_;rintro e w2 ⟨rfl,hU2⟩;have HU2:=Lib.hid (HU1.out.trans hU2);clear hU2;go_wp2;go_ret;exact⟨uL HE.out.symm,HU2.out⟩
end
def sKA(T:Tm):Prop:=okT T→∀(w0:World) (v:Value) (t s r:List Nd) (e z:Nat),t=s++flat T++r→t.length≤1000000→TermV w0 v t→e+1=s.length+(flat T).length→z=s.length →
 Calls Tryz.prog 92 #[v,.int .i64 (e:Int)] w0 fun x w=>x = .returned (.int .i64 (z:Int))∧Under w0 w
def mCB(w0:World)(s:List Nd)(l:List Tm)(a i:Value)(wr:World):Prop:=∃ j M z:Nat,j+M=l.length∧z=s.length+(qA (l.take M)).length∧a = .int .i64 (z:Int)∧i = .int .i64 (j:Int)∧Under w0 wr
theorem b9A(x:Nd)(l:List Tm)(ih:∀ a∈l,sKA a):sKA (.mk x l):=by
 rintro⟨hx,hl,hls⟩ w0 v t s r e z ht hn hv he hz;have HV:=Lib.hid hv;have HN:=Lib.hid hn;have HT:=Lib.hid ht;have he':e=s.length+(qA l).length:=by rw[flat,List.length_append]at he;simp at he;omega
 have hte:t[e]? = some x:=by
  rw[ht,flat,he',List.append_assoc,List.append_assoc,List.getElem?_append_right (by omega),Nat.add_sub_cancel_left,List.getElem?_append_right (Nat.le_refl _),Nat.sub_self];rfl
 have hlt:e < t.length:=(List.getElem?_eq_some_iff.1 hte).1;obtain⟨p,c,rfl,_,_,hr⟩:=hv;obtain⟨b1,off1,rfl,hb1,c0,c1,c2,c3⟩:=RowArg.node hr hte;have HC:=Lib.hid (fun w=>eP (w0:=w) x);have HX:=Lib.hid hx;have HLs:=Lib.hid hls;have HE:=Lib.hid he';have HZ:=Lib.hid hz;have HIH:=Lib.hid ih;have hlt':(e:Int) < (t.length:Int):=by omega
 have hn':(t.length:Int)≤1000000:=by omega
 have he0:(0:Int)≤(e:Int):=by omega
 have hB8:=gG hx;have hL0:(0:Int)≤(l.length:Int):=by omega
 have hL8:(l.length:Int)≤8:=by omega
 have HL:=Lib.hid hl;clear ht hn hr hte he hz hls hx ih he' hB8 hl;go_enter Tryz.func92,Tryz.ntmps92;go_wp2_with fail;refine(HC.out _).mono ?_;rintro e1 w1 ⟨lb,hlb,q,c',rfl,hlc,hrl,hU1⟩;obtain rfl:=hlb HX.out;have hU1':=hU1;rw[HX.out,← HL.out];have HU1:=Lib.hid (show Under w0 w1 from hU1');clear hU1 hU1' hlc hrl HC c0 c1 c2 c3 hlb;go_wp2;go_loopw [7,8] (fun a i wr=>mCB w0 s l a i wr) (fun _ i _=>l.length - (intOf i).toNat)
 case atStart=>exact⟨0,l.length,e,by omega,by rw[List.take_length];exact HE.out,rfl,rfl,HU1.out⟩
 case round =>
   obtain⟨j,M,y,hj,hy,rfl,rfl,hU⟩:=hrel;have HU:=Lib.hid hU;clear hU;have hj0:(0:Int)≤(j:Int):=by omega
   by_cases hjl:j < l.length
   · obtain ⟨M, rfl⟩ : ∃ m, M = m + 1 := ⟨M - 1, by omega⟩; have hM : M < l.length := by omega
     have hjl':(j:Int) < (l.length:Int):=by omega
     have htk:qA (l.take (M+1))=qA (l.take M)++flat l[M]:=by
      rw[List.take_succ_eq_append_getElem hM,jF];simp[qA]
     have hfl:qA l=qA (l.take M)++flat l[M]++qA (l.drop (M+1)):=by
      rw[← htk,← jF,List.take_append_drop]
     have hpos:=bL l[M];rw[htk,List.length_append]at hy;obtain⟨y,rfl⟩:∃ m,y=m+1:=⟨y - 1,by omega⟩;have hyt:y+1≤t.length:=by
      have:=congrArg List.length HT.out;rw[flat,hfl]at this;simp only[List.length_append]at this;omega
     obtain⟨z',hz'⟩:∃ z',z'=s.length+(qA (l.take M)).length:=⟨_,rfl⟩;have HQ:=Lib.hid (HIH.out l[M] (List.getElem_mem hM) (wR.1 HLs.out _ (List.getElem_mem hM)) wr _ t (s++qA (l.take M)) (qA (l.drop (M+1))++[x]++r) y z' (by rw[HT.out,flat,hfl];simp only[List.append_assoc]) HN.out (TermV.mono _ _ _ _ HU.out HV.out) (by rw[List.length_append];omega) (by rw[List.length_append];exact hz'));have HZ':=Lib.hid hz';have hy1:(y:Int)≤1000000:=by omega
     have hy0:(0:Int)≤(y:Int):=by omega
     have hz0:(0:Int)≤(z':Int):=by omega
     have hMe:((y:Int)+1 - 1)=(y:Int):=by omega
     clear hz' hy htk hfl hpos hyt;go_wp2_with fail;refine HQ.out.mono ?_;rintro e2 w2 ⟨rfl,hU2⟩;have HU2:=Lib.hid (HU.out.trans hU2);clear hU2;go_wp2;go_roundw
     case rel=>exact⟨j+1,M,z',by omega,HZ'.out,by go_num,by go_num,HU2.out⟩
     case measure=>simp[intOf];omega
   · obtain rfl : M = 0 := by omega
     obtain rfl:j=l.length:=by omega
     obtain rfl:y=z:=by rw[hy,HZ.out];simp[qA]
     go_wp2;go_ret;exact⟨rfl,HU.out⟩
theorem v5A(T:Tm):sKA T:=by
 induction T using Tm.rec (motive_2:=fun l=>∀ a∈l,sKA a) with
 | mk x l ih=>exact b9A x l ih
 | nil=>rename_i a ha;cases ha
 | cons a l iha ihl =>
   rename_i b hb;rcases List.mem_cons.1 hb with rfl | hb
   · exact iha
   · exact ihl b hb
theorem Tryz.infoNds:(Tryz.prog.info? 30).map (fun i=>(i.zero,i.size,i.bytes))=some (some (.slice none 0 0),1,24):=by kernel_rfl
theorem y5A(w:World)(base:Nat)(hb:base≤w.heap.size)(e:TypeId)(v:Value):(w.alloc (.cells #[v] e)).ownsRow base e 1 (.slice (some ⟨w.heap.size,0,none⟩) 1 1) 1 [v] :=
 ⟨rfl,.inr ⟨w.heap.size,1,#[v],rfl,hb,heap_alloc_new w _,Nat.le_refl _,by decide,rfl,rfl⟩⟩
theorem gVA{w:World}{b off:Nat}{A B C:List Value}(h:RowArg w (some ⟨b,off,none⟩) (A++B++C)):RowArg w (some ⟨b,off+A.length,none⟩) B:=fun hne=>by
 obtain ⟨b', off', e, hb, hc⟩ := h (by
   intro e;simp only[List.append_eq_nil_iff]at e;exact hne e.1.2)
 cases e;refine⟨b,off+A.length,rfl,hb,fun j u hj=>?_⟩;have hjl:j < B.length:=(List.getElem?_eq_some_iff.1 hj).1;have:=hc (A.length+j) u (by rw[List.append_assoc,List.getElem?_append_right (by omega),Nat.add_sub_cancel_left,List.getElem?_append_left hjl];exact hj)
 rwa [Nat.add_assoc]
theorem k4A{w:World}{b off n c:Nat}{A B C:List Nd}(h:RowArg w (some ⟨b,off,none⟩) (zB (A++B++C)))(hn:n=B.length)(hc:n≤c):TermV w (.slice (some ⟨b,off+A.length * 4,none⟩) n c) B:=by
 subst hn;refine⟨_,c,rfl,hc,fun e=>(by cases e),?_⟩;rw[oN,oN]at h;rw[← pU];exact gVA h
def sCB(w0:World)(l:List Tm)(en out i:Value)(wr:World):Prop:=∃(j M E g c2:Nat) (vs:List Value),j+M=l.length∧E=(qA (l.take M)).length∧en = .int .i64 (E:Int)∧out = .slice (some ⟨g,0,none⟩) j c2∧i = .int .i64 (j:Int) ∧
 wr.ownsRow w0.heap.size 30 1 (.slice (some ⟨g,0,none⟩) j c2) j vs∧Zip (TermV w0) vs ((l.drop M).map flat)∧Under w0 wr
section
variable {w0 : World}
theorem fGA(x:Nd)(l:List Tm){t:List Nd}{v:Value}(hok:okT (.mk x l))(ht:t=flat (.mk x l))(hn:t.length≤1000000)(hv:TermV w0 v t) :
 Calls Tryz.prog 48 #[v] w0 fun e w=>∃ vr,e = .returned vr∧TermsV w vr (l.map flat)∧Under w0 w:=by
 obtain⟨hx,hl,hls⟩:=hok;have HV:=Lib.hid hv;have HN:=Lib.hid hn;have hte:t[(qA l).length]? = some x:=by
  rw[ht,flat,List.getElem?_append_right (Nat.le_refl _),Nat.sub_self];rfl
 have hlen:t.length=(qA l).length+1:=by rw[ht,flat,List.length_append];rfl
 have HT:=Lib.hid ht;obtain⟨p,c,rfl,hc,_,hr⟩:=hv;obtain⟨b1,off1,rfl,hb1,c0,c1,c2,c3⟩:=RowArg.node hr hte;obtain⟨i0,hi,hz0,hz1,hz2⟩:=info_parts Tryz.infoNds;have HR:=Lib.hid hr;have HC:=Lib.hid (fun w=>eP (w0:=w) x);have HX:=Lib.hid hx;have HLs:=Lib.hid hls;have HLen:=Lib.hid hlen;rw[hlen]at hn hc ⊢;obtain⟨m,hm⟩:∃ m,m=(qA l).length:=⟨_,rfl⟩;have HM:=Lib.hid hm;rw[← hm]at c0 c1 c2 c3 hn hc ⊢;have hmi:((m:Int)+1 - 1)=(m:Int):=by omega
 have hm0:(0:Int)≤(m:Int):=by omega
 have hm1:(m:Int)≤1000000:=by omega
 have hB8:=gG hx;have hL0:(0:Int)≤(l.length:Int):=by omega
 have hL8:(l.length:Int)≤8:=by omega
 have HL:=Lib.hid hl;clear ht hn hr hte hls hx hB8 hl hlen hm;go_enter Tryz.func48,Tryz.ntmps48;go_wp2_with fail;refine(HC.out _).mono ?_;rintro e1 w1 ⟨lb,hlb,q,c',rfl,hlc,hrl,hU1⟩;obtain rfl:=hlb HX.out;have hU1':=hU1;rw[HX.out,← HL.out];have HU1:=Lib.hid (show Under w0 w1 from hU1');clear hU1 hU1' hlc hrl HC c0 c1 c2 c3 hlb;go_wp2;go_loopw [3,6,7] (fun en out i wr=>sCB w0 l en out i wr) (fun _ _ i _=>l.length - (intOf i).toNat)
 case atStart=>exact⟨0,l.length,m,w1.heap.size,0,[],by omega,by rw[List.take_length];exact HM.out,rfl,rfl,rfl,aK w1 _ _ _ HU1.out.size,by rw[List.drop_length];exact Zip.nil _,aA HU1.out _⟩
 case round =>
   obtain⟨j,M,E,g,gc,vs,hj,hE,rfl,rfl,rfl,hO,hZ,hU⟩:=hrel;have HU:=Lib.hid hU;have HO:=Lib.hid hO;have HZ:=Lib.hid hZ;clear hU hO hZ;have hj0:(0:Int)≤(j:Int):=by omega
   by_cases hjl:j < l.length
   · obtain ⟨M, rfl⟩ : ∃ m, M = m + 1 := ⟨M - 1, by omega⟩; have hM : M < l.length := by omega
     have hjl':(j:Int) < (l.length:Int):=by omega
     have htk:qA (l.take (M+1))=qA (l.take M)++flat l[M]:=by
      rw[List.take_succ_eq_append_getElem hM,jF];simp[qA]
     have hfl:qA l=qA (l.take M)++flat l[M]++qA (l.drop (M+1)):=by
      rw[← htk,← jF,List.take_append_drop]
     have hpos:=bL l[M];rw[htk,List.length_append]at hE;obtain⟨y,hy⟩:∃ y,E=y+1:=⟨E - 1,by omega⟩;have hEm:E≤m:=by
      rw[HM.out,hfl];simp only[List.length_append];omega
     obtain⟨z',hz'⟩:∃ z',z'=(qA (l.take M)).length:=⟨_,rfl⟩;have hTs:t=qA (l.take M)++flat l[M]++(qA (l.drop (M+1))++[x]):=by rw[HT.out,flat,hfl];simp only[List.append_assoc]
     have HQ:=Lib.hid (v5A l[M] (wR.1 HLs.out _ (List.getElem_mem hM)) wr _ t (qA (l.take M)) (qA (l.drop (M+1))++[x]) y z' hTs HN.out (TermV.mono _ _ _ _ HU.out HV.out) (by omega) hz');rw[HLen.out,← HM.out]at HQ;have HPc:=Lib.hid (k4A (n:=E - z') (c:=c - z') (by rw[← hTs];exact HR.out) (by omega) (by omega));rw[← hz']at HPc;have HZ':=Lib.hid hz';have hzE:z' < E:=by omega
     have hDr:(l.drop M).map flat=flat l[M]::(l.drop (M+1)).map flat:=by rw[List.drop_eq_getElem_cons hM];rfl
     have HDr:=Lib.hid hDr;generalize l[M]=T at *;have hE1:(E:Int)≤1000000:=by omega
     have hE0:(0:Int)≤(E:Int):=by omega
     have hzz0:(0:Int)≤(z':Int):=by omega
     have hzE':(z':Int)≤(E:Int):=by omega
     have hEc:(E:Int)≤(c:Int):=by omega
     have hzc:¬ c=z':=by omega
     have hMe:((E:Int) - 1)=(y:Int):=by omega
     have hmx:1+j≤maxLen:=by simp only[maxLen];omega
     have hby:(1+j) * 24≤140737488355328:=by omega
     clear hz' htk hfl hpos hE hy hTs hDr hEm;go_wp2_with fail;refine HQ.out.mono ?_;rintro e2 w2 ⟨rfl,hU2⟩;have HU2:=Lib.hid hU2;have hs1:=HU.out.size;have hs2:=hU2.size;clear hU2;go_wp2_with (at_builtin;refine wpList_append_own_at _ rfl _ _ 102 rfl w0.heap.size 30 i0 _ 1 24 Tryz.underlying102 hi hz0 hz1 hz2 rfl (by decide) _ _ _ rfl (y5A w2 w0.heap.size (by omega) 30 _) ⟨g,0,none⟩ j gc vs rfl ?c0 ?c1 ?c2 hmx hby ?c5 ?_)
     case c0=>have:=HO.out.1;omega
     case c1 =>
       intro j u hj;rw[eO,Nat.zero_add];exact lC ((uA HO.out HU2.out).alloc _) rfl hj
     case c2 =>
       intro u hu;obtain⟨i,hi'⟩:=List.mem_iff_getElem?.1 hu;have hil:i < ((l.drop (M+1)).map flat).length:=by rw[← HZ.out.1];exact(List.getElem?_eq_some_iff.1 hi').1
       exact(HZ.out.2 i u _ hi' (List.getElem?_eq_getElem hil)).one
     case c5=>simp;omega
     intro v' w3 hown hgrow hnil hat;obtain⟨g',gc',rfl,_⟩:=wC hown (by omega);have HO3:=Lib.hid hown;have HU3:=Lib.hid (eB (aA (HU.out.trans HU2.out) _) hgrow fun g e=>by cases e;show w0.heap.size≤w2.heap.size;omega);clear hown hgrow hnil hat;go_wp2;go_roundw
     case rel =>
       refine⟨j+1,M,z',g',gc',_::vs,by omega,HZ'.out,by go_num,by rw[Nat.add_comm j 1],by go_num,by rw[Nat.add_comm j 1];exact HO3.out,?_,HU3.out⟩;rw[HDr.out];exact(Zip.one HPc.out).app HZ.out
     case measure=>simp[intOf];omega
   · obtain rfl : M = 0 := by omega
     obtain rfl:j=l.length:=by omega
     go_wp2;go_ret;refine⟨_,rfl,?_,HU.out⟩;have hlm:(l.map flat).length=l.length:=List.length_map ..;have hz:=HZ.out;rw[List.drop_zero]at hz;refine ListV.of_own (vs:=vs) (by rw[hlm];exact HO.out) (hz.mono fun v x h=>TermV.mono _ _ _ _ HU.out h)
end
mutual
def sJ : Tm → Nat → Int
  | .mk x l,u=>if x.k=0 then(if(u:Int)≤x.n then x.n - u else -1) else aI l (binds x) u
def aI : List Tm → List Nat → Nat → Int
  | [],_,_ => -1
  | a::l,bs,u=>max (sJ a (u+bs.headD 0)) (aI l bs.tail u)
end
theorem kXA{w w':World}{p:Option Addr}{cs:List Value}(h:RowArg w p cs)(hU:Under w w'):RowArg w' p cs:=h.under hU
theorem g1A{l:List Tm}{bs:List Nat}{u j:Nat}(hj:j < l.length)(hb:j < bs.length):aI (l.drop j) (bs.drop j) u=max (sJ l[j] (u+bs[j])) (aI (l.drop (j+1)) (bs.drop (j+1)) u):=by
 rw[List.drop_eq_getElem_cons hj,List.drop_eq_getElem_cons hb];rfl
def eZ(T:Tm):Prop:=okT T→∀(w0:World) (v:Value) (t:List Nd) (u:Nat),t=flat T→t.length≤4000→TermV w0 v t→u+2 * t.length≤100000 →
 Calls Tryz.prog 45 #[v,.int .i64 (-1),.int .i64 (u:Int)] w0 fun e w=>∃ many:Nat,many≤t.length∧e = .returned (.tuple #[.int .i64 (many:Int),.int .i64 (sJ T u)])∧Under w0 w
def zCB(w1:World)(x:Nd)(l:List Tm)(u:Nat)(mv tv i:Value)(wr:World):Prop:=∃(j n:Nat) (y:Int),j≤l.length∧n≤(qA (l.take j)).length∧-1≤y∧mv = .int .i64 (n:Int)∧tv = .int .i64 y∧i = .int .i64 (j:Int) ∧
 aI l (binds x) u=max y (aI (l.drop j) ((binds x).drop j) u)∧Under w1 wr
theorem qXA(x:Nd)(l:List Tm)(hk:x.k=0):eZ (.mk x l):=by
 rintro⟨hx,hl,hls⟩ w0 v t u ht hn hv hu;have hte:t[t.length - 1]? = some x:=by rw[ht,flat];simp
 have hpos:1≤t.length:=by rw[ht,flat];simp
 have hv2:=xJ hx hk;have HR:=Lib.hid (kNA (by omega) hte hv);have hu0:(0:Int)≤(u:Int):=by omega
 have hu1:(u:Int)≤100000:=by omega
 have h1:=hv2.1;have h2:=hv2.2;have HT:RowKit.Hid (sJ (.mk x l) u=if(u:Int)≤x.n then x.n - u else -1):=Lib.hid (by unfold sJ;rw[if_pos hk]);clear hte hv2 ht hx hl hls hv;obtain⟨k,n,m,s⟩:=x;simp only at hk h1 h2 HT;subst hk;unfold ndV at HR;simp only at HR;by_cases h:(u:Int)≤n
 · have h3 : (0 : Int) ≤ n - (u : Int) := by omega
   rw[if_pos h]at HT;go_enter Tryz.func45,Tryz.ntmps45;go_wp2_with fail;refine HR.out.mono ?_;rintro e w1 ⟨rfl,hU1⟩;have HU1:=Lib.hid hU1;clear hU1;go_wp2;go_ret2;exact⟨1,by omega,by rw[HT.out];rfl,aA HU1.out _⟩
 · have h3 : n - (u : Int) < 0 := by omega
   rw[if_neg h]at HT;go_enter Tryz.func45,Tryz.ntmps45;go_wp2_with fail;refine HR.out.mono ?_;rintro e w1 ⟨rfl,hU1⟩;have HU1:=Lib.hid hU1;clear hU1;go_wp2;go_ret2;exact⟨0,by omega,by rw[HT.out];rfl,aA HU1.out _⟩
theorem qUA(x:Nd)(l:List Tm)(hk:x.k≠0)(ih:∀ a∈l,eZ a):eZ (.mk x l):=by
 intro hok w0 v t u ht hn hv hu;have HOk:=Lib.hid hok;obtain⟨hx,hl,hls⟩:=hok;have hte:t[t.length - 1]? = some x:=by rw[ht,flat];simp
 have hfl:t.length=(qA l).length+1:=by rw[ht,flat];simp
 have HFl:=Lib.hid hfl;have HR:=Lib.hid (kNA (by omega) hte hv);have HC:=Lib.hid (fun w=>eP (w0:=w) x);have HV:=Lib.hid hv;have HPa:=Lib.hid (fun w (hU:Under w0 w)=>fGA (w0:=w) x l HOk.out ht (by omega) (TermV.mono _ _ _ _ hU hv));have HT:RowKit.Hid (sJ (.mk x l) u=aI l (binds x) u):=Lib.hid (by unfold sJ;rw[if_neg hk]);have HX:=Lib.hid hx;have HL:=Lib.hid hl;have HLs:=Lib.hid hls;have HIH:=Lib.hid ih;have HU0:=Lib.hid hu;have HN0:=Lib.hid hn;have hB8:=gG hx;have hB2:RowKit.Hid (∀ b∈binds x,b≤2):=Lib.hid (by have:=nK (x:=x);unfold oF at this;rwa [if_pos hx]at this);have hk':(x.k==0)=false:=by simpa using hk
 have hu0:(0:Int)≤(u:Int):=by omega
 have hu1:(u:Int)≤100000:=by omega
 have hL0:(0:Int)≤(l.length:Int):=by omega
 have hL8:(l.length:Int)≤8:=by omega
 clear hte ht hx hl hls hv hk ih hB8 hfl hu hn;unfold ndV at HR;unfold ndV at HC;go_enter Tryz.func45,Tryz.ntmps45;go_wp2_with fail;refine HR.out.mono ?_;rintro e w1 ⟨rfl,hU1⟩;have HU1:=Lib.hid hU1;clear hU1;go_wp2_with fail;refine(HC.out _).mono ?_;rintro e w2 ⟨lb,hlb,q,cq,rfl,hlc,hrl,hU2⟩;obtain rfl:=hlb HX.out;have HU2:=Lib.hid (show Under w0 w2 from(aA HU1.out _).trans hU2);have HQ:=Lib.hid hrl;rw[HX.out,← HL.out];clear hU2 hrl hlc hlb HR HC;go_wp2_with fail;refine(HPa.out _ HU2.out).mono ?_;rintro e w3 ⟨vr,rfl,⟨p3,c3,vs,rfl,h31,_,h32,h33⟩,hU3⟩;have hlm:(l.map flat).length=l.length:=List.length_map ..;rw[hlm]at h31 ⊢;have HQ3:=Lib.hid (kXA HQ.out hU3);have HU3:=Lib.hid (HU2.out.trans hU3);have HP3:=Lib.hid h32;have HZ3:=Lib.hid h33;clear hU3 h32 h33 hlm HPa;go_wp2;go_loopw [13,14,15] (fun mv tv i wr=>zCB w3 x l u mv tv i wr) (fun _ _ i _=>l.length - (intOf i).toNat)
 case atStart => exact ⟨0, 0, -1, Nat.zero_le _, Nat.zero_le _, by omega, rfl, rfl, rfl, by
   rw[List.drop_zero,List.drop_zero];have:∀(l:List Tm) (bs:List Nat),-1≤aI l bs u:=fun l=>by
    induction l with
    | nil=>intro bs;exact Int.le_refl _
    | cons a l ih=>intro bs;have:=ih bs.tail;show -1≤max _ _;omega
   have:=this l (binds x);omega,Under.refl _⟩
 case round =>
   obtain⟨j,n,y,hj,hnm,hy,rfl,rfl,rfl,hTo,hU⟩:=hrel;have HU:=Lib.hid hU;have HTo:=Lib.hid hTo;have HNm:=Lib.hid hnm;clear hU hTo;have hj0:(0:Int)≤(j:Int):=by omega
   have hfle:(qA (l.take j)).length≤(qA l).length:=by
    have:=congrArg List.length (jF (l.take j) (l.drop j));rw[List.take_append_drop,List.length_append]at this;omega
   have hn0:(0:Int)≤(n:Int):=by omega
   have hn4:(n:Int)≤4000:=by have:=HFl.out;have:=HN0.out;omega
   by_cases hjl:j < l.length
   · have hjb : j < (binds x).length := by rw [← HL.out]; exact hjl
     obtain⟨tv,htv,hterm⟩:=HZ3.out.at (i:=j) (x:=flat l[j]) (by rw[List.getElem?_map,List.getElem?_eq_getElem hjl];rfl);have hok:=wR.1 HLs.out _ (List.getElem_mem hjl);have hb2:=hB2.out _ (List.getElem_mem hjb);have htk:qA (l.take (j+1))=qA (l.take j)++flat l[j]:=by
      rw[List.take_succ_eq_append_getElem hjl,jF];simp[qA]
     have hfl2:(qA (l.take (j+1))).length≤(qA l).length:=by
      have:=congrArg List.length (jF (l.take (j+1)) (l.drop (j+1)));rw[List.take_append_drop,List.length_append]at this;omega
     rw[htk,List.length_append]at hfl2;have hQ:=fun w (hU:Under w3 w)=>HIH.out l[j] (List.getElem_mem hjl) hok w tv (flat l[j]) (u+(binds x)[j]) rfl (by have:=HFl.out;have:=HN0.out;omega) (TermV.mono _ _ _ _ hU hterm) (by have:=HFl.out;have:=HU0.out;omega)
     simp only [Int.natCast_add] at hQ; have HCq := Lib.hid hQ; have HTs := Lib.hid (g1A (u := u) hjl hjb); have HTk := Lib.hid (congrArg List.length htk); have HF4 := Lib.hid (show (qA (l.take j)).length + (flat l[j]).length ≤ 4000 by have := HFl.out; have := HN0.out; omega); obtain ⟨pt, ct, rfl, _⟩ := hterm; obtain ⟨bt, ot, rfl, hbt, hct⟩ := HP3.out (fun e => by rw [e] at htv; simp at htv); have cc := hct j _ htv; obtain ⟨bb, ob, rfl, hbb, hcb⟩ := HQ3.out (fun e => by
       have:=congrArg List.length e;unfold iE at this;rw[List.length_map,List.length_nil]at this;omega)
     have cb:=hcb j _ (bHA (List.getElem?_eq_getElem hjb));rw[← jA HU.out hbt]at cc;rw[← jA HU.out hbb]at cb;have hbt':=Nat.lt_of_lt_of_le hbt HU.out.size;have hbb':=Nat.lt_of_lt_of_le hbb HU.out.size;clear hQ htk hfl2 hct hcb htv hok hfle;generalize (binds x)[j]=bj at *;generalize l[j]=T at *;have hbj0:(0:Int)≤(bj:Int):=by omega
     have hbj2:(bj:Int)≤2:=by omega
     have hjl':(j:Int) < (l.length:Int):=by omega
     have hwr:IntKind.i64.wrap ((u:Int)+(bj:Int))=(u:Int)+(bj:Int):=by rw[IntKind.wrap_i64];omega
     go_wp2_with fail; go_region_held3 (fun w' => w'.cell? ⟨bt, ot + j, none⟩ = some (.slice pt (flat T).length ct) ∧ w'.cell? ⟨bb, ob + j, none⟩ = some (.int .i64 (bj : Int)))
       (first
         | go_keep
         | (refine ⟨?_, ?_⟩
            · (rw[jA hU4 hbt'];assumption)
            · (rw[jA hU4 hbb'];assumption)))
       ((go_simp;(try rw[hwr]);go_at_call 45;refine(HCq.out _ (bA HU.out)).mono ?_;rintro e w4 ⟨n4,hn4,rfl,hU4⟩))
     have HU4:=Lib.hid ((bA HU.out).trans hU4);have hn40:(0:Int)≤(n4:Int):=by omega
     have hn41:(n4:Int)≤4000:=by have:=HF4.out;omega
     have HN4:=Lib.hid hn4;generalize sJ T (u+bj)=y4 at *;clear hU4 hn4;by_cases hyy:y4≤y
     · have hyy' : y4 ≤ y := hyy; go_wp2
       all_goals
        go_roundw
        case rel=>exact⟨j+1,n+n4,max y y4,by omega,by rw[HTk.out,List.length_append];have:=HN4.out;have:=HNm.out;omega,by omega,by go_num,by exact congrArg (Value.int .i64) (by omega),by go_num,by rw[HTo.out,HTs.out];omega,HU4.out⟩
        case measure=>simp[intOf];omega
     · have hyy' : y < y4 := by omega
       go_wp2
       all_goals
        go_roundw
        case rel=>exact⟨j+1,n+n4,max y y4,by omega,by rw[HTk.out,List.length_append];have:=HN4.out;have:=HNm.out;omega,by omega,by go_num,by exact congrArg (Value.int .i64) (by omega),by go_num,by rw[HTo.out,HTs.out];omega,HU4.out⟩
        case measure=>simp[intOf];omega
   · obtain rfl : j = l.length := by omega
     go_wp2;go_ret2;refine⟨n,by have:=HFl.out;omega,?_,HU3.out.trans HU.out⟩;rw[HT.out,HTo.out,List.drop_length];have:max y (aI [] ((binds x).drop l.length) u)=y:=by show max y (-1)=y;omega
     rw[this];rfl
theorem mYA(T:Tm):eZ T:=by
 induction T using Tm.rec (motive_2:=fun l=>∀ a∈l,eZ a) with
 | mk x l ih =>
   by_cases hk:x.k=0
   · exact qXA x l hk
   · exact qUA x l hk ih
 | nil=>rename_i a ha;cases ha
 | cons a l iha ihl =>
   rename_i b hb;rcases List.mem_cons.1 hb with rfl | hb
   · exact iha
   · exact ihl b hb
theorem iP(T:Tm):okT T→∀ u,-1≤sJ T u∧sJ T u≤99:=by
 induction T using Tm.rec (motive_2:=fun l=>jM l→∀ bs u,-1≤aI l bs u∧aI l bs u≤99) with
 | mk x l ih =>
   rintro⟨hx,_,hls⟩ u;unfold sJ;by_cases hk:x.k=0
   · have := xJ hx hk; rw [if_pos hk]; by_cases h : (u : Int) ≤ x.n
     · rw[if_pos h];omega
     · rw[if_neg h];omega
   · rw[if_neg hk];exact ih hls _ u
 | nil=>rename_i hh bs u;show -1≤(-1:Int)∧(-1:Int)≤99;omega
 | cons a l iha ihl =>
   rename_i hh bs u;have h1:=iha hh.1 (u+bs.headD 0);have h2:=ihl hh.2 bs.tail u
   show -1≤max (sJ a (u+bs.headD 0)) (aI l bs.tail u)∧max (sJ a (u+bs.headD 0)) (aI l bs.tail u)≤99
   omega
section
variable {w0 : World}
theorem lIA(t:List Nd){v:Value}(hn:t.length≤maxLen)(hv:TermV w0 v t)(h:vB t≠0):Calls Tryz.prog 21 #[v] w0 fun e w=>e = .returned (.tuple #[.int .i64 0,.int .i64 (vB t)])∧Under w0 w:=by
 have HC:=Lib.hid (fHA t hn hv);have h':(vB t==0)=false:=by simpa using h
 clear hn hv h;generalize vB t=ce at *;go_enter Tryz.func21,Tryz.ntmps21;go_wp2_with fail;refine HC.out.mono ?_;rintro e w1 ⟨rfl,hU1⟩;have HU1:=Lib.hid hU1;clear hU1;go_wp2;go_ret2;exact⟨rfl,HU1.out⟩
theorem oHA(T:Tm){v:Value}(hok:okT T)(hd:rC T≤60)(hl:(flat T).length≤4000)(hv:TermV w0 v (flat T)):Calls Tryz.prog 21 #[v] w0 fun e w=>e = .returned (.tuple #[.int .i64 (sJ T 0+1),.int .i64 0])∧Under w0 w:=by
 have HC:=Lib.hid (fHA (flat T) (by simp only[maxLen];omega) hv);rw[gH hok hd hl]at HC;have HQ:=Lib.hid (fun w (hU:Under w0 w)=>mYA T hok w v (flat T) 0 rfl hl (TermV.mono _ _ _ _ hU hv) (by omega));have hr:=iP T hok 0;have h1:=hr.1;have h2:=hr.2;clear hok hd hl hv hr;generalize sJ T 0=y at *;go_enter Tryz.func21,Tryz.ntmps21;go_wp2_with fail;refine HC.out.mono ?_;rintro e w1 ⟨rfl,hU1⟩;have HU1:=Lib.hid hU1;clear hU1;go_wp2_with fail;refine(HQ.out _ HU1.out).mono ?_;rintro e w2 ⟨many,hm,rfl,hU2⟩;have HU2:=Lib.hid (HU1.out.trans hU2);clear hU2;go_wp2;go_ret2;exact⟨rfl,HU2.out⟩
end
def gX(s:ByteArray):Bool:=s.toList==[80,114,111,112]||(s.toList==[78,97,116]||(s.toList==[122,101,114,111]||(s.toList==[69,109,112,116,121]||(s.toList==[85,110,105,116]||(s.toList==[115,116,97,114]||s.toList==[116,105,99,107])))))
section
variable {w0 : World}
theorem nWA(s:ByteArray):Calls Tryz.prog 37 #[.string s] w0 fun e w=>∃ k n m x,e = .returned (.tuple #[.agg #[.int .i64 k,.int .i64 n,.int .i64 m,.string x],.bool (gX s)])∧Under w0 w:=by
 have HO:RowKit.Hid (gX s=(s.toList==[80,114,111,112]||(s.toList==[78,97,116]||(s.toList==[122,101,114,111]||(s.toList==[69,109,112,116,121]||(s.toList==[85,110,105,116]||(s.toList==[115,116,97,114]||s.toList==[116,105,99,107]))))))):=Lib.hid rfl;generalize gX s=r at *;go_enter Tryz.func37,Tryz.ntmps37;go_wp2
 all_goals
  refine bodyPost_ret ((results_cell_tmp rfl _ _ _).trans (by simp[go_sem];refine⟨?_,by rw[HO.out];simp[*]⟩;first | rfl | exact⟨rfl,rfl,rfl,rfl⟩)) rfl ⟨_,_,_,_,rfl,?_⟩
  first | exact aA (Under.refl _) _ | skip
end
end Go.Proofs.YtlnlpdephijcoaaGreatDoor
