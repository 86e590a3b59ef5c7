/- Part 35 of what the proof rests on. -/
import Derived.Deep.AppendLies
import Derived.Test.YtggjbblgoddnjaaGreatDoorM14
import Derived.Test.YtggjbblgoddnjaaGreatDoorM34
set_option linter.unusedSimpArgs false
set_option linter.unusedVariables false
set_option maxRecDepth 100000
set_option maxHeartbeats 2000000
namespace Go.Proofs.YtggjbblgoddnjaaGreatDoor
open Go.Lx Go.RowKit
def iN(l:List Nat):Nat:=l.foldr max 0
theorem uZA{l:List Nat}{b:Nat}(h:∀ a∈l,a≤b):iN l≤b:=by
 induction l with
 | nil=>exact Nat.zero_le _
 | cons a l ih =>
   have:=ih fun x hx=>h x (List.mem_cons_of_mem _ hx)
   have:=h a (List.mem_cons_self ..)
   show max a (iN l)≤b
   omega
def oG : List Nd → List Nat → Bool
  | [],_=>false
  | x::t,st=>if 60 < iN (st.drop (st.length - (binds x).length))+1 then true else oG t (st.take (st.length - (binds x).length)++[iN (st.drop (st.length - (binds x).length))+1])
structure DpRel (w0:World) (t:List Nd) (st:List Nat) (k g c:Nat) (wr:World):Prop where
 len:st.length≤k
 low:∀ a∈st,a≤60
 whole:aF (t.drop k) st.length=true
 deep:oG t []=oG (t.drop k) st
 own:wr.ownsRow w0.heap.size 3 1 (.slice (some ⟨g,0,none⟩) st.length c) st.length (bE st)
 under:Under w0 wr
def DpR(w0:World)(t:List Nd)(l i:Value)(wr:World):Prop:=∃(k:Nat) (st:List Nat) (g c:Nat),k≤t.length∧l = .slice (some ⟨g,0,none⟩) st.length c∧i = .int .i64 (k:Int)∧DpRel w0 t st k g c wr
def DiR(W:World)(st:List Nat)(g c N:Nat)(l n i:Value)(wr:World):Prop:=W=wr∧∃ j M:Nat,j≤N∧j+M=st.length∧l = .slice (some ⟨g,0,none⟩) M c∧n = .int .i64 (iN (st.drop M):Nat)∧i = .int .i64 (j:Int)
theorem cKA{l:List Nat}{k n:Nat}(h:l[k]? = some n):(bE l)[k]? = some (.int .i64 (n:Int)):=by
 unfold bE;rw[List.getElem?_map,h];rfl
section
variable {w0 : World}
theorem mOA(t:List Nd){v:Value}(hn:t.length≤1000000)(hv:TermV w0 v t)(hw:aF t 0=true):Calls Tryz.prog 137 #[v] w0 fun e w=>e = .returned (.bool (oG t []))∧Under w0 w:=by
 obtain⟨p,c,rfl,_,_,hr⟩:=hv;obtain⟨i0,hi,hz0,hz1,hz2⟩:=info_parts Tryz.infoInt;have HR:=Lib.hid hr;have HN:=Lib.hid hn;have HW:=Lib.hid hw;have hn':(t.length:Int)≤1000000:=by omega
 have hn0:(0:Int)≤(t.length:Int):=by omega
 clear hr hn hw;go_enter Tryz.func137,Tryz.ntmps137;go_wp2;go_loopw [3,4] (fun l i wr=>DpR w0 t l i wr) (fun _ i _=>t.length - (intOf i).toNat)
 case atStart=>exact⟨0,[],w0.heap.size,0,Nat.zero_le _,rfl,rfl,⟨Nat.le_refl _,by simp,HW.out,by simp,yJ w0 _ _ _ (Nat.le_refl _),aA (Under.refl _) _⟩⟩
 case round =>
   obtain⟨k,st,g,c2,hk,rfl,rfl,hD⟩:=hrel;have hL:=hD.len;have HD:=Lib.hid hD;clear hD;have hk0:(0:Int)≤(k:Int):=by omega
   have hL0:(0:Int)≤(st.length:Int):=by omega
   have hLk:(st.length:Int)≤(k:Int):=by omega
   by_cases hlt:k < t.length
   · obtain ⟨b1, off1, rfl, hb1, c0, c1, c2', c3⟩ := RowArg.node HR.out (List.getElem?_eq_getElem hlt); rw [← dA HD.out.under hb1] at c0 c1 c2' c3; have hb1' := Nat.lt_of_lt_of_le hb1 HD.out.under.size; have hlt' : (k : Int) < (t.length : Int) := by omega
     have HX:=Lib.hid (show aF (t[k]::t.drop (k+1)) st.length=true by rw[← List.drop_eq_getElem_cons hlt];exact HD.out.whole);have HG:=Lib.hid (show oG t []=oG (t[k]::t.drop (k+1)) st by rw[← List.drop_eq_getElem_cons hlt];exact HD.out.deep);generalize t[k]=x at *;have HC:=Lib.hid (fun w=>jM (w0:=w) x);have hx:yA x=true∧(binds x).length≤st.length∧aF (t.drop (k+1)) (st.length - (binds x).length+1)=true:=by
      have:=HX.out;unfold aF at this
      split at this
      · cases this
      · rename_i h;exact⟨by cases hh:yA x;exact(h (.inl hh)).elim;rfl,by omega,this⟩
     obtain⟨hx1,hx2,hx3⟩:=hx;have HX1:=Lib.hid hx1;have HX3:=Lib.hid hx3;have hB8:=gK hx1;clear hx1 hx3 HX;go_wp2_with fail;refine(HC.out _).mono ?_;rintro e w1 ⟨l,hl,q,c',rfl,hlc,hrl,hU1⟩;obtain rfl:=hl HX1.out;have HU1:=Lib.hid hU1;clear hU1 hlc hrl HC c0 c1 c2' c3 hl;have HO:=Lib.hid (dC HD.out.own HU1.out);have hG:oG t []=if 60 < iN (st.drop (st.length - (binds x).length))+1 then true else oG (t.drop (k+1)) (st.take (st.length - (binds x).length)++[iN (st.drop (st.length - (binds x).length))+1]):=by rw[HG.out];rfl
     have HG:=Lib.hid hG;clear hG;generalize (binds x).length=N at *;have hN0:(0:Int)≤(N:Int):=by omega
     have hN8:(N:Int)≤8:=by omega
     obtain⟨_,_,hge,_,hgb,hgl,hgc,hcm⟩:∃ g' cap,(Value.slice (some ⟨g,0,none⟩) st.length c2 = .slice (some ⟨g',0,none⟩) st.length cap)∧w0.heap.size≤g∧w0.heap.size≤g∧g < w1.heap.size∧st.length≤c2∧c2≤maxLen:=by
      rcases HO.out.2 with⟨h0,_⟩ | ⟨g',cap,cur,h0,hb,hg,h1,h2,_⟩
      · cases h0
      · cases h0;exact⟨_,_,rfl,hb,hb,(Array.getElem?_eq_some_iff.1 hg).1,h1,h2⟩
     clear hge;have hgc':(st.length:Int)≤(c2:Int):=by omega
     go_wp2;go_loopw [3,7,8] (fun l n i wr=>DiR w1 st g c2 N l n i wr) (fun _ _ i _=>N - (intOf i).toNat)
     case atStart=>exact⟨rfl,0,st.length,Nat.zero_le _,by omega,rfl,by rw[List.drop_length];rfl,rfl⟩
     case round =>
       obtain⟨rfl,j,M,hj,hjM,rfl,rfl,rfl⟩:=hrel;have hj0:(0:Int)≤(j:Int):=by omega
       have hM0:(0:Int)≤(M:Int):=by omega
       have HMX:=Lib.hid (uZA (l:=st.drop M) (b:=60) fun a ha=>HD.out.low a (List.mem_of_mem_drop ha));by_cases hjN:j < N
       · obtain ⟨M, rfl⟩ : ∃ m, M = m + 1 := ⟨M - 1, by omega⟩; have hst : M < st.length := by omega
         have HMC:=Lib.hid (show iN (st.drop M)=max st[M] (iN (st.drop (M+1))) by rw[List.drop_eq_getElem_cons hst];rfl);have hcell:=yD HO.out (g:=g) rfl (cKA (List.getElem?_eq_getElem hst));have ha60:=HD.out.low _ (List.getElem_mem hst);generalize st[M]=a at *;have hjN':(j:Int) < (N:Int):=by omega
         have hMc:(M:Int)≤(c2:Int):=by omega
         have hm60:=HMX.out;generalize iN (st.drop (M+1))=mx at *;clear HMX;have hMe:((M:Int)+1 - 1)=(M:Int):=by omega
         by_cases hma:a≤mx
         · have hma' : (a : Int) ≤ (mx : Int) := by omega
           go_wp2
           all_goals
            go_roundw
            case rel=>exact⟨rfl,j+1,M,by omega,by omega,by go_num,by rw[HMC.out];exact congrArg (Value.int .i64) (by omega),by go_num⟩
            case measure=>simp[intOf];omega
         · have hma' : (mx : Int) < (a : Int) := by omega
           go_wp2
           all_goals
            go_roundw
            case rel=>exact⟨rfl,j+1,M,by omega,by omega,by go_num,by rw[HMC.out];exact congrArg (Value.int .i64) (by omega),by go_num⟩
            case measure=>simp[intOf];omega
       · obtain rfl : j = N := by omega
         have hMe:M=st.length - j:=by omega
         have HMe:=Lib.hid hMe;rw[← hMe]at HG HX3;clear hMe;have hm60:=HMX.out;have HMv:RowKit.Hid (iN (st.drop M)=iN (st.drop M)):=Lib.hid rfl;generalize hmx:iN (st.drop M)=mx at *;clear hmx HMv HMX;have hmx0:(0:Int)≤(mx:Int):=by omega
         by_cases hd:60 < mx+1
         · have hd' : (60 : Int) < (mx : Int) + 1 := by omega
           have HF:RowKit.Hid (oG t []=true):=Lib.hid (by rw[HG.out,if_pos hd]);clear hd;go_wp2;go_ret;exact⟨by rw[HF.out];rfl,HD.out.under.trans HU1.out⟩
         · have hd' : (mx : Int) + 1 ≤ 60 := by omega
           have HF:RowKit.Hid (oG t []=oG (t.drop (k+1)) (st.take M++[mx+1])):=Lib.hid (by rw[HG.out,if_neg hd]);have HMs:=Lib.hid (show M≤st.length by omega);have hM1:M≤1000000:=by omega
           clear hd;go_wp2_with (at_builtin;refine wpList_append_lies _ rfl _ _ 123 rfl w0.heap.size 3 i0 _ 1 8 Tryz.underlying123 hi hz0 hz1 hz2 rfl (by decide) _ _ _ rfl ((nN HO.out HMs.out).alloc _) ⟨w1.heap.size,0,none⟩ 1 1 [.int .i64 ((mx+1:Nat):Int)] rfl rfl ?c1 ?c2 (by decide) (by simp only[maxLen];omega) (by omega) ?c5 (w1.heap.size+1) (by simp) ?_)
           case c1=>exact cell_one_new _ _ _
           case c2=>simp[Value.oneCell']
           case c5=>have:=(HD.out.under.trans HU1.out).size;simp;omega
           intro g3 c3 w3 hown hgrow hat hlt3;have HO3:=Lib.hid hown;have HU3:=Lib.hid (rA (aA (HD.out.under.trans HU1.out) _) hgrow fun z e=>by cases e;exact hgb);clear hown hgrow hat hlt3;go_wp2;go_roundw
           case rel =>
             have hlen:(st.take M++[mx+1]).length=M+1:=by rw[List.length_append,List.length_take,Nat.min_eq_left HMs.out];rfl
             have hcs:(bE st).take M++[Value.int .i64 ((mx:Int)+1)]=bE (st.take M++[mx+1]):=by simp[bE,List.map_take]
             refine⟨k+1,st.take M++[mx+1],g3,c3,by omega,by rw[hlen],by go_num,⟨by rw[hlen];omega,?_,by rw[hlen];exact HX3.out,HF.out,by rw[hlen,← hcs];exact HO3.out,HU3.out⟩⟩;intro a ha;rcases List.mem_append.1 ha with ha | ha
             · exact HD.out.low a (List.mem_of_mem_take ha)
             · rw[List.mem_singleton.1 ha];omega
           case measure=>simp[intOf];omega
   · obtain rfl : k = t.length := by omega
     have HF:RowKit.Hid (oG t []=false):=Lib.hid (by rw[HD.out.deep,List.drop_length];rfl);go_wp2;go_ret;exact⟨by rw[HF.out];rfl,HD.out.under⟩
end
theorem j5 : ∀ (l : List Tm) (d : Nat), 1 ≤ d → pU d l = max d (iN (l.map eF) + 1)
  | [],d,h=>by show d=max d (0+1);omega
  | a :: l, d, h => by
    show pU (max d (eF a+1)) l=max d (max (eF a) (iN (l.map eF))+1)
    rw[j5 l _ (by omega)];omega
theorem wNA(x:Nd)(l:List Tm):eF (.mk x l)=iN (l.map eF)+1:=by
 show pU 1 l=_
 rw[j5 l 1 (Nat.le_refl _)];omega
theorem iKA:∀(T:Tm),okT T→∀(rest:List Nd) (st:List Nat),oG (flat T++rest) st=if 60 < eF T then true else oG rest (st++[eF T]):=by
 intro T
 induction T using Tm.rec (motive_2:=fun l=>qQ l→∀(rest:List Nd) (st:List Nat),oG (jB l++rest) st=if 60 < iN (l.map eF) then true else oG rest (st++l.map eF)) with
 | mk x l ih =>
   rintro⟨hx,hl,hls⟩ rest st;rw[flat,List.append_assoc,ih hls,wNA]
   show(if 60 < iN (l.map eF) then true else oG (x::rest) (st++l.map eF))=_
   have hk:(st++l.map eF).length - (binds x).length=st.length:=by rw[List.length_append,List.length_map];omega
   unfold oG;rw[hk,List.drop_left,List.take_left];by_cases h:60 < iN (l.map eF)
   · rw[if_pos h,if_pos (by omega)]
   · rw [if_neg h]
     cases rest<;>rfl
 | nil=>rename_i hh rest st;simp[jB,iN]
 | cons a l iha ihl =>
   rename_i hh rest st;obtain⟨ha,hl⟩:=hh;rw[jB,List.append_assoc,iha ha,ihl hl]
   show _=if 60 < max (eF a) (iN (l.map eF)) then true else oG rest (st++eF a::l.map eF)
   rw[List.append_assoc];by_cases h:60 < eF a
   · rw[if_pos h,if_pos (by omega)]
   · rw [if_neg h]; by_cases h2 : 60 < iN (l.map eF)
     · rw[if_pos h2,if_pos (by omega)]
     · rw[if_neg h2,if_neg (by omega)];rfl
theorem yCA : ∀ (t : List Nd) (i : Nat) (all op : List (Nat × Nat)), aF t op.length = match wC t i all op with | none => false | some r => r.2.length == 1
  | [],i,all,op=>rfl
  | x :: t, i, all, op => by
    unfold aF wC;by_cases h:yA x=false∨op.length < (binds x).length
    · rw[if_pos h,if_pos h]
    · rw [if_neg h, if_neg h]; simp only; rw [← yCA t (i + 1)]; congr 1
      rw[List.length_append,List.length_take,Nat.min_eq_left (Nat.sub_le _ _)];rfl
theorem eWA(t:List Nd):bC t=if 4000 < t.length then 21 else if aF t 0=false then 20 else if oG t [] then 22 else 0:=by
 unfold bC
 split
 · rfl
 have hw:=yCA t 0 [] [];rw[List.length_nil]at hw;rw[hw]
 cases hm:wC t 0 [] [] with
 | none=>rfl
 | some r =>
   obtain⟨all,op⟩:=r;simp only;by_cases h1:op.length=1
   · have e1 : ¬ (op.length ≠ 1) := by simpa using h1
     have e2:¬((op.length==1)=false):=by simp[h1]
     rw[if_neg e1,if_neg e2];clear e1 e2;obtain⟨Gs,g1,g2,g3⟩:=pO t [] [] (by simp[qQ]) hm;simp only at g3;rw[g3,xL]at h1
     match Gs,h1 with
     | [T], _ =>
       simp only[jB,List.nil_append,List.append_nil]at g2;obtain⟨a',q1,q2,q3⟩:=lS T g1.1 [] [];rw[g2]at q1;rw[show wC t (jB []).length [] (xE 0 [])=wC t 0 [] [] from rfl,hm]at q1;simp only[Option.some.injEq,Prod.mk.injEq]at q1;have hl:a'.getLastD (0,0)=((jB []).length,eF T):=by rw[List.getLastD_eq_getLast?,q3];rfl
       rw[q1.1,List.nil_append,hl];have hd:=iKA T g1.1 [] [];rw[List.append_nil,g2]at hd;rw[hd];by_cases h:60 < eF T
       · rw[if_pos h,if_pos h];rfl
       · rw[if_neg h,if_neg h];rfl
   · rw[if_pos (by simpa using h1),if_pos (by simpa using h1)]
section
variable {w0 : World}
theorem zCA(t:List Nd){v:Value}(hn:t.length≤maxLen)(hv:TermV w0 v t):Calls Tryz.prog 106 #[v] w0 fun e w=>e = .returned (.int .i64 (bC t))∧Under w0 w:=by
 have HV:=Lib.hid hv;obtain⟨p,c,rfl,_,_,_⟩:=hv;have HE:=Lib.hid (eWA t);by_cases h:4000 < t.length
 · have h' : (4000 : Int) < (t.length : Int) := by omega
   have HE:=Lib.hid (HE.out.trans (if_pos h));clear h;go_enter Tryz.func106,Tryz.ntmps106;go_wp2;go_ret;exact⟨mF HE.out.symm,Under.refl _⟩
 · have h' : (t.length : Int) ≤ 4000 := by omega
   have HE:=Lib.hid (HE.out.trans (if_neg h));have HW:=Lib.hid (vTA t (by omega) HV.out)
   cases hw:aF t 0
   · have HE:=Lib.hid (HE.out.trans (if_pos hw));rw[hw]at HW;clear h hw;go_enter Tryz.func106,Tryz.ntmps106;go_wp2_with fail;refine HW.out.mono ?_;rintro e w1 ⟨rfl,hU1⟩;have HU1:=Lib.hid hU1;clear hU1;go_wp2;go_ret;exact⟨mF HE.out.symm,HU1.out⟩
   · have HE := Lib.hid (HE.out.trans (if_neg (by rw [hw]; decide))); have HD := Lib.hid (fun w1 (hU : Under w0 w1) => mOA (w0 := w1) t (by omega) (TermV.mono _ _ _ _ hU HV.out) hw); rw [hw] at HW; clear h hw
     cases hd:oG t []
     all_goals
      rw[hd]at HD HE;clear hd;go_enter Tryz.func106,Tryz.ntmps106;go_wp2_with fail;refine HW.out.mono ?_;rintro e w1 ⟨rfl,hU1⟩;have HU1:=Lib.hid hU1;clear hU1;go_wp2_with fail;refine(HD.out _ HU1.out).mono ?_;rintro e w2 ⟨rfl,hU2⟩;have HU2:=Lib.hid (HU1.out.trans hU2);clear hU2;go_wp2;go_ret;exact⟨mF HE.out.symm,HU2.out⟩
end
def cHA(T:Tm):Prop:=okT T→∀(w0:World) (v:Value) (t s r:List Nd) (e z:Nat),t=s++flat T++r→t.length≤1000000→TermV w0 v t→e+1=s.length+(flat T).length→z=s.length →
 Calls Tryz.prog 165 #[v,.int .i64 (e:Int)] w0 fun x w=>x = .returned (.int .i64 (z:Int))∧Under w0 w
def o4A(w0:World)(s:List Nd)(l:List Tm)(a i:Value)(wr:World):Prop:=∃ j M z:Nat,j+M=l.length∧z=s.length+(jB (l.take M)).length∧a = .int .i64 (z:Int)∧i = .int .i64 (j:Int)∧Under w0 wr
theorem vYA(x:Nd)(l:List Tm)(ih:∀ a∈l,cHA a):cHA (.mk x l):=by
 rintro⟨hx,hl,hls⟩ w0 v t s r e z ht hn hv he hz;have HV:=Lib.hid hv;have HN:=Lib.hid hn;have HT:=Lib.hid ht;have he':e=s.length+(jB l).length:=by rw[flat,List.length_append]at he;simp at he;omega
 have hte:t[e]? = some x:=by
  rw[ht,flat,he',List.append_assoc,List.append_assoc,List.getElem?_append_right (by omega),Nat.add_sub_cancel_left,List.getElem?_append_right (Nat.le_refl _),Nat.sub_self];rfl
 have hlt:e < t.length:=(List.getElem?_eq_some_iff.1 hte).1;obtain⟨p,c,rfl,_,_,hr⟩:=hv;obtain⟨b1,off1,rfl,hb1,c0,c1,c2,c3⟩:=RowArg.node hr hte;have HC:=Lib.hid (fun w=>jM (w0:=w) x);have HX:=Lib.hid hx;have HLs:=Lib.hid hls;have HE:=Lib.hid he';have HZ:=Lib.hid hz;have HIH:=Lib.hid ih;have hlt':(e:Int) < (t.length:Int):=by omega
 have hn':(t.length:Int)≤1000000:=by omega
 have he0:(0:Int)≤(e:Int):=by omega
 have hB8:=gK hx;have hL0:(0:Int)≤(l.length:Int):=by omega
 have hL8:(l.length:Int)≤8:=by omega
 have HL:=Lib.hid hl;clear ht hn hr hte he hz hls hx ih he' hB8 hl;go_enter Tryz.func165,Tryz.ntmps165;go_wp2_with fail;refine(HC.out _).mono ?_;rintro e1 w1 ⟨lb,hlb,q,c',rfl,hlc,hrl,hU1⟩;obtain rfl:=hlb HX.out;have hU1':=hU1;rw[HX.out,← HL.out];have HU1:=Lib.hid (show Under w0 w1 from hU1');clear hU1 hU1' hlc hrl HC c0 c1 c2 c3 hlb;go_wp2;go_loopw [7,8] (fun a i wr=>o4A w0 s l a i wr) (fun _ i _=>l.length - (intOf i).toNat)
 case atStart=>exact⟨0,l.length,e,by omega,by rw[List.take_length];exact HE.out,rfl,rfl,HU1.out⟩
 case round =>
   obtain⟨j,M,y,hj,hy,rfl,rfl,hU⟩:=hrel;have HU:=Lib.hid hU;clear hU;have hj0:(0:Int)≤(j:Int):=by omega
   by_cases hjl:j < l.length
   · obtain ⟨M, rfl⟩ : ∃ m, M = m + 1 := ⟨M - 1, by omega⟩; have hM : M < l.length := by omega
     have hjl':(j:Int) < (l.length:Int):=by omega
     have htk:jB (l.take (M+1))=jB (l.take M)++flat l[M]:=by
      rw[List.take_succ_eq_append_getElem hM,rH];simp[jB]
     have hfl:jB l=jB (l.take M)++flat l[M]++jB (l.drop (M+1)):=by
      rw[← htk,← rH,List.take_append_drop]
     have hpos:=yKA l[M];rw[htk,List.length_append]at hy;obtain⟨y,rfl⟩:∃ m,y=m+1:=⟨y - 1,by omega⟩;have hyt:y+1≤t.length:=by
      have:=congrArg List.length HT.out;rw[flat,hfl]at this;simp only[List.length_append]at this;omega
     obtain⟨z',hz'⟩:∃ z',z'=s.length+(jB (l.take M)).length:=⟨_,rfl⟩;have HQ:=Lib.hid (HIH.out l[M] (List.getElem_mem hM) (lCA.1 HLs.out _ (List.getElem_mem hM)) wr _ t (s++jB (l.take M)) (jB (l.drop (M+1))++[x]++r) y z' (by rw[HT.out,flat,hfl];simp only[List.append_assoc]) HN.out (TermV.mono _ _ _ _ HU.out HV.out) (by rw[List.length_append];omega) (by rw[List.length_append];exact hz'));have HZ':=Lib.hid hz';have hy1:(y:Int)≤1000000:=by omega
     have hy0:(0:Int)≤(y:Int):=by omega
     have hz0:(0:Int)≤(z':Int):=by omega
     have hMe:((y:Int)+1 - 1)=(y:Int):=by omega
     clear hz' hy htk hfl hpos hyt;go_wp2_with fail;refine HQ.out.mono ?_;rintro e2 w2 ⟨rfl,hU2⟩;have HU2:=Lib.hid (HU.out.trans hU2);clear hU2;go_wp2;go_roundw
     case rel=>exact⟨j+1,M,z',by omega,HZ'.out,by go_num,by go_num,HU2.out⟩
     case measure=>simp[intOf];omega
   · obtain rfl : M = 0 := by omega
     obtain rfl:j=l.length:=by omega
     obtain rfl:y=z:=by rw[hy,HZ.out];simp[jB]
     go_wp2;go_ret;exact⟨rfl,HU.out⟩
theorem lWA(T:Tm):cHA T:=by
 induction T using Tm.rec (motive_2:=fun l=>∀ a∈l,cHA a) with
 | mk x l ih=>exact vYA x l ih
 | nil=>rename_i a ha;cases ha
 | cons a l iha ihl =>
   rename_i b hb;rcases List.mem_cons.1 hb with rfl | hb
   · exact iha
   · exact ihl b hb
theorem Tryz.infoNds:(Tryz.prog.info? 30).map (fun i=>(i.zero,i.size,i.bytes))=some (some (.slice none 0 0),1,24):=by kernel_rfl
theorem qVA(w:World)(base:Nat)(hb:base≤w.heap.size)(e:TypeId)(v:Value):(w.alloc (.cells #[v] e)).ownsRow base e 1 (.slice (some ⟨w.heap.size,0,none⟩) 1 1) 1 [v] :=
 ⟨rfl,.inr ⟨w.heap.size,1,#[v],rfl,hb,heap_alloc_new w _,Nat.le_refl _,by decide,rfl,rfl⟩⟩
theorem sYA{w:World}{b off:Nat}{A B C:List Value}(h:RowArg w (some ⟨b,off,none⟩) (A++B++C)):RowArg w (some ⟨b,off+A.length,none⟩) B:=fun hne=>by
 obtain ⟨b', off', e, hb, hc⟩ := h (by
   intro e;simp only[List.append_eq_nil_iff]at e;exact hne e.1.2)
 cases e;refine⟨b,off+A.length,rfl,hb,fun j u hj=>?_⟩;have hjl:j < B.length:=(List.getElem?_eq_some_iff.1 hj).1;have:=hc (A.length+j) u (by rw[List.append_assoc,List.getElem?_append_right (by omega),Nat.add_sub_cancel_left,List.getElem?_append_left hjl];exact hj)
 rwa [Nat.add_assoc]
theorem nVA{w:World}{b off n c:Nat}{A B C:List Nd}(h:RowArg w (some ⟨b,off,none⟩) (aC (A++B++C)))(hn:n=B.length)(hc:n≤c):TermV w (.slice (some ⟨b,off+A.length * 4,none⟩) n c) B:=by
 subst hn;refine⟨_,c,rfl,hc,fun e=>(by cases e),?_⟩;rw[aR,aR]at h;rw[← oZ];exact sYA h
def r4A(w0:World)(l:List Tm)(en out i:Value)(wr:World):Prop:=∃(j M E g c2:Nat) (vs:List Value),j+M=l.length∧E=(jB (l.take M)).length∧en = .int .i64 (E:Int)∧out = .slice (some ⟨g,0,none⟩) j c2∧i = .int .i64 (j:Int) ∧
 wr.ownsRow w0.heap.size 30 1 (.slice (some ⟨g,0,none⟩) j c2) j vs∧Zip (TermV w0) vs ((l.drop M).map flat)∧Under w0 wr
section
variable {w0 : World}
theorem fMA(x:Nd)(l:List Tm){t:List Nd}{v:Value}(hok:okT (.mk x l))(ht:t=flat (.mk x l))(hn:t.length≤1000000)(hv:TermV w0 v t) :
 Calls Tryz.prog 143 #[v] w0 fun e w=>∃ vr,e = .returned vr∧TermsV w vr (l.map flat)∧Under w0 w:=by
 obtain⟨hx,hl,hls⟩:=hok;have HV:=Lib.hid hv;have HN:=Lib.hid hn;have hte:t[(jB l).length]? = some x:=by
  rw[ht,flat,List.getElem?_append_right (Nat.le_refl _),Nat.sub_self];rfl
 have hlen:t.length=(jB l).length+1:=by rw[ht,flat,List.length_append];rfl
 have HT:=Lib.hid ht;obtain⟨p,c,rfl,hc,_,hr⟩:=hv;obtain⟨b1,off1,rfl,hb1,c0,c1,c2,c3⟩:=RowArg.node hr hte;obtain⟨i0,hi,hz0,hz1,hz2⟩:=info_parts Tryz.infoNds;have HR:=Lib.hid hr;have HC:=Lib.hid (fun w=>jM (w0:=w) x);have HX:=Lib.hid hx;have HLs:=Lib.hid hls;have HLen:=Lib.hid hlen;rw[hlen]at hn hc ⊢;obtain⟨m,hm⟩:∃ m,m=(jB l).length:=⟨_,rfl⟩;have HM:=Lib.hid hm;rw[← hm]at c0 c1 c2 c3 hn hc ⊢;have hmi:((m:Int)+1 - 1)=(m:Int):=by omega
 have hm0:(0:Int)≤(m:Int):=by omega
 have hm1:(m:Int)≤1000000:=by omega
 have hB8:=gK hx;have hL0:(0:Int)≤(l.length:Int):=by omega
 have hL8:(l.length:Int)≤8:=by omega
 have HL:=Lib.hid hl;clear ht hn hr hte hls hx hB8 hl hlen hm;go_enter Tryz.func143,Tryz.ntmps143;go_wp2_with fail;refine(HC.out _).mono ?_;rintro e1 w1 ⟨lb,hlb,q,c',rfl,hlc,hrl,hU1⟩;obtain rfl:=hlb HX.out;have hU1':=hU1;rw[HX.out,← HL.out];have HU1:=Lib.hid (show Under w0 w1 from hU1');clear hU1 hU1' hlc hrl HC c0 c1 c2 c3 hlb;go_wp2;go_loopw [3,6,7] (fun en out i wr=>r4A w0 l en out i wr) (fun _ _ i _=>l.length - (intOf i).toNat)
 case atStart=>exact⟨0,l.length,m,w1.heap.size,0,[],by omega,by rw[List.take_length];exact HM.out,rfl,rfl,rfl,yJ w1 _ _ _ HU1.out.size,by rw[List.drop_length];exact Zip.nil _,aA HU1.out _⟩
 case round =>
   obtain⟨j,M,E,g,gc,vs,hj,hE,rfl,rfl,rfl,hO,hZ,hU⟩:=hrel;have HU:=Lib.hid hU;have HO:=Lib.hid hO;have HZ:=Lib.hid hZ;clear hU hO hZ;have hj0:(0:Int)≤(j:Int):=by omega
   by_cases hjl:j < l.length
   · obtain ⟨M, rfl⟩ : ∃ m, M = m + 1 := ⟨M - 1, by omega⟩; have hM : M < l.length := by omega
     have hjl':(j:Int) < (l.length:Int):=by omega
     have htk:jB (l.take (M+1))=jB (l.take M)++flat l[M]:=by
      rw[List.take_succ_eq_append_getElem hM,rH];simp[jB]
     have hfl:jB l=jB (l.take M)++flat l[M]++jB (l.drop (M+1)):=by
      rw[← htk,← rH,List.take_append_drop]
     have hpos:=yKA l[M];rw[htk,List.length_append]at hE;obtain⟨y,hy⟩:∃ y,E=y+1:=⟨E - 1,by omega⟩;have hEm:E≤m:=by
      rw[HM.out,hfl];simp only[List.length_append];omega
     obtain⟨z',hz'⟩:∃ z',z'=(jB (l.take M)).length:=⟨_,rfl⟩;have hTs:t=jB (l.take M)++flat l[M]++(jB (l.drop (M+1))++[x]):=by rw[HT.out,flat,hfl];simp only[List.append_assoc]
     have HQ:=Lib.hid (lWA l[M] (lCA.1 HLs.out _ (List.getElem_mem hM)) wr _ t (jB (l.take M)) (jB (l.drop (M+1))++[x]) y z' hTs HN.out (TermV.mono _ _ _ _ HU.out HV.out) (by omega) hz');rw[HLen.out,← HM.out]at HQ;have HPc:=Lib.hid (nVA (n:=E - z') (c:=c - z') (by rw[← hTs];exact HR.out) (by omega) (by omega));rw[← hz']at HPc;have HZ':=Lib.hid hz';have hzE:z' < E:=by omega
     have hDr:(l.drop M).map flat=flat l[M]::(l.drop (M+1)).map flat:=by rw[List.drop_eq_getElem_cons hM];rfl
     have HDr:=Lib.hid hDr;generalize l[M]=T at *;have hE1:(E:Int)≤1000000:=by omega
     have hE0:(0:Int)≤(E:Int):=by omega
     have hzz0:(0:Int)≤(z':Int):=by omega
     have hzE':(z':Int)≤(E:Int):=by omega
     have hEc:(E:Int)≤(c:Int):=by omega
     have hzc:¬ c=z':=by omega
     have hMe:((E:Int) - 1)=(y:Int):=by omega
     have hmx:1+j≤maxLen:=by simp only[maxLen];omega
     have hby:(1+j) * 24≤140737488355328:=by omega
     clear hz' htk hfl hpos hE hy hTs hDr hEm;go_wp2_with fail;refine HQ.out.mono ?_;rintro e2 w2 ⟨rfl,hU2⟩;have HU2:=Lib.hid hU2;have hs1:=HU.out.size;have hs2:=hU2.size;clear hU2;go_wp2_with (at_builtin;refine wpList_append_own_at _ rfl _ _ 96 rfl w0.heap.size 30 i0 _ 1 24 Tryz.underlying96 hi hz0 hz1 hz2 rfl (by decide) _ _ _ rfl (qVA w2 w0.heap.size (by omega) 30 _) ⟨g,0,none⟩ j gc vs rfl ?c0 ?c1 ?c2 hmx hby ?c5 ?_)
     case c0=>have:=HO.out.1;omega
     case c1 =>
       intro j u hj;rw[jJ,Nat.zero_add];exact yD ((dC HO.out HU2.out).alloc _) rfl hj
     case c2 =>
       intro u hu;obtain⟨i,hi'⟩:=List.mem_iff_getElem?.1 hu;have hil:i < ((l.drop (M+1)).map flat).length:=by rw[← HZ.out.1];exact(List.getElem?_eq_some_iff.1 hi').1
       exact(HZ.out.2 i u _ hi' (List.getElem?_eq_getElem hil)).one
     case c5=>simp;omega
     intro v' w3 hown hgrow hnil hat;obtain⟨g',gc',rfl,_⟩:=kE hown (by omega);have HO3:=Lib.hid hown;have HU3:=Lib.hid (rA (aA (HU.out.trans HU2.out) _) hgrow fun g e=>by cases e;show w0.heap.size≤w2.heap.size;omega);clear hown hgrow hnil hat;go_wp2;go_roundw
     case rel =>
       refine⟨j+1,M,z',g',gc',_::vs,by omega,HZ'.out,by go_num,by rw[Nat.add_comm j 1],by go_num,by rw[Nat.add_comm j 1];exact HO3.out,?_,HU3.out⟩;rw[HDr.out];exact(Zip.one HPc.out).app HZ.out
     case measure=>simp[intOf];omega
   · obtain rfl : M = 0 := by omega
     obtain rfl:j=l.length:=by omega
     go_wp2;go_ret;refine⟨_,rfl,?_,HU.out⟩;have hlm:(l.map flat).length=l.length:=List.length_map ..;have hz:=HZ.out;rw[List.drop_zero]at hz;refine ListV.of_own (vs:=vs) (by rw[hlm];exact HO.out) (hz.mono fun v x h=>TermV.mono _ _ _ _ HU.out h)
end
end Go.Proofs.YtggjbblgoddnjaaGreatDoor
