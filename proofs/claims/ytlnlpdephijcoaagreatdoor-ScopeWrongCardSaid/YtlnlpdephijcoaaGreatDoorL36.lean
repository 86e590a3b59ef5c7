/- Part 36 of what the proof rests on. -/
import Derived.Deep.AppendLies
import Derived.Deep.RegionHeld3
import Derived.Laws.ResultCell
import Derived.Test.YtlnlpdephijcoaaGreatDoorL02
import Derived.Test.YtlnlpdephijcoaaGreatDoorL13
import Derived.Test.YtlnlpdephijcoaaGreatDoorL15
import Derived.Test.YtlnlpdephijcoaaGreatDoorL35
set_option linter.unusedSimpArgs false
set_option linter.unusedVariables false
set_option maxRecDepth 100000
set_option maxHeartbeats 8000000
namespace Go.Proofs.YtlnlpdephijcoaaGreatDoor
open Go.Lx Go.RowKit
def fF : List Nd → Nat → Bool
  | [],d=>d==1
  | x::t,d=>if eB x=false∨d < (binds x).length then false else fF t (d - (binds x).length+1)
def j8A(w0:World)(t:List Nd)(d i:Value)(wr:World):Prop:=∃ k D:Nat,k≤t.length∧D≤k∧d = .int .i64 (D:Int)∧i = .int .i64 (k:Int)∧(fF t 0=fF (t.drop k) D)∧Under w0 wr
section
variable {w0 : World}
theorem aUA(t:List Nd){v:Value}(hn:t.length≤1000000)(hv:TermV w0 v t):Calls Tryz.prog 71 #[v] w0 fun e w=>e = .returned (.bool (fF t 0))∧Under w0 w:=by
 obtain⟨p,c,rfl,_,_,hr⟩:=hv;have HR:=Lib.hid hr;have HN:=Lib.hid hn;have hn':(t.length:Int)≤1000000:=by omega
 have hn0:(0:Int)≤(t.length:Int):=by omega
 clear hr hn;go_enter Tryz.func71,Tryz.ntmps71;go_wp2;go_loopw [3,4] (fun d i wr=>j8A w0 t d i wr) (fun _ i _=>t.length - (intOf i).toNat)
 case atStart=>exact⟨0,0,Nat.zero_le _,Nat.le_refl _,rfl,rfl,by simp,Under.refl _⟩
 case round =>
   obtain⟨k,D,hk,hD,rfl,rfl,hG,hU⟩:=hrel;have HG:=Lib.hid hG;clear hG;have hD0:(0:Int)≤(D:Int):=by omega
   have hk0:(0:Int)≤(k:Int):=by omega
   have hDk:(D:Int)≤(k:Int):=by omega
   by_cases hlt:k < t.length
   · obtain ⟨b1, off1, rfl, hb1, c0, c1, c2, c3⟩ := RowArg.node HR.out (List.getElem?_eq_getElem hlt); rw [← jA hU hb1] at c0 c1 c2 c3; have hb1' := Nat.lt_of_lt_of_le hb1 hU.size; have HD := Lib.hid (show fF (t.drop k) D = if eB t[k] = false ∨ D < (binds t[k]).length then false else fF (t.drop (k + 1)) (D - (binds t[k]).length + 1) by rw [List.drop_eq_getElem_cons hlt]; rfl); have HU := Lib.hid hU; clear hU; generalize t[k] = x at *; have HC := Lib.hid (fun w => sFA (w0 := w) x); have hlt' : (k : Int) < (t.length : Int) := by omega
     go_wp2_with fail;refine(HC.out _).mono ?_;rintro e w1 ⟨l,hl,q,c',rfl,hlc,hrl,hU1⟩;have HU1:=Lib.hid (HU.out.trans hU1);clear hU1 hlc hrl HC c0 c1 c2 c3
     cases hx:eB x
     · have HF:RowKit.Hid (fF t 0=false):=Lib.hid (by rw[HG.out,HD.out,if_pos (.inl hx)]);clear hl hx;go_wp2;go_ret;exact⟨by rw[HF.out];rfl,HU1.out⟩
     · obtain rfl := hl hx; have HX := Lib.hid hx; have hB8 := cAA hx; clear hl hx; generalize (binds x).length = N at *; have hN0 : (0 : Int) ≤ (N : Int) := by omega
       have hN8:(N:Int)≤8:=by omega
       by_cases hc:D < N
       · have hc' : (D : Int) < (N : Int) := by omega
         have HF:RowKit.Hid (fF t 0=false):=Lib.hid (by rw[HG.out,HD.out,if_pos (.inr hc)]);clear hc;go_wp2;go_ret;exact⟨by rw[HF.out];rfl,HU1.out⟩
       · have hc' : (N : Int) ≤ (D : Int) := by omega
         have HF:RowKit.Hid (fF t 0=fF (t.drop (k+1)) (D - N+1)):=Lib.hid (by rw[HG.out,HD.out,if_neg (by rw[HX.out];simp;omega)]);clear hc;go_wp2;go_roundw
         case rel=>exact⟨k+1,D - N+1,by omega,by omega,by go_num,by go_num,HF.out,HU1.out⟩
         case measure=>simp[intOf];omega
   · obtain rfl : k = t.length := by omega
     have HF:RowKit.Hid (fF t 0=(D==1)):=Lib.hid (by rw[HG.out,List.drop_length];rfl);have HU:=Lib.hid hU;clear hU;by_cases h1:D=1
     · subst h1;have HF:RowKit.Hid (fF t 0=true):=Lib.hid (by rw[HF.out];rfl);go_wp2;go_ret;exact⟨by rw[HF.out];rfl,HU.out⟩
     · have h1' : ((D : Int) == 1) = false := by simp; omega
       have HF:RowKit.Hid (fF t 0=false):=Lib.hid (by rw[HF.out];simpa using h1);clear h1;go_wp2;go_ret;exact⟨by rw[HF.out];rfl,HU.out⟩
end
def zO(l:List Nat):Nat:=l.foldr max 0
theorem g3A{l:List Nat}{b:Nat}(h:∀ a∈l,a≤b):zO l≤b:=by
 induction l with
 | nil=>exact Nat.zero_le _
 | cons a l ih =>
   have:=ih fun x hx=>h x (List.mem_cons_of_mem _ hx)
   have:=h a (List.mem_cons_self ..)
   show max a (zO l)≤b
   omega
def eH : List Nd → List Nat → Bool
  | [],_=>false
  | x::t,st=>if 60 < zO (st.drop (st.length - (binds x).length))+1 then true else eH t (st.take (st.length - (binds x).length)++[zO (st.drop (st.length - (binds x).length))+1])
structure DpRel (w0:World) (t:List Nd) (st:List Nat) (k g c:Nat) (wr:World):Prop where
 len:st.length≤k
 low:∀ a∈st,a≤60
 whole:fF (t.drop k) st.length=true
 deep:eH t []=eH (t.drop k) st
 own:wr.ownsRow w0.heap.size 3 1 (.slice (some ⟨g,0,none⟩) st.length c) st.length (kL st)
 under:Under w0 wr
def DpR(w0:World)(t:List Nd)(l i:Value)(wr:World):Prop:=∃(k:Nat) (st:List Nat) (g c:Nat),k≤t.length∧l = .slice (some ⟨g,0,none⟩) st.length c∧i = .int .i64 (k:Int)∧DpRel w0 t st k g c wr
def DiR(W:World)(st:List Nat)(g c N:Nat)(l n i:Value)(wr:World):Prop:=W=wr∧∃ j M:Nat,j≤N∧j+M=st.length∧l = .slice (some ⟨g,0,none⟩) M c∧n = .int .i64 (zO (st.drop M):Nat)∧i = .int .i64 (j:Int)
theorem q0A{l:List Nat}{k n:Nat}(h:l[k]? = some n):(kL l)[k]? = some (.int .i64 (n:Int)):=by
 unfold kL;rw[List.getElem?_map,h];rfl
section
variable {w0 : World}
theorem zQA(t:List Nd){v:Value}(hn:t.length≤1000000)(hv:TermV w0 v t)(hw:fF t 0=true):Calls Tryz.prog 72 #[v] w0 fun e w=>e = .returned (.bool (eH t []))∧Under w0 w:=by
 obtain⟨p,c,rfl,_,_,hr⟩:=hv;obtain⟨i0,hi,hz0,hz1,hz2⟩:=info_parts Tryz.infoInt;have HR:=Lib.hid hr;have HN:=Lib.hid hn;have HW:=Lib.hid hw;have hn':(t.length:Int)≤1000000:=by omega
 have hn0:(0:Int)≤(t.length:Int):=by omega
 clear hr hn hw;go_enter Tryz.func72,Tryz.ntmps72;go_wp2;go_loopw [3,4] (fun l i wr=>DpR w0 t l i wr) (fun _ i _=>t.length - (intOf i).toNat)
 case atStart=>exact⟨0,[],w0.heap.size,0,Nat.zero_le _,rfl,rfl,⟨Nat.le_refl _,by simp,HW.out,by simp,bR w0 _ _ _ (Nat.le_refl _),aA (Under.refl _) _⟩⟩
 case round =>
   obtain⟨k,st,g,c2,hk,rfl,rfl,hD⟩:=hrel;have hL:=hD.len;have HD:=Lib.hid hD;clear hD;have hk0:(0:Int)≤(k:Int):=by omega
   have hL0:(0:Int)≤(st.length:Int):=by omega
   have hLk:(st.length:Int)≤(k:Int):=by omega
   by_cases hlt:k < t.length
   · obtain ⟨b1, off1, rfl, hb1, c0, c1, c2', c3⟩ := RowArg.node HR.out (List.getElem?_eq_getElem hlt); rw [← jA HD.out.under hb1] at c0 c1 c2' c3; have hb1' := Nat.lt_of_lt_of_le hb1 HD.out.under.size; have hlt' : (k : Int) < (t.length : Int) := by omega
     have HX:=Lib.hid (show fF (t[k]::t.drop (k+1)) st.length=true by rw[← List.drop_eq_getElem_cons hlt];exact HD.out.whole);have HG:=Lib.hid (show eH t []=eH (t[k]::t.drop (k+1)) st by rw[← List.drop_eq_getElem_cons hlt];exact HD.out.deep);generalize t[k]=x at *;have HC:=Lib.hid (fun w=>sFA (w0:=w) x);have hx:eB x=true∧(binds x).length≤st.length∧fF (t.drop (k+1)) (st.length - (binds x).length+1)=true:=by
      have:=HX.out;unfold fF at this
      split at this
      · cases this
      · rename_i h;exact⟨by cases hh:eB x;exact(h (.inl hh)).elim;rfl,by omega,this⟩
     obtain⟨hx1,hx2,hx3⟩:=hx;have HX1:=Lib.hid hx1;have HX3:=Lib.hid hx3;have hB8:=cAA hx1;clear hx1 hx3 HX;go_wp2_with fail;refine(HC.out _).mono ?_;rintro e w1 ⟨l,hl,q,c',rfl,hlc,hrl,hU1⟩;obtain rfl:=hl HX1.out;have HU1:=Lib.hid hU1;clear hU1 hlc hrl HC c0 c1 c2' c3 hl;have HO:=Lib.hid (yB HD.out.own HU1.out);have hG:eH t []=if 60 < zO (st.drop (st.length - (binds x).length))+1 then true else eH (t.drop (k+1)) (st.take (st.length - (binds x).length)++[zO (st.drop (st.length - (binds x).length))+1]):=by rw[HG.out];rfl
     have HG:=Lib.hid hG;clear hG;generalize (binds x).length=N at *;have hN0:(0:Int)≤(N:Int):=by omega
     have hN8:(N:Int)≤8:=by omega
     obtain⟨_,_,hge,_,hgb,hgl,hgc,hcm⟩:∃ g' cap,(Value.slice (some ⟨g,0,none⟩) st.length c2 = .slice (some ⟨g',0,none⟩) st.length cap)∧w0.heap.size≤g∧w0.heap.size≤g∧g < w1.heap.size∧st.length≤c2∧c2≤maxLen:=by
      rcases HO.out.2 with⟨h0,_⟩ | ⟨g',cap,cur,h0,hb,hg,h1,h2,_⟩
      · cases h0
      · cases h0;exact⟨_,_,rfl,hb,hb,(Array.getElem?_eq_some_iff.1 hg).1,h1,h2⟩
     clear hge;have hgc':(st.length:Int)≤(c2:Int):=by omega
     go_wp2;go_loopw [3,7,8] (fun l n i wr=>DiR w1 st g c2 N l n i wr) (fun _ _ i _=>N - (intOf i).toNat)
     case atStart=>exact⟨rfl,0,st.length,Nat.zero_le _,by omega,rfl,by rw[List.drop_length];rfl,rfl⟩
     case round =>
       obtain⟨rfl,j,M,hj,hjM,rfl,rfl,rfl⟩:=hrel;have hj0:(0:Int)≤(j:Int):=by omega
       have hM0:(0:Int)≤(M:Int):=by omega
       have HMX:=Lib.hid (g3A (l:=st.drop M) (b:=60) fun a ha=>HD.out.low a (List.mem_of_mem_drop ha));by_cases hjN:j < N
       · obtain ⟨M, rfl⟩ : ∃ m, M = m + 1 := ⟨M - 1, by omega⟩; have hst : M < st.length := by omega
         have HMC:=Lib.hid (show zO (st.drop M)=max st[M] (zO (st.drop (M+1))) by rw[List.drop_eq_getElem_cons hst];rfl);have hcell:=kD HO.out (g:=g) rfl (q0A (List.getElem?_eq_getElem hst));have ha60:=HD.out.low _ (List.getElem_mem hst);generalize st[M]=a at *;have hjN':(j:Int) < (N:Int):=by omega
         have hMc:(M:Int)≤(c2:Int):=by omega
         have hm60:=HMX.out;generalize zO (st.drop (M+1))=mx at *;clear HMX;have hMe:((M:Int)+1 - 1)=(M:Int):=by omega
         by_cases hma:a≤mx
         · have hma' : (a : Int) ≤ (mx : Int) := by omega
           go_wp2
           all_goals
            go_roundw
            case rel=>exact⟨rfl,j+1,M,by omega,by omega,by go_num,by rw[HMC.out];exact congrArg (Value.int .i64) (by omega),by go_num⟩
            case measure=>simp[intOf];omega
         · have hma' : (mx : Int) < (a : Int) := by omega
           go_wp2
           all_goals
            go_roundw
            case rel=>exact⟨rfl,j+1,M,by omega,by omega,by go_num,by rw[HMC.out];exact congrArg (Value.int .i64) (by omega),by go_num⟩
            case measure=>simp[intOf];omega
       · obtain rfl : j = N := by omega
         have hMe:M=st.length - j:=by omega
         have HMe:=Lib.hid hMe;rw[← hMe]at HG HX3;clear hMe;have hm60:=HMX.out;have HMv:RowKit.Hid (zO (st.drop M)=zO (st.drop M)):=Lib.hid rfl;generalize hmx:zO (st.drop M)=mx at *;clear hmx HMv HMX;have hmx0:(0:Int)≤(mx:Int):=by omega
         by_cases hd:60 < mx+1
         · have hd' : (60 : Int) < (mx : Int) + 1 := by omega
           have HF:RowKit.Hid (eH t []=true):=Lib.hid (by rw[HG.out,if_pos hd]);clear hd;go_wp2;go_ret;exact⟨by rw[HF.out];rfl,HD.out.under.trans HU1.out⟩
         · have hd' : (mx : Int) + 1 ≤ 60 := by omega
           have HF:RowKit.Hid (eH t []=eH (t.drop (k+1)) (st.take M++[mx+1])):=Lib.hid (by rw[HG.out,if_neg hd]);have HMs:=Lib.hid (show M≤st.length by omega);have hM1:M≤1000000:=by omega
           clear hd;go_wp2_with (at_builtin;refine wpList_append_lies _ rfl _ _ 105 rfl w0.heap.size 3 i0 _ 1 8 Tryz.underlying105 hi hz0 hz1 hz2 rfl (by decide) _ _ _ rfl ((gP HO.out HMs.out).alloc _) ⟨w1.heap.size,0,none⟩ 1 1 [.int .i64 ((mx+1:Nat):Int)] rfl rfl ?c1 ?c2 (by decide) (by simp only[maxLen];omega) (by omega) ?c5 (w1.heap.size+1) (by simp) ?_)
           case c1=>exact cell_one_new _ _ _
           case c2=>simp[Value.oneCell']
           case c5=>have:=(HD.out.under.trans HU1.out).size;simp;omega
           intro g3 c3 w3 hown hgrow hat hlt3;have HO3:=Lib.hid hown;have HU3:=Lib.hid (bB (aA (HD.out.under.trans HU1.out) _) hgrow fun z e=>by cases e;exact hgb);clear hown hgrow hat hlt3;go_wp2;go_roundw
           case rel =>
             have hlen:(st.take M++[mx+1]).length=M+1:=by rw[List.length_append,List.length_take,Nat.min_eq_left HMs.out];rfl
             have hcs:(kL st).take M++[Value.int .i64 ((mx:Int)+1)]=kL (st.take M++[mx+1]):=by simp[kL,List.map_take]
             refine⟨k+1,st.take M++[mx+1],g3,c3,by omega,by rw[hlen],by go_num,⟨by rw[hlen];omega,?_,by rw[hlen];exact HX3.out,HF.out,by rw[hlen,← hcs];exact HO3.out,HU3.out⟩⟩;intro a ha;rcases List.mem_append.1 ha with ha | ha
             · exact HD.out.low a (List.mem_of_mem_take ha)
             · rw[List.mem_singleton.1 ha];omega
           case measure=>simp[intOf];omega
   · obtain rfl : k = t.length := by omega
     have HF:RowKit.Hid (eH t []=false):=Lib.hid (by rw[HD.out.deep,List.drop_length];rfl);go_wp2;go_ret;exact⟨by rw[HF.out];rfl,HD.out.under⟩
end
theorem wAA : ∀ (l : List Tm) (d : Nat), 1 ≤ d → dX d l = max d (zO (l.map gG) + 1)
  | [],d,h=>by show d=max d (0+1);omega
  | a :: l, d, h => by
    show dX (max d (gG a+1)) l=max d (max (gG a) (zO (l.map gG))+1)
    rw[wAA l _ (by omega)];omega
theorem hPA(x:Nd)(l:List Tm):gG (.mk x l)=zO (l.map gG)+1:=by
 show dX 1 l=_
 rw[wAA l 1 (Nat.le_refl _)];omega
theorem bLA:∀(T:Tm),okT T→∀(rest:List Nd) (st:List Nat),eH (flat T++rest) st=if 60 < gG T then true else eH rest (st++[gG T]):=by
 intro T
 induction T using Tm.rec (motive_2:=fun l=>j4 l→∀(rest:List Nd) (st:List Nat),eH (wD l++rest) st=if 60 < zO (l.map gG) then true else eH rest (st++l.map gG)) with
 | mk x l ih =>
   rintro⟨hx,hl,hls⟩ rest st;rw[flat,List.append_assoc,ih hls,hPA]
   show(if 60 < zO (l.map gG) then true else eH (x::rest) (st++l.map gG))=_
   have hk:(st++l.map gG).length - (binds x).length=st.length:=by rw[List.length_append,List.length_map];omega
   unfold eH;rw[hk,List.drop_left,List.take_left];by_cases h:60 < zO (l.map gG)
   · rw[if_pos h,if_pos (by omega)]
   · rw [if_neg h]
     cases rest<;>rfl
 | nil=>rename_i hh rest st;simp[wD,zO]
 | cons a l iha ihl =>
   rename_i hh rest st;obtain⟨ha,hl⟩:=hh;rw[wD,List.append_assoc,iha ha,ihl hl]
   show _=if 60 < max (gG a) (zO (l.map gG)) then true else eH rest (st++gG a::l.map gG)
   rw[List.append_assoc];by_cases h:60 < gG a
   · rw[if_pos h,if_pos (by omega)]
   · rw [if_neg h]; by_cases h2 : 60 < zO (l.map gG)
     · rw[if_pos h2,if_pos (by omega)]
     · rw[if_neg h2,if_neg (by omega)];rfl
theorem hEA : ∀ (t : List Nd) (i : Nat) (all op : List (Nat × Nat)), fF t op.length = match nD t i all op with | none => false | some r => r.2.length == 1
  | [],i,all,op=>rfl
  | x :: t, i, all, op => by
    unfold fF nD;by_cases h:eB x=false∨op.length < (binds x).length
    · rw[if_pos h,if_pos h]
    · rw [if_neg h, if_neg h]; simp only; rw [← hEA t (i + 1)]; congr 1
      rw[List.length_append,List.length_take,Nat.min_eq_left (Nat.sub_le _ _)];rfl
theorem hYA(t:List Nd):qE t=if 4000 < t.length then 21 else if fF t 0=false then 20 else if eH t [] then 22 else 0:=by
 unfold qE
 split
 · rfl
 have hw:=hEA t 0 [] [];rw[List.length_nil]at hw;rw[hw]
 cases hm:nD t 0 [] [] with
 | none=>rfl
 | some r =>
   obtain⟨all,op⟩:=r;simp only;by_cases h1:op.length=1
   · have e1 : ¬ (op.length ≠ 1) := by simpa using h1
     have e2:¬((op.length==1)=false):=by simp[h1]
     rw[if_neg e1,if_neg e2];clear e1 e2;obtain⟨Gs,g1,g2,g3⟩:=mV t [] [] (by simp[j4]) hm;simp only at g3;rw[g3,dQ]at h1
     match Gs,h1 with
     | [T], _ =>
       simp only[wD,List.nil_append,List.append_nil]at g2;obtain⟨a',q1,q2,q3⟩:=yLA T g1.1 [] [];rw[g2]at q1;rw[show nD t (wD []).length [] (pF 0 [])=nD t 0 [] [] from rfl,hm]at q1;simp only[Option.some.injEq,Prod.mk.injEq]at q1;have hl:a'.getLastD (0,0)=((wD []).length,gG T):=by rw[List.getLastD_eq_getLast?,q3];rfl
       rw[q1.1,List.nil_append,hl];have hd:=bLA T g1.1 [] [];rw[List.append_nil,g2]at hd;rw[hd];by_cases h:60 < gG T
       · rw[if_pos h,if_pos h];rfl
       · rw[if_neg h,if_neg h];rfl
   · rw[if_pos (by simpa using h1),if_pos (by simpa using h1)]
section
variable {w0 : World}
theorem yPA(t:List Nd){v:Value}(hn:t.length≤maxLen)(hv:TermV w0 v t):Calls Tryz.prog 33 #[v] w0 fun e w=>e = .returned (.int .i64 (qE t))∧Under w0 w:=by
 have HV:=Lib.hid hv;obtain⟨p,c,rfl,_,_,_⟩:=hv;have HE:=Lib.hid (hYA t);by_cases h:4000 < t.length
 · have h' : (4000 : Int) < (t.length : Int) := by omega
   have HE:=Lib.hid (HE.out.trans (if_pos h));clear h;go_enter Tryz.func33,Tryz.ntmps33;go_wp2;go_ret;exact⟨dL HE.out.symm,Under.refl _⟩
 · have h' : (t.length : Int) ≤ 4000 := by omega
   have HE:=Lib.hid (HE.out.trans (if_neg h));have HW:=Lib.hid (aUA t (by omega) HV.out)
   cases hw:fF t 0
   · have HE:=Lib.hid (HE.out.trans (if_pos hw));rw[hw]at HW;clear h hw;go_enter Tryz.func33,Tryz.ntmps33;go_wp2_with fail;refine HW.out.mono ?_;rintro e w1 ⟨rfl,hU1⟩;have HU1:=Lib.hid hU1;clear hU1;go_wp2;go_ret;exact⟨dL HE.out.symm,HU1.out⟩
   · have HE := Lib.hid (HE.out.trans (if_neg (by rw [hw]; decide))); have HD := Lib.hid (fun w1 (hU : Under w0 w1) => zQA (w0 := w1) t (by omega) (TermV.mono _ _ _ _ hU HV.out) hw); rw [hw] at HW; clear h hw
     cases hd:eH t []
     all_goals
      rw[hd]at HD HE;clear hd;go_enter Tryz.func33,Tryz.ntmps33;go_wp2_with fail;refine HW.out.mono ?_;rintro e w1 ⟨rfl,hU1⟩;have HU1:=Lib.hid hU1;clear hU1;go_wp2_with fail;refine(HD.out _ HU1.out).mono ?_;rintro e w2 ⟨rfl,hU2⟩;have HU2:=Lib.hid (HU1.out.trans hU2);clear hU2;go_wp2;go_ret;exact⟨dL HE.out.symm,HU2.out⟩
end
def pV(s:ByteArray):Int×Int×List UInt8×Bool:=if s.toList==[84,121,112,101] then(2,0,[110],true) else if s.toList==[112,105] then(3,0,[46,118,46],true) else if s.toList==[112,105,49] then(3,1,[46,118,46],true) else if s.toList==[112,105,50] then(3,2,[46,118,46],true) else if s.toList==[112,105,51] then(3,3,[46,118,46],true) else if s.toList==[115,105,103] then(6,0,[46,118,46],true) else if s.toList==[115,105,103,49] then(6,1,[46,118,46],true) else if s.toList==[115,105,103,50] then(6,2,[46,118,46],true) else if s.toList==[115,105,103,51] then(6,3,[46,118,46],true) else if s.toList==[108,97,109] then(4,0,[46,118,46],true) else if s.toList==[97,112,112] then(5,0,[46,46],true) else if s.toList==[112,97,105,114] then(7,0,[46,46,46],true) else if s.toList==[102,115,116] then(8,0,[46],true) else if s.toList==[115,110,100] then(9,0,[46],true) else if s.toList==[115,117,99] then(12,0,[46],true) else if s.toList==[112,114,102] then(28,0,[46],true) else if s.toList==[114,101,99] then(13,0,[118,46,46,86,46,46],true) else if s.toList==[97,98,111,114,116] then(15,0,[46,46],true) else if s.toList==[101,113] then(18,0,[46,46,46],true) else if s.toList==[114,101,102,108] then(19,0,[46,46],true) else if s.toList==[99,97,115,116] then(20,0,[46,46,46,46],true) else if s.toList==[116,114,97,110,115,112] then(21,0,[46,46,118,46,46,46,46],true) else if s.toList==[113,117,111,116] then(22,0,[46,86,46,46,46,46],true) else if s.toList==[99,108,97,115,115] then(23,0,[46,46],true) else if s.toList==[113,101,108,105,109] then(24,0,[46,118,46,46,46],true) else if s.toList==[100,97,116,97] then(25,0,[100],true) else if s.toList==[99,111,110] then(26,0,[100,110,42],true) else if s.toList==[101,108,105,109] then(27,0,[100,118,46,42,46],true) else(0,0,[],false)
def kT(s:ByteArray):Int×Bool:=if s.toList==[80,114,111,112] then(2,true) else if s.toList==[78,97,116] then(10,true) else if s.toList==[122,101,114,111] then(11,true) else if s.toList==[69,109,112,116,121] then(14,true) else if s.toList==[85,110,105,116] then(16,true) else if s.toList==[115,116,97,114] then(17,true) else if s.toList==[116,105,99,107] then(29,true) else(0,false)
theorem toList_data(s:ByteArray)(x:List UInt8):(s.toList==x)=decide (s.data.toList=x):=by
 rw[ByteArray.toList_eq,Bool.eq_iff_iff];simp
theorem eY(s:ByteArray):kT s=((qM s).getD 0,(qM s).isSome):=by
 unfold kT qM leafT;simp only[kLA,toList_data,decide_eq_true_eq]
 repeat' split
 all_goals first | rfl | (simp_all;done)
theorem fEA(s:ByteArray):pV s=match uM s with | some (k,n,p)=>(k,n,qN p,true) | none=>(0,0,[],false):=by
 unfold pV uM;simp only[toList_data,decide_eq_true_eq];generalize s.data.toList=w;by_cases h0:w=[84,121,112,101]
 · subst h0;rfl
 by_cases h1:w=[112,105]
 · subst h1;rfl
 by_cases h2:w=[112,105,49]
 · subst h2;rfl
 by_cases h3:w=[112,105,50]
 · subst h3;rfl
 by_cases h4:w=[112,105,51]
 · subst h4;rfl
 by_cases h5:w=[115,105,103]
 · subst h5;rfl
 by_cases h6:w=[115,105,103,49]
 · subst h6;rfl
 by_cases h7:w=[115,105,103,50]
 · subst h7;rfl
 by_cases h8:w=[115,105,103,51]
 · subst h8;rfl
 by_cases h9:w=[108,97,109]
 · subst h9;rfl
 by_cases h10:w=[97,112,112]
 · subst h10;rfl
 by_cases h11:w=[112,97,105,114]
 · subst h11;rfl
 by_cases h12:w=[102,115,116]
 · subst h12;rfl
 by_cases h13:w=[115,110,100]
 · subst h13;rfl
 by_cases h14:w=[115,117,99]
 · subst h14;rfl
 by_cases h15:w=[112,114,102]
 · subst h15;rfl
 by_cases h16:w=[114,101,99]
 · subst h16;rfl
 by_cases h17:w=[97,98,111,114,116]
 · subst h17;rfl
 by_cases h18:w=[101,113]
 · subst h18;rfl
 by_cases h19:w=[114,101,102,108]
 · subst h19;rfl
 by_cases h20:w=[99,97,115,116]
 · subst h20;rfl
 by_cases h21:w=[116,114,97,110,115,112]
 · subst h21;rfl
 by_cases h22:w=[113,117,111,116]
 · subst h22;rfl
 by_cases h23:w=[99,108,97,115,115]
 · subst h23;rfl
 by_cases h24:w=[113,101,108,105,109]
 · subst h24;rfl
 by_cases h25:w=[100,97,116,97]
 · subst h25;rfl
 by_cases h26:w=[99,111,110]
 · subst h26;rfl
 by_cases h27:w=[101,108,105,109]
 · subst h27;rfl
 · simp[kY,formT, *]
section
variable {w0 : World}
theorem mHA(s:ByteArray):Calls Tryz.prog 36 #[.string s] w0 fun e w=>e = .returned (.tuple #[.agg #[.int .i64 (pV s).1,.int .i64 (pV s).2.1,.string ⟨(pV s).2.2.1.toArray⟩],.bool (pV s).2.2.2])∧Under w0 w:=by
 have HO:RowKit.Hid (pV s=if s.toList==[84,121,112,101] then(2,0,[110],true) else if s.toList==[112,105] then(3,0,[46,118,46],true) else if s.toList==[112,105,49] then(3,1,[46,118,46],true) else if s.toList==[112,105,50] then(3,2,[46,118,46],true) else if s.toList==[112,105,51] then(3,3,[46,118,46],true) else if s.toList==[115,105,103] then(6,0,[46,118,46],true) else if s.toList==[115,105,103,49] then(6,1,[46,118,46],true) else if s.toList==[115,105,103,50] then(6,2,[46,118,46],true) else if s.toList==[115,105,103,51] then(6,3,[46,118,46],true) else if s.toList==[108,97,109] then(4,0,[46,118,46],true) else if s.toList==[97,112,112] then(5,0,[46,46],true) else if s.toList==[112,97,105,114] then(7,0,[46,46,46],true) else if s.toList==[102,115,116] then(8,0,[46],true) else if s.toList==[115,110,100] then(9,0,[46],true) else if s.toList==[115,117,99] then(12,0,[46],true) else if s.toList==[112,114,102] then(28,0,[46],true) else if s.toList==[114,101,99] then(13,0,[118,46,46,86,46,46],true) else if s.toList==[97,98,111,114,116] then(15,0,[46,46],true) else if s.toList==[101,113] then(18,0,[46,46,46],true) else if s.toList==[114,101,102,108] then(19,0,[46,46],true) else if s.toList==[99,97,115,116] then(20,0,[46,46,46,46],true) else if s.toList==[116,114,97,110,115,112] then(21,0,[46,46,118,46,46,46,46],true) else if s.toList==[113,117,111,116] then(22,0,[46,86,46,46,46,46],true) else if s.toList==[99,108,97,115,115] then(23,0,[46,46],true) else if s.toList==[113,101,108,105,109] then(24,0,[46,118,46,46,46],true) else if s.toList==[100,97,116,97] then(25,0,[100],true) else if s.toList==[99,111,110] then(26,0,[100,110,42],true) else if s.toList==[101,108,105,109] then(27,0,[100,118,46,42,46],true) else(0,0,[],false)):=Lib.hid rfl;generalize pV s=r at *;go_enter Tryz.func36,Tryz.ntmps36;go_wp2
 all_goals
  refine bodyPost_ret ((results_cell_tmp rfl _ _ _).trans (by simp[go_sem];first | exact⟨rfl,rfl⟩ | rfl | exact⟨⟨rfl,rfl⟩,rfl⟩)) rfl ⟨by rw[HO.out];simp[*],?_⟩
  first | exact aA (Under.refl _) _ | skip
theorem sU(s:ByteArray):Calls Tryz.prog 37 #[.string s] w0 fun e w=>e = .returned (.tuple #[.agg #[.int .i64 (kT s).1,.int .i64 0,.int .i64 0,.string ⟨#[]⟩],.bool (kT s).2])∧Under w0 w:=by
 have HO:RowKit.Hid (kT s=if s.toList==[80,114,111,112] then(2,true) else if s.toList==[78,97,116] then(10,true) else if s.toList==[122,101,114,111] then(11,true) else if s.toList==[69,109,112,116,121] then(14,true) else if s.toList==[85,110,105,116] then(16,true) else if s.toList==[115,116,97,114] then(17,true) else if s.toList==[116,105,99,107] then(29,true) else(0,false)):=Lib.hid rfl;generalize kT s=r at *;go_enter Tryz.func37,Tryz.ntmps37;go_wp2
 all_goals
  refine bodyPost_ret ((results_cell_tmp rfl _ _ _).trans (by simp[go_sem];first | exact⟨rfl,rfl⟩ | rfl | exact⟨⟨rfl,rfl⟩,rfl⟩)) rfl ⟨by rw[HO.out];simp[*],?_⟩
  first | exact aA (Under.refl _) _ | skip
end
end Go.Proofs.YtlnlpdephijcoaaGreatDoor
