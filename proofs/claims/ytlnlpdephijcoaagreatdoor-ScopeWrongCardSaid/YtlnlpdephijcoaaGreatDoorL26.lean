/- Part 26 of what the proof rests on. -/
import Derived.Lib.SliceRun
import Derived.Laws.AppendOwnNone
import Derived.Scope
import Derived.WalkMore
import Derived.Test.YtlnlpdephijcoaaGreatDoorL01
import Derived.Test.YtlnlpdephijcoaaGreatDoorL02
import Derived.Test.YtlnlpdephijcoaaGreatDoorL14
import Derived.Test.YtlnlpdephijcoaaGreatDoorL16
import Derived.Test.YtlnlpdephijcoaaGreatDoorL24
import Derived.Test.YtlnlpdephijcoaaGreatDoorL25
set_option linter.unusedSimpArgs false
set_option linter.unusedVariables false
set_option maxRecDepth 100000
set_option maxHeartbeats 4000000
namespace Go.Proofs.YtlnlpdephijcoaaGreatDoor
open Go.Conc Go.Lx Go.RowKit
section
variable {w0 : World} {b off n cap k : Nat}
theorem eWA(row:List Sx)(st:List Nat)(n:Nat){k:Nat}(hk:k < st.length){a c:Nat}(ha:(st++[n])[k]? = some a)(hc:(st++[n])[k+1]? = some c):(pieces row st n)[k]? = some (piece row a c):=by
 unfold pieces;rw[List.getElem?_map,List.getElem?_range hk];simp only[Option.map_some,List.getD_eq_getElem?_getD,ha,hc,Option.getD_some]
theorem a7A{st:List Nat}{n:Nat}(h:Inc st n){k a c:Nat}(ha:(st++[n])[k]? = some a)(hc:(st++[n])[k+1]? = some c):a < c∧c≤n:=by
 unfold Inc at h;obtain⟨h1,e1⟩:=List.getElem?_eq_some_iff.1 ha;obtain⟨h2,e2⟩:=List.getElem?_eq_some_iff.1 hc;refine⟨by rw[← e1,← e2];exact List.pairwise_iff_getElem.1 h k (k+1) h1 h2 (by omega),?_⟩;have hl:(st++[n]).length=st.length+1:=by simp
 by_cases hk:k+1=st.length
 · rw [← e2]; have : (st ++ [n])[k + 1] = n := by simp [hk]
   omega
 · have := List.pairwise_iff_getElem.1 h (k + 1) st.length h2 (by omega) (by omega); have e3 : (st ++ [n])[st.length]'(by omega) = n := by simp
   rw[e3]at this;omega
def II(w0:World)(l va:Value)(row:List Sx)(st:List Nat)(m:Nat)(a:Act)(w:World):Prop :=
 ∃ k,m+k=st.length∧nZA w0 l va st.length k (st++[row.length]) ((pieces row st row.length).take k) a w
def mAB(w0:World)(l va:Value)(row:List Sx)(st:List Nat)(e:Exit)(a:Act)(w:World):Prop :=
 e = .exit 0∧nZA w0 l va st.length st.length (st++[row.length]) (pieces row st row.length) a w
theorem sVA (row : List Sx) (st : List Nat) {p : Option Addr} {va : Value} (hn : row.length ≤ 1000000) (hcap : row.length ≤ cap) (hp : SxArg w0 p row) (hst : st.length ≤ row.length) (hinc : Inc st row.length) (m : Nat) (a : Act) (w : World)
    (h0:II w0 (.slice p row.length cap) va row st m a w) :
    (Code.loop itRound).wp Tryz.prog (mAB w0 (.slice p row.length cap) va row st) a w:=by
  refine wp_loop_ghost _ m h0 ?_;clear h0;rintro m a w ⟨k,hmk,vo,J,rfl,hi⟩;by_cases hkn:k=st.length
  · subst hkn; refine wp_mono (r4A J w) ?_; rintro e a' w' h
    cases e with
    | normal=>exact h.elim
    | _ =>
      obtain⟨h1,J',rfl,rfl⟩:=h;rw[List.take_of_length_le (by rw[rW];exact Nat.le_refl _)]at hi;exact⟨h1,vo,J',rfl,hi⟩
  have hlt:k < st.length:=by omega
  obtain⟨b,off,rfl,hb0,ht⟩:=hp (fun e=>by rw[e,List.length_nil]at hst;omega);have hbl:(st++[row.length]).length=st.length+1:=by simp
  obtain⟨x,hx⟩:∃ x,(st++[row.length])[k]? = some x:=⟨_,List.getElem?_eq_getElem (by omega)⟩;obtain⟨y,hy⟩:∃ y,(st++[row.length])[k+1]? = some y:=⟨_,List.getElem?_eq_getElem (by omega)⟩;obtain⟨h1,h2⟩:=a7A hinc hx hy;have:=p7A (cap:=cap) (w0:=w0) (row:=row) (va:=va) (vo:=vo) (ls:=(pieces row st row.length).take k) (by omega) (by omega) hx hy h1 h2 hn hcap (by rw[List.length_take,rW];omega) J w hi hb0 ht;rw[hbl,Nat.add_sub_cancel]at this;refine wp_mono this ?_;rintro e a' w' h
  cases e with
  | normal =>
    refine⟨m - 1,by omega,k+1,by omega,?_⟩;have hpl:k < (pieces row st row.length).length:=by rw[rW];exact hlt
    have hpk:=eWA row st row.length hlt hx hy;rw[List.getElem?_eq_getElem hpl]at hpk;rw[List.take_succ_eq_append_getElem hpl,Option.some.inj hpk];exact h
  | _=>exact h.elim
def rRA(w0:World)(R:Option (List (List Sx)))(e:Ending)(w':World):Prop :=
 Under w0 w'∧match R with
  | some ls=>∃ vo vs,e = .returned (.tuple #[vo,.bool true])∧w'.ownsRow w0.heap.size 25 1 vo ls.length vs∧SxOwns w' w0.heap.size vs ls
  | none=>e = .returned (.tuple #[.slice none 0 0,.bool false])
theorem eQA:∀(l:List Sx) (i:Nat) (st s:List Nat),fC l i st=some s→s.length≤st.length+l.length:=by
 intro l
 induction l with
 | nil=>intro i st s h;cases h;simp
 | cons x l ih =>
   intro i st s h;simp only[fC]at h
   split at h
   · have := ih _ _ _ h; have e : (qI x i st).length ≤ st.length + 1 := by unfold qI; simp
     simp only[List.length_cons];omega
   · cases h
theorem y8(row:List Sx){p:Option Addr}(hn:row.length≤1000000)(hcap:row.length≤cap)(hp:SxArg w0 p row) :
 Calls Tryz.prog 26 #[.slice p row.length cap] w0 (rRA w0 (gF row)):=by
 have C1:=Lib.hid (bX (w0:=w0) (cap:=cap) row hn hp);have HL:=Lib.hid (fun st va hst hinc m a w h=>sVA (w0:=w0) (cap:=cap) (va:=va) row st hn hcap hp hst hinc m a w h);have HI:=Lib.hid (fun st h=>z5A row 0 [] st (b1A 0) h);have HN:=Lib.hid (fun st h=>eQA row 0 [] st h);unfold gF;generalize fC row 0 []=R at *;clear hp;go_enter Tryz.func26,Tryz.ntmps26;go_wp2_with fail;refine C1.out.mono ?_;rintro e w1 ⟨hU1,hR1⟩
 cases R with
 | none =>
   subst hR1;have HU1:=Lib.hid hU1;clear hU1;go_wp2;go_ret2;exact⟨HU1.out,rfl⟩
 | some st =>
   obtain⟨va,rfl,hown⟩:=hR1;have hst:=HN.out st rfl;simp only[List.length_nil,Nat.zero_add]at hst;have hinc:=HI.out st rfl;rw[Nat.zero_add]at hinc;obtain⟨g,gc,rfl,hg,hgb,hgl,_,_⟩:=fD hown (by omega);have HL2:=Lib.hid (HL.out st (.slice (some ⟨g,0,none⟩) (st.length+1) gc) hst hinc);have HO:=Lib.hid hown;have HU1:=Lib.hid hU1;clear hU1 hown hinc HL HI HN C1;go_wp2;rename_i K hK;refine wp_mono (HL2.out st.length _ _ ⟨0,rfl,.slice none 0 0,_,fB (F:=bM _ _ _ 0 _) (by rfl),⟨by simpa using HO.out,⟨[],wJA _ _ _ _,trivial⟩,HU1.out⟩⟩) ?_;rintro e a' w' ⟨rfl,vo,J,rfl,hi⟩;simp only[Exit.inBlock,if_pos,Exit.then];refine hK _ _ ?_;have HH:=Lib.hid hi;clear hi;unfold bM;go_wp2;go_ret2;obtain⟨vs,h1,h2⟩:=HH.out.out;exact⟨HH.out.low,vo,vs,rfl,h1,h2⟩
def RowsArg(w:World)(p:Option Addr)(ls:List (List Sx)):Prop:=ls≠[]→∃ b off,p=some ⟨b,off,none⟩∧b < w.heap.size∧∀ i l,ls[i]? = some l→∃ q c,w.cell? ⟨b,off+i,none⟩=some (.slice q l.length c)∧l.length≤c∧SxArg w q l
theorem RowsArg.under{a b:World}{p:Option Addr}{l:List (List Sx)}(h:RowsArg a p l)(hU:Under a b):RowsArg b p l:=by
 intro hne;obtain⟨bl,off,rfl,hb,ht⟩:=h hne;refine⟨bl,off,rfl,Nat.lt_of_lt_of_le hb hU.size,fun k t hk=>?_⟩;obtain⟨q,c,h1,h2,h3⟩:=ht k t hk;exact⟨q,c,by rw[jA hU hb];exact h1,h2,h3.under hU⟩
theorem aZ{w:World}{base:Nat}{e:TypeId}{l:Value}{row:List Sx}(h:w.ownsRow base e 3 l row.length (nC row)):∃ p cap,l = .slice p row.length cap∧row.length≤cap∧SxArg w p row:=by
 obtain⟨p,cap,rfl,h1⟩:=k7A h;refine⟨p,cap,rfl,?_,h1⟩;rcases h.2 with⟨e,h0⟩ | ⟨g,c,cur,e,_,_,h2,_⟩
 · rw[h0];exact Nat.zero_le _
 · cases e;exact h2
end
section
variable {w0 : World} {b off n cap k : Nat}
theorem qPA(init:List Sx)(x:Sx)(hn:init.length+1≤1000000)(hcap:init.length+1≤cap)(hb0:b < w0.heap.size)(ht:xFA w0 b off (init++[x])) :
 Calls Tryz.prog 56 #[.slice (some ⟨b,off,none⟩) (init.length+1) cap] w0 (rRA w0 (kN (init++[x]))):=by
 have hl:(init++[x]).length=init.length+1:=by simp
 have C1:=bX (w0:=w0) (cap:=cap) (p:=some ⟨b,off,none⟩) (init++[x]) (by omega) (fun _=>⟨b,off,rfl,hb0,ht⟩);rw[hl]at C1;have C1:=Lib.hid C1;have C2:=Lib.hid (fun w1 (hU1:Under w0 w1)=>y8 (w0:=w1) (cap:=cap) (p:=some ⟨b,off,none⟩) init (by omega) (by omega) (SxArg.under (a:=w0) (fun _=>⟨b,off,rfl,hb0,fun k y hk=>ht k y (by rw[List.getElem?_append_left (List.getElem?_eq_some_iff.1 hk).1];exact hk)⟩) hU1));have c2:=(ht init.length x (by simp)).2.2;have N0:fC (init++[x]) 0 []=none→kN (init++[x])=none:=by
  intro h;rw[sN,h]
 have N1:∀ st,fC (init++[x]) 0 []=some st→st.length≠1→kN (init++[x])=none:=by
  intro st h hs;rw[sN,h]
  match st,hs with
  | [],_=>rfl
  | [_],h=>exact absurd rfl h
  | _::_::_,_=>rfl
 have N2:∀ st,fC (init++[x]) 0 []=some st→st.length=1→kN (init++[x])=if x.word.size=0 then gF init else none:=by
  intro st h hs;rw[sN,h]
  match st,hs with
  | [_],_=>rfl
 have N0:=Lib.hid N0;have N1:=Lib.hid N1;have N2:=Lib.hid N2;clear ht hl;generalize kN (init++[x])=PR at *;generalize fC (init++[x]) 0 []=R at *;have a1:(init.length:Int)≤cap:=by omega
 have a2:(init.length:Int) < (init.length:Int)+1:=by omega
 have a3:(0:Int)≤init.length:=by omega
 have a4:(init.length:Int)+1≤1000000:=by omega
 obtain⟨xm,xp,xw⟩:=x;simp only at c2 N2;go_enter Tryz.func56,Tryz.ntmps56;go_wp2_with fail;refine C1.out.mono ?_;rintro e w1 ⟨hU1,hR1⟩;rw[← jA hU1 hb0]at c2
 cases R with
 | none =>
   subst hR1;have HU1:=Lib.hid hU1;have N0':=Lib.hid (N0.out rfl);clear hU1 N0 N1 N2;go_wp2;go_ret2;rw[N0'.out];exact⟨HU1.out,rfl⟩
 | some st =>
   obtain⟨va,rfl,hown⟩:=hR1;obtain⟨g,gc,rfl,hg,hgb,hgl,_,_⟩:=fD hown (by omega);have HU1:=Lib.hid hU1;clear hU1 hown hg hgb hgl;by_cases hs:st.length=1
   · have N2' := Lib.hid (N2.out st rfl hs); clear N0 N1 N2 C1; rw [hs]; clear hs; by_cases hB : xw.size = 0
     · have e0 : xw = ⟨#[]⟩ := ByteArray.ext (Array.eq_empty_of_size_eq_zero hB); subst e0; clear hB; go_wp2_with fail; refine (C2.out w1 HU1.out).mono ?_; rintro e w2 ⟨hU2, hR2⟩; have hPR := N2'.out; simp only [show (⟨#[]⟩ : ByteArray).size = 0 from rfl, if_true] at hPR; subst hPR; generalize gF init = R2 at *
       cases R2 with
       | none =>
         subst hR2;have HU2:=Lib.hid hU2;clear hU2;go_wp2;go_ret2;exact⟨HU1.out.trans HU2.out,rfl⟩
       | some ls =>
         obtain⟨vo,vs,rfl,h1,h2⟩:=hR2;have HU2:=Lib.hid hU2;have H1:=Lib.hid h1;have H2:=Lib.hid h2;clear hU2 h1 h2;go_wp2;go_ret2;exact⟨HU1.out.trans HU2.out,vo,vs,rfl,kDA H1.out HU1.out.size,H2.out.map fun v n xs h=>kDA h HU1.out.size⟩
     · obtain⟨e1,e2⟩:=dK hB;have hPR:=N2'.out;rw[if_neg hB]at hPR;subst hPR;clear hB N2';go_wp2;go_ret2;exact⟨HU1.out,rfl⟩
   · have e1 : ((st.length : Int) + 1 != 2) = true := by simp; omega
     have N1':=Lib.hid (N1.out st rfl hs);clear N0 N1 N2 C1 C2 hs;go_wp2;go_ret2;rw[N1'.out];exact⟨HU1.out,rfl⟩
theorem bWA{p:Option Addr}:Calls Tryz.prog 56 #[.slice p 0 cap] w0 (rRA w0 none):=by
 have C1:=Lib.hid (bX (w0:=w0) (cap:=cap) (p:=p) [] (by simp) (fun h=>absurd rfl h));have z:(([]:List Sx).length:Nat)=0:=rfl;go_enter Tryz.func56,Tryz.ntmps56;go_wp2_with fail;refine C1.out.mono ?_;rintro e w1 ⟨hU1,va,rfl,hown⟩;obtain⟨g,gc,rfl,hg,hgb,hgl,_,_⟩:=fD hown (by simp);have HU1:=Lib.hid hU1;clear hU1 hown hg hgb hgl;go_wp2;go_ret2;exact⟨HU1.out,rfl⟩
theorem lHA(row:List Sx){p:Option Addr}(hn:row.length≤1000000)(hcap:row.length≤cap)(hp:SxArg w0 p row) :
 Calls Tryz.prog 56 #[.slice p row.length cap] w0 (rRA w0 (kN row)):=by
 by_cases hne:row=[]
 · subst hne;exact bWA
 obtain⟨init,x,rfl⟩:∃ init x,row=init++[x]:=⟨row.dropLast,row.getLast hne,(List.dropLast_concat_getLast hne).symm⟩;obtain⟨b,off,rfl,hb0,ht⟩:=hp hne;rw[List.length_append]at hn hcap ⊢;exact qPA init x hn hcap hb0 ht
end
end Go.Proofs.YtlnlpdephijcoaaGreatDoor
namespace Go.Proofs.YtlnlpdephijcoaaGreatDoor
open Go.Lx Go.RowKit
theorem Tryz.infoStrZ:(Tryz.prog.info? 9).map (fun i=>(i.zero,i.size,i.bytes))=some (some (.string ⟨#[]⟩),1,16):=by kernel_rfl
section
variable {w0 : World}
theorem hJA(n:Nat)(hn:n≤1000000):Calls Tryz.prog 80 #[.slice none 0 0,.int .i64 (n:Int)] w0 fun e w=>∃ v,e = .returned v∧w.ownsRow w0.heap.size 9 1 v 0 []∧Under w0 w:=by
 obtain⟨i0,hi,hz0,hz1,hz2⟩:=info_parts Tryz.infoStrZ;by_cases h0:n=0
 · subst h0;go_enter Tryz.func80,Tryz.ntmps80;go_wp2;go_ret;exact⟨_,rfl,World.ownsRow_nil _ _ _ _,Under.refl _⟩
 · have h1 : (0 : Int) < n := by omega
   have h2:(n:Int)≤1000000:=by omega
   have h3:n * i0.bytes≤140737488355328:=by rw[hz2];omega
   have h4:1≤n:=by omega
   clear h0;go_enter Tryz.func80,Tryz.ntmps80;go_wp2_with (at_builtin;refine uQ rfl _ _ w0.heap.size 22 3 9 rfl i0 (.string ⟨#[]⟩) Tryz.underlying22 Tryz.underlying3 hi hz0 hz1 rfl n rfl rfl h4 h3 hn (Nat.le_refl _) ?_;intro g c w1 hown hgrow);have hc:=gP hown (Nat.zero_le n);have HC:=Lib.hid hc;have HU:=Lib.hid (bB (Under.refl w0) hgrow fun g e=>by cases e);clear hown hgrow hc;go_wp2;go_ret;refine⟨_,rfl,?_,HU.out⟩;have:=HC.out;rw[Nat.zero_mul,List.take_zero]at this;exact this
theorem mGA{α:Type}(css:List (List α))(k:Nat)(h:k < css.length):(css.take (k+1)).flatten=(css.take k).flatten++css[k]:=by
 rw[List.take_succ_eq_append_getElem h,List.flatten_append];simp
theorem qIA{α:Type}(css:List (List α))(k:Nat):(css.take k).flatten.length≤css.flatten.length:=by
 have:css.flatten=(css.take k).flatten++(css.drop k).flatten:=by rw[← List.flatten_append,List.take_append_drop]
 rw[this,List.length_append];omega
def CIS(w0:World)(css:List (List ByteArray))(v i:Value)(w:World):Prop :=
 ∃ k N,k≤css.length∧i = .int .i64 (k:Nat)∧N=(css.take k).flatten.length∧w.ownsRow w0.heap.size 9 1 v N ((css.take k).flatten.map .string)∧Under w0 w
theorem dEA(css:List (List ByteArray)){v:Value}(hn:css.length≤100000)(ht:css.flatten.length≤100000)(hv:ListV TextsV w0 v css) :
 Calls Tryz.prog 43 #[v] w0 fun e w=>∃ v,e = .returned v∧w.ownsRow w0.heap.size 9 1 v css.flatten.length (css.flatten.map .string)∧Under w0 w:=by
 obtain⟨i0,hi,hz0,hz1,hz2⟩:=info_parts Tryz.infoStrZ;obtain⟨p,c,us,rfl,hc,_,hr,hz⟩:=hv;have HR:=Lib.hid hr;have HZ:=Lib.hid hz;have HT:=Lib.hid ht;clear hr hz ht;go_enter Tryz.func43,Tryz.ntmps43;go_wp2
 go_loop [3,11] (fun sz i=>∃(k:Nat) (N:Nat),k≤css.length∧i = .int .i64 k∧sz = .int .i64 N∧N=(css.take k).flatten.length) (fun _ i=>css.length - (intOf i).toNat)
 case atStart=>exact⟨0,0,Nat.zero_le _,rfl,rfl,rfl⟩
 case round =>
   obtain⟨k,f,hk,rfl,rfl,hf0⟩:=hrel;have hb1:f≤100000:=by rw[hf0];exact Nat.le_trans (qIA css k) HT.out
   have hfp:(0:Int)≤f:=Int.natCast_nonneg _;have HF0:=Lib.hid hf0;clear hf0;by_cases hlt:k < css.length
   · obtain ⟨u, hu, q, c', rfl, hc', h0', hr'⟩ := HZ.out.at (List.getElem?_eq_getElem hlt); obtain ⟨b, off, rfl, hb, hcs⟩ := HR.out (fun e => by rw [e] at hu; simp at hu); have cc := hcs k _ hu; have hb2 := Nat.le_trans (qIA css (k + 1)) HT.out; have hf := congrArg List.length (mGA css k hlt); rw [List.length_append, ← HF0.out] at hf; have hb3 : f + css[k].length ≤ 100000 := by omega
     have HF:=Lib.hid hf;clear hcs hr' hf hb2 hu;generalize css[k].length=m at *;have hm0:(0:Int)≤m:=Int.natCast_nonneg _;have hb4:(f:Int)+m≤100000:=by omega
     have hb5:¬(f:Int)+m < 0:=by omega
     go_wp2
     go_round
     case rel=>exact⟨k+1,f+m,by omega,by go_num,by go_num,by rw[HF.out]⟩
     case measure=>simp[intOf];omega
   · obtain rfl : k = css.length := by omega
     have HG:=Lib.hid (hJA (w0:=w0) f (by omega));clear hlt;go_wp2_with fail;refine HG.out.mono ?_;rintro e w1 ⟨v,rfl,hown,hU⟩;have HO:=Lib.hid hown;have HU:=Lib.hid hU;clear hown hU;go_wp2;go_loopw [6,27] (fun v i wr=>CIS w0 css v i wr) (fun _ i _=>css.length - (intOf i).toNat)
     case atStart=>exact⟨0,0,Nat.zero_le _,rfl,rfl,HO.out,HU.out⟩
     case round =>
       obtain⟨k,N,hk,rfl,hN,hown,hU⟩:=hrel;by_cases hlt:k < css.length
       · obtain ⟨u, hu, q, c', rfl, hc', h0', hr'⟩ := HZ.out.at (List.getElem?_eq_getElem hlt); obtain ⟨b, off, rfl, hb, hcs⟩ := HR.out (fun e => by rw [e] at hu; simp at hu); have cc := hcs k _ hu; rw [← jA hU hb] at cc; have hb' := Nat.lt_of_lt_of_le hb hU.size; have hf := mGA css k hlt; have hb2 := Nat.le_trans (qIA css (k + 1)) HT.out; rw [hf, List.length_append, ← hN] at hb2; have HN := Lib.hid hN; have HF := Lib.hid hf; have HO2 := Lib.hid hown; have HU2 := Lib.hid hU; have HR' := Lib.hid (hr'.under hU); have hmx : N + css[k].length ≤ maxLen := by simp only [maxLen]; omega
         have hby:(N+css[k].length) * 16≤140737488355328:=by omega
         clear hcs hr' hf hN hown hU hu;generalize hm:css[k].length=m at *;have HM:=Lib.hid hm;clear hm
         cases q with
         | none =>
           obtain rfl:c'=0:=h0' rfl;obtain rfl:m=0:=by omega
           go_wp2_with (at_builtin;refine wpList_append_own_none rfl _ _ 22 rfl w0.heap.size 9 i0 1 Tryz.underlying22 hi _ N _ rfl HO2.out rfl ?_);go_roundw
           case rel=>exact⟨k+1,N,by omega,by go_num,by rw[HF.out,List.length_append,← HN.out,HM.out];rfl,by rw[HF.out,List.eq_nil_of_length_eq_zero HM.out,List.append_nil];exact HO2.out,HU2.out⟩
           case measure=>simp[intOf];omega
         | some a =>
           obtain⟨XS,hXS⟩:∃ XS,XS=(List.take k css).flatten.map Value.string:=⟨_,rfl⟩;rw[← hXS]at HO2;have HXS:=Lib.hid hXS;clear hXS;go_wp2_with (at_builtin;refine wpList_append_own_at _ rfl _ _ 22 rfl w0.heap.size 9 i0 _ 1 16 Tryz.underlying22 hi hz0 hz1 hz2 rfl (by decide) _ N _ rfl HO2.out a m c' (css[k].map .string) rfl ?c1 ?c2 ?c3 hmx hby ?c5 ?_)
           case c1=>rw[List.length_map,HM.out];omega
           case c2 =>
             intro j u hj;obtain⟨b2,off2,e,hb2,hc2⟩:=HR'.out (fun e=>by rw[e]at hj;cases hj)
             cases e;rw[fP];exact hc2 j u hj
           case c3 =>
             intro u hu;obtain⟨x,_,rfl⟩:=List.mem_map.1 hu;rfl
           case c5=>exact HU2.out.size
           intro v' w2 hown2 hgrow2 hnil2 hat2;have hU3:=bB HU2.out hgrow2 fun g e=>(iC HO2.out e).1
           have HO3:=Lib.hid hown2;have HU3:=Lib.hid hU3;clear hown2 hnil2 hat2 hU3;go_wp2;go_roundw
           case rel=>exact⟨k+1,N+m,by omega,by go_num,by rw[HF.out,List.length_append,← HN.out,HM.out],by rw[HF.out,List.map_append,← HXS.out];exact HO3.out,HU3.out⟩
           case measure=>simp[intOf];omega
       · obtain rfl : k = css.length := by omega
         have HO2:=Lib.hid hown;have HU2:=Lib.hid hU;have HN:=Lib.hid hN;clear hown hU hN;go_wp2;go_ret;have e1:=HN.out;have e3:=HO2.out;rw[List.take_length]at e1 e3;rw[e1]at e3;exact⟨_,rfl,e3,HU2.out⟩
end
theorem iJ{C:Nat→Prop}{w w':World}(h:Ch C w w'){b:Nat}(hb:b < w.heap.size)(hc:¬ C b)(j:Nat):w'.cell? ⟨b,j,none⟩=w.cell? ⟨b,j,none⟩:=by simp only[World.cell?,h.block b hb hc]
def qFA(C:Nat→Prop)(q:Option Addr):Prop:=∀ b off x,q=some ⟨b,off,x⟩→¬ C b
theorem r6A{C:Nat→Prop}{w w':World}{q:Option Addr}{cs:List Value}(h:RowArg w q cs)(hC:Ch C w w')(ha:qFA C q):RowArg w' q cs:=fun hne=>by
 obtain⟨b,off,rfl,hb,hc⟩:=h hne;exact⟨b,off,rfl,Nat.lt_of_lt_of_le hb hC.size,fun j u hj=>(iJ hC hb (ha b off none rfl) _).trans (hc j u hj)⟩
theorem sK{C:Nat→Prop}{w w':World}{q:Option Addr}{row:List Sx}(h:SxArg w q row)(hC:Ch C w w')(ha:qFA C q):SxArg w' q row:=fun hne=>by
 obtain⟨b,off,rfl,hb,hc⟩:=h hne;refine⟨b,off,rfl,Nat.lt_of_lt_of_le hb hC.size,fun k x hk=>?_⟩;rw[iJ hC hb (ha b off none rfl),iJ hC hb (ha b off none rfl),iJ hC hb (ha b off none rfl)];exact hc k x hk
def cZ(C:Nat→Prop)(v:Value):Prop:=∀ q n c,v = .slice q n c→n≠0→qFA C q
theorem nXA{C:Nat→Prop}{w w':World}{v:Value}{ss:List ByteArray}(h:TextsV w v ss)(hC:Ch C w w')(ha:cZ C v):TextsV w' v ss:=by
 obtain⟨p,c,rfl,h1,h2,h3⟩:=h;exact⟨p,c,rfl,h1,h2,fun hne=>r6A h3 hC (ha _ _ _ rfl (fun e=>hne (by rw[List.eq_nil_of_length_eq_zero e];rfl))) hne⟩
theorem lSA{C:Nat→Prop}{w:World}{base s n:Nat}{t:TypeId}{v:Value}{xs:List Value}(h:w.ownsRow base t s v n xs)(hc:∀ g,v.ownBlock=some g→¬ C g):cZ C v:=by
 rcases h.2 with⟨rfl,_⟩ | ⟨g,c,cur,rfl,_⟩
 · intro q n c e _;cases e;intro b off x e;cases e
 · intro q n c e _;cases e;intro b off x e;cases e;exact hc _ rfl
theorem qK{l:List ST}{y:ST}(h:y∈l):y.last∈fA l:=by
 induction l with
 | nil=>cases h
 | cons a l ih =>
   rw[fA,List.mem_append];rcases List.mem_cons.1 h with rfl | h
   · obtain ⟨i, e⟩ := bJ y
     left;rw[e];simp
   · exact .inr (ih h)
def TsArg(C:Nat→Prop)(w:World)(q:Option Addr)(ts:List ST):Prop:=ts≠[]→∃ b off,q=some ⟨b,off,none⟩∧b < w.heap.size∧¬ C b ∧
 ∀ i T,ts[i]? = some T→∃ qi ci,w.cell? ⟨b,off+i,none⟩=some (.slice qi (uA T).length ci)∧(uA T).length≤ci∧SxArg w qi (uA T)∧qFA C qi
theorem TsArg.ch{C D:Nat→Prop}{w w':World}{q:Option Addr}{ts:List ST}(h:TsArg C w q ts)(hC:Ch C w w'):TsArg C w' q ts:=fun hne=>by
 obtain⟨b,off,rfl,hb,hn,hc⟩:=h hne;refine⟨b,off,rfl,Nat.lt_of_lt_of_le hb hC.size,hn,fun i T hi=>?_⟩;obtain⟨qi,ci,h1,h2,h3,h4⟩:=hc i T hi;exact⟨qi,ci,(iJ hC hb hn _).trans h1,h2,sK h3 hC h4,h4⟩
def TgC(rb:Nat)(ov:Value)(nb:Nat)(b:Nat):Prop:=gH rb ov b∨b=nb
noncomputable def wW:Code:=Tryz.f28.body.getD .skip
noncomputable def bP:Code:=dA (dA (dA (dA (dA (dA (dA (dA (dA (dA (dA (dA (bC (dA wW)))))))))))))
noncomputable def tgRound:Code:=bC (bC (dA (rA (dA bP))))
def mD(rb nb:Nat)(bv nv:Value)(wt:Bool)(ps:ByteArray)(q2:Option Addr)(n c2 k:Nat)(J:Nat→Value):Array Value :=
 #[.pointer (some ⟨rb, 0, none⟩), J 1, bv, J 3, J 4, J 5, .bool false, J 7, J 8, J 9, J 10, J 11, .string ps, J 13, .pointer (some ⟨nb, 0, none⟩), nv, .bool wt, J 17, J 18, J 19, J 20, J 21, J 22, J 23, J 24, J 25, J 26, J 27, J 28, J 29, J 30, J 31, J 32, J 33, J 34, J 35, J 36, J 37, J 38, J 39, J 40, J 41, J 42, J 43, J 44, J 45, J 46, J 47, J 48, J 49, J 50, J 51, J 52, J 53, J 54, J 55, J 56, J 57, J 58, J 59, J 60, J 61, J 62, J 63, J 64, J 65, J 66, J 67, J 68, J 69, J 70, J 71, J 72, J 73, J 74, J 75, J 76, J 77, J 78, J 79, J 80, J 81, J 82, J 83, J 84, J 85, J 86, J 87, J 88, J 89, J 90, J 91, J 92, J 93, J 94, J 95, J 96, J 97, J 98, J 99, J 100, J 101, .slice q2 n c2, .int .i64 (n : Int), .int .i64 (k : Int), J 105, J 106, J 107, J 108, J 109, J 110, J 111, J 112, J 113, J 114, J 115, J 116, J 117, J 118, J 119, J 120, J 121, J 122, J 123, J 124, J 125, J 126, J 127, J 128, J 129, J 130, J 131, J 132, J 133, J 134, J 135, J 136, J 137, J 138, J 139, J 140, J 141, J 142, J 143, J 144, J 145, J 146, J 147, J 148, J 149, J 150, J 151, J 152, J 153, J 154, J 155, J 156, J 157, J 158, J 159, J 160, J 161, J 162, J 163, J 164, J 165, J 166, J 167, J 168, J 169, J 170, J 171, J 172, J 173, J 174, J 175, J 176, J 177, J 178, J 179, J 180, J 181, J 182, J 183, J 184, J 185, J 186, J 187, J 188, J 189, J 190, J 191, J 192, J 193, J 194, J 195, J 196, J 197, J 198, J 199, J 200, J 201, J 202, J 203, J 204]
def dI(b:Bool)(J:Nat→Value):Array Value:=#[J 0,J 1,J 2,J 3,J 4,J 5,.bool b,J 7,J 8,J 9,J 10,J 11,J 12,J 13,J 14,J 15,J 16,J 17,J 18,J 19,J 20,J 21,J 22,J 23,J 24,J 25,J 26,J 27,J 28,J 29,J 30,J 31,J 32,J 33,J 34,J 35,J 36,J 37,J 38,J 39,J 40,J 41,J 42,J 43,J 44,J 45,J 46,J 47,J 48,J 49,J 50,J 51,J 52,J 53,J 54,J 55,J 56,J 57,J 58,J 59,J 60,J 61,J 62,J 63,J 64,J 65,J 66,J 67,J 68,J 69,J 70,J 71,J 72,J 73,J 74,J 75,J 76,J 77,J 78,J 79,J 80,J 81,J 82,J 83,J 84,J 85,J 86,J 87,J 88,J 89,J 90,J 91,J 92,J 93,J 94,J 95,J 96,J 97,J 98,J 99,J 100,J 101,J 102,J 103,J 104,J 105,J 106,J 107,J 108,J 109,J 110,J 111,J 112,J 113,J 114,J 115,J 116,J 117,J 118,J 119,J 120,J 121,J 122,J 123,J 124,J 125,J 126,J 127,J 128,J 129,J 130,J 131,J 132,J 133,J 134,J 135,J 136,J 137,J 138,J 139,J 140,J 141,J 142,J 143,J 144,J 145,J 146,J 147,J 148,J 149,J 150,J 151,J 152,J 153,J 154,J 155,J 156,J 157,J 158,J 159,J 160,J 161,J 162,J 163,J 164,J 165,J 166,J 167,J 168,J 169,J 170,J 171,J 172,J 173,J 174,J 175,J 176,J 177,J 178,J 179,J 180,J 181,J 182,J 183,J 184,J 185,J 186,J 187,J 188,J 189,J 190,J 191,J 192,J 193,J 194,J 195,J 196,J 197,J 198,J 199,J 200,J 201,J 202,J 203,J 204]
def oLA(T:ST):Prop:=∀(W0 w:World) (rb m1 m2:Nat) (cv dv ov:Value) (acc:List Nd) (p e:Int) (q:Option Addr) (cap:Nat) (bv:Value) (st cs ds:List ByteArray),
 okS T→(uA T).length≤20000→(uA T).length≤cap→(∀ x∈uA T,x.word.size≤1000000)→StrcAt W0→TextsV W0 cv cs→TextsV W0 dv ds→cs.length≤1000000→ds.length≤1000000→ReS W0 rb m1 m2 cv dv ov acc p e w →
 SxArg w q (uA T)→qFA (gH rb ov) q→TextsV w bv st→cZ (gH rb ov) bv→st.length+(uA T).length≤50000→acc.length+(uA T).length≤900000 →
 Calls Tryz.prog 28 #[.pointer (some ⟨rb,0,none⟩),.slice q (uA T).length cap,bv] w (ReOut W0 rb m1 m2 cv dv ov acc w (aG cs ds T st))
structure TgFix where
 (W0 wl:World) (rb m1 m2 nb:Nat) (cv dv ov bv:Value) (acc:List Nd) (st cs ds:List ByteArray) (ts:List ST) (parts:List UInt8) (q2:Option Addr) (c2:Nat) (R:Say)
structure TgS (F:TgFix) (k:Nat) (nms:List ByteArray) (wt:Bool) (x:Nd) (t:List Nd) (ov1:Value) (p1 e1:Int) (nv:Value) (w:World):Prop where
 re:ReS F.W0 F.rb F.m1 F.m2 F.cv F.dv ov1 (F.acc++t) p1 e1 w
 ch:Ch (TgC F.rb F.ov F.nb) F.wl w
 own:∀ b,b < F.wl.heap.size→ov1.ownBlock=some b→F.ov.ownBlock=some b
 nd:BoxAt w F.nb 76 (eQ x)
 row:w.ownsRow F.wl.heap.size 9 1 nv nms.length (nms.map .string)
 say:F.R=goS F.cs F.ds (uB wt (F.parts.drop k)) (F.ts.drop k) x nms F.st t
 nlen:nms.length≤k
 tlen:t.length≤(fA (F.ts.take k)).length
theorem vK{F:TgFix}{k:Nat}{nms:List ByteArray}{wt:Bool}{x:Nd}{t:List Nd}{ov1 nv:Value}{p1 e1:Int}{w:World}(h:TgS F k nms wt x t ov1 p1 e1 nv w){i:Nat}(hi:i < F.wl.heap.size)(hr:gH F.rb ov1 i):gH F.rb F.ov i:=by
 rcases hr with h1 | h1
 · exact .inl h1
 · exact .inr (h.own i hi h1)
structure TgOk (F:TgFix):Prop where
 nlt:F.nb < F.wl.heap.size
 rlt:F.rb < F.wl.heap.size
 m1lt:F.m1 < F.wl.heap.size
 m2lt:F.m2 < F.wl.heap.size
 wlt:F.W0.heap.size≤F.wl.heap.size
 nrc:¬ gH F.rb F.ov F.nb
 lw:F.W0.heap.size≤F.nb
 arg:TsArg (TgC F.rb F.ov F.nb) F.wl F.q2 F.ts
 bound:TextsV F.wl F.bv F.st
 away:cZ (TgC F.rb F.ov F.nb) F.bv
 ok:nK F.ts
 len:(fA F.ts).length≤20000
 stl:F.st.length+(fA F.ts).length≤50000
 accl:F.acc.length+(fA F.ts).length≤900000
 words:∀ x∈fA F.ts,x.word.size≤1000000
 csT:TextsV F.W0 F.cv F.cs
 dsT:TextsV F.W0 F.dv F.ds
 csl:F.cs.length≤1000000
 dsl:F.ds.length≤1000000
 strc:StrcAt F.W0
 plen:F.parts.length=F.ts.length
theorem jZA{D:Nat→Prop}{W0 w w':World}{rb m1 m2:Nat}{cv dv ov:Value}{acc:List Nd}{p e:Int}(h:ReS W0 rb m1 m2 cv dv ov acc p e w)(hc:Ch D w w')(h1:¬ D rb)(h2:¬ D m1)(h3:¬ D m2)(h4:∀ g,ov.ownBlock=some g→¬ D g)(h5:∀ b,D b→W0.heap.size≤b):ReS W0 rb m1 m2 cv dv ov acc p e w' :=
 ⟨mI h.box hc h1,sS h.f hc h2,sS h.a hc h3,bQ h.row hc h4,kE h.und hc h5,h.lo⟩
theorem TgS.re_ch{F:TgFix}{k:Nat}{nms:List ByteArray}{wt:Bool}{x:Nd}{t:List Nd}{ov1 nv:Value}{p1 e1:Int}{w w':World}{D:Nat→Prop}(hF:TgOk F)(h:TgS F k nms wt x t ov1 p1 e1 nv w)(hc:Ch D w w')(hD:∀ i,D i→F.wl.heap.size≤i∧ov1.ownBlock≠some i) :
 ReS F.W0 F.rb F.m1 F.m2 F.cv F.dv ov1 (F.acc++t) p1 e1 w'∧Ch (TgC F.rb F.ov F.nb) F.wl w'∧BoxAt w' F.nb 76 (eQ x):=by
 have hlow:∀ i,i < F.wl.heap.size→¬ D i:=fun i hi hd=>by have:=(hD i hd).1;omega
 refine⟨jZA h.re hc (hlow _ hF.rlt) (hlow _ hF.m1lt) (hlow _ hF.m2lt) (fun g hg hd=>(hD g hd).2 hg) (fun b hb=>Nat.le_trans hF.wlt (hD b hb).1),h.ch.trans hc (fun i hi hd=>(hlow i hi hd).elim),mI h.nd hc (hlow _ hF.nlt)⟩
theorem TgS.set_ch{F:TgFix}{k:Nat}{nms:List ByteArray}{wt:Bool}{x:Nd}{t:List Nd}{ov1 nv:Value}{p1 e1:Int}{w w3:World}(hF:TgOk F)(h:TgS F k nms wt x t ov1 p1 e1 nv w)(hU:Under w w3)(j:Nat)(u:Value) :
 ReS F.W0 F.rb F.m1 F.m2 F.cv F.dv ov1 (F.acc++t) p1 e1 (w3.setCell ⟨F.nb,j,none⟩ u)∧Ch (TgC F.rb F.ov F.nb) F.wl (w3.setCell ⟨F.nb,j,none⟩ u)∧BoxAt (w3.setCell ⟨F.nb,j,none⟩ u) F.nb 76 ((eQ x).setIfInBounds j u)∧(w3.setCell ⟨F.nb,j,none⟩ u).ownsRow F.wl.heap.size 9 1 nv nms.length (nms.map .string):=by
 have hc:Ch (fun i=>i=F.nb) w3 (w3.setCell ⟨F.nb,j,none⟩ u):=(Ch.refl (C:=fun i=>i=F.nb) w3).set (g:=F.nb) (fun _=>rfl) j u;have h3:=h.re.under hU;have hn3:=h.nd.under hU;refine⟨jZA h3 hc (fun e=>hF.nrc (.inl e.symm)) (fun e=>aR hn3 h3.f e.symm) (fun e=>aR hn3 h3.a e.symm) (fun g hg e=>?_) (fun b e=>by rw[e];exact hF.lw),(h.ch.under hU).trans hc (fun i _ e=>.inr e),hn3.set j u,bQ (yB h.row hU) hc (fun g hg e=>?_)⟩
 · subst e;exact hF.nrc (.inr (h.own _ hF.nlt hg))
 · have:=(iC h.row hg).1;have:=hF.nlt;omega
theorem yBA{F:TgFix}(k:Nat)(hk:k < F.ts.length):(fA (F.ts.take k)).length≤(fA (F.ts.take (k+1))).length:=by
 rw[List.take_succ_eq_append_getElem hk,zD,List.length_append];omega
theorem TgS.name {F : TgFix} {k : Nat} {nms : List ByteArray} {wt wt' : Bool} {x : Nd} {t : List Nd} {ov1 nv v' : Value} {p1 e1 : Int} {w w' : World} {s : ByteArray} (hF : TgOk F) (hk : k < F.ts.length) (h : TgS F k nms wt x t ov1 p1 e1 nv w) (hc : Ch (fun i => nv.ownBlock = some i) w w')
    (hown:w'.ownsRow F.wl.heap.size 9 1 v' (nms.length+1) (nms.map .string++[.string s])) (hs:F.R=goS F.cs F.ds (uB wt' (F.parts.drop (k+1))) (F.ts.drop (k+1)) x (nms++[s]) F.st t):TgS F (k+1) (nms++[s]) wt' x t ov1 p1 e1 v' w':=by
  obtain ⟨h1, h2, h3⟩ := h.re_ch hF hc (fun i hi => ⟨(iC h.row hi).1, by
    rcases own_ne h.row h.re.row (by decide) with e | e
    · rw[e]at hi;cases hi
    · intro e2;exact e (hi.trans e2.symm)⟩)
  refine⟨h1,h2,h.own,h3,by rw[List.length_append,List.map_append];exact hown,hs,by rw[List.length_append];have:=h.nlen;simp;omega,Nat.le_trans h.tlen (yBA k hk)⟩
def lT(F:TgFix)(k:Nat)(a':Act)(w':World):Prop :=
 ∃ nms wt x t ov1 p1 e1 nv J,a'=⟨mD F.rb F.nb F.bv nv wt ⟨F.parts.toArray⟩ F.q2 F.ts.length F.c2 k J,[]⟩∧TgS F k nms wt x t ov1 p1 e1 nv w'
def iHA(F:TgFix)(ex:Exit)(a':Act)(w':World):Prop :=
 (ex = .exit 0∧lT F F.ts.length a' w') ∨
 (ex = .ret∧∃ e2 p2 ov2 acc2,(∃ J,a'=⟨dI false J,[]⟩)∧F.R = .error (e2,p2)∧ReS F.W0 F.rb F.m1 F.m2 F.cv F.dv ov2 acc2 p2 e2 w'∧Ch (TgC F.rb F.ov F.nb) F.wl w'∧∀ b,b < F.wl.heap.size→ov2.ownBlock=some b→F.ov.ownBlock=some b)
end Go.Proofs.YtlnlpdephijcoaaGreatDoor
