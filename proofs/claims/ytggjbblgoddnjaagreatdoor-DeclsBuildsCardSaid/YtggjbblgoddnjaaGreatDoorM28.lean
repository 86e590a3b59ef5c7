/- Part 28 of what the proof rests on. -/
import Derived.TacticsInMore
import Derived.LoopNIn
import Derived.LoopIn
import Derived.Shelf.Abstract
import Derived.Shelf.RegionOpen
import Derived.Test.YtggjbblgoddnjaaGreatDoorM00
import Derived.Test.YtggjbblgoddnjaaGreatDoorM12
import Derived.Test.YtggjbblgoddnjaaGreatDoorM27
set_option linter.unusedSimpArgs false
set_option linter.unusedVariables false
set_option maxRecDepth 100000
set_option maxHeartbeats 1000000
namespace Go.Proofs.YtggjbblgoddnjaaGreatDoor
open Go.Lx Go.RowKit
section
variable {w0 : World}
theorem kMA(x:Nd)(hs:x.s.size≤maxLen)(hS:ShapesAt 3 w0)(hr:yA x=true)(h26:¬ x.k=26)(h27:¬ x.k=27):Calls Tryz.prog 162 #[ndV x] w0 (oK w0 x):=by
 have HB:=Lib.hid (qA w0 #[.int .i64 x.k,.int .i64 x.n,.int .i64 x.m,.string x.s] 112);have HC:=Lib.hid (nP x _ hs (hS.under (aA (Under.refl w0) (.cells #[.int .i64 x.k,.int .i64 x.n,.int .i64 x.m,.string x.s] 112))));obtain⟨h0,h1⟩:=iIA hr;have HR:=Lib.hid hr;rw[hr]at HC;obtain⟨i0,hi,hz0,hz1,hz2⟩:=info_parts Tryz.infoInt;have hl6:=mZ x.k.toNat;have HS:=Lib.hid hS;have hb:=hS.lt;clear hS hr;unfold ndV;go_enter Tryz.func162,Tryz.ntmps162;go_wp2_with fail;refine HC.out.mono ?_;rintro e w1 ⟨rfl,hU1⟩;have hB1:=HB.out.under hU1;have e0:=hB1.cell 0;have e1:=hB1.cell 1;have e2:=hB1.cell 2;have e3:=hB1.cell 3;have hS1:=HS.out.under ((aA (Under.refl w0) _).trans hU1);obtain⟨p,c,c0,hcc,hrow,_⟩:=hS1.row x.k.toNat (by omega);have hlt:=hS1.lt;have HCl:=Lib.hid (hEA (w0:=w1) (c:=c) (gG x.k.toNat) (by omega) hrow);have HU1:=Lib.hid hU1;clear hU1 hB1 hS1 hrow;go_wp2_with fail;refine HCl.out.mono ?_;rintro e w2 ⟨v,rfl,hown,hU2⟩;have HO:=Lib.hid hown;have HU2:=Lib.hid hU2;clear hown hU2;go_wp2;go_ret2;unfold oK;rw[HR.out];refine⟨v,rfl,?_,((aA (Under.refl w0) _).trans HU1.out).trans HU2.out⟩;have:(if true=true then binds x else [])=gG x.k.toNat:=by rw[if_pos rfl];unfold binds;rw[if_neg h26,if_neg h27]
 rw[this];exact oD HO.out ((aA (Under.refl w0) _).trans HU1.out).size
theorem gRA(x:Nd)(hs:x.s.size≤maxLen)(hS:ShapesAt 3 w0):Calls Tryz.prog 162 #[ndV x] w0 (oK w0 x):=by
 by_cases hr:yA x=true
 · by_cases h26 : x.k = 26
   · obtain⟨k,n,m,s⟩:=x;obtain rfl:k=26:=h26;have hm:=dS hr (.inl rfl);obtain⟨m',rfl⟩:∃ m':Nat,m=m':=⟨m.toNat,by simp only at hm;omega⟩;exact tRA n m' s hs hS hr (by simp only at hm;omega)
   · by_cases h27 : x.k = 27
     · obtain⟨k,n,m,s⟩:=x;obtain rfl:k=27:=h27;have hm:=dS hr (.inr rfl);obtain⟨m',rfl⟩:∃ m':Nat,m=m':=⟨m.toNat,by simp only at hm;omega⟩;exact yOA n m' s hs hS hr (by simp only at hm;omega)
     · exact kMA x hs hS hr h26 h27
 · have HC := Lib.hid (nP x _ hs (hS.under (aA (Under.refl w0) (.cells #[.int .i64 x.k, .int .i64 x.n, .int .i64 x.m, .string x.s] 112)))); have hr' : yA x = false := by simpa using hr
   rw[hr']at HC;have HR:=Lib.hid hr';clear hr hr' hS;unfold ndV;go_enter Tryz.func162,Tryz.ntmps162;go_wp2_with fail;refine HC.out.mono ?_;rintro e w1 ⟨rfl,hU1⟩;have HU1:=Lib.hid hU1;clear hU1;go_wp2;go_ret2;unfold oK;rw[HR.out];exact⟨.slice none 0 0,rfl,World.ownsRow_nil _ _ _ _,(aA (Under.refl w0) _).trans HU1.out⟩
end
noncomputable def oBA:Code:=Tryz.f161.body.getD .skip
noncomputable def ndRound:Code:=aD (aD (jA (jA oBA)))
noncomputable def v2A:Code:=jA (jA (jA (jA (aD (xA (jA ndRound))))))
noncomputable def niRound:Code:=aD (aD (jA v2A))
def aT(yf:Value)(tb:Nat)(vo:Value)(k:Int)(J:Nat→Value):Array Value:=#[yf,.pointer (some ⟨tb,0,none⟩),J 2,vo,.int .i64 k,J 5,J 6,J 7,J 8,J 9,J 10,J 11,J 12,J 13,J 14,J 15,J 16,J 17,J 18,J 19,J 20,J 21,J 22,J 23,J 24,J 25,J 26,J 27,J 28,J 29,J 30,J 31,J 32,J 33,J 34,J 35,J 36,J 37,J 38,J 39,J 40,J 41,J 42,J 43,J 44,J 45,J 46,J 47,J 48,J 49,J 50,J 51,J 52,J 53,J 54]
def iL(yf:Value)(tb:Nat)(vo:Value)(k:Int)(u:Nat)(vb:Value)(m j:Nat)(J:Nat→Value):Array Value :=
 #[yf, .pointer (some ⟨tb, 0, none⟩), J 2, vo, .int .i64 k, .int .i64 (u : Int), J 6, J 7, J 8, J 9, J 10, J 11, J 12, J 13, J 14, J 15, J 16, J 17, J 18, J 19, J 20, J 21, J 22, J 23, J 24, J 25, J 26, J 27, J 28, J 29, J 30, J 31, J 32, J 33, J 34, J 35, J 36, J 37, J 38, J 39, J 40, J 41, vb, .int .i64 (m : Int), .int .i64 (j : Int), J 45, J 46, J 47, J 48, J 49, J 50, J 51, J 52, J 53, J 54]
structure NH (W0:World) (tb:Nat) (vt:Value) (B:Nat) (Jc:Option Nat→World→Prop) (vo:Value) (l:List Nat) (A:World):Prop where
 j:Jc vo.ownBlock A
 row:A.ownsRow B 3 1 vo l.length (bE l)
 low:Under W0 A
 box:BoxAt A tb 30 #[vt]
 big:B≤A.heap.size
section
variable {W0 : World} {tb B : Nat} {vt yf vo : Value} {Jc : Option Nat → World → Prop} {k : Int} {u m j : Nat} {l : List Nat}
def yIA(Jc:Option Nat→World→Prop):Prop:=∀ b b' A A',Jc b A→IStep b b' A A'→Jc b' A'
theorem NH.under{A A':World}(h:NH W0 tb vt B Jc vo l A)(hJ:yIA Jc)(hU:Under A A'):NH W0 tb vt B Jc vo l A' :=
 ⟨hJ _ _ _ _ h.j (IStep.under hU _),dC h.row hU,h.low.trans hU,h.box.under hU,Nat.le_trans h.big hU.size⟩
theorem NH.grown{A A':World}{vo':Value}{l':List Nat}(h:NH W0 tb vt B Jc vo l A)(hJ:yIA Jc)(hg:A.grownBy A' vo.ownBlock)(hat:vo'.ownBlock=vo.ownBlock∨vo'.ownBlock=some A.heap.size)(hr:A'.ownsRow B 3 1 vo' l'.length (bE l'))(hW:W0.heap.size≤B)(ht:tb < B):NH W0 tb vt B Jc vo' l' A' :=
 ⟨hJ _ _ _ _ h.j (IStep.grown hg hat),hr,rA h.low hg fun g e=>Nat.le_trans hW (vB h.row e).1,h.box.grown hg fun e=>by have:=(vB h.row e.symm).1;omega,Nat.le_trans h.big hg.size⟩
def NIn(W0:World)(tb:Nat)(vt:Value)(B:Nat)(Jc:Option Nat→World→Prop)(yf:Value)(k:Int)(u:Nat)(vb:Value)(m j:Nat)(A0:World)(l:List Nat)(bs:List Nat)(a:Act)(A:World):Prop :=
 ∃ vo J,a=⟨iL yf tb vo k u vb m j J,[]⟩∧NH W0 tb vt B Jc vo l A∧A.ownsRow A0.heap.size 3 1 vb bs.length (bE bs)∧(vb.ownBlock=none∨vb.ownBlock≠vo.ownBlock)
def m5A(W0:World)(tb:Nat)(vt:Value)(B:Nat)(Jc:Option Nat→World→Prop)(yf:Value)(k:Int)(u:Nat)(vb:Value)(m:Nat)(A0:World)(l:List Nat)(bs:List Nat)(e:Exit)(a:Act)(A:World):Prop:=e = .exit 2∧NIn W0 tb vt B Jc yf k u vb m m A0 l bs a A
theorem bZA{A0:World}{bs:List Nat}{vb:Value}(J:Nat→Value)(A:World)(hH:NH W0 tb vt B Jc vo l A)(hb:A.ownsRow A0.heap.size 3 1 vb bs.length (bE bs))(hne:vb.ownBlock=none∨vb.ownBlock≠vo.ownBlock) :
 niRound.wp Tryz.prog (Exit.then (fun _ _=>False) (m5A W0 tb vt B Jc yf k u vb m A0 l bs)) ⟨iL yf tb vo k u vb m m J,[]⟩ A:=by
 have HH:=Lib.hid hH;have HB:=Lib.hid hb;have HN:=Lib.hid hne;clear hH hb hne;unfold niRound v2A ndRound oBA;simp only[Tryz.f161,Option.getD_some,xA,jA,aD];unfold iL;go_wp2;exact⟨rfl,vo,bB (F:=iL yf tb vo k u vb m m) (by rfl) ⟨HH.out,HB.out,HN.out⟩⟩
theorem l2A {A0 : World} {bs : List Nat} {vb : Value} {x : Nat} (hJ : yIA Jc) (hW : W0.heap.size ≤ B) (ht : tb < B) (hx : bs[j]? = some x) (hm : bs.length ≤ 8) (hu : u ≤ 10000) (hx2 : x ≤ 2) (hl : l.length ≤ 40000) (J : Nat → Value) (A : World) (hH : NH W0 tb vt B Jc vo l A)
    (hb:A.ownsRow A0.heap.size 3 1 vb bs.length (bE bs)) (hne:vb.ownBlock=none∨vb.ownBlock≠vo.ownBlock) :
    niRound.wp Tryz.prog (Exit.then (NIn W0 tb vt B Jc yf k u vb bs.length (j+1) A0 (l++[u+x]) bs) (fun _ _ _=>False)) ⟨iL yf tb vo k u vb bs.length j J,[]⟩ A:=by
  obtain⟨i0,hi,hz0,hz1,hz2⟩:=info_parts Tryz.infoInt;obtain⟨hj,hxe⟩:=List.getElem?_eq_some_iff.1 hx;obtain⟨g,gc,hvb,hg,_,hgl,_,_⟩:=kE hb (by omega);have c0:=yD hb hg (j:=j) (u:=.int .i64 (x:Int)) (by unfold bE;rw[List.getElem?_map,hx];rfl);have hj1:(j:Int) < bs.length:=by omega
  have hj0:(0:Int)≤j:=Int.natCast_nonneg _;have hj8:(j:Int)≤8:=by omega
  have hu0:(0:Int)≤u:=Int.natCast_nonneg _;have hu1:(u:Int)≤10000:=by omega
  have hx0:(0:Int)≤x:=Int.natCast_nonneg _;have hx1:(x:Int)≤2:=by omega
  have hmx:l.length+1≤maxLen:=by simp only[maxLen];omega
  have hby:(l.length+1) * 8≤140737488355328:=by omega
  have HH:=Lib.hid hH;have HB:=Lib.hid hb;have HN:=Lib.hid hne;have HG:=Lib.hid hg;subst hvb;clear hH hb hne hx hxe hg;unfold niRound v2A ndRound oBA;simp only[Tryz.f161,Option.getD_some,xA,jA,aD];unfold iL;go_wp2_with (at_builtin;refine wpList_append_own_at _ rfl _ _ 123 rfl B 3 i0 _ 1 8 Tryz.underlying123 hi hz0 hz1 hz2 rfl (by decide) _ _ _ rfl (HH.out.row.alloc _) ⟨A.heap.size,0,none⟩ 1 1 [.int .i64 ((u:Int)+(x:Int))] rfl rfl ?c1 ?c2 hmx hby ?c5 ?_)
  case c1 =>
    intro j u hj
    match j,hj with
    | 0,hj=>cases hj;simp[Addr.add]
  case c2=>intro u hu;simp at hu;subst hu;rfl
  case c5=>have:=HH.out.big;simp;omega
  intro v' A1 hown hgrow hnil hat; have HH1 := Lib.hid ((HH.out.under hJ (aA (Under.refl A) (.cells #[.int .i64 ((u : Int) + (x : Int))] 3))).grown (vo' := v') (l' := l ++ [u + x]) hJ hgrow (by simpa using hat) (by
    rw[List.length_append];have:bE (l++[u+x])=bE l++[.int .i64 ((u:Int)+(x:Int))]:=by simp[bE]
    rw[this];exact hown) hW ht)
  have HB1:=Lib.hid (oC (HB.out.alloc (.cells #[.int .i64 ((u:Int)+(x:Int))] 3)) hgrow HN.out);have hne1:(Value.slice (some ⟨g,0,none⟩) bs.length gc).ownBlock=none∨(Value.slice (some ⟨g,0,none⟩) bs.length gc).ownBlock≠v'.ownBlock:=by
   right
   rcases hat with e | e
   · rw [e]; rcases HN.out with h | h
     · simp[Value.ownBlock]at h
     · exact h
   · rw[e];simp[Value.ownBlock];omega
  have HN1:=Lib.hid hne1;clear hown hgrow hnil hat hne1;go_wp2;exact⟨v',bB (F:=iL yf tb v' k u _ bs.length (j+1)) (by rfl) ⟨HH1.out,HB1.out,HN1.out⟩⟩
theorem kTA {A0 : World} (bs : List Nat) {vb : Value} (hJ : yIA Jc) (hW : W0.heap.size ≤ B) (ht : tb < B) (hm : bs.length ≤ 8) (hu : u ≤ 10000) (hx2 : ∀ x ∈ bs, x ≤ 2) (hl : l.length ≤ 39000) (i : Nat) (a : Act) (A : World)
    (h0:∃ j,i+j=bs.length∧NIn W0 tb vt B Jc yf k u vb bs.length j A0 (l++(bs.take j).map (u + ·)) bs a A) :
    (Code.loop niRound).wp Tryz.prog (m5A W0 tb vt B Jc yf k u vb bs.length A0 (l++bs.map (u + ·)) bs) a A:=by
  refine wp_loop_ghost (fun i a A=>∃ j,i+j=bs.length∧NIn W0 tb vt B Jc yf k u vb bs.length j A0 (l++(bs.take j).map (u + ·)) bs a A) i h0 ?_;clear h0;rintro i a A ⟨j,hij,vo,J,rfl,hH,hb,hne⟩;by_cases hjn:j=bs.length
  · subst hjn; rw [List.take_length] at hH; refine wp_mono (bZA J A hH hb hne) ?_; rintro e a' w' h
    cases e with
    | normal=>exact h.elim
    | _=>exact h
  have hlt:j < bs.length:=by omega
  refine wp_mono (l2A hJ hW ht (List.getElem?_eq_getElem hlt) hm hu (hx2 _ (List.getElem_mem hlt)) (by rw[List.length_append,List.length_map,List.length_take];omega) J A hH hb hne) ?_;rintro e a' w' h
  cases e with
  | normal =>
    refine⟨i - 1,by omega,j+1,by omega,?_⟩;rw[List.take_succ_eq_append_getElem hlt,List.map_append,← List.append_assoc];exact h
  | _=>exact h.elim
end
attribute [local go_sem] Oper.semAt_some
section
variable {W0 : World} {tb B n : Nat} {vt vo : Value} {Jc Jd : Option Nat → World → Prop} {Jx : World → Prop} {R : Nat → Prop} {k u l : Nat} {st : List Nat}
def e1A(W0:World)(tb:Nat)(vt:Value)(B:Nat)(Jc:Option Nat→World→Prop)(yf:Value)(k:Nat)(st:List Nat)(a:Act)(A:World):Prop :=
 ∃ vo J,a=⟨aT yf tb vo ((k:Int) - 1) J,[]⟩∧NH W0 tb vt B Jc vo st.reverse A
def g5A(Jx:World→Prop)(e:Exit)(a:Act)(A:World):Prop:=e = .ret∧a.defers=[]∧Jx A
theorem t2A {x : Nd} {b off c N : Nat} (hJd : yIA Jd) (hW : W0.heap.size ≤ B) (ht : tb < B) (hR : ∀ k, k < W0.heap.size → R k) (hRt : R tb) (hk : k < N) (hN : N ≤ 4000) (hcap : N ≤ c) (hu : u ≤ 8000) (hl : st.length ≤ 38000) (hvt : vt = .slice (some ⟨b, off, none⟩) N c)
    (hs:x.s.size≤maxLen) (hS:ShapesAt 3 W0) (hb:b < W0.heap.size) (c0:W0.cell? ⟨b,off+k * 4,none⟩=some (.int .i64 x.k)) (c1:W0.cell? ⟨b,off+k * 4+1,none⟩=some (.int .i64 x.n)) (c2:W0.cell? ⟨b,off+k * 4+2,none⟩=some (.int .i64 x.m)) (c3:W0.cell? ⟨b,off+k * 4+3,none⟩=some (.string x.s))
    (J:Nat→Value) (A:World) (hH:NH W0 tb vt B Jc vo (u::st).reverse A)
    (hY:YieldAt Fence.wide (n - 1) Tryz.prog l #[.int .i64 (k:Int),.int .i64 (u:Int)] A fun e A'=>(e = .returned (.bool true)∧Jd vo.ownBlock A'∧Kept R vo.ownBlock A A')∨(e = .returned (.bool false)∧Jx A')) :
    ndRound.wpIn Fence.wide n Tryz.prog (Exit.then (e1A W0 tb vt B Jd (.func (.yield l) #[] #[]) k (((yF x).map (u + ·)).reverse++st)) (g5A Jx)) ⟨aT (.func (.yield l) #[] #[]) tb vo (((k+1:Nat):Int) - 1) J,[]⟩ A:=by
  rw[show(((k+1:Nat):Int) - 1)=(k:Int) by omega];have hrl:(u::st).reverse.length=st.length+1:=by simp
  have hrow:=hH.row;rw[hrl]at hrow;obtain⟨g,gc,hvo,hg,hgB,hgl,hgc,_⟩:=kE hrow (by omega);have ctop:=yD hrow hg (j:=st.length) (u:=.int .i64 (u:Int)) (by simp[bE]);subst hvo;obtain⟨fn,tmps,assign,body,hy,hRd⟩:=hY;have hk0:(0:Int)≤k:=Int.natCast_nonneg _;have hk1:(k:Int) < N:=by omega
  have hl0:(0:Int)≤st.length:=Int.natCast_nonneg _;have hl1:(st.length:Int)≤38000:=by omega
  have hgc':(st.length:Int)+1≤gc:=by omega
  have HH:=Lib.hid hH;have HR:=Lib.hid hrow;have HVT:=Lib.hid hvt;have HY:=Lib.hid hRd;clear hH hrow hvt hrl hRd;unfold ndRound oBA;simp only[Tryz.f161,Option.getD_some,jA,aD];unfold aT
  gi_wp2
  refine⟨fun h=>absurd h (by decide),?_⟩;refine HY.out.mono ?_;rintro e A1 (⟨rfl,hj1,hk1'⟩ | ⟨rfl,hx1⟩)
  · have hH1 : NH W0 tb vt B Jd (.slice (some ⟨g, 0, none⟩) st.length gc) st.reverse A1 := by
      have hr:=kYA HR.out (w':=A1) fun g' e=>hk1'.same g' (by have:=(vB HR.out e).2;omega) (.inr e)
      have hcut:=nN hr (m:=st.length) (by omega);refine⟨hj1,?_,HH.out.low.kept hk1' hR,(hk1'.same tb HH.out.box.lt (.inl hRt)).trans HH.out.box,Nat.le_trans HH.out.big hk1'.size⟩;rw[List.length_reverse];have:bE st.reverse=(bE (u::st).reverse).take (st.length * 1):=by
       rw[List.reverse_cons,Nat.mul_one];unfold bE;rw[List.map_append,List.take_left' (by simp)]
      rw[this];exact hcut
    have eb:=hH1.box.cell 0;have elt:=hH1.box.lt;rw[HVT.out]at eb;rw[← dA hH1.low hb]at c0 c1 c2 c3;have hb1:=Nat.lt_of_lt_of_le hb hH1.low.size;have HB:=Lib.hid (gRA (w0:=A1) x hs (hS.under hH1.low));have HH1:=Lib.hid hH1;clear hj1 hk1' hH1 HY
    gi_wp2
    refine⟨trivial,fun h=>absurd h (by decide),?_⟩;refine(callsIn_wide.2 HB.out).mono ?_;rintro e A2 ⟨vb,rfl,hvb,hU2⟩;have hvb':A2.ownsRow A1.heap.size 3 1 vb (yF x).length (bE (yF x)):=hvb;obtain⟨q,co,rfl,hq1,hq2⟩:=RowArg.of_own hvb';clear hq1 hq2;have hH2:=HH1.out.under hJd hU2;have hne2:(Value.slice q (yF x).length co).ownBlock=none∨(Value.slice q (yF x).length co).ownBlock≠(Value.slice (some ⟨g,0,none⟩) st.length gc).ownBlock:=by
     cases hq:(Value.slice q (yF x).length co).ownBlock with
     | none=>exact .inl rfl
     | some g'=>right;intro e;cases e;have:=(vB hvb' hq).1;have:=(vB HH1.out.row rfl).2;omega
    have HL:=Lib.hid (kTA (k:=(k:Int)) (u:=u) (yf:=.func (.yield l) #[] #[]) (vt:=vt) (vb:=.slice q (yF x).length co) (A0:=A1) (l:=st.reverse) (yF x) hJd hW ht (xCA x) (by omega) gY (by rw[List.length_reverse];omega) (yF x).length);have HH2:=Lib.hid hH2;have HV:=Lib.hid hvb';have HN:=Lib.hid hne2;clear hH2 hvb hvb' hne2 hU2 c0 c1 c2 c3 eb
    gi_wp2
    rename_i K hK;refine wpIn_wide.2 (wp_mono (HL.out _ _ ⟨0,by omega,.slice (some ⟨g,0,none⟩) st.length gc,bB (F:=iL _ tb _ k u _ (yF x).length 0) (by rfl) ⟨by simpa using HH2.out,HV.out,HN.out⟩⟩) ?_);rintro e a' A3 ⟨rfl,vo3,J3,rfl,hH3,_,_⟩;simp only[Exit.inBlock,if_pos,Exit.then];refine hK _ _ ?_;clear hK;have HH3:=Lib.hid hH3;clear hH3;unfold iL
    gi_wp2
    refine⟨vo3,bB (F:=aT _ tb vo3 ((k:Int) - 1)) (by rfl) ?_⟩;have:=HH3.out;rw[List.reverse_append,List.reverse_reverse];exact this
  · gi_wp2
    exact⟨rfl,rfl,hx1⟩
end
attribute [local go_sem] Oper.semAt_some
section
variable {W0 w : World} {tb c n : Nat} {t : List Nd} {p : Option Addr}
def NdI(W0:World)(tb:Nat)(vt:Value)(B:Nat)(J:Option Nat→List (Nat×Nat)→World→Prop)(t:List Nd)(l m:Nat)(a:Act)(A:World):Prop :=
 ∃ pre st,e1A W0 tb vt B (fun b A=>J b pre A) (.func (.yield l) #[] #[]) m st a A∧pre++fF t m st=dH t∧(fF t m st).length=m∧m≤t.length∧(∀ u∈st,u+2 * m≤8000)∧st.length+8 * m≤33000
def NdD(J:Option Nat→List (Nat×Nat)→World→Prop)(Jx:List (Nat×Nat)→World→Prop)(t:List Nd)(e:Exit)(a:Act)(A:World):Prop :=
 a.defers=[]∧((e = .exit 0∧∃ b,J b (dH t) A)∨(e = .ret∧∃ pre,Jx pre A))
theorem e0A(w0:World)(base:Nat)(e:TypeId)(v:Value)(hb:base≤w0.heap.size):(w0.alloc (.cells #[v] e)).ownsRow base e 1 (.slice (some ⟨w0.heap.size,0,none⟩) 1 1) 1 [v] :=
 ⟨by simp,.inr ⟨w0.heap.size,1,#[v],rfl,hb,qA w0 _ _,Nat.le_refl _,by decide,by simp,by simp⟩⟩
theorem rSA {B l : Nat} {W : World} {J : Option Nat → List (Nat × Nat) → World → Prop} {Jx : List (Nat × Nat) → World → Prop} (hn : t.length ≤ 4000) (hcap : t.length ≤ c) (hs : ∀ x ∈ t, x.s.size ≤ maxLen) (hp : RowArg W0 p (aC t)) (hS : ShapesAt 3 W0)
    (hW:W0.heap.size≤B) (ht:tb < B) (hJ:∀ b b' pre A A',J b pre A→IStep b b' A A'→J b' pre A')
    (hY : ∀ b pre x A, J b pre A → pre ++ [x] <+: dH t → YieldAt Fence.wide (n - 1) Tryz.prog l #[.int .i64 (x.1 : Int), .int .i64 (x.2 : Int)] A fun e A' =>
      (e = .returned (.bool true)∧J b (pre++[x]) A'∧Kept (fun k=>k < W0.heap.size∨k=tb) b A A')∨(e = .returned (.bool false)∧Jx (pre++[x]) A'))
    (m:Nat) (a:Act) (A:World) (h0:NdI W0 tb (.slice p t.length c) B J t l m a A) :
    (Code.loop ndRound).wpIn Fence.wide n Tryz.prog (NdD J Jx t) a A:=by
  refine wpIn_wide.2 (wp_loop_ghost (NdI W0 tb (.slice p t.length c) B J t l) m h0 ?_);clear h0;rintro m a A ⟨pre,st,⟨vo,Jn,rfl,hH⟩,hx,hl,hm,hu,hst⟩;refine(wpIn_wide (n:=n)).1 ?_
  cases m with
  | zero =>
    have he:fF t 0 st=[]:=List.eq_nil_of_length_eq_zero hl;rw[he,List.append_nil]at hx;subst hx;have hH':NH W0 tb (.slice p t.length c) B (fun b A=>J b (dH t) A) vo st.reverse A:=hH;have HJ:=Lib.hid hH.j;clear hH hH' hu hst hY hJ;unfold ndRound oBA;simp only[Tryz.f161,Option.getD_some,jA,aD];unfold aT
    gi_wp2
    exact⟨rfl,.inl ⟨rfl,_,HJ.out⟩⟩
  | succ k =>
    cases st with
    | nil=>simp[fF]at hl
    | cons u st =>
      have hk:k < t.length:=by omega
      have hxk:t[k]? = some t[k]:=List.getElem?_eq_getElem hk;rw[sP hxk]at hx hl;obtain⟨b,off,rfl,hb,c0,c1,c2,c3⟩:=hp.node hxk;have hu1:=hu u (List.mem_cons_self ..);rw[List.length_cons]at hst;have hpre:pre++[(k,u)] <+: dH t:=⟨fF t k (((yF t[k]).map (u + ·)).reverse++st),by rw[← hx];simp⟩;refine wpIn_mono (t2A (Jd:=fun b A=>J b (pre++[(k,u)]) A) (Jx:=Jx (pre++[(k,u)])) (R:=fun k=>k < W0.heap.size∨k=tb) (l:=l) (fun b b' A A' h1 h2=>hJ b b' _ A A' h1 h2) hW ht (fun k hk=>Or.inl hk) (Or.inr rfl) hk hn hcap (by omega) (by omega) rfl (hs _ (List.getElem_mem hk)) hS hb c0 c1 c2 c3 Jn A hH (hY _ pre (k,u) A hH.j hpre)) ?_;rintro e a' A' h
      cases e with
      | normal =>
        refine⟨k,by omega,pre++[(k,u)],_,h,by rw[← hx];simp,by simpa using hl,by omega,?_,?_⟩
        · intro v hv; rcases List.mem_append.1 hv with hv | hv
          · rw[List.mem_reverse,List.mem_map]at hv;obtain⟨y,hy,rfl⟩:=hv;have:=gY y hy;omega
          · have:=hu v (List.mem_cons_of_mem _ hv);omega
        · rw[List.length_append,List.length_reverse,List.length_map];have:=xCA t[k];omega
      | _=>exact⟨h.2.1,.inr ⟨h.1,_,h.2.2⟩⟩
theorem dNA(hn:t.length≤4000)(hcap:t.length≤c)(hs:∀ x∈t,x.s.size≤maxLen)(hp:RowArg W0 p (aC t))(hS:ShapesAt 3 W0)(hU:Under W0 w)(hB:BoxAt w tb 30 #[.slice p t.length c])(hlen:(dH t).length=t.length) :
 Iter Fence.wide n Tryz.prog 161 #[.pointer (some ⟨tb,0,none⟩)] (fun x:Nat×Nat=>#[.int .i64 (x.1:Int),.int .i64 (x.2:Int)]) (fun k=>k < W0.heap.size∨k=tb) (dH t) w:=by
 intro l J Jx W hW hJ hY h0;have HL:=Lib.hid (rSA (n:=n) (l:=l) (B:=W.heap.size) (tb:=tb) (W:=W) (c:=c) (p:=p) (t:=t) (W0:=W0) (J:=J) (Jx:=Jx) hn hcap hs hp hS (Nat.le_trans hU.size hW.size) (Nat.lt_of_lt_of_le hB.lt hW.size) hJ hY t.length);have HB:=Lib.hid (hB.under hW);have eb:=HB.out.cell 0;have elt:=HB.out.lt;have HU:=Lib.hid (hU.trans hW);have HJ:=Lib.hid hJ;have H0:=Lib.hid h0;have HLen:=Lib.hid hlen;have hn1:(t.length:Int)≤4000:=by omega
 have hn0:(0:Int)≤t.length:=Int.natCast_nonneg _;clear hJ hY h0 hp hS hs hlen;refine callsIn_of_wp Tryz.func161 rfl trivial ?_ rfl;simp only[Tryz.ntmps161,List.size_toArray,List.length_cons,List.length_nil,Nat.reduceAdd,Nat.reduceSub,Array.replicate_succ,Array.replicate_zero,List.push_toArray,List.append_toArray,List.nil_append,List.cons_append]
 gi_wp2
 have hNH:NH W0 tb (.slice p t.length c) W.heap.size (fun b A=>J b [] A) (.slice (some ⟨W.heap.size,0,none⟩) 1 1) [0].reverse (W.alloc (.cells #[.int .i64 0] 3)) :=
  ⟨HJ.out none _ [] W _ H0.out ⟨rfl,rfl,by simp,fun k hk _=>(aA (Under.refl W) _).low k hk,.inr ⟨W.heap.size,rfl,Nat.le_refl _⟩⟩,
   e0A W _ _ _ (Nat.le_refl _),aA HU.out _,HB.out.alloc _,by simp⟩
 refine wpIn_mono (HL.out _ _ ⟨[],[0],⟨_,bB (F:=aT _ tb _ ((t.length:Int) - 1)) (by rfl) hNH⟩,rfl,HLen.out,Nat.le_refl _,fun u hu=>by rw[List.mem_singleton.1 hu];omega,by simp;omega⟩) ?_;rintro e a' A' ⟨hd,(⟨rfl,b,hb⟩ | ⟨rfl,pre,hpre⟩)⟩
 · simp only[Exit.inBlock,if_pos];exact bodyPost_end (P:=Tryz.prog) (fn:=Tryz.f161) (R:=fun e W'=>(∃ v,e=Ending.returned v)∧((∃ b,J b (dH t) W')∨∃ pre,Jx pre W')) (results_none rfl _ _ _) hd ⟨⟨_,rfl⟩,.inl ⟨b,hb⟩⟩
 · simp only[Exit.inBlock];exact bodyPost_ret (P:=Tryz.prog) (fn:=Tryz.f161) (R:=fun e W'=>(∃ v,e=Ending.returned v)∧((∃ b,J b (dH t) W')∨∃ pre,Jx pre W')) (results_none rfl _ _ _) hd ⟨⟨_,rfl⟩,.inr ⟨pre,hpre⟩⟩
end
attribute [local go_sem] Oper.semAt_some
theorem cSA(p:Option Addr)(n c:Nat)(w:World):Calls Tryz.prog 140 #[.slice p n c] w fun e w'=>e = .returned (.func (.func 161) #[] #[.pointer (some ⟨w.heap.size,0,none⟩)])∧w'=w.alloc (.cells #[.slice p n c] 30):=by
 go_enter Tryz.func140,Tryz.ntmps140;go_wp2;go_ret;exact⟨rfl,rfl⟩
def Told(f:Nat)(g:Int→Int→Int):Prop:=(∀ args w,(callFunc f args).run Tryz.prog w = .ok (.enter f args) w)∧∀(nb:Nat) (s v:Int) (w:World),-1000000≤s→s≤1000000→0≤v→v≤99→BoxAt w nb 3 #[.int .i64 s] →
 Calls Tryz.prog f #[.int .i64 v,.pointer (some ⟨nb,0,none⟩)] w fun e w'=>(∃ v,e = .returned v)∧w'=w.setCell ⟨nb,0,none⟩ (.int .i64 (g s v))
def lK(t:List Nd)(g:Int→Int→Int)(s:Int)(x:Nat×Nat):Int :=
 match t[x.1]? with
 | some y=>if y.k=0∧(x.2:Int)≤y.n then g s (y.n - x.2) else s
 | none=>s
def tell(t:List Nd)(g:Int→Int→Int)(s:Int)(l:List (Nat×Nat)):Int:=l.foldl (lK t g) s
section
variable {W0 w0 : World} {t : List Nd} {p : Option Addr} {c nb f : Nat} {g : Int → Int → Int} {s0 : Int}
theorem vVA (hT : Told f g) (hcap : t.length ≤ c) (hn : t.length ≤ maxLen) (hs : ∀ x ∈ t, x.s.size ≤ maxLen) (hp : RowArg W0 p (aC t)) (hS : ShapesAt 3 W0) (hU : Under W0 w0) (hB : BoxAt w0 nb 3 #[.int .i64 s0]) (hnb : W0.heap.size ≤ nb) (hc : bC t = 0)
    (hbd:∀ pre,pre <+: dH t→-1000000≤tell t g s0 pre∧tell t g s0 pre≤1000000) :
    Calls Tryz.prog 110 #[.slice p t.length c,.func (.func f) #[] #[.pointer (some ⟨nb,0,none⟩)]] w0 fun e w=>e = .returned (.int .i64 0)∧Turned (some nb) w0 w∧BoxAt w nb 3 #[.int .i64 (tell t g s0 (dH t))]:=by
  obtain⟨hlen,hn4⟩:=qTA hc;have hC:=fun(w:World) (h:Under W0 w)=>pY (c:=c) t hn hs (hp.under h) (hS.under h)
  rw[hc]at hC;have hBt:=(qA w0 #[.slice p t.length c] 30).alloc (.cells #[.func (.func f) #[] #[.pointer (some ⟨nb,0,none⟩)]] 174);have hBf:=qA (w0.alloc (.cells #[.slice p t.length c] 30)) #[.func (.func f) #[] #[.pointer (some ⟨nb,0,none⟩)]] 174;have hs1:(w0.alloc (.cells #[.slice p t.length c] 30)).heap.size=w0.heap.size+1:=by simp
  rw[hs1]at hBf;have hU2:=aA (aA (Under.refl w0) (.cells #[.slice p t.length c] 30)) (.cells #[.func (.func f) #[] #[.pointer (some ⟨nb,0,none⟩)]] 174);have HC:=Lib.hid (hC _ (hU.trans hU2));refine(callsIn_wide (n:=10)).1 ?_;refine callsIn_of_wp_marks Tryz.func110 rfl trivial ?_ rfl;simp only[Tryz.ntmps110,List.size_toArray,List.length_cons,List.length_nil,Nat.reduceAdd,Nat.reduceSub,Array.replicate_succ,Array.replicate_zero,List.push_toArray,List.append_toArray,List.nil_append,List.cons_append];have HBT:=Lib.hid hBt;have HBF:=Lib.hid hBf;have HU2:=Lib.hid hU2;clear hBt hBf hU2 hs1 hC
  gi_wp2
  refine⟨trivial,?_⟩;refine(callsIn_wide.2 HC.out).mono ?_;rintro e w1 ⟨rfl,hU1⟩;have hBt1:=HBT.out.under hU1;have hBf1:=HBF.out.under hU1;have et:=hBt1.cell 0;have elt:=hBt1.lt;have HBT1:=Lib.hid hBt1;have HBF1:=Lib.hid hBf1;have HU1:=Lib.hid hU1;have HN:=Lib.hid (cSA p t.length c w1);clear hBt1 hBf1 hU1
  gi_wp2
  refine⟨trivial,?_⟩;refine(callsIn_wide.2 HN.out).mono ?_;rintro e w2 ⟨rfl,rfl⟩;have hB2:=qA w1 #[.slice p t.length c] 30;have HBT2:=Lib.hid (HBT1.out.alloc (.cells #[.slice p t.length c] 30));have HBF2:=Lib.hid (HBF1.out.alloc (.cells #[.slice p t.length c] 30));have hUw:=(HU2.out.trans HU1.out).trans (aA (Under.refl w1) (.cells #[.slice p t.length c] 30));have HUw:=Lib.hid hUw;have HB2:=Lib.hid hB2;have HNb:=Lib.hid (hB.under hUw);have hsz:w1.heap.size < (w1.alloc (.cells #[.slice p t.length c] 30)).heap.size:=by simp
  have hsz1:=HU1.out.size;rw[World.size_alloc,World.size_alloc]at hsz1;have hnlt:=hB.lt;clear hUw hB2 et elt HBT1 HBF1
  gi_wp2
  refine jT rfl (by decide) (gf := 161) (lb := #[.pointer (some ⟨w1.heap.size, 0, none⟩)]) rfl trivial (enters_of Tryz.func161 (by kernel_rfl) rfl)
    (dNA (n := 9) (W0 := W0) (w := w1.alloc (.cells #[.slice p t.length c] 30)) hn4 hcap hs hp hS (hU.trans HUw.out) HB2.out hlen) (Under.refl _) (fun _ => rfl) (fun k hk => by
      rcases hk with hk | rfl
      · exact Nat.lt_of_lt_of_le hk (hU.trans HUw.out).size
      · exact hsz)
    (fun b pre A=>Turned (some nb) (w1.alloc (.cells #[.slice p t.length c] 30)) A∧BoxAt A nb 3 #[.int .i64 (tell t g s0 pre)])
    (fun _ _ _=>False)
    ?hI ?hIo (fun _ _ _ _ _ _ h _ _ _=>h) ⟨Turned.refl _ _,HNb.out⟩ ?a1 ?assign ?body ?done (fun _ _ _ _ _ h _=>h.elim)
  case hI =>
    rintro b b' pre A A' ⟨h1,h2⟩ hs hsz2 hb;have hne:some nb≠b:=fun e=>by have:=hb nb e.symm;have:=HUw.out.size;simp at *;omega
    exact⟨⟨hs.os.trans h1.os,hs.output.trans h1.output,Nat.le_trans h1.size hs.size,fun k hk hr=>(hs.block k (Nat.lt_of_lt_of_le hk h1.size) fun e=>by have:=hb k e.symm;omega).trans (h1.block k hk hr)⟩,(hs.block nb h2.lt hne).trans h2⟩
  case hIo =>
    rintro b pre A l o o' ⟨h1,h2⟩ hl ho hc;have hne:l≠nb:=fun e=>by subst e;have:=h2;unfold BoxAt at this;rw[this]at ho;cases ho;cases hc
    exact⟨⟨h1.os,h1.output,by simpa using h1.size,fun k hk hr=>(World.putObj_heap_other (by omega)).trans (h1.block k hk hr)⟩,(World.putObj_heap_other (fun e=>hne e.symm)).trans h2⟩
  case assign =>
    intro l x W K hK
    gi_wp2
    exact hK
  case body =>
    rintro l b pre ⟨at_,under⟩ A hsz3 hb ⟨hT1,hBn⟩ hpre;have hUA:=hT1.under (hU.trans HUw.out) hnb;have hmem:(at_,under)∈dH t:=hpre.subset (by simp);have hat:=ePA t t.length [0] _ hmem;simp only at hat;have hxk:t[at_]? = some t[at_]:=List.getElem?_eq_getElem hat;have hright:=xZ hc _ (List.getElem_mem hat);obtain⟨bb,off,hpe,hbb,c0,c1,c2,c3⟩:=hp.node hxk;rw[← dA hUA hbb]at c0 c1 c2 c3;have hbbA:=Nat.lt_of_lt_of_le hbb hUA.size;have hbd1:=hbd pre ⟨_,by have:=hpre.choose_spec;rw[List.append_assoc]at this;exact this⟩;have htell:tell t g s0 (pre++[(at_,under)])=lK t g (tell t g s0 pre) (at_,under):=by unfold tell;rw[List.foldl_append];rfl
    have hone:lK t g (tell t g s0 pre) (at_,under)=if t[at_].k=0∧(under:Int)≤t[at_].n then g (tell t g s0 pre) (t[at_].n - under) else tell t g s0 pre:=by
     unfold lK;simp only[hxk]
    rw[hone]at htell;generalize hx:t[at_]=x at *;have hBT3:=HBT2.out.turned hT1 (by simp;omega);have hBF3:=HBF2.out.turned hT1 (by simp;omega);have et:=hBT3.cell 0;have ef:=hBF3.cell 0;have elt:=hBT3.lt;have elf:=hBF3.lt;have enb:=hBn.lt;have HT1:=Lib.hid hT1;have HBn:=Lib.hid hBn;have HTl:=Lib.hid htell;have HP:=Lib.hid hpe;have hat':(at_:Int) < t.length:=by omega
    have hat0:(0:Int)≤at_:=Int.natCast_nonneg _;have hn4':(t.length:Int)≤4000:=by omega
    subst hpe;have HBN2:=Lib.hid (hBn.alloc (.cells #[.int .i64 x.k,.int .i64 x.n,.int .i64 x.m,.string x.s] 112));clear hBT3 hBF3 hT1 hBn htell hone hxk hx hpre hmem;by_cases h0:x.k=0
    · obtain ⟨hv0, hv1⟩ := vP hright h0; have h0' : (x.k == 0) = true := by simpa using h0
      by_cases hle:(under:Int)≤x.n
      · have hu0 : (0 : Int) ≤ under := Int.natCast_nonneg _; have hen := hT.1; have HTo := Lib.hid (hT.2 nb (tell t g s0 pre) (x.n - under) (A.alloc (.cells #[.int .i64 x.k, .int .i64 x.n, .int .i64 x.m, .string x.s] 112)) hbd1.1 hbd1.2 (by omega) (by omega) HBN2.out); have hif : (if x.k = 0 ∧ (under : Int) ≤ x.n then g (tell t g s0 pre) (x.n - under) else tell t g s0 pre) = g (tell t g s0 pre) (x.n - under) := if_pos ⟨h0, hle⟩; have HIf := Lib.hid hif; clear hif h0 hbd1
        gi_wp2
        refine⟨trivial,?_⟩;refine(CallsIn.inRound l (callsIn_wide.2 HTo.out)).mono ?_;rintro e A2 ⟨⟨v,rfl⟩,hA2⟩;have hk2:KeepsOthers A A2:=by rw[hA2];exact(KeepsOthers.alloc _ _).trans (KeepsOthers.setCell _ _ _)
        have ht2:Turned (some nb) A A2:=by rw[hA2];exact(Turned.of_under (aA (Under.refl _) _)).trans (Turned.set _ _ _ _)
        have hb2:BoxAt A2 nb 3 #[.int .i64 (g (tell t g s0 pre) (x.n - under))]:=by rw[hA2];exact HBN2.out.set _ _
        have HK2:=Lib.hid hk2;have HT2:=Lib.hid ht2;have HB2':=Lib.hid hb2;clear hA2 hk2 ht2 hb2
        gi_wp2
        refine⟨HK2.out.from _,⟨HT2.out.os,HT2.out.output,HT2.out.size,fun k hk hr=>HT2.out.block k hk fun e=>?_⟩,HT1.out.trans HT2.out,?_⟩
        · cases e; rcases hr with (hr | hr) | hr
          · omega
          · have:=HU1.out.size;simp at *;omega
          · have:=hb nb hr;simp at *;omega
        · rw[HTl.out,HIf.out];exact HB2'.out
      · have hif : (if x.k = 0 ∧ (under : Int) ≤ x.n then g (tell t g s0 pre) (x.n - under) else tell t g s0 pre) = tell t g s0 pre := if_neg fun h => hle h.2
        have HIf:=Lib.hid hif;have hlt:x.n < (under:Int):=by omega
        clear hif h0 hle hbd1
        gi_wp2
        refine⟨(KeepsOthers.alloc _ _).from _,Kept.of_under (aA (Under.refl _) _),HT1.out.trans (Turned.of_under (aA (Under.refl _) _)),?_⟩;rw[HTl.out,HIf.out];exact HBN2.out
    · have h0' : (x.k == 0) = false := by simpa using h0
      have hif:(if x.k=0∧(under:Int)≤x.n then g (tell t g s0 pre) (x.n - under) else tell t g s0 pre)=tell t g s0 pre:=if_neg fun h=>h0 h.1
      have HIf:=Lib.hid hif;clear hif h0 hbd1
      gi_wp2
      refine⟨(KeepsOthers.alloc _ _).from _,Kept.of_under (aA (Under.refl _) _),HT1.out.trans (Turned.of_under (aA (Under.refl _) _)),?_⟩;rw[HTl.out,HIf.out];exact HBN2.out
  case done =>
    rintro D b W hD ⟨hT1,hBn⟩ hK
    gi_wp2
    refine⟨by simp,.inl ⟨_,_,rfl,run_takeDeferred hK,?_⟩⟩;refine⟨_,results_tmp rfl _ _ _,rfl,?_,?_⟩
    · have h0:=(Turned.of_under (r:=some nb) HUw.out).trans hT1;exact⟨h0.os,h0.output,by simpa using h0.size,fun k hk hr=>(World.putObj_heap_other (by have:=HUw.out.size;omega)).trans (h0.block k hk hr)⟩
    · exact(World.putObj_heap_other (by have:=HUw.out.size;omega)).trans hBn
end
end Go.Proofs.YtggjbblgoddnjaaGreatDoor
