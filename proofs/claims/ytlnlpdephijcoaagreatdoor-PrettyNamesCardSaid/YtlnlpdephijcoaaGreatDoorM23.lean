/- Part 23 of what the proof rests on. -/
import Derived.Laws.ResultCell
import Derived.Test.YtlnlpdephijcoaaGreatDoorM01
import Derived.Test.YtlnlpdephijcoaaGreatDoorM16
import Derived.Test.YtlnlpdephijcoaaGreatDoorM22
set_option linter.unusedSimpArgs false
set_option linter.unusedVariables false
set_option maxRecDepth 100000
set_option maxHeartbeats 4000000
namespace Go.Proofs.YtlnlpdephijcoaaGreatDoor
open Go.Conc Go.Lx Go.RowKit
def zH(l:List Nat):List Value:=l.map fun(n:Nat)=>.int .i64 (n:Int)
theorem iJ(l r:List Nat):zH (l++r)=zH l++zH r:=List.map_append
theorem lN{l:List Nat}{k n:Nat}(h:l[k]? = some n):(zH l)[k]? = some (.int .i64 (n:Int)):=by simp[zH,h]
theorem Tryz.info3:(Tryz.prog.info? 3).map (fun i=>(i.zero,i.size,i.bytes))=some (some (.int .i64 0),1,8):=by kernel_rfl
noncomputable def sHA:Code:=Tryz.f51.body.getD .skip
noncomputable def lEA:Code:=xA (fA (fA sHA))
noncomputable def bgRound:Code:=oC (oC (fA lEA))
def rF(l:Value)(n k:Nat)(va:Value)(J:Nat→Value):Array Value :=
 #[l, J 1, J 2, J 3, va, J 5, J 6, J 7, l, .int .i64 (n : Int), .int .i64 (k : Int), J 11, J 12, J 13, J 14, J 15, J 16, J 17, J 18, J 19, J 20, J 21, J 22, J 23, J 24, J 25, J 26, J 27, J 28, J 29, J 30, J 31, J 32, J 33, J 34, J 35, J 36, J 37, J 38, J 39, J 40, J 41, J 42, J 43, J 44, J 45, J 46, J 47, J 48, J 49, J 50, J 51, J 52, J 53, J 54, J 55, J 56, J 57, J 58, J 59, J 60, J 61, J 62]
def aNA(v:Value)(b:Bool)(J:Nat→Value):Array Value:=#[J 0,J 1,v,.bool b,J 4,J 5,J 6,J 7,J 8,J 9,J 10,J 11,J 12,J 13,J 14,J 15,J 16,J 17,J 18,J 19,J 20,J 21,J 22,J 23,J 24,J 25,J 26,J 27,J 28,J 29,J 30,J 31,J 32,J 33,J 34,J 35,J 36,J 37,J 38,J 39,J 40,J 41,J 42,J 43,J 44,J 45,J 46,J 47,J 48,J 49,J 50,J 51,J 52,J 53,J 54,J 55,J 56,J 57,J 58,J 59,J 60,J 61,J 62]
def nCB(w0:World)(l:Value)(n k:Nat)(st:List Nat)(a':Act)(w':World):Prop :=
 ∃ va J,a'=⟨rF l n k va J,[]⟩∧w'.ownsRow w0.heap.size 3 1 va st.length (zH st)∧Under w0 w'
def lCB(w0:World)(l:Value)(n k s:Nat)(xs:List Value)(a':Act)(w':World):Prop :=
 ∃ va J,a'=⟨rF l n k va J,[]⟩∧w'.ownsRow w0.heap.size 3 1 va s xs∧Under w0 w'
def yCB(w0:World)(ex:Exit)(a':Act)(w':World):Prop:=ex = .ret∧∃ J,a'=⟨aNA (.slice none 0 0) false J,[]⟩∧Under w0 w'
def cDB(l:Value)(n:Nat)(va:Value)(w:World)(e:Exit)(a':Act)(w':World):Prop:=e = .exit 0∧∃ J,a'=⟨rF l n n va J,[]⟩∧w'=w
section
variable {w0 : World} {b off n cap k : Nat} {va : Value} {st : List Nat} {x : Sx}
theorem j8A(l:Value)(J:Nat→Value)(w:World) :
 bgRound.wp Tryz.prog (Exit.then (fun _ _=>False) (cDB l n va w)) ⟨rF l n n va J,[]⟩ w:=by
 unfold bgRound lEA sHA;simp only[Tryz.f51,Option.getD_some,xA,fA,oC];unfold rF;go_wp2;exact⟨rfl,rA (F:=rF l n n va) (by rfl) rfl⟩
theorem yBB (hx : ¬ jGA x st.length) (hk : k < n) (hn : n ≤ 1000000) (hsl : st.length ≤ 1000000) (J : Nat → Value) (w : World) (hP : w.ownsRow w0.heap.size 3 1 va st.length (zH st)) (hU : Under w0 w)
    (hb0:b < w0.heap.size) (c0:w0.cell? ⟨b,off+k * 3,none⟩=some (.int .i64 x.many)) (c1:w0.cell? ⟨b,off+k * 3+1,none⟩=some (.int .i64 x.pos)) (c2:w0.cell? ⟨b,off+k * 3+2,none⟩=some (.string x.word)) :
    bgRound.wp Tryz.prog (Exit.then (fun _ _=>False) (yCB w0)) ⟨rF (.slice (some ⟨b,off,none⟩) n cap) n k va J,[]⟩ w:=by
  have hb:=Nat.lt_of_lt_of_le hb0 hU.size;rw[← jA hU hb0]at c0 c1 c2;have hin:(k:Int) < n:=by omega
  have hk0:(0:Int)≤k:=Int.natCast_nonneg _;obtain⟨p,c,rfl⟩:∃ p c,va = .slice p st.length c:=by
   rcases hP.2 with⟨rfl,h0⟩ | ⟨g,cap,cur,rfl,_⟩
   · exact⟨none,0,by rw[h0]⟩
   · exact⟨_,_,rfl⟩
  have HU:=Lib.hid hU;clear hU hP;obtain⟨m,q,t⟩:=x;simp only[jGA]at hx c0 c1 c2;unfold bgRound lEA sHA;simp only[Tryz.f51,Option.getD_some,xA,fA,oC];unfold rF;by_cases hA:m < 0
  · clear hx;go_wp2;exact⟨rfl,rA (F:=aNA _ _) (by rfl) (aA HU.out _)⟩
  by_cases hD:(st.length:Int) < m
  · have hm0 : (m != 0) = true := by simp; omega
    by_cases hB:t.size=0
    · have e0 : t = ⟨#[]⟩ := by
        apply ByteArray.ext;exact Array.eq_empty_of_size_eq_zero hB
      subst e0;clear hx;go_wp2;exact⟨rfl,rA (F:=aNA _ _) (by rfl) (aA HU.out _)⟩
    · obtain⟨e1,e2⟩:=zO hB;clear hx hB;go_wp2;exact⟨rfl,rA (F:=aNA _ _) (by rfl) (aA HU.out _)⟩
  · have hB : t.size ≠ 0 ∧ m ≠ 0 := by
      by_cases h1:t.size=0
      · exact absurd ⟨by omega,fun h=>absurd h1 h,by omega⟩ hx
      · by_cases h2 : m = 0
        · exact absurd ⟨by omega,fun _=>h2,by omega⟩ hx
        · exact⟨h1,h2⟩
    have hm0:(m != 0)=true:=by simp;omega
    obtain⟨e1,e2⟩:=zO hB.1;clear hx hB;go_wp2;exact⟨rfl,rA (F:=aNA _ _) (by rfl) (aA HU.out _)⟩
theorem l7A (hx : x.many = 0) (hk : k < n) (hn : n ≤ 1000000) (hsl : st.length ≤ 1000000) (J : Nat → Value) (w : World) (hP : w.ownsRow w0.heap.size 3 1 va st.length (zH st)) (hU : Under w0 w)
    (hb0:b < w0.heap.size) (c0:w0.cell? ⟨b,off+k * 3,none⟩=some (.int .i64 x.many)) (c1:w0.cell? ⟨b,off+k * 3+1,none⟩=some (.int .i64 x.pos)) (c2:w0.cell? ⟨b,off+k * 3+2,none⟩=some (.string x.word)) :
    bgRound.wp Tryz.prog (Exit.then (nCB w0 (.slice (some ⟨b,off,none⟩) n cap) n (k+1) (st++[k])) (fun _ _ _=>False)) ⟨rF (.slice (some ⟨b,off,none⟩) n cap) n k va J,[]⟩ w:=by
  have hb:=Nat.lt_of_lt_of_le hb0 hU.size;rw[← jA hU hb0]at c0 c1 c2;obtain⟨i0,hi,hz0,hz1,hz2⟩:=info_parts Tryz.info3;have hin:(k:Int) < n:=by omega
  have hk0:(0:Int)≤k:=Int.natCast_nonneg _;have hmx:st.length+1≤maxLen:=by simp only[maxLen];omega
  have hby:(st.length+1) * 8≤140737488355328:=by omega
  obtain⟨m,q,t⟩:=x;simp only at hx c0 c1 c2;subst hx;unfold bgRound lEA sHA;simp only[Tryz.f51,Option.getD_some,xA,fA,oC];unfold rF;have HU:=Lib.hid hU;clear hU;have both:t=⟨#[]⟩∨(¬ t.toList=[]∧t.toList.isEmpty=false):=by
   by_cases hB:t.size=0
   · exact .inl (ByteArray.ext (Array.eq_empty_of_size_eq_zero hB))
   · exact .inr (zO hB)
  have hm0:((0:Int) != 0)=false:=by decide
  rcases hP.2 with⟨rfl,h0⟩ | ⟨g,c,cur,rfl,_,_,hc,_⟩
  · have e := List.length_eq_zero_iff.1 h0; subst e; have HP := Lib.hid hP; clear hP h0; rcases both with rfl | ⟨e1, e2⟩
    · skip
      go_wp2_with (at_builtin;refine wpList_append_own_at _ rfl _ _ 105 rfl w0.heap.size 3 i0 _ 1 8 Tryz.underlying105 hi hz0 hz1 hz2 rfl (by decide) _ _ _ rfl ((HP.out.alloc _).alloc _) ⟨w.heap.size+1,0,none⟩ 1 1 [.int .i64 (k:Int)] rfl rfl ?c1 ?c2 hmx hby ?c5 ?_)
      case c1 =>
        intro j u hj
        match j,hj with
        | 0,hj=>cases hj;simp[Addr.add]
      case c2=>intro u hu;simp at hu;rcases hu with rfl;rfl
      case c5=>have:=HU.out.size;simp;omega
      intro v' w' hown hgrow hnil hat;have HW:=Lib.hid hown;have HU2:=Lib.hid (eB (aA (aA HU.out _) _) hgrow fun g e=>(iC HP.out e).1);clear hown hgrow hnil hat;go_wp2;exact⟨v',rA (F:=rF _ n (k+1) v') (by rfl) ⟨by rw[iJ,List.length_append];exact HW.out,HU2.out⟩⟩
    · skip
      go_wp2_with (at_builtin;refine wpList_append_own_at _ rfl _ _ 105 rfl w0.heap.size 3 i0 _ 1 8 Tryz.underlying105 hi hz0 hz1 hz2 rfl (by decide) _ _ _ rfl ((HP.out.alloc _).alloc _) ⟨w.heap.size+1,0,none⟩ 1 1 [.int .i64 (k:Int)] rfl rfl ?c1 ?c2 hmx hby ?c5 ?_)
      case c1 =>
        intro j u hj
        match j,hj with
        | 0,hj=>cases hj;simp[Addr.add]
      case c2=>intro u hu;simp at hu;rcases hu with rfl;rfl
      case c5=>have:=HU.out.size;simp;omega
      intro v' w' hown hgrow hnil hat;have HW:=Lib.hid hown;have HU2:=Lib.hid (eB (aA (aA HU.out _) _) hgrow fun g e=>(iC HP.out e).1);clear hown hgrow hnil hat;go_wp2;exact⟨v',rA (F:=rF _ n (k+1) v') (by rfl) ⟨by rw[iJ,List.length_append];exact HW.out,HU2.out⟩⟩
  · have hc' : (st.length : Int) ≤ c := by omega
    have HP:=Lib.hid hP;clear hP;rcases both with rfl | ⟨e1,e2⟩
    · skip
      go_wp2_with (at_builtin;refine wpList_append_own_at _ rfl _ _ 105 rfl w0.heap.size 3 i0 _ 1 8 Tryz.underlying105 hi hz0 hz1 hz2 rfl (by decide) _ _ _ rfl ((HP.out.alloc _).alloc _) ⟨w.heap.size+1,0,none⟩ 1 1 [.int .i64 (k:Int)] rfl rfl ?c1 ?c2 hmx hby ?c5 ?_)
      case c1 =>
        intro j u hj
        match j,hj with
        | 0,hj=>cases hj;simp[Addr.add]
      case c2=>intro u hu;simp at hu;rcases hu with rfl;rfl
      case c5=>have:=HU.out.size;simp;omega
      intro v' w' hown hgrow hnil hat;have HW:=Lib.hid hown;have HU2:=Lib.hid (eB (aA (aA HU.out _) _) hgrow fun g e=>(iC HP.out e).1);clear hown hgrow hnil hat;go_wp2;exact⟨v',rA (F:=rF _ n (k+1) v') (by rfl) ⟨by rw[iJ,List.length_append];exact HW.out,HU2.out⟩⟩
    · skip
      go_wp2_with (at_builtin;refine wpList_append_own_at _ rfl _ _ 105 rfl w0.heap.size 3 i0 _ 1 8 Tryz.underlying105 hi hz0 hz1 hz2 rfl (by decide) _ _ _ rfl ((HP.out.alloc _).alloc _) ⟨w.heap.size+1,0,none⟩ 1 1 [.int .i64 (k:Int)] rfl rfl ?c1 ?c2 hmx hby ?c5 ?_)
      case c1 =>
        intro j u hj
        match j,hj with
        | 0,hj=>cases hj;simp[Addr.add]
      case c2=>intro u hu;simp at hu;rcases hu with rfl;rfl
      case c5=>have:=HU.out.size;simp;omega
      intro v' w' hown hgrow hnil hat;have HW:=Lib.hid hown;have HU2:=Lib.hid (eB (aA (aA HU.out _) _) hgrow fun g e=>(iC HP.out e).1);clear hown hgrow hnil hat;go_wp2;exact⟨v',rA (F:=rF _ n (k+1) v') (by rfl) ⟨by rw[iJ,List.length_append];exact HW.out,HU2.out⟩⟩
theorem m6A {s m h : Nat} {xs : List Value} (hx : x.many = (m : Int)) (hm : 0 < m) (hxw : x.word = ⟨#[]⟩) (hk : k < n) (hn : n ≤ 1000000) (hsl : s + m ≤ 1000000) (J : Nat → Value) (w : World) (hP : w.ownsRow w0.heap.size 3 1 va (s + m) xs) (hh : xs[s]? = some (.int .i64 (h : Int))) (hU : Under w0 w)
    (hb0:b < w0.heap.size) (c0:w0.cell? ⟨b,off+k * 3,none⟩=some (.int .i64 x.many)) (c1:w0.cell? ⟨b,off+k * 3+1,none⟩=some (.int .i64 x.pos)) (c2:w0.cell? ⟨b,off+k * 3+2,none⟩=some (.string x.word)) :
    bgRound.wp Tryz.prog (Exit.then (lCB w0 (.slice (some ⟨b,off,none⟩) n cap) n (k+1) (s+1) (xs.take s++[.int .i64 (h:Int)])) (fun _ _ _=>False)) ⟨rF (.slice (some ⟨b,off,none⟩) n cap) n k va J,[]⟩ w:=by
  have hb:=Nat.lt_of_lt_of_le hb0 hU.size;rw[← jA hU hb0]at c0 c1 c2;obtain⟨i0,hi,hz0,hz1,hz2⟩:=info_parts Tryz.info3;obtain⟨g,c,rfl,hg,hgb,hgl,hgc,_⟩:=wC hP (by omega);have hcell:=lC hP hg hh;have hin:(k:Int) < n:=by omega
  have hk0:(0:Int)≤k:=Int.natCast_nonneg _;have hmx:s+1≤maxLen:=by simp only[maxLen];omega
  have hby:(s+1) * 8≤140737488355328:=by omega
  obtain⟨mm,q,t⟩:=x;simp only at hx hxw c0 c1 c2;subst hx hxw;unfold bgRound lEA sHA;simp only[Tryz.f51,Option.getD_some,xA,fA,oC];unfold rF;have HU:=Lib.hid hU;have HP:=Lib.hid hP;clear hU hP;have m0:(0:Int) < (m:Int):=by omega
  have m1:¬((m:Int) < 0):=by omega
  have m2:¬((s:Int)+(m:Int) < (m:Int)):=by omega
  have m3:(s:Int)≤(c:Int):=by omega
  have m4:(s:Int) < (s:Int)+(m:Int):=by omega
  have m5:(s:Int)+(m:Int)≤1000000:=by omega
  have m6:(0:Int)≤(s:Int):=by omega
  go_wp2_with (at_builtin;refine wpList_append_own_at _ rfl _ _ 105 rfl w0.heap.size 3 i0 _ 1 8 Tryz.underlying105 hi hz0 hz1 hz2 rfl (by decide) _ _ _ rfl (((nO HP.out (m:=s) (by omega)).alloc _).alloc _) ⟨w.heap.size+1,0,none⟩ 1 1 [.int .i64 (h:Int)] rfl rfl ?c1 ?c2 hmx hby ?c5 ?_)
  case c2=>rfl
  case c5=>have:=HU.out.size;omega
  intro v' w' hown hgrow hnil hat;have HW:=Lib.hid hown;have HU2:=Lib.hid (eB (aA (aA HU.out _) _) hgrow fun g e=>(iC (nO HP.out (m:=s) (by omega)) e).1);clear hown hgrow hnil hat;go_wp2;exact⟨v',rA (F:=rF _ n (k+1) v') (by rfl) ⟨HW.out,HU2.out⟩⟩
structure BInv (w0:World) (row:List Sx) (R:Option (List Nat)) (m k:Nat) (va:Value) (st:List Nat) (w:World):Prop where
 cnt:m+k=row.length
 own:w.ownsRow w0.heap.size 3 1 va st.length (zH st)
 low:Under w0 w
 go:kC (row.drop k) k st=R
 stL:st.length≤k
def BI(w0:World)(l:Value)(row:List Sx)(R:Option (List Nat))(m:Nat)(a:Act)(w:World):Prop :=
 ∃ k va st J,a=⟨rF l row.length k va J,[]⟩∧BInv w0 row R m k va st w
def tDB(w0:World)(l:Value)(row:List Sx)(R:Option (List Nat))(e:Exit)(a:Act)(w:World):Prop :=
 (e = .exit 0∧∃ va st J,a=⟨rF l row.length row.length va J,[]⟩∧BInv w0 row R 0 row.length va st w)∨(R=none∧yCB w0 e a w)
theorem gWA (row : List Sx) {p : Option Addr} (hn : row.length ≤ 1000000) (hp : SxArg w0 p row) (R : Option (List Nat)) (m : Nat) (a : Act) (w : World)
    (h0:BI w0 (.slice p row.length cap) row R m a w) :
    (Code.loop bgRound).wp Tryz.prog (tDB w0 (.slice p row.length cap) row R) a w:=by
  refine wp_loop_ghost _ m h0 ?_;clear h0;rintro m a w ⟨k,va,st,J,rfl,hi⟩;have hmk:=hi.cnt;by_cases hkn:k=row.length
  · subst hkn; refine wp_mono (j8A _ J w) ?_; rintro e a' w' h
    cases e with
    | normal=>exact h.elim
    | _ =>
      obtain⟨h1,J',rfl,rfl⟩:=h;have:m=0:=by omega
      subst this;exact .inl ⟨h1,va,st,J',rfl,hi⟩
  have hlt:k < row.length:=by omega
  obtain⟨b,off,rfl,hb0,ht⟩:=hp (fun e=>by rw[e]at hlt;exact absurd hlt (Nat.not_lt_zero _));obtain⟨x,hx0⟩:∃ x,row[k]? = some x:=⟨_,List.getElem?_eq_getElem hlt⟩;have hd:row.drop k=x::row.drop (k+1):=by
   rw[List.drop_eq_getElem_cons hlt];rw[List.getElem?_eq_getElem hlt]at hx0
   cases hx0;rfl
  have hgo:=hi.go;rw[hd]at hgo;simp only[kC]at hgo;obtain⟨c0,c1,c2⟩:=ht k x hx0;have hst:=hi.stL;by_cases hg:jGA x st.length
  · rw [if_pos hg] at hgo; obtain ⟨g1, g2, g3⟩ := hg; by_cases hm : x.many = 0
    · refine wp_mono (l7A (cap := cap) hm hlt hn (by omega) J w hi.own hi.low hb0 c0 c1 c2) ?_; rintro e a' w' h
      cases e with
      | normal =>
        obtain⟨va',J',rfl,ho,hU⟩:=h;refine⟨m - 1,by omega,k+1,va',st++[k],J',rfl,by omega,ho,hU,?_,by simp;omega⟩;rw[← hgo];congr 1
        unfold uN;simp[hm]
      | _=>exact h.elim
    · have hw : x.word = ⟨#[]⟩ := by
        apply ByteArray.ext;apply Array.eq_empty_of_size_eq_zero;exact Decidable.byContradiction fun h=>hm (g2 h)
      obtain⟨mm,hmm⟩:∃ mm:Nat,x.many=mm:=⟨x.many.toNat,by omega⟩;obtain⟨s,hs⟩:∃ s,st.length=s+mm:=⟨st.length - mm,by omega⟩;have hsl:s < st.length:=by omega
      have own:=hi.own;rw[hs]at own;refine wp_mono (m6A (cap:=cap) (s:=s) (m:=mm) (h:=st[s]) hmm (by omega) hw hlt hn (by omega) J w own (lN (List.getElem?_eq_getElem hsl)) hi.low hb0 c0 c1 c2) ?_;rintro e a' w' h
      cases e with
      | normal =>
        obtain⟨va',J',rfl,ho,hU⟩:=h;have e1:uN x k st=st.take s++[st[s]]:=by
         unfold uN;rw[hmm,Int.toNat_natCast,hs,Nat.add_sub_cancel];congr 2
         rw[List.drop_eq_getElem_cons hsl];rfl
        have e2:(uN x k st).length=s+1:=by rw[e1,List.length_append,List.length_take];simp;omega
        refine⟨m - 1,by omega,k+1,va',uN x k st,J',rfl,by omega,?_,hU,hgo,by omega⟩;rw[e2,e1,iJ];unfold zH at ho ⊢;rw[List.map_take];exact ho
      | _=>exact h.elim
  · rw [if_neg hg] at hgo; refine wp_mono (yBB (cap := cap) hg hlt hn (by omega) J w hi.own hi.low hb0 c0 c1 c2) ?_; rintro e a' w' h
    cases e with
    | normal=>exact h.elim
    | _=>exact .inr ⟨hgo.symm,h⟩
def kCB(w0:World)(n:Nat)(R:Option (List Nat))(e:Ending)(w':World):Prop :=
 Under w0 w'∧match R with
  | some st=>∃ va,e = .returned (.tuple #[va,.bool true])∧w'.ownsRow w0.heap.size 3 1 va (st.length+1) (zH (st++[n]))
  | none=>e = .returned (.tuple #[.slice none 0 0,.bool false])
theorem gY(row:List Sx){p:Option Addr}(hn:row.length≤1000000)(hp:SxArg w0 p row) :
 Calls Tryz.prog 51 #[.slice p row.length cap] w0 (kCB w0 row.length (kC row 0 [])):=by
 have HL:=Lib.hid (fun m a w h=>gWA (w0:=w0) (cap:=cap) row hn hp (kC row 0 []) m a w h);generalize hR:kC row 0 []=R at *;have HR:=Lib.hid hR;obtain⟨i0,hi,hz0,hz1,hz2⟩:=info_parts Tryz.info3;clear hR hp;go_enter Tryz.func51,Tryz.ntmps51;go_wp2;rename_i K hK;refine wp_mono (HL.out row.length _ _ ⟨0,.slice none 0 0,[],_,zC (F:=rF _ _ 0 _) (by rfl),⟨rfl,jLA _ _ _ _,⟨rfl,rfl,Nat.le_refl _,fun _ _=>rfl⟩,HR.out,Nat.le_refl _⟩⟩) ?_;rintro e a' w' (⟨rfl,va,st,J,rfl,hv⟩ | ⟨rfl,rfl,J,rfl,hu⟩)
 · simp only [Exit.inBlock, if_pos, Exit.then]; refine hK _ _ ?_; have hgo := hv.go; rw [List.drop_length] at hgo; have hst := hv.stL; have hmx : st.length + 1 ≤ maxLen := by simp only [maxLen]; omega
   have hby:(st.length+1) * 8≤140737488355328:=by omega
   have HI:=Lib.hid hv;have HG:=Lib.hid hgo;have hws:=hv.low.size;clear hv hgo;unfold rF;go_wp2_with (at_builtin;refine wpList_append_own_at _ rfl _ _ 105 rfl w0.heap.size 3 i0 _ 1 8 Tryz.underlying105 hi hz0 hz1 hz2 rfl (by decide) _ _ _ rfl (HI.out.own.alloc _) ⟨w'.heap.size,0,none⟩ 1 1 [.int .i64 (row.length:Int)] rfl rfl ?c1 ?c2 hmx hby ?c5 ?_)
   case c1 =>
     intro j u hj
     match j,hj with
     | 0,hj=>cases hj;simp[Addr.add]
   case c2=>intro u hu;simp at hu;rcases hu with rfl;rfl
   case c5=>simp;omega
   intro v' w1 hown hgrow hnil hat;have HW:=Lib.hid hown;have HU2:=Lib.hid (eB (aA HI.out.low _) hgrow fun g e=>(iC HI.out.own e).1);clear hown hgrow hnil hat;go_wp2;go_ret2;obtain rfl:some st=R:=HG.out;exact⟨HU2.out,v',rfl,by rw[iJ];exact HW.out⟩
 · simp only[Exit.inBlock,Exit.then];go_ret2;exact⟨hu,rfl⟩
end
end Go.Proofs.YtlnlpdephijcoaaGreatDoor
namespace Go.Proofs.YtlnlpdephijcoaaGreatDoor
open Go.Lx Go.RowKit
def sxV(x:Sx):Value:=.agg #[.int .i64 x.many,.int .i64 x.pos,.string x.word]
section
variable {w0 : World}
theorem fJ(T:ST){q:Option Addr}{cap:Nat}(hn:(jB T).length≤1000000)(hq:SxArg w0 q (jB T)):Calls Tryz.prog 30 #[.slice q (jB T).length cap] w0 fun e w=>e = .returned (sxV T.last)∧Under w0 w:=by
 obtain⟨init,hi⟩:=gK T;obtain⟨b,off,rfl,hb,ht⟩:=hq (by rw[hi];simp);obtain⟨c0,c1,c2⟩:=ht init.length T.last (by rw[hi];simp);have hl:(jB T).length=init.length+1:=by rw[hi];simp
 rw[hl]at hn ⊢;generalize T.last=x at *;generalize init.length=m at *;have hmi:((m:Int)+1 - 1)=(m:Int):=by omega
 have hm1:(m:Int)≤1000000:=by omega
 have hm0:(0:Int)≤(m:Int):=by omega
 clear hi ht hl hn;go_enter Tryz.func30,Tryz.ntmps30;go_wp2;refine bodyPost_ret (v:=sxV x) ?_ rfl ⟨rfl,aA (Under.refl _) _⟩;simp[results,Tryz.f30,go_sem,sxV]
theorem jK(x:Sx){rb m1 m2:Nat}(hs:x.word.size≤maxLen)(hT:Tables w0 rb m1 m2):Calls Tryz.prog 59 #[.pointer (some ⟨rb,0,none⟩),sxV x] w0 fun e w=>e = .returned (.bool (nameK x.word))∧Under w0 w:=by
 have hk:nameK x.word=(qD x.word && !kwB x.word):=by unfold nameK;rw[lDB]
 obtain⟨m,p,s⟩:=x;simp only at hk hs;have HN:=Lib.hid (fun w=>mI s w hs);have HU0:=Lib.hid (aA (Under.refl w0) (.cells #[.int .i64 m,.int .i64 p,.string s] 29));obtain⟨hlt,c1,c2,h1,h2⟩:=hT;have hT:Tables (w0.alloc (.cells #[.int .i64 m,.int .i64 p,.string s] 29)) rb m1 m2:=⟨by rw[World.size_alloc];omega,by rw[jA HU0.out hlt];exact c1,by rw[jA HU0.out hlt];exact c2,h1.under HU0.out,h2.under HU0.out⟩;have HK:=Lib.hid (zOA s hT);have HE:=Lib.hid hk;generalize nameK s=R at *;generalize kwB s=b at *;generalize qD s=a at *;clear hk hT h1 h2 c1 c2 hs;unfold sxV
 cases a
 · go_enter Tryz.func59,Tryz.ntmps59;go_wp2_with fail;refine(HN.out _).mono ?_;rintro e w1 ⟨rfl,rfl⟩;go_wp2;go_ret;exact⟨by rw[HE.out];rfl,HU0.out⟩
 · go_enter Tryz.func59,Tryz.ntmps59;go_wp2_with fail;refine(HN.out _).mono ?_;rintro e w1 ⟨rfl,rfl⟩;go_wp2_with fail;refine HK.out.mono ?_;rintro e w2 ⟨rfl,hU⟩;have HU:=Lib.hid hU;clear hU;go_wp2;go_ret;exact⟨by rw[HE.out];rfl,HU0.out.trans HU.out⟩
end
end Go.Proofs.YtlnlpdephijcoaaGreatDoor
