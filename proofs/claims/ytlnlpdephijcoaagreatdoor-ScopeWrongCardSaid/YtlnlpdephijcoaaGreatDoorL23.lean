/- Part 23 of what the proof rests on. -/
import Derived.Laws.ResultCell
import Derived.Shelf.Strings.Builder1
import Derived.Shelf.Strings.Builder2
import Derived.Shelf.Strings.OnBuilder
import Derived.Shelf.Small.Strs
import Derived.Shelf.Strings.BuilderF
import Derived.Shelf.Strings.BuilderK
import Derived.Shelf.Strconv.Atoi
import Derived.Shelf.Strconv.Itoa0
import Derived.Shelf.Strconv.Itoa1
import Derived.Shelf.LaysM
import Derived.Shelf.Strconv.Itoa2
import Derived.Shelf.Strconv.Itoa3
import Derived.Shelf.Strconv.AtoiErrFast
import Derived.Shelf.Strconv.ParseIntEmpty
import Derived.Shelf.Strconv.AtoiFail
import Derived.Shelf.Strconv.Clone
import Derived.Shelf.Strconv.SyntaxError
import Derived.Shelf.LaysC
import Derived.Shelf.Strconv.ToError
import Derived.Shelf.Strconv.Lower
import Derived.Shelf.Strconv.ParseUint10
import Derived.Shelf.Strconv.ParseUint10Empty
import Derived.Shelf.Strconv.ParseUint10Any
import Derived.Shelf.Strconv.ParseInt10
import Derived.Shelf.Strconv.AtoiLong
import Derived.Shelf.Strconv.AtoiInnerAll
import Derived.Shelf.Strconv.RangeError
import Derived.Shelf.Strconv.ToErrorRange
import Derived.Shelf.Strconv.AtoiAll
import Derived.Shelf.Strconv.ErrVarAll
import Derived.Shelf.Strings.Search1
import Derived.Shelf.Slices.Turned
import Derived.Ground.Names2Prog
import Derived.Shelf.Slices.ReverseS
import Derived.Shelf.Slices.Clone
import Derived.Shelf.Slices.Cells
import Derived.Ground.SlgmProg
import Derived.Shelf.SortM.SortNone
import Derived.Test.YtlnlpdephijcoaaGreatDoorProg
import Derived.Test.YtlnlpdephijcoaaGreatDoorL01
import Derived.Test.YtlnlpdephijcoaaGreatDoorL16
import Derived.Test.YtlnlpdephijcoaaGreatDoorL22
set_option linter.unusedSimpArgs false
set_option linter.unusedVariables false
set_option maxRecDepth 100000
set_option maxHeartbeats 4000000
namespace Go.Proofs.YtlnlpdephijcoaaGreatDoor
open Go.Conc Go.Lx Go.RowKit
def bI(l:List Nat):List Value:=l.map fun(n:Nat)=>.int .i64 (n:Int)
theorem jJ(l r:List Nat):bI (l++r)=bI l++bI r:=List.map_append
theorem nM{l:List Nat}{k n:Nat}(h:l[k]? = some n):(bI l)[k]? = some (.int .i64 (n:Int)):=by simp[bI,h]
theorem Tryz.info3:(Tryz.prog.info? 3).map (fun i=>(i.zero,i.size,i.bytes))=some (some (.int .i64 0),1,8):=by kernel_rfl
noncomputable def yCA:Code:=Tryz.f51.body.getD .skip
noncomputable def oCA:Code:=rA (dA (dA yCA))
noncomputable def bgRound:Code:=bC (bC (dA oCA))
def mF(l:Value)(n k:Nat)(va:Value)(J:Nat→Value):Array Value :=
 #[l, J 1, J 2, J 3, va, J 5, J 6, J 7, l, .int .i64 (n : Int), .int .i64 (k : Int), J 11, J 12, J 13, J 14, J 15, J 16, J 17, J 18, J 19, J 20, J 21, J 22, J 23, J 24, J 25, J 26, J 27, J 28, J 29, J 30, J 31, J 32, J 33, J 34, J 35, J 36, J 37, J 38, J 39, J 40, J 41, J 42, J 43, J 44, J 45, J 46, J 47, J 48, J 49, J 50, J 51, J 52, J 53, J 54, J 55, J 56, J 57, J 58, J 59, J 60, J 61, J 62]
def xLA(v:Value)(b:Bool)(J:Nat→Value):Array Value:=#[J 0,J 1,v,.bool b,J 4,J 5,J 6,J 7,J 8,J 9,J 10,J 11,J 12,J 13,J 14,J 15,J 16,J 17,J 18,J 19,J 20,J 21,J 22,J 23,J 24,J 25,J 26,J 27,J 28,J 29,J 30,J 31,J 32,J 33,J 34,J 35,J 36,J 37,J 38,J 39,J 40,J 41,J 42,J 43,J 44,J 45,J 46,J 47,J 48,J 49,J 50,J 51,J 52,J 53,J 54,J 55,J 56,J 57,J 58,J 59,J 60,J 61,J 62]
def v8A(w0:World)(l:Value)(n k:Nat)(st:List Nat)(a':Act)(w':World):Prop :=
 ∃ va J,a'=⟨mF l n k va J,[]⟩∧w'.ownsRow w0.heap.size 3 1 va st.length (bI st)∧Under w0 w'
def r8A(w0:World)(l:Value)(n k s:Nat)(xs:List Value)(a':Act)(w':World):Prop :=
 ∃ va J,a'=⟨mF l n k va J,[]⟩∧w'.ownsRow w0.heap.size 3 1 va s xs∧Under w0 w'
def d8A(w0:World)(ex:Exit)(a':Act)(w':World):Prop:=ex = .ret∧∃ J,a'=⟨xLA (.slice none 0 0) false J,[]⟩∧Under w0 w'
def k8A(l:Value)(n:Nat)(va:Value)(w:World)(e:Exit)(a':Act)(w':World):Prop:=e = .exit 0∧∃ J,a'=⟨mF l n n va J,[]⟩∧w'=w
section
variable {w0 : World} {b off n cap k : Nat} {va : Value} {st : List Nat} {x : Sx}
theorem y1A(l:Value)(J:Nat→Value)(w:World) :
 bgRound.wp Tryz.prog (Exit.then (fun _ _=>False) (k8A l n va w)) ⟨mF l n n va J,[]⟩ w:=by
 unfold bgRound oCA yCA;simp only[Tryz.f51,Option.getD_some,rA,dA,bC];unfold mF;go_wp2;exact⟨rfl,nA (F:=mF l n n va) (by rfl) rfl⟩
theorem e6A (hx : ¬ y9 x st.length) (hk : k < n) (hn : n ≤ 1000000) (hsl : st.length ≤ 1000000) (J : Nat → Value) (w : World) (hP : w.ownsRow w0.heap.size 3 1 va st.length (bI st)) (hU : Under w0 w)
    (hb0:b < w0.heap.size) (c0:w0.cell? ⟨b,off+k * 3,none⟩=some (.int .i64 x.many)) (c1:w0.cell? ⟨b,off+k * 3+1,none⟩=some (.int .i64 x.pos)) (c2:w0.cell? ⟨b,off+k * 3+2,none⟩=some (.string x.word)) :
    bgRound.wp Tryz.prog (Exit.then (fun _ _=>False) (d8A w0)) ⟨mF (.slice (some ⟨b,off,none⟩) n cap) n k va J,[]⟩ w:=by
  have hb:=Nat.lt_of_lt_of_le hb0 hU.size;rw[← jA hU hb0]at c0 c1 c2;have hin:(k:Int) < n:=by omega
  have hk0:(0:Int)≤k:=Int.natCast_nonneg _;obtain⟨p,c,rfl⟩:∃ p c,va = .slice p st.length c:=by
   rcases hP.2 with⟨rfl,h0⟩ | ⟨g,cap,cur,rfl,_⟩
   · exact⟨none,0,by rw[h0]⟩
   · exact⟨_,_,rfl⟩
  have HU:=Lib.hid hU;clear hU hP;obtain⟨m,q,t⟩:=x;simp only[y9]at hx c0 c1 c2;unfold bgRound oCA yCA;simp only[Tryz.f51,Option.getD_some,rA,dA,bC];unfold mF;by_cases hA:m < 0
  · clear hx;go_wp2;exact⟨rfl,nA (F:=xLA _ _) (by rfl) (aA HU.out _)⟩
  by_cases hD:(st.length:Int) < m
  · have hm0 : (m != 0) = true := by simp; omega
    by_cases hB:t.size=0
    · have e0 : t = ⟨#[]⟩ := by
        apply ByteArray.ext;exact Array.eq_empty_of_size_eq_zero hB
      subst e0;clear hx;go_wp2;exact⟨rfl,nA (F:=xLA _ _) (by rfl) (aA HU.out _)⟩
    · obtain⟨e1,e2⟩:=dK hB;clear hx hB;go_wp2;exact⟨rfl,nA (F:=xLA _ _) (by rfl) (aA HU.out _)⟩
  · have hB : t.size ≠ 0 ∧ m ≠ 0 := by
      by_cases h1:t.size=0
      · exact absurd ⟨by omega,fun h=>absurd h1 h,by omega⟩ hx
      · by_cases h2 : m = 0
        · exact absurd ⟨by omega,fun _=>h2,by omega⟩ hx
        · exact⟨h1,h2⟩
    have hm0:(m != 0)=true:=by simp;omega
    obtain⟨e1,e2⟩:=dK hB.1;clear hx hB;go_wp2;exact⟨rfl,nA (F:=xLA _ _) (by rfl) (aA HU.out _)⟩
theorem d4A (hx : x.many = 0) (hk : k < n) (hn : n ≤ 1000000) (hsl : st.length ≤ 1000000) (J : Nat → Value) (w : World) (hP : w.ownsRow w0.heap.size 3 1 va st.length (bI st)) (hU : Under w0 w)
    (hb0:b < w0.heap.size) (c0:w0.cell? ⟨b,off+k * 3,none⟩=some (.int .i64 x.many)) (c1:w0.cell? ⟨b,off+k * 3+1,none⟩=some (.int .i64 x.pos)) (c2:w0.cell? ⟨b,off+k * 3+2,none⟩=some (.string x.word)) :
    bgRound.wp Tryz.prog (Exit.then (v8A w0 (.slice (some ⟨b,off,none⟩) n cap) n (k+1) (st++[k])) (fun _ _ _=>False)) ⟨mF (.slice (some ⟨b,off,none⟩) n cap) n k va J,[]⟩ w:=by
  have hb:=Nat.lt_of_lt_of_le hb0 hU.size;rw[← jA hU hb0]at c0 c1 c2;obtain⟨i0,hi,hz0,hz1,hz2⟩:=info_parts Tryz.info3;have hin:(k:Int) < n:=by omega
  have hk0:(0:Int)≤k:=Int.natCast_nonneg _;have hmx:st.length+1≤maxLen:=by simp only[maxLen];omega
  have hby:(st.length+1) * 8≤140737488355328:=by omega
  obtain⟨m,q,t⟩:=x;simp only at hx c0 c1 c2;subst hx;unfold bgRound oCA yCA;simp only[Tryz.f51,Option.getD_some,rA,dA,bC];unfold mF;have HU:=Lib.hid hU;clear hU;have both:t=⟨#[]⟩∨(¬ t.toList=[]∧t.toList.isEmpty=false):=by
   by_cases hB:t.size=0
   · exact .inl (ByteArray.ext (Array.eq_empty_of_size_eq_zero hB))
   · exact .inr (dK hB)
  have hm0:((0:Int) != 0)=false:=by decide
  rcases hP.2 with⟨rfl,h0⟩ | ⟨g,c,cur,rfl,_,_,hc,_⟩
  · have e := List.length_eq_zero_iff.1 h0; subst e; have HP := Lib.hid hP; clear hP h0; rcases both with rfl | ⟨e1, e2⟩
    · skip
      go_wp2_with (at_builtin;refine wpList_append_own_at _ rfl _ _ 105 rfl w0.heap.size 3 i0 _ 1 8 Tryz.underlying105 hi hz0 hz1 hz2 rfl (by decide) _ _ _ rfl ((HP.out.alloc _).alloc _) ⟨w.heap.size+1,0,none⟩ 1 1 [.int .i64 (k:Int)] rfl rfl ?c1 ?c2 hmx hby ?c5 ?_)
      case c1 =>
        intro j u hj
        match j,hj with
        | 0,hj=>cases hj;simp[Addr.add]
      case c2=>intro u hu;simp at hu;rcases hu with rfl;rfl
      case c5=>have:=HU.out.size;simp;omega
      intro v' w' hown hgrow hnil hat;have HW:=Lib.hid hown;have HU2:=Lib.hid (bB (aA (aA HU.out _) _) hgrow fun g e=>(iC HP.out e).1);clear hown hgrow hnil hat;go_wp2;exact⟨v',nA (F:=mF _ n (k+1) v') (by rfl) ⟨by rw[jJ,List.length_append];exact HW.out,HU2.out⟩⟩
    · skip
      go_wp2_with (at_builtin;refine wpList_append_own_at _ rfl _ _ 105 rfl w0.heap.size 3 i0 _ 1 8 Tryz.underlying105 hi hz0 hz1 hz2 rfl (by decide) _ _ _ rfl ((HP.out.alloc _).alloc _) ⟨w.heap.size+1,0,none⟩ 1 1 [.int .i64 (k:Int)] rfl rfl ?c1 ?c2 hmx hby ?c5 ?_)
      case c1 =>
        intro j u hj
        match j,hj with
        | 0,hj=>cases hj;simp[Addr.add]
      case c2=>intro u hu;simp at hu;rcases hu with rfl;rfl
      case c5=>have:=HU.out.size;simp;omega
      intro v' w' hown hgrow hnil hat;have HW:=Lib.hid hown;have HU2:=Lib.hid (bB (aA (aA HU.out _) _) hgrow fun g e=>(iC HP.out e).1);clear hown hgrow hnil hat;go_wp2;exact⟨v',nA (F:=mF _ n (k+1) v') (by rfl) ⟨by rw[jJ,List.length_append];exact HW.out,HU2.out⟩⟩
  · have hc' : (st.length : Int) ≤ c := by omega
    have HP:=Lib.hid hP;clear hP;rcases both with rfl | ⟨e1,e2⟩
    · skip
      go_wp2_with (at_builtin;refine wpList_append_own_at _ rfl _ _ 105 rfl w0.heap.size 3 i0 _ 1 8 Tryz.underlying105 hi hz0 hz1 hz2 rfl (by decide) _ _ _ rfl ((HP.out.alloc _).alloc _) ⟨w.heap.size+1,0,none⟩ 1 1 [.int .i64 (k:Int)] rfl rfl ?c1 ?c2 hmx hby ?c5 ?_)
      case c1 =>
        intro j u hj
        match j,hj with
        | 0,hj=>cases hj;simp[Addr.add]
      case c2=>intro u hu;simp at hu;rcases hu with rfl;rfl
      case c5=>have:=HU.out.size;simp;omega
      intro v' w' hown hgrow hnil hat;have HW:=Lib.hid hown;have HU2:=Lib.hid (bB (aA (aA HU.out _) _) hgrow fun g e=>(iC HP.out e).1);clear hown hgrow hnil hat;go_wp2;exact⟨v',nA (F:=mF _ n (k+1) v') (by rfl) ⟨by rw[jJ,List.length_append];exact HW.out,HU2.out⟩⟩
    · skip
      go_wp2_with (at_builtin;refine wpList_append_own_at _ rfl _ _ 105 rfl w0.heap.size 3 i0 _ 1 8 Tryz.underlying105 hi hz0 hz1 hz2 rfl (by decide) _ _ _ rfl ((HP.out.alloc _).alloc _) ⟨w.heap.size+1,0,none⟩ 1 1 [.int .i64 (k:Int)] rfl rfl ?c1 ?c2 hmx hby ?c5 ?_)
      case c1 =>
        intro j u hj
        match j,hj with
        | 0,hj=>cases hj;simp[Addr.add]
      case c2=>intro u hu;simp at hu;rcases hu with rfl;rfl
      case c5=>have:=HU.out.size;simp;omega
      intro v' w' hown hgrow hnil hat;have HW:=Lib.hid hown;have HU2:=Lib.hid (bB (aA (aA HU.out _) _) hgrow fun g e=>(iC HP.out e).1);clear hown hgrow hnil hat;go_wp2;exact⟨v',nA (F:=mF _ n (k+1) v') (by rfl) ⟨by rw[jJ,List.length_append];exact HW.out,HU2.out⟩⟩
theorem k3A {s m h : Nat} {xs : List Value} (hx : x.many = (m : Int)) (hm : 0 < m) (hxw : x.word = ⟨#[]⟩) (hk : k < n) (hn : n ≤ 1000000) (hsl : s + m ≤ 1000000) (J : Nat → Value) (w : World) (hP : w.ownsRow w0.heap.size 3 1 va (s + m) xs) (hh : xs[s]? = some (.int .i64 (h : Int))) (hU : Under w0 w)
    (hb0:b < w0.heap.size) (c0:w0.cell? ⟨b,off+k * 3,none⟩=some (.int .i64 x.many)) (c1:w0.cell? ⟨b,off+k * 3+1,none⟩=some (.int .i64 x.pos)) (c2:w0.cell? ⟨b,off+k * 3+2,none⟩=some (.string x.word)) :
    bgRound.wp Tryz.prog (Exit.then (r8A w0 (.slice (some ⟨b,off,none⟩) n cap) n (k+1) (s+1) (xs.take s++[.int .i64 (h:Int)])) (fun _ _ _=>False)) ⟨mF (.slice (some ⟨b,off,none⟩) n cap) n k va J,[]⟩ w:=by
  have hb:=Nat.lt_of_lt_of_le hb0 hU.size;rw[← jA hU hb0]at c0 c1 c2;obtain⟨i0,hi,hz0,hz1,hz2⟩:=info_parts Tryz.info3;obtain⟨g,c,rfl,hg,hgb,hgl,hgc,_⟩:=fD hP (by omega);have hcell:=kD hP hg hh;have hin:(k:Int) < n:=by omega
  have hk0:(0:Int)≤k:=Int.natCast_nonneg _;have hmx:s+1≤maxLen:=by simp only[maxLen];omega
  have hby:(s+1) * 8≤140737488355328:=by omega
  obtain⟨mm,q,t⟩:=x;simp only at hx hxw c0 c1 c2;subst hx hxw;unfold bgRound oCA yCA;simp only[Tryz.f51,Option.getD_some,rA,dA,bC];unfold mF;have HU:=Lib.hid hU;have HP:=Lib.hid hP;clear hU hP;have m0:(0:Int) < (m:Int):=by omega
  have m1:¬((m:Int) < 0):=by omega
  have m2:¬((s:Int)+(m:Int) < (m:Int)):=by omega
  have m3:(s:Int)≤(c:Int):=by omega
  have m4:(s:Int) < (s:Int)+(m:Int):=by omega
  have m5:(s:Int)+(m:Int)≤1000000:=by omega
  have m6:(0:Int)≤(s:Int):=by omega
  go_wp2_with (at_builtin;refine wpList_append_own_at _ rfl _ _ 105 rfl w0.heap.size 3 i0 _ 1 8 Tryz.underlying105 hi hz0 hz1 hz2 rfl (by decide) _ _ _ rfl (((gP HP.out (m:=s) (by omega)).alloc _).alloc _) ⟨w.heap.size+1,0,none⟩ 1 1 [.int .i64 (h:Int)] rfl rfl ?c1 ?c2 hmx hby ?c5 ?_)
  case c2=>rfl
  case c5=>have:=HU.out.size;omega
  intro v' w' hown hgrow hnil hat;have HW:=Lib.hid hown;have HU2:=Lib.hid (bB (aA (aA HU.out _) _) hgrow fun g e=>(iC (gP HP.out (m:=s) (by omega)) e).1);clear hown hgrow hnil hat;go_wp2;exact⟨v',nA (F:=mF _ n (k+1) v') (by rfl) ⟨HW.out,HU2.out⟩⟩
structure BInv (w0:World) (row:List Sx) (R:Option (List Nat)) (m k:Nat) (va:Value) (st:List Nat) (w:World):Prop where
 cnt:m+k=row.length
 own:w.ownsRow w0.heap.size 3 1 va st.length (bI st)
 low:Under w0 w
 go:fC (row.drop k) k st=R
 stL:st.length≤k
def BI(w0:World)(l:Value)(row:List Sx)(R:Option (List Nat))(m:Nat)(a:Act)(w:World):Prop :=
 ∃ k va st J,a=⟨mF l row.length k va J,[]⟩∧BInv w0 row R m k va st w
def dAB(w0:World)(l:Value)(row:List Sx)(R:Option (List Nat))(e:Exit)(a:Act)(w:World):Prop :=
 (e = .exit 0∧∃ va st J,a=⟨mF l row.length row.length va J,[]⟩∧BInv w0 row R 0 row.length va st w)∨(R=none∧d8A w0 e a w)
theorem nTA (row : List Sx) {p : Option Addr} (hn : row.length ≤ 1000000) (hp : SxArg w0 p row) (R : Option (List Nat)) (m : Nat) (a : Act) (w : World)
    (h0:BI w0 (.slice p row.length cap) row R m a w) :
    (Code.loop bgRound).wp Tryz.prog (dAB w0 (.slice p row.length cap) row R) a w:=by
  refine wp_loop_ghost _ m h0 ?_;clear h0;rintro m a w ⟨k,va,st,J,rfl,hi⟩;have hmk:=hi.cnt;by_cases hkn:k=row.length
  · subst hkn; refine wp_mono (y1A _ J w) ?_; rintro e a' w' h
    cases e with
    | normal=>exact h.elim
    | _ =>
      obtain⟨h1,J',rfl,rfl⟩:=h;have:m=0:=by omega
      subst this;exact .inl ⟨h1,va,st,J',rfl,hi⟩
  have hlt:k < row.length:=by omega
  obtain⟨b,off,rfl,hb0,ht⟩:=hp (fun e=>by rw[e]at hlt;exact absurd hlt (Nat.not_lt_zero _));obtain⟨x,hx0⟩:∃ x,row[k]? = some x:=⟨_,List.getElem?_eq_getElem hlt⟩;have hd:row.drop k=x::row.drop (k+1):=by
   rw[List.drop_eq_getElem_cons hlt];rw[List.getElem?_eq_getElem hlt]at hx0
   cases hx0;rfl
  have hgo:=hi.go;rw[hd]at hgo;simp only[fC]at hgo;obtain⟨c0,c1,c2⟩:=ht k x hx0;have hst:=hi.stL;by_cases hg:y9 x st.length
  · rw [if_pos hg] at hgo; obtain ⟨g1, g2, g3⟩ := hg; by_cases hm : x.many = 0
    · refine wp_mono (d4A (cap := cap) hm hlt hn (by omega) J w hi.own hi.low hb0 c0 c1 c2) ?_; rintro e a' w' h
      cases e with
      | normal =>
        obtain⟨va',J',rfl,ho,hU⟩:=h;refine⟨m - 1,by omega,k+1,va',st++[k],J',rfl,by omega,ho,hU,?_,by simp;omega⟩;rw[← hgo];congr 1
        unfold qI;simp[hm]
      | _=>exact h.elim
    · have hw : x.word = ⟨#[]⟩ := by
        apply ByteArray.ext;apply Array.eq_empty_of_size_eq_zero;exact Decidable.byContradiction fun h=>hm (g2 h)
      obtain⟨mm,hmm⟩:∃ mm:Nat,x.many=mm:=⟨x.many.toNat,by omega⟩;obtain⟨s,hs⟩:∃ s,st.length=s+mm:=⟨st.length - mm,by omega⟩;have hsl:s < st.length:=by omega
      have own:=hi.own;rw[hs]at own;refine wp_mono (k3A (cap:=cap) (s:=s) (m:=mm) (h:=st[s]) hmm (by omega) hw hlt hn (by omega) J w own (nM (List.getElem?_eq_getElem hsl)) hi.low hb0 c0 c1 c2) ?_;rintro e a' w' h
      cases e with
      | normal =>
        obtain⟨va',J',rfl,ho,hU⟩:=h;have e1:qI x k st=st.take s++[st[s]]:=by
         unfold qI;rw[hmm,Int.toNat_natCast,hs,Nat.add_sub_cancel];congr 2
         rw[List.drop_eq_getElem_cons hsl];rfl
        have e2:(qI x k st).length=s+1:=by rw[e1,List.length_append,List.length_take];simp;omega
        refine⟨m - 1,by omega,k+1,va',qI x k st,J',rfl,by omega,?_,hU,hgo,by omega⟩;rw[e2,e1,jJ];unfold bI at ho ⊢;rw[List.map_take];exact ho
      | _=>exact h.elim
  · rw [if_neg hg] at hgo; refine wp_mono (e6A (cap := cap) hg hlt hn (by omega) J w hi.own hi.low hb0 c0 c1 c2) ?_; rintro e a' w' h
    cases e with
    | normal=>exact h.elim
    | _=>exact .inr ⟨hgo.symm,h⟩
def l9A(w0:World)(n:Nat)(R:Option (List Nat))(e:Ending)(w':World):Prop :=
 Under w0 w'∧match R with
  | some st=>∃ va,e = .returned (.tuple #[va,.bool true])∧w'.ownsRow w0.heap.size 3 1 va (st.length+1) (bI (st++[n]))
  | none=>e = .returned (.tuple #[.slice none 0 0,.bool false])
theorem bX(row:List Sx){p:Option Addr}(hn:row.length≤1000000)(hp:SxArg w0 p row) :
 Calls Tryz.prog 51 #[.slice p row.length cap] w0 (l9A w0 row.length (fC row 0 [])):=by
 have HL:=Lib.hid (fun m a w h=>nTA (w0:=w0) (cap:=cap) row hn hp (fC row 0 []) m a w h);generalize hR:fC row 0 []=R at *;have HR:=Lib.hid hR;obtain⟨i0,hi,hz0,hz1,hz2⟩:=info_parts Tryz.info3;clear hR hp;go_enter Tryz.func51,Tryz.ntmps51;go_wp2;rename_i K hK;refine wp_mono (HL.out row.length _ _ ⟨0,.slice none 0 0,[],_,fB (F:=mF _ _ 0 _) (by rfl),⟨rfl,wJA _ _ _ _,⟨rfl,rfl,Nat.le_refl _,fun _ _=>rfl⟩,HR.out,Nat.le_refl _⟩⟩) ?_;rintro e a' w' (⟨rfl,va,st,J,rfl,hv⟩ | ⟨rfl,rfl,J,rfl,hu⟩)
 · simp only [Exit.inBlock, if_pos, Exit.then]; refine hK _ _ ?_; have hgo := hv.go; rw [List.drop_length] at hgo; have hst := hv.stL; have hmx : st.length + 1 ≤ maxLen := by simp only [maxLen]; omega
   have hby:(st.length+1) * 8≤140737488355328:=by omega
   have HI:=Lib.hid hv;have HG:=Lib.hid hgo;have hws:=hv.low.size;clear hv hgo;unfold mF;go_wp2_with (at_builtin;refine wpList_append_own_at _ rfl _ _ 105 rfl w0.heap.size 3 i0 _ 1 8 Tryz.underlying105 hi hz0 hz1 hz2 rfl (by decide) _ _ _ rfl (HI.out.own.alloc _) ⟨w'.heap.size,0,none⟩ 1 1 [.int .i64 (row.length:Int)] rfl rfl ?c1 ?c2 hmx hby ?c5 ?_)
   case c1 =>
     intro j u hj
     match j,hj with
     | 0,hj=>cases hj;simp[Addr.add]
   case c2=>intro u hu;simp at hu;rcases hu with rfl;rfl
   case c5=>simp;omega
   intro v' w1 hown hgrow hnil hat;have HW:=Lib.hid hown;have HU2:=Lib.hid (bB (aA HI.out.low _) hgrow fun g e=>(iC HI.out.own e).1);clear hown hgrow hnil hat;go_wp2;go_ret2;obtain rfl:some st=R:=HG.out;exact⟨HU2.out,v',rfl,by rw[jJ];exact HW.out⟩
 · simp only[Exit.inBlock,Exit.then];go_ret2;exact⟨hu,rfl⟩
end
end Go.Proofs.YtlnlpdephijcoaaGreatDoor
namespace Go.Proofs.YtlnlpdephijcoaaGreatDoor
open Go.Lx Go.RowKit
def sxV(x:Sx):Value:=.agg #[.int .i64 x.many,.int .i64 x.pos,.string x.word]
section
variable {w0 : World}
theorem dJ(T:ST){q:Option Addr}{cap:Nat}(hn:(uA T).length≤1000000)(hq:SxArg w0 q (uA T)):Calls Tryz.prog 30 #[.slice q (uA T).length cap] w0 fun e w=>e = .returned (sxV T.last)∧Under w0 w:=by
 obtain⟨init,hi⟩:=bJ T;obtain⟨b,off,rfl,hb,ht⟩:=hq (by rw[hi];simp);obtain⟨c0,c1,c2⟩:=ht init.length T.last (by rw[hi];simp);have hl:(uA T).length=init.length+1:=by rw[hi];simp
 rw[hl]at hn ⊢;generalize T.last=x at *;generalize init.length=m at *;have hmi:((m:Int)+1 - 1)=(m:Int):=by omega
 have hm1:(m:Int)≤1000000:=by omega
 have hm0:(0:Int)≤(m:Int):=by omega
 clear hi ht hl hn;go_enter Tryz.func30,Tryz.ntmps30;go_wp2;refine bodyPost_ret (v:=sxV x) ?_ rfl ⟨rfl,aA (Under.refl _) _⟩;simp[results,Tryz.f30,go_sem,sxV]
theorem fK(x:Sx){rb m1 m2:Nat}(hs:x.word.size≤maxLen)(hT:Tables w0 rb m1 m2):Calls Tryz.prog 59 #[.pointer (some ⟨rb,0,none⟩),sxV x] w0 fun e w=>e = .returned (.bool (mH x.word))∧Under w0 w:=by
 have hk:mH x.word=(jD x.word && !kwB x.word):=by unfold mH;rw[qXA]
 obtain⟨m,p,s⟩:=x;simp only at hk hs;have HN:=Lib.hid (fun w=>oI s w hs);have HU0:=Lib.hid (aA (Under.refl w0) (.cells #[.int .i64 m,.int .i64 p,.string s] 29));obtain⟨hlt,c1,c2,h1,h2⟩:=hT;have hT:Tables (w0.alloc (.cells #[.int .i64 m,.int .i64 p,.string s] 29)) rb m1 m2:=⟨by rw[World.size_alloc];omega,by rw[jA HU0.out hlt];exact c1,by rw[jA HU0.out hlt];exact c2,h1.under HU0.out,h2.under HU0.out⟩;have HK:=Lib.hid (aBA s hT);have HE:=Lib.hid hk;generalize mH s=R at *;generalize kwB s=b at *;generalize jD s=a at *;clear hk hT h1 h2 c1 c2 hs;unfold sxV
 cases a
 · go_enter Tryz.func59,Tryz.ntmps59;go_wp2_with fail;refine(HN.out _).mono ?_;rintro e w1 ⟨rfl,rfl⟩;go_wp2;go_ret;exact⟨by rw[HE.out];rfl,HU0.out⟩
 · go_enter Tryz.func59,Tryz.ntmps59;go_wp2_with fail;refine(HN.out _).mono ?_;rintro e w1 ⟨rfl,rfl⟩;go_wp2_with fail;refine HK.out.mono ?_;rintro e w2 ⟨rfl,hU⟩;have HU:=Lib.hid hU;clear hU;go_wp2;go_ret;exact⟨by rw[HE.out];rfl,HU0.out.trans HU.out⟩
end
end Go.Proofs.YtlnlpdephijcoaaGreatDoor
namespace Go.Proofs
open Go.Shelf
def Tryz.laysM171_ren:Go.Shelf.Ren:=⟨fun | 171=>77 | 243=>106 | 246=>126 | 283=>155 | 284=>156 | 285=>157 | 286=>158 | 129=>144 | 317=>174 | 318=>175 | 319=>176 | 320=>177 | 337=>184 | 338=>185 | n=>n,fun | 3=>3 | 9=>9 | 2=>2 | 4=>4 | 171=>238 | 0=>0 | 53=>229 | 37=>161 | 5=>5 | 173=>240 | 212=>259 | 51=>227 | 20=>20 | 213=>260 | 46=>203 | 232=>269 | 233=>270 | n=>n,fun | 17=>3 | 18=>5 | 19=>6 | n=>n⟩
theorem Tryz.laysM171 : Go.Proofs.LaysM.n171 Tryz.prog Tryz.laysM171_ren := {
  mixed:=by kernel_rfl
  f129:=Tryz.func144.trans (congrArg some (by kernel_rfl))
  f171:=Tryz.func77.trans (congrArg some (by kernel_rfl))
  f243:=Tryz.func106.trans (congrArg some (by kernel_rfl))
  f246:=Tryz.func126.trans (congrArg some (by kernel_rfl))
  f283:=Tryz.func155.trans (congrArg some (by kernel_rfl))
  f284:=Tryz.func156.trans (congrArg some (by kernel_rfl))
  f285:=Tryz.func157.trans (congrArg some (by kernel_rfl))
  f286:=Tryz.func158.trans (congrArg some (by kernel_rfl))
  f317:=Tryz.func174.trans (congrArg some (by kernel_rfl))
  f318:=Tryz.func175.trans (congrArg some (by kernel_rfl))
  f319:=Tryz.func176.trans (congrArg some (by kernel_rfl))
  f320:=Tryz.func177.trans (congrArg some (by kernel_rfl))
  f337:=Tryz.func184.trans (congrArg some (by kernel_rfl))
  f338:=Tryz.func185.trans (congrArg some (by kernel_rfl))
  t0:=Tryz.underlying0
  a0:=Tryz.isAgg0
  z0:=Tryz.sizeOf0
  v0:=Tryz.zeroValue0
  t2:=Tryz.underlying2
  a2:=Tryz.isAgg2
  z2:=Tryz.sizeOf2
  v2:=Tryz.zeroValue2
  t3:=Tryz.underlying3
  a3:=Tryz.isAgg3
  z3:=Tryz.sizeOf3
  v3:=Tryz.zeroValue3
  t4:=Tryz.underlying4
  a4:=Tryz.isAgg4
  z4:=Tryz.sizeOf4
  v4:=Tryz.zeroValue4
  t5:=Tryz.underlying5
  a5:=Tryz.isAgg5
  z5:=Tryz.sizeOf5
  v5:=Tryz.zeroValue5
  t9:=Tryz.underlying9
  a9:=Tryz.isAgg9
  z9:=Tryz.sizeOf9
  v9:=Tryz.zeroValue9
  t20:=Tryz.underlying20
  a20:=Tryz.isAgg20
  z20:=Tryz.sizeOf20
  v20:=Tryz.zeroValue20
  t37:=Tryz.underlying161
  a37:=Tryz.isAgg161
  z37:=Tryz.sizeOf161
  v37:=Tryz.zeroValue161
  t46:=Tryz.underlying203
  a46:=Tryz.isAgg203
  z46:=Tryz.sizeOf203
  v46:=Tryz.zeroValue203
  t51:=Tryz.underlying227
  a51:=Tryz.isAgg227
  z51:=Tryz.sizeOf227
  v51:=Tryz.zeroValue227
  t53:=Tryz.underlying229
  a53:=Tryz.isAgg229
  z53:=Tryz.sizeOf229
  v53:=Tryz.zeroValue229
  t171:=Tryz.underlying238
  a171:=Tryz.isAgg238
  z171:=Tryz.sizeOf238
  v171:=Tryz.zeroValue238
  t173:=Tryz.underlying240
  a173:=Tryz.isAgg240
  z173:=Tryz.sizeOf240
  v173:=Tryz.zeroValue240
  t212:=Tryz.underlying259
  a212:=Tryz.isAgg259
  z212:=Tryz.sizeOf259
  v212:=Tryz.zeroValue259
  t213:=Tryz.underlying260
  a213:=Tryz.isAgg260
  z213:=Tryz.sizeOf260
  t232:=Tryz.underlying269
  a232:=Tryz.isAgg269
  z232:=Tryz.sizeOf269
  v232:=Tryz.zeroValue269
  t233:=Tryz.underlying270
  a233:=Tryz.isAgg270
  z233:=Tryz.sizeOf270
  v233:=Tryz.zeroValue270
  g17:=by kernel_rfl
  g18:=by kernel_rfl
  g19:=by kernel_rfl
  i0:=by kernel_rfl
  i2:=by kernel_rfl
  i3:=by kernel_rfl
  i4:=by kernel_rfl
  i5:=by kernel_rfl
  i9:=by kernel_rfl
  i20:=by kernel_rfl
  i37:=by kernel_rfl
  i46:=by kernel_rfl
  i51:=by kernel_rfl
  i53:=by kernel_rfl
  i171:=by kernel_rfl
  i173:=by kernel_rfl
  i212:=by kernel_rfl
  i232:=by kernel_rfl
  i233:=by kernel_rfl
  m17:=by kernel_rfl
  m18:=by kernel_rfl
  m19:=by kernel_rfl }
open Go.RowKit Go.Sort Go.Lib in
theorem Tryz.strconv_Itoa (n : Int) (h0 : -9223372036854775808 ≤ n) (h1 : n ≤ 9223372036854775807) (w : World) (htab : Lib.TabIs Tryz.prog w "internal/strconv.uint64pow10" .u64 Lib.pow10Tab) :
 Calls Tryz.prog 77 #[.int .i64 n] w fun e w'=>e = .returned (.string ⟨(Lib.itoa n).toArray⟩)∧∃ k os,w'=grow (w.drewN k) os:=Any.strconv_Itoa Tryz.laysM171 n h0 h1 w htab
def Tryz.laysC172_ren:Go.Shelf.Ren:=⟨fun | 172=>101 | 244=>122 | 245=>123 | 247=>145 | 279=>146 | 280=>147 | 281=>148 | 282=>149 | 287=>168 | 316=>169 | 171=>77 | 205=>170 | 321=>181 | 322=>182 | 243=>106 | 246=>126 | 283=>155 | 284=>156 | 285=>157 | 286=>158 | 129=>144 | 317=>174 | 318=>175 | 319=>176 | 320=>177 | 337=>184 | 338=>185 | n=>n,fun | 9=>9 | 3=>3 | 75=>163 | 76=>164 | 4=>4 | 5=>5 | 167=>230 | 37=>161 | 0=>0 | 85=>231 | 2=>2 | 168=>233 | 53=>229 | 175=>252 | 46=>203 | 210=>255 | 127=>216 | 145=>267 | 143=>265 | 21=>21 | 171=>238 | 173=>240 | 212=>259 | 51=>227 | 20=>20 | 213=>260 | 232=>269 | 233=>270 | 80=>198 | n=>n,fun | 15=>1 | 16=>2 | 17=>3 | 18=>5 | 19=>6 | n=>n⟩
theorem Tryz.laysC172 : Go.Proofs.LaysC.n172 Tryz.prog Tryz.laysC172_ren := {
  mixed:=by kernel_rfl
  f129:=Tryz.func144.trans (congrArg some (by kernel_rfl))
  f171:=Tryz.func77.trans (congrArg some (by kernel_rfl))
  f172:=Tryz.func101.trans (congrArg some (by kernel_rfl))
  f205:=Tryz.func170.trans (congrArg some (by kernel_rfl))
  f243:=Tryz.func106.trans (congrArg some (by kernel_rfl))
  f244:=Tryz.func122.trans (congrArg some (by kernel_rfl))
  f245:=Tryz.func123.trans (congrArg some (by kernel_rfl))
  f246:=Tryz.func126.trans (congrArg some (by kernel_rfl))
  f247:=Tryz.func145.trans (congrArg some (by kernel_rfl))
  f279:=Tryz.func146.trans (congrArg some (by kernel_rfl))
  f280:=Tryz.func147.trans (congrArg some (by kernel_rfl))
  f281:=Tryz.func148.trans (congrArg some (by kernel_rfl))
  f282:=Tryz.func149.trans (congrArg some (by kernel_rfl))
  f283:=Tryz.func155.trans (congrArg some (by kernel_rfl))
  f284:=Tryz.func156.trans (congrArg some (by kernel_rfl))
  f285:=Tryz.func157.trans (congrArg some (by kernel_rfl))
  f286:=Tryz.func158.trans (congrArg some (by kernel_rfl))
  f287:=Tryz.func168.trans (congrArg some (by kernel_rfl))
  f316:=Tryz.func169.trans (congrArg some (by kernel_rfl))
  f317:=Tryz.func174.trans (congrArg some (by kernel_rfl))
  f318:=Tryz.func175.trans (congrArg some (by kernel_rfl))
  f319:=Tryz.func176.trans (congrArg some (by kernel_rfl))
  f320:=Tryz.func177.trans (congrArg some (by kernel_rfl))
  f321:=Tryz.func181.trans (congrArg some (by kernel_rfl))
  f322:=Tryz.func182.trans (congrArg some (by kernel_rfl))
  f337:=Tryz.func184.trans (congrArg some (by kernel_rfl))
  f338:=Tryz.func185.trans (congrArg some (by kernel_rfl))
  t0:=Tryz.underlying0
  a0:=Tryz.isAgg0
  z0:=Tryz.sizeOf0
  v0:=Tryz.zeroValue0
  t2:=Tryz.underlying2
  a2:=Tryz.isAgg2
  z2:=Tryz.sizeOf2
  v2:=Tryz.zeroValue2
  t3:=Tryz.underlying3
  a3:=Tryz.isAgg3
  z3:=Tryz.sizeOf3
  v3:=Tryz.zeroValue3
  t4:=Tryz.underlying4
  a4:=Tryz.isAgg4
  z4:=Tryz.sizeOf4
  v4:=Tryz.zeroValue4
  t5:=Tryz.underlying5
  a5:=Tryz.isAgg5
  z5:=Tryz.sizeOf5
  v5:=Tryz.zeroValue5
  t9:=Tryz.underlying9
  a9:=Tryz.isAgg9
  z9:=Tryz.sizeOf9
  v9:=Tryz.zeroValue9
  t20:=Tryz.underlying20
  a20:=Tryz.isAgg20
  z20:=Tryz.sizeOf20
  v20:=Tryz.zeroValue20
  t21:=Tryz.underlying21
  a21:=Tryz.isAgg21
  z21:=Tryz.sizeOf21
  v21:=Tryz.zeroValue21
  t37:=Tryz.underlying161
  a37:=Tryz.isAgg161
  z37:=Tryz.sizeOf161
  v37:=Tryz.zeroValue161
  t46:=Tryz.underlying203
  a46:=Tryz.isAgg203
  z46:=Tryz.sizeOf203
  v46:=Tryz.zeroValue203
  t51:=Tryz.underlying227
  a51:=Tryz.isAgg227
  z51:=Tryz.sizeOf227
  v51:=Tryz.zeroValue227
  t53:=Tryz.underlying229
  a53:=Tryz.isAgg229
  z53:=Tryz.sizeOf229
  v53:=Tryz.zeroValue229
  t75:=Tryz.underlying163
  a75:=Tryz.isAgg163
  z75:=Tryz.sizeOf163
  v75:=Tryz.zeroValue163
  t76:=Tryz.underlying164
  a76:=Tryz.isAgg164
  z76:=Tryz.sizeOf164
  v76:=Tryz.zeroValue164
  t85:=Tryz.underlying231
  a85:=Tryz.isAgg231
  z85:=Tryz.sizeOf231
  v85:=Tryz.zeroValue231
  t127:=Tryz.underlying216
  a127:=Tryz.isAgg216
  z127:=Tryz.sizeOf216
  v127:=Tryz.zeroValue216
  t143:=Tryz.underlying265
  a143:=Tryz.isAgg265
  z143:=Tryz.sizeOf265
  v143:=Tryz.zeroValue265
  t145:=Tryz.underlying267
  a145:=Tryz.isAgg267
  z145:=Tryz.sizeOf267
  v145:=Tryz.zeroValue267
  t167:=Tryz.underlying230
  a167:=Tryz.isAgg230
  z167:=Tryz.sizeOf230
  v167:=Tryz.zeroValue230
  t168:=Tryz.underlying233
  a168:=Tryz.isAgg233
  z168:=Tryz.sizeOf233
  v168:=Tryz.zeroValue233
  t171:=Tryz.underlying238
  a171:=Tryz.isAgg238
  z171:=Tryz.sizeOf238
  v171:=Tryz.zeroValue238
  t173:=Tryz.underlying240
  a173:=Tryz.isAgg240
  z173:=Tryz.sizeOf240
  v173:=Tryz.zeroValue240
  t175:=Tryz.underlying252
  a175:=Tryz.isAgg252
  z175:=Tryz.sizeOf252
  v175:=Tryz.zeroValue252
  t210:=Tryz.underlying255
  a210:=Tryz.isAgg255
  z210:=Tryz.sizeOf255
  v210:=Tryz.zeroValue255
  t212:=Tryz.underlying259
  a212:=Tryz.isAgg259
  z212:=Tryz.sizeOf259
  v212:=Tryz.zeroValue259
  t213:=Tryz.underlying260
  a213:=Tryz.isAgg260
  z213:=Tryz.sizeOf260
  t232:=Tryz.underlying269
  a232:=Tryz.isAgg269
  z232:=Tryz.sizeOf269
  v232:=Tryz.zeroValue269
  t233:=Tryz.underlying270
  a233:=Tryz.isAgg270
  z233:=Tryz.sizeOf270
  v233:=Tryz.zeroValue270
  g15:=by kernel_rfl
  g16:=by kernel_rfl
  g17:=by kernel_rfl
  g18:=by kernel_rfl
  g19:=by kernel_rfl
  t80:=Tryz.underlying198
  a80:=Tryz.isAgg198
  z80:=Tryz.sizeOf198
  v80:=Tryz.zeroValue198
  i0:=by kernel_rfl
  i2:=by kernel_rfl
  i3:=by kernel_rfl
  i4:=by kernel_rfl
  i5:=by kernel_rfl
  i9:=by kernel_rfl
  i20:=by kernel_rfl
  i21:=by kernel_rfl
  i37:=by kernel_rfl
  i46:=by kernel_rfl
  i51:=by kernel_rfl
  i53:=by kernel_rfl
  i75:=by kernel_rfl
  i76:=by kernel_rfl
  i80:=by kernel_rfl
  i85:=by kernel_rfl
  i127:=by kernel_rfl
  i143:=by kernel_rfl
  i145:=by kernel_rfl
  i167:=by kernel_rfl
  i168:=by kernel_rfl
  i171:=by kernel_rfl
  i173:=by kernel_rfl
  i175:=by kernel_rfl
  i210:=by kernel_rfl
  i212:=by kernel_rfl
  i232:=by kernel_rfl
  i233:=by kernel_rfl
  m15:=by kernel_rfl
  m16:=by kernel_rfl
  m17:=by kernel_rfl
  m18:=by kernel_rfl
  m19:=by kernel_rfl
  c0:=by kernel_rfl
  c2:=by kernel_rfl
  c3:=by kernel_rfl
  c4:=by kernel_rfl
  c5:=by kernel_rfl
  c9:=by kernel_rfl
  c20:=by kernel_rfl
  c21:=by kernel_rfl
  c37:=by kernel_rfl
  c46:=by kernel_rfl
  c51:=by kernel_rfl
  c53:=by kernel_rfl
  c75:=by kernel_rfl
  c76:=by kernel_rfl
  c80:=by kernel_rfl
  c85:=by kernel_rfl
  c127:=by kernel_rfl
  c143:=by kernel_rfl
  c145:=by kernel_rfl
  c167:=by kernel_rfl
  c168:=by kernel_rfl
  c171:=by kernel_rfl
  c173:=by kernel_rfl
  c175:=by kernel_rfl
  c210:=by kernel_rfl
  c212:=by kernel_rfl
  c213:=by kernel_rfl
  c232:=by kernel_rfl
  c233:=by kernel_rfl }
open Go.RowKit in
theorem Tryz.strconv_Atoi_ok(s:ByteArray)(hmax:s.size≤9223372036854775806)(v:Int)(h:Lib.atoiAll s.data.toList = .ok v)(w:World) :
 Calls Tryz.prog 101 #[.string s] w fun e w'=>e = .returned (.tuple #[.int .i64 v,.nilIface])∧(w'=w∨∃ t,w'=Lib.bytesWorld w 5 t):=Any.strconv_Atoi_ok Tryz.laysC172 s hmax v h w
open Go.RowKit in
theorem Tryz.strconv_Atoi_syntax(s:ByteArray)(hlim:s.size≤281474976710656)(h:∀ v,Lib.atoiAll s.data.toList≠.ok v)(h':Lib.atoiAll s.data.toList≠.range)(ev:Value)(w:World)(hv:w.cell? ⟨1,0,none⟩=some ev)(hev:ev = .nilIface∨∃ te pe,ev = .iface te pe) :
 Calls Tryz.prog 101 #[.string s] w fun e w'=>∃ N,e = .returned (.tuple #[.int .i64 (0),.iface 233 (.pointer (some ⟨N,0,none⟩))])∧w.heap.size≤N∧w'.heap[N]? = some (.cells #[.string ⟨#[65,116,111,105]⟩,.string s,ev] 255 (0,0))∧Below w.heap.size w w':=by
 rcases hh:Lib.atoiAll s.data.toList with v | _ | _
 · exact absurd hh (h v)
 · exact Any.strconv_Atoi_syntax Tryz.laysC172 s hlim hh ev w hv hev
 · exact absurd hh h'
open Go.RowKit in
theorem Tryz.strconv_Atoi_range(s:ByteArray)(hlim:s.size≤281474976710656)(h:Lib.atoiAll s.data.toList = .range)(ev:Value)(w:World)(hv:w.cell? ⟨2,0,none⟩=some ev)(hev:ev = .nilIface∨∃ te pe,ev = .iface te pe) :
 Calls Tryz.prog 101 #[.string s] w fun e w'=>∃ N,e = .returned (.tuple #[.int .i64 (Lib.atoiSat s.data.toList),.iface 233 (.pointer (some ⟨N,0,none⟩))])∧w.heap.size≤N∧w'.heap[N]? = some (.cells #[.string ⟨#[65,116,111,105]⟩,.string s,ev] 255 (0,0))∧Below w.heap.size w w':=Any.strconv_Atoi_range Tryz.laysC172 s hlim h ev w hv hev
def Tryz.lays109_ren:Go.Shelf.Ren:=⟨fun | 109=>99 | n=>n,fun | 31=>22 | 9=>9 | 3=>3 | 0=>0 | 4=>4 | n=>n,fun | n=>n⟩
theorem Tryz.lays109 : Go.Proofs.Lays.n109 Tryz.prog Tryz.lays109_ren := {
  mixed:=by kernel_rfl
  f109:=Tryz.func99.trans (congrArg some (by kernel_rfl))
  t0:=Tryz.underlying0
  a0:=Tryz.isAgg0
  z0:=Tryz.sizeOf0
  v0:=Tryz.zeroValue0
  t3:=Tryz.underlying3
  a3:=Tryz.isAgg3
  z3:=Tryz.sizeOf3
  v3:=Tryz.zeroValue3
  t4:=Tryz.underlying4
  a4:=Tryz.isAgg4
  z4:=Tryz.sizeOf4
  v4:=Tryz.zeroValue4
  t9:=Tryz.underlying9
  a9:=Tryz.isAgg9
  z9:=Tryz.sizeOf9
  v9:=Tryz.zeroValue9
  t31:=Tryz.underlying22
  a31:=Tryz.isAgg22
  z31:=Tryz.sizeOf22
  v31:=Tryz.zeroValue22 }
open Go.Lib in
theorem Tryz.slices_Index_string(b off n c:Nat)(zs:List ByteArray)(x:ByteArray)(w:World)(hz:n≤zs.length)(hbig:n≤9223372036854775807)(hc:∀ j,j < zs.length→w.cell? ⟨b,off+j,none⟩=some (.string (zs.getD j ByteArray.empty))) :
 Calls Tryz.prog 99 #[.slice (some ⟨b,off,none⟩) n c,.string x] w fun e w'=>e = .returned (.int .i64 (Lib.idxOfS (zs.take n) x))∧w'=w:=Any.slices_Index_string Tryz.lays109 b off n c zs x w hz hbig hc
open Go.Lib in
theorem Tryz.slices_Index_string_empty(a:Option Addr)(c:Nat)(x:ByteArray)(w:World) :
 Calls Tryz.prog 99 #[.slice a 0 c,.string x] w fun e w'=>e = .returned (.int .i64 (Lib.idxOfS [] x))∧w'=w:=Any.slices_Index_string_empty Tryz.lays109 a c x w
def Tryz.lays110_ren:Go.Shelf.Ren:=⟨fun | 110=>61 | 109=>99 | n=>n,fun | 31=>22 | 9=>9 | 4=>4 | 3=>3 | 0=>0 | n=>n,fun | n=>n⟩
theorem Tryz.lays110 : Go.Proofs.Lays.n110 Tryz.prog Tryz.lays110_ren := {
  mixed:=by kernel_rfl
  f109:=Tryz.func99.trans (congrArg some (by kernel_rfl))
  f110:=Tryz.func61.trans (congrArg some (by kernel_rfl))
  t0:=Tryz.underlying0
  a0:=Tryz.isAgg0
  z0:=Tryz.sizeOf0
  v0:=Tryz.zeroValue0
  t3:=Tryz.underlying3
  a3:=Tryz.isAgg3
  z3:=Tryz.sizeOf3
  v3:=Tryz.zeroValue3
  t4:=Tryz.underlying4
  a4:=Tryz.isAgg4
  z4:=Tryz.sizeOf4
  v4:=Tryz.zeroValue4
  t9:=Tryz.underlying9
  a9:=Tryz.isAgg9
  z9:=Tryz.sizeOf9
  v9:=Tryz.zeroValue9
  t31:=Tryz.underlying22
  a31:=Tryz.isAgg22
  z31:=Tryz.sizeOf22
  v31:=Tryz.zeroValue22 }
open Go.Lib in
theorem Tryz.slices_Contains_string(b off n c:Nat)(zs:List ByteArray)(x:ByteArray)(w:World)(hz:n≤zs.length)(hbig:n≤9223372036854775807)(hc:∀ j,j < zs.length→w.cell? ⟨b,off+j,none⟩=some (.string (zs.getD j ByteArray.empty))) :
 Calls Tryz.prog 61 #[.slice (some ⟨b,off,none⟩) n c,.string x] w fun e w'=>e = .returned (.bool (Lib.containsS (zs.take n) x))∧w'=w:=Any.slices_Contains_string Tryz.lays110 b off n c zs x w hz hbig hc
open Go.Lib in
theorem Tryz.slices_Contains_string_empty(a:Option Addr)(c:Nat)(x:ByteArray)(w:World) :
 Calls Tryz.prog 61 #[.slice a 0 c,.string x] w fun e w'=>e = .returned (.bool false)∧w'=w:=Any.slices_Contains_string_empty Tryz.lays110 a c x w
def Tryz.laysNm217_ren:Go.Shelf.Ren:=⟨fun | 17=>98 | n=>n,fun | 24=>22 | 9=>9 | 3=>3 | 4=>4 | 0=>0 | n=>n,fun | n=>n⟩
theorem Tryz.laysNm217 : Go.Proofs.Lays2.n17 Tryz.prog Tryz.laysNm217_ren := {
  mixed:=by kernel_rfl
  f17:=Tryz.func98.trans (congrArg some (by kernel_rfl))
  t0:=Tryz.underlying0
  a0:=Tryz.isAgg0
  z0:=Tryz.sizeOf0
  v0:=Tryz.zeroValue0
  t3:=Tryz.underlying3
  a3:=Tryz.isAgg3
  z3:=Tryz.sizeOf3
  v3:=Tryz.zeroValue3
  t4:=Tryz.underlying4
  a4:=Tryz.isAgg4
  z4:=Tryz.sizeOf4
  v4:=Tryz.zeroValue4
  t9:=Tryz.underlying9
  a9:=Tryz.isAgg9
  z9:=Tryz.sizeOf9
  v9:=Tryz.zeroValue9
  t24:=Tryz.underlying22
  a24:=Tryz.isAgg22
  z24:=Tryz.sizeOf22
  v24:=Tryz.zeroValue22 }
open Go.RowKit Go.Lib Go.Sort in
theorem Tryz.slices_Reverse_string_empty(a:Option Addr)(cap:Nat)(w:World) :
 Calls Tryz.prog 98 #[.slice a 0 cap] w fun e w'=>e = .returned (.tuple #[])∧w'=w:=Any.slices_Reverse_string_empty Tryz.laysNm217 a cap w
def Tryz.laysNm216_ren:Go.Shelf.Ren:=⟨fun | 16=>97 | n=>n,fun | 24=>22 | 9=>9 | 4=>4 | n=>n,fun | n=>n⟩
theorem Tryz.laysNm216 : Go.Proofs.Lays2.n16 Tryz.prog Tryz.laysNm216_ren := {
  mixed:=by kernel_rfl
  f16:=Tryz.func97.trans (congrArg some (by kernel_rfl))
  t4:=Tryz.underlying4
  a4:=Tryz.isAgg4
  z4:=Tryz.sizeOf4
  v4:=Tryz.zeroValue4
  t9:=Tryz.underlying9
  a9:=Tryz.isAgg9
  z9:=Tryz.sizeOf9
  v9:=Tryz.zeroValue9
  t24:=Tryz.underlying22
  a24:=Tryz.isAgg22
  z24:=Tryz.sizeOf22
  v24:=Tryz.zeroValue22
  i9:=by kernel_rfl }
open Go.RowKit Go.Lib in
theorem Tryz.slices_Clone_string(b off n c:Nat)(zs:List ByteArray)(w:World)(hz:n≤zs.length)(hbig:n * 16≤140737488355328)(hc:∀ j,j < zs.length→w.cell? ⟨b,off+j,none⟩=some (.string (zs.getD j ByteArray.empty))) :
 Calls Tryz.prog 97 #[.slice (some ⟨b,off,none⟩) n c] w fun e w'=>∃ v',e = .returned v'∧w'.ownsRow w.heap.size 9 1 v' n ((zs.take n).map (Value.string))∧v'≠.slice none 0 0∧Below w.heap.size w w':=Any.slices_Clone_string Tryz.laysNm216 b off n c zs w hz hbig hc
open Go.RowKit Go.Lib in
theorem Tryz.slices_Clone_string_nil(n c:Nat)(w:World) :
 Calls Tryz.prog 97 #[.slice none n c] w fun e w'=>e = .returned (.slice none 0 0)∧w'=w:=Any.slices_Clone_string_nil Tryz.laysNm216 n c w
open Go.RowKit Go.Lib in
theorem Tryz.slices_Clone_string_zero(a:Addr)(c:Nat)(w:World) :
 Calls Tryz.prog 97 #[.slice (some a) 0 c] w fun e w'=>∃ v',e = .returned v'∧w'.ownsRow w.heap.size 9 1 v' 0 []∧v'≠.slice none 0 0∧Below w.heap.size w w':=Any.slices_Clone_string_zero Tryz.laysNm216 a c w
open Go.RowKit Go.Lib Go.Sort in
theorem Tryz.slices_Reverse_string_cells(b off n c:Nat)(Sx:Nat→ByteArray)(w:World)(hbig:n≤9223372036854775807)(hc:∀ i,i < n→w.cell? ⟨b,off+i,none⟩=some (.string (Sx i)))(hf:∀ j,j < n→w.frozen? ⟨b,off+j,none⟩=false) :
 Calls Tryz.prog 98 #[.slice (some ⟨b,off,none⟩) n c] w fun e w'=>e = .returned (.tuple #[])∧∃ q,w'=(w.drewN q).setCells b off ((Lib.strsOf Sx n).reverse.map encStr):=Any.slices_Reverse_string_cells Tryz.laysNm217 b off n c Sx w hbig hc hf
end Go.Proofs
