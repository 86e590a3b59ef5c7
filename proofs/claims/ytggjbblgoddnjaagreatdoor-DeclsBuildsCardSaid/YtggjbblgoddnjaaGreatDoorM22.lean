/- Part 22 of what the proof rests on. -/
import Derived.Laws.ResultCell
import Derived.Shelf.Strings.Builder1
import Derived.Shelf.Small.Strs
import Derived.Shelf.Strings.BuilderF
import Derived.Shelf.Strings.BuilderK
import Derived.Shelf.Strconv.Atoi
import Derived.Shelf.Strconv.Itoa0
import Derived.Shelf.Strconv.Itoa1
import Derived.Shelf.LaysM
import Derived.Shelf.Strconv.Itoa2
import Derived.Shelf.Strconv.Itoa3
import Derived.Shelf.Strconv.AtoiErrFast
import Derived.Shelf.Strconv.ParseIntEmpty
import Derived.Shelf.Strconv.AtoiFail
import Derived.Shelf.Strconv.Clone
import Derived.Shelf.Strconv.SyntaxError
import Derived.Shelf.LaysC
import Derived.Shelf.Strconv.ToError
import Derived.Shelf.Strconv.Lower
import Derived.Shelf.Strconv.ParseUint10
import Derived.Shelf.Strconv.ParseUint10Empty
import Derived.Shelf.Strconv.ParseUint10Any
import Derived.Shelf.Strconv.ParseInt10
import Derived.Shelf.Strconv.AtoiLong
import Derived.Shelf.Strconv.AtoiInnerAll
import Derived.Shelf.Strconv.RangeError
import Derived.Shelf.Strconv.ToErrorRange
import Derived.Shelf.Strconv.AtoiAll
import Derived.Shelf.Strconv.ErrVarAll
import Derived.Shelf.Strings.Search1
import Derived.Shelf.Slices.Turned
import Derived.Ground.Names2Prog
import Derived.Shelf.Slices.ReverseS
import Derived.Shelf.Slices.Clone
import Derived.Shelf.Slices.Cells
import Derived.Test.YtggjbblgoddnjaaGreatDoorProg
import Derived.Test.YtggjbblgoddnjaaGreatDoorM01
import Derived.Test.YtggjbblgoddnjaaGreatDoorM12
import Derived.Test.YtggjbblgoddnjaaGreatDoorM15
import Derived.Test.YtggjbblgoddnjaaGreatDoorM21
set_option linter.unusedSimpArgs false
set_option linter.unusedVariables false
set_option maxRecDepth 100000
set_option maxHeartbeats 4000000
namespace Go.Proofs.YtggjbblgoddnjaaGreatDoor
open Go.Conc Go.Lx Go.RowKit
def iH(l:List Nat):List Value:=l.map fun(n:Nat)=>.int .i64 (n:Int)
theorem gI(l r:List Nat):iH (l++r)=iH l++iH r:=List.map_append
theorem tK{l:List Nat}{k n:Nat}(h:l[k]? = some n):(iH l)[k]? = some (.int .i64 (n:Int)):=by simp[iH,h]
theorem Tryz.info3:(Tryz.prog.info? 3).map (fun i=>(i.zero,i.size,i.bytes))=some (some (.int .i64 0),1,8):=by kernel_rfl
noncomputable def sCA:Code:=Tryz.f66.body.getD .skip
noncomputable def wCA:Code:=xA (jA (jA sCA))
noncomputable def bgRound:Code:=aD (aD (jA wCA))
def gF(l:Value)(n k:Nat)(va:Value)(J:Nat→Value):Array Value :=
 #[l, J 1, J 2, J 3, va, J 5, J 6, J 7, l, .int .i64 (n : Int), .int .i64 (k : Int), J 11, J 12, J 13, J 14, J 15, J 16, J 17, J 18, J 19, J 20, J 21, J 22, J 23, J 24, J 25, J 26, J 27, J 28, J 29, J 30, J 31, J 32, J 33, J 34, J 35, J 36, J 37, J 38, J 39, J 40, J 41, J 42, J 43, J 44, J 45, J 46, J 47, J 48, J 49, J 50, J 51, J 52, J 53, J 54, J 55, J 56, J 57, J 58, J 59, J 60, J 61, J 62]
def jIA(v:Value)(b:Bool)(J:Nat→Value):Array Value:=#[J 0,J 1,v,.bool b,J 4,J 5,J 6,J 7,J 8,J 9,J 10,J 11,J 12,J 13,J 14,J 15,J 16,J 17,J 18,J 19,J 20,J 21,J 22,J 23,J 24,J 25,J 26,J 27,J 28,J 29,J 30,J 31,J 32,J 33,J 34,J 35,J 36,J 37,J 38,J 39,J 40,J 41,J 42,J 43,J 44,J 45,J 46,J 47,J 48,J 49,J 50,J 51,J 52,J 53,J 54,J 55,J 56,J 57,J 58,J 59,J 60,J 61,J 62]
def q3A(w0:World)(l:Value)(n k:Nat)(st:List Nat)(a':Act)(w':World):Prop :=
 ∃ va J,a'=⟨gF l n k va J,[]⟩∧w'.ownsRow w0.heap.size 3 1 va st.length (iH st)∧Under w0 w'
def k4A(w0:World)(l:Value)(n k s:Nat)(xs:List Value)(a':Act)(w':World):Prop :=
 ∃ va J,a'=⟨gF l n k va J,[]⟩∧w'.ownsRow w0.heap.size 3 1 va s xs∧Under w0 w'
def d4A(w0:World)(ex:Exit)(a':Act)(w':World):Prop:=ex = .ret∧∃ J,a'=⟨jIA (.slice none 0 0) false J,[]⟩∧Under w0 w'
def t3A(l:Value)(n:Nat)(va:Value)(w:World)(e:Exit)(a':Act)(w':World):Prop:=e = .exit 0∧∃ J,a'=⟨gF l n n va J,[]⟩∧w'=w
section
variable {w0 : World} {b off n cap k : Nat} {va : Value} {st : List Nat} {x : Sx}
theorem t0A(l:Value)(J:Nat→Value)(w:World) :
 bgRound.wp Tryz.prog (Exit.then (fun _ _=>False) (t3A l n va w)) ⟨gF l n n va J,[]⟩ w:=by
 unfold bgRound wCA sCA;simp only[Tryz.f66,Option.getD_some,xA,jA,aD];unfold gF;go_wp2;exact⟨rfl,bB (F:=gF l n n va) (by rfl) rfl⟩
theorem y2A (hx : ¬ wBA x st.length) (hk : k < n) (hn : n ≤ 1000000) (hsl : st.length ≤ 1000000) (J : Nat → Value) (w : World) (hP : w.ownsRow w0.heap.size 3 1 va st.length (iH st)) (hU : Under w0 w)
    (hb0:b < w0.heap.size) (c0:w0.cell? ⟨b,off+k * 3,none⟩=some (.int .i64 x.many)) (c1:w0.cell? ⟨b,off+k * 3+1,none⟩=some (.int .i64 x.pos)) (c2:w0.cell? ⟨b,off+k * 3+2,none⟩=some (.string x.word)) :
    bgRound.wp Tryz.prog (Exit.then (fun _ _=>False) (d4A w0)) ⟨gF (.slice (some ⟨b,off,none⟩) n cap) n k va J,[]⟩ w:=by
  have hb:=Nat.lt_of_lt_of_le hb0 hU.size;rw[← dA hU hb0]at c0 c1 c2;have hin:(k:Int) < n:=by omega
  have hk0:(0:Int)≤k:=Int.natCast_nonneg _;obtain⟨p,c,rfl⟩:∃ p c,va = .slice p st.length c:=by
   rcases hP.2 with⟨rfl,h0⟩ | ⟨g,cap,cur,rfl,_⟩
   · exact⟨none,0,by rw[h0]⟩
   · exact⟨_,_,rfl⟩
  have HU:=Lib.hid hU;clear hU hP;obtain⟨m,q,t⟩:=x;simp only[wBA]at hx c0 c1 c2;unfold bgRound wCA sCA;simp only[Tryz.f66,Option.getD_some,xA,jA,aD];unfold gF;by_cases hA:m < 0
  · clear hx;go_wp2;exact⟨rfl,bB (F:=jIA _ _) (by rfl) (aA HU.out _)⟩
  by_cases hD:(st.length:Int) < m
  · have hm0 : (m != 0) = true := by simp; omega
    by_cases hB:t.size=0
    · have e0 : t = ⟨#[]⟩ := by
        apply ByteArray.ext;exact Array.eq_empty_of_size_eq_zero hB
      subst e0;clear hx;go_wp2;exact⟨rfl,bB (F:=jIA _ _) (by rfl) (aA HU.out _)⟩
    · obtain⟨e1,e2⟩:=uL hB;clear hx hB;go_wp2;exact⟨rfl,bB (F:=jIA _ _) (by rfl) (aA HU.out _)⟩
  · have hB : t.size ≠ 0 ∧ m ≠ 0 := by
      by_cases h1:t.size=0
      · exact absurd ⟨by omega,fun h=>absurd h1 h,by omega⟩ hx
      · by_cases h2 : m = 0
        · exact absurd ⟨by omega,fun _=>h2,by omega⟩ hx
        · exact⟨h1,h2⟩
    have hm0:(m != 0)=true:=by simp;omega
    obtain⟨e1,e2⟩:=uL hB.1;clear hx hB;go_wp2;exact⟨rfl,bB (F:=jIA _ _) (by rfl) (aA HU.out _)⟩
theorem nYA (hx : x.many = 0) (hk : k < n) (hn : n ≤ 1000000) (hsl : st.length ≤ 1000000) (J : Nat → Value) (w : World) (hP : w.ownsRow w0.heap.size 3 1 va st.length (iH st)) (hU : Under w0 w)
    (hb0:b < w0.heap.size) (c0:w0.cell? ⟨b,off+k * 3,none⟩=some (.int .i64 x.many)) (c1:w0.cell? ⟨b,off+k * 3+1,none⟩=some (.int .i64 x.pos)) (c2:w0.cell? ⟨b,off+k * 3+2,none⟩=some (.string x.word)) :
    bgRound.wp Tryz.prog (Exit.then (q3A w0 (.slice (some ⟨b,off,none⟩) n cap) n (k+1) (st++[k])) (fun _ _ _=>False)) ⟨gF (.slice (some ⟨b,off,none⟩) n cap) n k va J,[]⟩ w:=by
  have hb:=Nat.lt_of_lt_of_le hb0 hU.size;rw[← dA hU hb0]at c0 c1 c2;obtain⟨i0,hi,hz0,hz1,hz2⟩:=info_parts Tryz.info3;have hin:(k:Int) < n:=by omega
  have hk0:(0:Int)≤k:=Int.natCast_nonneg _;have hmx:st.length+1≤maxLen:=by simp only[maxLen];omega
  have hby:(st.length+1) * 8≤140737488355328:=by omega
  obtain⟨m,q,t⟩:=x;simp only at hx c0 c1 c2;subst hx;unfold bgRound wCA sCA;simp only[Tryz.f66,Option.getD_some,xA,jA,aD];unfold gF;have HU:=Lib.hid hU;clear hU;have both:t=⟨#[]⟩∨(¬ t.toList=[]∧t.toList.isEmpty=false):=by
   by_cases hB:t.size=0
   · exact .inl (ByteArray.ext (Array.eq_empty_of_size_eq_zero hB))
   · exact .inr (uL hB)
  have hm0:((0:Int) != 0)=false:=by decide
  rcases hP.2 with⟨rfl,h0⟩ | ⟨g,c,cur,rfl,_,_,hc,_⟩
  · have e := List.length_eq_zero_iff.1 h0; subst e; have HP := Lib.hid hP; clear hP h0; rcases both with rfl | ⟨e1, e2⟩
    · skip
      go_wp2_with (at_builtin;refine wpList_append_own_at _ rfl _ _ 123 rfl w0.heap.size 3 i0 _ 1 8 Tryz.underlying123 hi hz0 hz1 hz2 rfl (by decide) _ _ _ rfl ((HP.out.alloc _).alloc _) ⟨w.heap.size+1,0,none⟩ 1 1 [.int .i64 (k:Int)] rfl rfl ?c1 ?c2 hmx hby ?c5 ?_)
      case c1 =>
        intro j u hj
        match j,hj with
        | 0,hj=>cases hj;simp[Addr.add]
      case c2=>intro u hu;simp at hu;rcases hu with rfl;rfl
      case c5=>have:=HU.out.size;simp;omega
      intro v' w' hown hgrow hnil hat;have HW:=Lib.hid hown;have HU2:=Lib.hid (rA (aA (aA HU.out _) _) hgrow fun g e=>(vB HP.out e).1);clear hown hgrow hnil hat;go_wp2;exact⟨v',bB (F:=gF _ n (k+1) v') (by rfl) ⟨by rw[gI,List.length_append];exact HW.out,HU2.out⟩⟩
    · skip
      go_wp2_with (at_builtin;refine wpList_append_own_at _ rfl _ _ 123 rfl w0.heap.size 3 i0 _ 1 8 Tryz.underlying123 hi hz0 hz1 hz2 rfl (by decide) _ _ _ rfl ((HP.out.alloc _).alloc _) ⟨w.heap.size+1,0,none⟩ 1 1 [.int .i64 (k:Int)] rfl rfl ?c1 ?c2 hmx hby ?c5 ?_)
      case c1 =>
        intro j u hj
        match j,hj with
        | 0,hj=>cases hj;simp[Addr.add]
      case c2=>intro u hu;simp at hu;rcases hu with rfl;rfl
      case c5=>have:=HU.out.size;simp;omega
      intro v' w' hown hgrow hnil hat;have HW:=Lib.hid hown;have HU2:=Lib.hid (rA (aA (aA HU.out _) _) hgrow fun g e=>(vB HP.out e).1);clear hown hgrow hnil hat;go_wp2;exact⟨v',bB (F:=gF _ n (k+1) v') (by rfl) ⟨by rw[gI,List.length_append];exact HW.out,HU2.out⟩⟩
  · have hc' : (st.length : Int) ≤ c := by omega
    have HP:=Lib.hid hP;clear hP;rcases both with rfl | ⟨e1,e2⟩
    · skip
      go_wp2_with (at_builtin;refine wpList_append_own_at _ rfl _ _ 123 rfl w0.heap.size 3 i0 _ 1 8 Tryz.underlying123 hi hz0 hz1 hz2 rfl (by decide) _ _ _ rfl ((HP.out.alloc _).alloc _) ⟨w.heap.size+1,0,none⟩ 1 1 [.int .i64 (k:Int)] rfl rfl ?c1 ?c2 hmx hby ?c5 ?_)
      case c1 =>
        intro j u hj
        match j,hj with
        | 0,hj=>cases hj;simp[Addr.add]
      case c2=>intro u hu;simp at hu;rcases hu with rfl;rfl
      case c5=>have:=HU.out.size;simp;omega
      intro v' w' hown hgrow hnil hat;have HW:=Lib.hid hown;have HU2:=Lib.hid (rA (aA (aA HU.out _) _) hgrow fun g e=>(vB HP.out e).1);clear hown hgrow hnil hat;go_wp2;exact⟨v',bB (F:=gF _ n (k+1) v') (by rfl) ⟨by rw[gI,List.length_append];exact HW.out,HU2.out⟩⟩
    · skip
      go_wp2_with (at_builtin;refine wpList_append_own_at _ rfl _ _ 123 rfl w0.heap.size 3 i0 _ 1 8 Tryz.underlying123 hi hz0 hz1 hz2 rfl (by decide) _ _ _ rfl ((HP.out.alloc _).alloc _) ⟨w.heap.size+1,0,none⟩ 1 1 [.int .i64 (k:Int)] rfl rfl ?c1 ?c2 hmx hby ?c5 ?_)
      case c1 =>
        intro j u hj
        match j,hj with
        | 0,hj=>cases hj;simp[Addr.add]
      case c2=>intro u hu;simp at hu;rcases hu with rfl;rfl
      case c5=>have:=HU.out.size;simp;omega
      intro v' w' hown hgrow hnil hat;have HW:=Lib.hid hown;have HU2:=Lib.hid (rA (aA (aA HU.out _) _) hgrow fun g e=>(vB HP.out e).1);clear hown hgrow hnil hat;go_wp2;exact⟨v',bB (F:=gF _ n (k+1) v') (by rfl) ⟨by rw[gI,List.length_append];exact HW.out,HU2.out⟩⟩
theorem vZA {s m h : Nat} {xs : List Value} (hx : x.many = (m : Int)) (hm : 0 < m) (hxw : x.word = ⟨#[]⟩) (hk : k < n) (hn : n ≤ 1000000) (hsl : s + m ≤ 1000000) (J : Nat → Value) (w : World) (hP : w.ownsRow w0.heap.size 3 1 va (s + m) xs) (hh : xs[s]? = some (.int .i64 (h : Int))) (hU : Under w0 w)
    (hb0:b < w0.heap.size) (c0:w0.cell? ⟨b,off+k * 3,none⟩=some (.int .i64 x.many)) (c1:w0.cell? ⟨b,off+k * 3+1,none⟩=some (.int .i64 x.pos)) (c2:w0.cell? ⟨b,off+k * 3+2,none⟩=some (.string x.word)) :
    bgRound.wp Tryz.prog (Exit.then (k4A w0 (.slice (some ⟨b,off,none⟩) n cap) n (k+1) (s+1) (xs.take s++[.int .i64 (h:Int)])) (fun _ _ _=>False)) ⟨gF (.slice (some ⟨b,off,none⟩) n cap) n k va J,[]⟩ w:=by
  have hb:=Nat.lt_of_lt_of_le hb0 hU.size;rw[← dA hU hb0]at c0 c1 c2;obtain⟨i0,hi,hz0,hz1,hz2⟩:=info_parts Tryz.info3;obtain⟨g,c,rfl,hg,hgb,hgl,hgc,_⟩:=kE hP (by omega);have hcell:=yD hP hg hh;have hin:(k:Int) < n:=by omega
  have hk0:(0:Int)≤k:=Int.natCast_nonneg _;have hmx:s+1≤maxLen:=by simp only[maxLen];omega
  have hby:(s+1) * 8≤140737488355328:=by omega
  obtain⟨mm,q,t⟩:=x;simp only at hx hxw c0 c1 c2;subst hx hxw;unfold bgRound wCA sCA;simp only[Tryz.f66,Option.getD_some,xA,jA,aD];unfold gF;have HU:=Lib.hid hU;have HP:=Lib.hid hP;clear hU hP;have m0:(0:Int) < (m:Int):=by omega
  have m1:¬((m:Int) < 0):=by omega
  have m2:¬((s:Int)+(m:Int) < (m:Int)):=by omega
  have m3:(s:Int)≤(c:Int):=by omega
  have m4:(s:Int) < (s:Int)+(m:Int):=by omega
  have m5:(s:Int)+(m:Int)≤1000000:=by omega
  have m6:(0:Int)≤(s:Int):=by omega
  go_wp2_with (at_builtin;refine wpList_append_own_at _ rfl _ _ 123 rfl w0.heap.size 3 i0 _ 1 8 Tryz.underlying123 hi hz0 hz1 hz2 rfl (by decide) _ _ _ rfl (((nN HP.out (m:=s) (by omega)).alloc _).alloc _) ⟨w.heap.size+1,0,none⟩ 1 1 [.int .i64 (h:Int)] rfl rfl ?c1 ?c2 hmx hby ?c5 ?_)
  case c2=>rfl
  case c5=>have:=HU.out.size;omega
  intro v' w' hown hgrow hnil hat;have HW:=Lib.hid hown;have HU2:=Lib.hid (rA (aA (aA HU.out _) _) hgrow fun g e=>(vB (nN HP.out (m:=s) (by omega)) e).1);clear hown hgrow hnil hat;go_wp2;exact⟨v',bB (F:=gF _ n (k+1) v') (by rfl) ⟨HW.out,HU2.out⟩⟩
structure BInv (w0:World) (row:List Sx) (R:Option (List Nat)) (m k:Nat) (va:Value) (st:List Nat) (w:World):Prop where
 cnt:m+k=row.length
 own:w.ownsRow w0.heap.size 3 1 va st.length (iH st)
 low:Under w0 w
 go:kC (row.drop k) k st=R
 stL:st.length≤k
def BI(w0:World)(l:Value)(row:List Sx)(R:Option (List Nat))(m:Nat)(a:Act)(w:World):Prop :=
 ∃ k va st J,a=⟨gF l row.length k va J,[]⟩∧BInv w0 row R m k va st w
def a6A(w0:World)(l:Value)(row:List Sx)(R:Option (List Nat))(e:Exit)(a:Act)(w:World):Prop :=
 (e = .exit 0∧∃ va st J,a=⟨gF l row.length row.length va J,[]⟩∧BInv w0 row R 0 row.length va st w)∨(R=none∧d4A w0 e a w)
theorem sQA (row : List Sx) {p : Option Addr} (hn : row.length ≤ 1000000) (hp : SxArg w0 p row) (R : Option (List Nat)) (m : Nat) (a : Act) (w : World)
    (h0:BI w0 (.slice p row.length cap) row R m a w) :
    (Code.loop bgRound).wp Tryz.prog (a6A w0 (.slice p row.length cap) row R) a w:=by
  refine wp_loop_ghost _ m h0 ?_;clear h0;rintro m a w ⟨k,va,st,J,rfl,hi⟩;have hmk:=hi.cnt;by_cases hkn:k=row.length
  · subst hkn; refine wp_mono (t0A _ J w) ?_; rintro e a' w' h
    cases e with
    | normal=>exact h.elim
    | _ =>
      obtain⟨h1,J',rfl,rfl⟩:=h;have:m=0:=by omega
      subst this;exact .inl ⟨h1,va,st,J',rfl,hi⟩
  have hlt:k < row.length:=by omega
  obtain⟨b,off,rfl,hb0,ht⟩:=hp (fun e=>by rw[e]at hlt;exact absurd hlt (Nat.not_lt_zero _));obtain⟨x,hx0⟩:∃ x,row[k]? = some x:=⟨_,List.getElem?_eq_getElem hlt⟩;have hd:row.drop k=x::row.drop (k+1):=by
   rw[List.drop_eq_getElem_cons hlt];rw[List.getElem?_eq_getElem hlt]at hx0
   cases hx0;rfl
  have hgo:=hi.go;rw[hd]at hgo;simp only[kC]at hgo;obtain⟨c0,c1,c2⟩:=ht k x hx0;have hst:=hi.stL;by_cases hg:wBA x st.length
  · rw [if_pos hg] at hgo; obtain ⟨g1, g2, g3⟩ := hg; by_cases hm : x.many = 0
    · refine wp_mono (nYA (cap := cap) hm hlt hn (by omega) J w hi.own hi.low hb0 c0 c1 c2) ?_; rintro e a' w' h
      cases e with
      | normal =>
        obtain⟨va',J',rfl,ho,hU⟩:=h;refine⟨m - 1,by omega,k+1,va',st++[k],J',rfl,by omega,ho,hU,?_,by simp;omega⟩;rw[← hgo];congr 1
        unfold gL;simp[hm]
      | _=>exact h.elim
    · have hw : x.word = ⟨#[]⟩ := by
        apply ByteArray.ext;apply Array.eq_empty_of_size_eq_zero;exact Decidable.byContradiction fun h=>hm (g2 h)
      obtain⟨mm,hmm⟩:∃ mm:Nat,x.many=mm:=⟨x.many.toNat,by omega⟩;obtain⟨s,hs⟩:∃ s,st.length=s+mm:=⟨st.length - mm,by omega⟩;have hsl:s < st.length:=by omega
      have own:=hi.own;rw[hs]at own;refine wp_mono (vZA (cap:=cap) (s:=s) (m:=mm) (h:=st[s]) hmm (by omega) hw hlt hn (by omega) J w own (tK (List.getElem?_eq_getElem hsl)) hi.low hb0 c0 c1 c2) ?_;rintro e a' w' h
      cases e with
      | normal =>
        obtain⟨va',J',rfl,ho,hU⟩:=h;have e1:gL x k st=st.take s++[st[s]]:=by
         unfold gL;rw[hmm,Int.toNat_natCast,hs,Nat.add_sub_cancel];congr 2
         rw[List.drop_eq_getElem_cons hsl];rfl
        have e2:(gL x k st).length=s+1:=by rw[e1,List.length_append,List.length_take];simp;omega
        refine⟨m - 1,by omega,k+1,va',gL x k st,J',rfl,by omega,?_,hU,hgo,by omega⟩;rw[e2,e1,gI];unfold iH at ho ⊢;rw[List.map_take];exact ho
      | _=>exact h.elim
  · rw [if_neg hg] at hgo; refine wp_mono (y2A (cap := cap) hg hlt hn (by omega) J w hi.own hi.low hb0 c0 c1 c2) ?_; rintro e a' w' h
    cases e with
    | normal=>exact h.elim
    | _=>exact .inr ⟨hgo.symm,h⟩
def z3A(w0:World)(n:Nat)(R:Option (List Nat))(e:Ending)(w':World):Prop :=
 Under w0 w'∧match R with
  | some st=>∃ va,e = .returned (.tuple #[va,.bool true])∧w'.ownsRow w0.heap.size 3 1 va (st.length+1) (iH (st++[n]))
  | none=>e = .returned (.tuple #[.slice none 0 0,.bool false])
theorem zU(row:List Sx){p:Option Addr}(hn:row.length≤1000000)(hp:SxArg w0 p row) :
 Calls Tryz.prog 66 #[.slice p row.length cap] w0 (z3A w0 row.length (kC row 0 [])):=by
 have HL:=Lib.hid (fun m a w h=>sQA (w0:=w0) (cap:=cap) row hn hp (kC row 0 []) m a w h);generalize hR:kC row 0 []=R at *;have HR:=Lib.hid hR;obtain⟨i0,hi,hz0,hz1,hz2⟩:=info_parts Tryz.info3;clear hR hp;go_enter Tryz.func66,Tryz.ntmps66;go_wp2;rename_i K hK;refine wp_mono (HL.out row.length _ _ ⟨0,.slice none 0 0,[],_,zB (F:=gF _ _ 0 _) (by rfl),⟨rfl,kX _ _ _ _,⟨rfl,rfl,Nat.le_refl _,fun _ _=>rfl⟩,HR.out,Nat.le_refl _⟩⟩) ?_;rintro e a' w' (⟨rfl,va,st,J,rfl,hv⟩ | ⟨rfl,rfl,J,rfl,hu⟩)
 · simp only [Exit.inBlock, if_pos, Exit.then]; refine hK _ _ ?_; have hgo := hv.go; rw [List.drop_length] at hgo; have hst := hv.stL; have hmx : st.length + 1 ≤ maxLen := by simp only [maxLen]; omega
   have hby:(st.length+1) * 8≤140737488355328:=by omega
   have HI:=Lib.hid hv;have HG:=Lib.hid hgo;have hws:=hv.low.size;clear hv hgo;unfold gF;go_wp2_with (at_builtin;refine wpList_append_own_at _ rfl _ _ 123 rfl w0.heap.size 3 i0 _ 1 8 Tryz.underlying123 hi hz0 hz1 hz2 rfl (by decide) _ _ _ rfl (HI.out.own.alloc _) ⟨w'.heap.size,0,none⟩ 1 1 [.int .i64 (row.length:Int)] rfl rfl ?c1 ?c2 hmx hby ?c5 ?_)
   case c1 =>
     intro j u hj
     match j,hj with
     | 0,hj=>cases hj;simp[Addr.add]
   case c2=>intro u hu;simp at hu;rcases hu with rfl;rfl
   case c5=>simp;omega
   intro v' w1 hown hgrow hnil hat;have HW:=Lib.hid hown;have HU2:=Lib.hid (rA (aA HI.out.low _) hgrow fun g e=>(vB HI.out.own e).1);clear hown hgrow hnil hat;go_wp2;go_ret2;obtain rfl:some st=R:=HG.out;exact⟨HU2.out,v',rfl,by rw[gI];exact HW.out⟩
 · simp only[Exit.inBlock,Exit.then];go_ret2;exact⟨hu,rfl⟩
end
end Go.Proofs.YtggjbblgoddnjaaGreatDoor
namespace Go.Proofs.YtggjbblgoddnjaaGreatDoor
open Go.Lx Go.RowKit
def sxV(x:Sx):Value:=.agg #[.int .i64 x.many,.int .i64 x.pos,.string x.word]
section
variable {w0 : World}
theorem gFA(T:ST){q:Option Addr}{cap:Nat}(hn:(xB T).length≤1000000)(hq:SxArg w0 q (xB T)):Calls Tryz.prog 127 #[.slice q (xB T).length cap] w0 fun e w=>e = .returned (sxV T.last)∧Under w0 w:=by
 obtain⟨init,hi⟩:=dV T;obtain⟨b,off,rfl,hb,ht⟩:=hq (by rw[hi];simp);obtain⟨c0,c1,c2⟩:=ht init.length T.last (by rw[hi];simp);have hl:(xB T).length=init.length+1:=by rw[hi];simp
 rw[hl]at hn ⊢;generalize T.last=x at *;generalize init.length=m at *;have hmi:((m:Int)+1 - 1)=(m:Int):=by omega
 have hm1:(m:Int)≤1000000:=by omega
 have hm0:(0:Int)≤(m:Int):=by omega
 clear hi ht hl hn;go_enter Tryz.func127,Tryz.ntmps127;go_wp2;refine bodyPost_ret (v:=sxV x) ?_ rfl ⟨rfl,aA (Under.refl _) _⟩;simp[results,Tryz.f127,go_sem,sxV]
theorem tQA(x:Sx){rb m1 m2:Nat}(hs:x.word.size≤maxLen)(hT:Tables w0 rb m1 m2):Calls Tryz.prog 153 #[.pointer (some ⟨rb,0,none⟩),sxV x] w0 fun e w=>e = .returned (.bool (aU x.word))∧Under w0 w:=by
 have hk:aU x.word=(rD x.word && !kwB x.word):=by unfold aU;rw[o1A]
 obtain⟨m,p,s⟩:=x;simp only at hk hs;have HN:=Lib.hid (fun w=>eH s w hs);have HU0:=Lib.hid (aA (Under.refl w0) (.cells #[.int .i64 m,.int .i64 p,.string s] 28));obtain⟨hlt,c1,c2,h1,h2⟩:=hT;have hT:Tables (w0.alloc (.cells #[.int .i64 m,.int .i64 p,.string s] 28)) rb m1 m2:=⟨by rw[World.size_alloc];omega,by rw[dA HU0.out hlt];exact c1,by rw[dA HU0.out hlt];exact c2,h1.under HU0.out,h2.under HU0.out⟩;have HK:=Lib.hid (nZ s hT);have HE:=Lib.hid hk;generalize aU s=R at *;generalize kwB s=b at *;generalize rD s=a at *;clear hk hT h1 h2 c1 c2 hs;unfold sxV
 cases a
 · go_enter Tryz.func153,Tryz.ntmps153;go_wp2_with fail;refine(HN.out _).mono ?_;rintro e w1 ⟨rfl,rfl⟩;go_wp2;go_ret;exact⟨by rw[HE.out];rfl,HU0.out⟩
 · go_enter Tryz.func153,Tryz.ntmps153;go_wp2_with fail;refine(HN.out _).mono ?_;rintro e w1 ⟨rfl,rfl⟩;go_wp2_with fail;refine HK.out.mono ?_;rintro e w2 ⟨rfl,hU⟩;have HU:=Lib.hid hU;clear hU;go_wp2;go_ret;exact⟨by rw[HE.out];rfl,HU0.out.trans HU.out⟩
end
end Go.Proofs.YtggjbblgoddnjaaGreatDoor
namespace Go.Proofs
open Go.Shelf
def Tryz.lays109_ren:Go.Shelf.Ren:=⟨fun | 109=>90 | n=>n,fun | 31=>50 | 9=>9 | 3=>3 | 0=>0 | 4=>4 | n=>n,fun | n=>n⟩
theorem Tryz.lays109 : Go.Proofs.Lays.n109 Tryz.prog Tryz.lays109_ren := {
  mixed:=by kernel_rfl
  f109:=Tryz.func90.trans (congrArg some (by kernel_rfl))
  t0:=Tryz.underlying0
  a0:=Tryz.isAgg0
  z0:=Tryz.sizeOf0
  v0:=Tryz.zeroValue0
  t3:=Tryz.underlying3
  a3:=Tryz.isAgg3
  z3:=Tryz.sizeOf3
  v3:=Tryz.zeroValue3
  t4:=Tryz.underlying4
  a4:=Tryz.isAgg4
  z4:=Tryz.sizeOf4
  v4:=Tryz.zeroValue4
  t9:=Tryz.underlying9
  a9:=Tryz.isAgg9
  z9:=Tryz.sizeOf9
  v9:=Tryz.zeroValue9
  t31:=Tryz.underlying50
  a31:=Tryz.isAgg50
  z31:=Tryz.sizeOf50
  v31:=Tryz.zeroValue50 }
open Go.Lib in
theorem Tryz.slices_Index_string(b off n c:Nat)(zs:List ByteArray)(x:ByteArray)(w:World)(hz:n≤zs.length)(hbig:n≤9223372036854775807)(hc:∀ j,j < zs.length→w.cell? ⟨b,off+j,none⟩=some (.string (zs.getD j ByteArray.empty))) :
 Calls Tryz.prog 90 #[.slice (some ⟨b,off,none⟩) n c,.string x] w fun e w'=>e = .returned (.int .i64 (Lib.idxOfS (zs.take n) x))∧w'=w:=Any.slices_Index_string Tryz.lays109 b off n c zs x w hz hbig hc
open Go.Lib in
theorem Tryz.slices_Index_string_empty(a:Option Addr)(c:Nat)(x:ByteArray)(w:World) :
 Calls Tryz.prog 90 #[.slice a 0 c,.string x] w fun e w'=>e = .returned (.int .i64 (Lib.idxOfS [] x))∧w'=w:=Any.slices_Index_string_empty Tryz.lays109 a c x w
def Tryz.lays110_ren:Go.Shelf.Ren:=⟨fun | 110=>55 | 109=>90 | n=>n,fun | 31=>50 | 9=>9 | 4=>4 | 3=>3 | 0=>0 | n=>n,fun | n=>n⟩
theorem Tryz.lays110 : Go.Proofs.Lays.n110 Tryz.prog Tryz.lays110_ren := {
  mixed:=by kernel_rfl
  f109:=Tryz.func90.trans (congrArg some (by kernel_rfl))
  f110:=Tryz.func55.trans (congrArg some (by kernel_rfl))
  t0:=Tryz.underlying0
  a0:=Tryz.isAgg0
  z0:=Tryz.sizeOf0
  v0:=Tryz.zeroValue0
  t3:=Tryz.underlying3
  a3:=Tryz.isAgg3
  z3:=Tryz.sizeOf3
  v3:=Tryz.zeroValue3
  t4:=Tryz.underlying4
  a4:=Tryz.isAgg4
  z4:=Tryz.sizeOf4
  v4:=Tryz.zeroValue4
  t9:=Tryz.underlying9
  a9:=Tryz.isAgg9
  z9:=Tryz.sizeOf9
  v9:=Tryz.zeroValue9
  t31:=Tryz.underlying50
  a31:=Tryz.isAgg50
  z31:=Tryz.sizeOf50
  v31:=Tryz.zeroValue50 }
open Go.Lib in
theorem Tryz.slices_Contains_string(b off n c:Nat)(zs:List ByteArray)(x:ByteArray)(w:World)(hz:n≤zs.length)(hbig:n≤9223372036854775807)(hc:∀ j,j < zs.length→w.cell? ⟨b,off+j,none⟩=some (.string (zs.getD j ByteArray.empty))) :
 Calls Tryz.prog 55 #[.slice (some ⟨b,off,none⟩) n c,.string x] w fun e w'=>e = .returned (.bool (Lib.containsS (zs.take n) x))∧w'=w:=Any.slices_Contains_string Tryz.lays110 b off n c zs x w hz hbig hc
open Go.Lib in
theorem Tryz.slices_Contains_string_empty(a:Option Addr)(c:Nat)(x:ByteArray)(w:World) :
 Calls Tryz.prog 55 #[.slice a 0 c,.string x] w fun e w'=>e = .returned (.bool false)∧w'=w:=Any.slices_Contains_string_empty Tryz.lays110 a c x w
def Tryz.laysNm217_ren:Go.Shelf.Ren:=⟨fun | 17=>173 | n=>n,fun | 24=>50 | 9=>9 | 3=>3 | 4=>4 | 0=>0 | n=>n,fun | n=>n⟩
theorem Tryz.laysNm217 : Go.Proofs.Lays2.n17 Tryz.prog Tryz.laysNm217_ren := {
  mixed:=by kernel_rfl
  f17:=Tryz.func173.trans (congrArg some (by kernel_rfl))
  t0:=Tryz.underlying0
  a0:=Tryz.isAgg0
  z0:=Tryz.sizeOf0
  v0:=Tryz.zeroValue0
  t3:=Tryz.underlying3
  a3:=Tryz.isAgg3
  z3:=Tryz.sizeOf3
  v3:=Tryz.zeroValue3
  t4:=Tryz.underlying4
  a4:=Tryz.isAgg4
  z4:=Tryz.sizeOf4
  v4:=Tryz.zeroValue4
  t9:=Tryz.underlying9
  a9:=Tryz.isAgg9
  z9:=Tryz.sizeOf9
  v9:=Tryz.zeroValue9
  t24:=Tryz.underlying50
  a24:=Tryz.isAgg50
  z24:=Tryz.sizeOf50
  v24:=Tryz.zeroValue50 }
open Go.RowKit Go.Lib Go.Sort in
theorem Tryz.slices_Reverse_string_empty(a:Option Addr)(cap:Nat)(w:World) :
 Calls Tryz.prog 173 #[.slice a 0 cap] w fun e w'=>e = .returned (.tuple #[])∧w'=w:=Any.slices_Reverse_string_empty Tryz.laysNm217 a cap w
def Tryz.laysNm216_ren:Go.Shelf.Ren:=⟨fun | 16=>172 | n=>n,fun | 24=>50 | 9=>9 | 4=>4 | n=>n,fun | n=>n⟩
theorem Tryz.laysNm216 : Go.Proofs.Lays2.n16 Tryz.prog Tryz.laysNm216_ren := {
  mixed:=by kernel_rfl
  f16:=Tryz.func172.trans (congrArg some (by kernel_rfl))
  t4:=Tryz.underlying4
  a4:=Tryz.isAgg4
  z4:=Tryz.sizeOf4
  v4:=Tryz.zeroValue4
  t9:=Tryz.underlying9
  a9:=Tryz.isAgg9
  z9:=Tryz.sizeOf9
  v9:=Tryz.zeroValue9
  t24:=Tryz.underlying50
  a24:=Tryz.isAgg50
  z24:=Tryz.sizeOf50
  v24:=Tryz.zeroValue50
  i9:=by kernel_rfl }
open Go.RowKit Go.Lib in
theorem Tryz.slices_Clone_string(b off n c:Nat)(zs:List ByteArray)(w:World)(hz:n≤zs.length)(hbig:n * 16≤140737488355328)(hc:∀ j,j < zs.length→w.cell? ⟨b,off+j,none⟩=some (.string (zs.getD j ByteArray.empty))) :
 Calls Tryz.prog 172 #[.slice (some ⟨b,off,none⟩) n c] w fun e w'=>∃ v',e = .returned v'∧w'.ownsRow w.heap.size 9 1 v' n ((zs.take n).map (Value.string))∧v'≠.slice none 0 0∧Below w.heap.size w w':=Any.slices_Clone_string Tryz.laysNm216 b off n c zs w hz hbig hc
open Go.RowKit Go.Lib in
theorem Tryz.slices_Clone_string_nil(n c:Nat)(w:World) :
 Calls Tryz.prog 172 #[.slice none n c] w fun e w'=>e = .returned (.slice none 0 0)∧w'=w:=Any.slices_Clone_string_nil Tryz.laysNm216 n c w
open Go.RowKit Go.Lib in
theorem Tryz.slices_Clone_string_zero(a:Addr)(c:Nat)(w:World) :
 Calls Tryz.prog 172 #[.slice (some a) 0 c] w fun e w'=>∃ v',e = .returned v'∧w'.ownsRow w.heap.size 9 1 v' 0 []∧v'≠.slice none 0 0∧Below w.heap.size w w':=Any.slices_Clone_string_zero Tryz.laysNm216 a c w
open Go.RowKit Go.Lib Go.Sort in
theorem Tryz.slices_Reverse_string_cells(b off n c:Nat)(Sx:Nat→ByteArray)(w:World)(hbig:n≤9223372036854775807)(hc:∀ i,i < n→w.cell? ⟨b,off+i,none⟩=some (.string (Sx i)))(hf:∀ j,j < n→w.frozen? ⟨b,off+j,none⟩=false) :
 Calls Tryz.prog 173 #[.slice (some ⟨b,off,none⟩) n c] w fun e w'=>e = .returned (.tuple #[])∧∃ q,w'=(w.drewN q).setCells b off ((Lib.strsOf Sx n).reverse.map encStr):=Any.slices_Reverse_string_cells Tryz.laysNm217 b off n c Sx w hbig hc hf
end Go.Proofs
namespace Go.Proofs.YtggjbblgoddnjaaGreatDoor
open Go.Lx Go.RowKit
theorem xQ{w:World}{b off:Nat}{ss:List ByteArray}(h:CellsAt w b off (ss.map .string))(j:Nat)(hj:j < ss.length):w.cell? ⟨b,off+j,none⟩=some (.string (ss.getD j ByteArray.empty)):=by
 refine h j _ ?_;rw[List.getElem?_map,List.getElem?_eq_getElem hj,List.getD_eq_getElem?_getD,List.getElem?_eq_getElem hj];rfl
theorem hMA{w:World}{v:Value}{ss:List ByteArray}(hv:TextsV w v ss)(hn:ss.length≤1000000):Calls Tryz.prog 172 #[v] w fun e w'=>∃ u,e = .returned u∧w'.ownsRow w.heap.size 9 1 u ss.length (ss.map .string)∧Under w w':=by
 obtain⟨p,c,rfl,h1,h2,h3⟩:=hv
 cases p with
 | none =>
   have hl:ss=[]:=Classical.byContradiction fun h=>by
    obtain⟨b,off,e,_⟩:=h3 (fun e=>h (by simpa using e))
    cases e
   subst hl;refine(Tryz.slices_Clone_string_nil _ c w).mono ?_;rintro e w' ⟨rfl,rfl⟩;exact⟨_,rfl,World.ownsRow_nil _ _ _ _,Under.refl _⟩
 | some a =>
   by_cases hl:ss=[]
   · subst hl;refine(Tryz.slices_Clone_string_zero a c w).mono ?_;rintro e w' ⟨v',rfl,h4,_,h5⟩;exact⟨v',rfl,h4,uZ h5⟩
   · obtain ⟨b, off, e, hb, hc⟩ := h3 (fun e => hl (by simpa using e))
     cases e;refine(Tryz.slices_Clone_string b off ss.length c ss w (Nat.le_refl _) (by omega) (xQ hc)).mono ?_;rintro e w' ⟨v',rfl,h4,_,h5⟩;rw[List.take_length]at h4;exact⟨v',rfl,h4,uZ h5⟩
theorem kNA{w:World}{v:Value}{ss:List ByteArray}(x:ByteArray)(hv:TextsV w v ss)(hn:ss.length≤1000000):Calls Tryz.prog 90 #[v,.string x] w fun e w'=>e = .returned (.int .i64 (Lib.idxOfS ss x))∧w'=w:=by
 obtain⟨p,c,rfl,h1,h2,h3⟩:=hv;by_cases hl:ss=[]
 · subst hl;exact Tryz.slices_Index_string_empty p c x w
 · obtain⟨b,off,rfl,hb,hc⟩:=h3 (fun e=>hl (by simpa using e));have:=Tryz.slices_Index_string b off ss.length c ss x w (Nat.le_refl _) (by omega) (xQ hc);rw[List.take_length]at this;exact this
theorem dO{w:World}{v:Value}{ss:List ByteArray}(x:ByteArray)(hv:TextsV w v ss)(hn:ss.length≤1000000):Calls Tryz.prog 55 #[v,.string x] w fun e w'=>e = .returned (.bool (aL ss x))∧w'=w:=by
 obtain⟨p,c,rfl,h1,h2,h3⟩:=hv;by_cases hl:ss=[]
 · subst hl;exact Tryz.slices_Contains_string_empty p c x w
 · obtain⟨b,off,rfl,hb,hc⟩:=h3 (fun e=>hl (by simpa using e));have:=Tryz.slices_Contains_string b off ss.length c ss x w (Nat.le_refl _) (by omega) (xQ hc);rw[List.take_length,nAA]at this;exact this
theorem yGA{W w:World}{v:Value}{base:Nat}{ss:List ByteArray}(hr:w.ownsRow base 9 1 v ss.length (ss.map .string))(hn:ss.length≤1000000)(hb:W.heap.size≤base)(hU:Under W w) :
 Calls Tryz.prog 173 #[v] w fun e w'=>e = .returned (.tuple #[])∧w'.ownsRow base 9 1 v ss.length (ss.reverse.map .string)∧Under W w':=by
 by_cases hl:ss=[]
 · subst hl; have hv : ∃ a c, v = .slice a 0 c := by
    rcases hr.2 with⟨rfl,_⟩ | ⟨g,c,cur,rfl,_⟩
    · exact⟨_,_,rfl⟩
    · exact⟨_,_,rfl⟩
   obtain⟨a,c,rfl⟩:=hv;refine(Tryz.slices_Reverse_string_empty a c w).mono ?_;rintro e w' ⟨rfl,rfl⟩;exact⟨rfl,hr,hU⟩
 · have hpos : 0 < ss.length := List.length_pos_iff.2 hl; obtain ⟨g, c, rfl, hg, hgb, hgl, _, _⟩ := kE hr hpos; refine (Tryz.slices_Reverse_string_cells g 0 ss.length c (fun i => ss.getD i ByteArray.empty) w (by omega) ?_ ?_).mono ?_
   · intro i hi;rw[Nat.zero_add];exact yD hr rfl (by rw[List.getElem?_map,List.getElem?_eq_getElem hi,List.getD_eq_getElem?_getD,List.getElem?_eq_getElem hi];rfl)
   · intro j _;rw[Nat.zero_add];exact qKA hr rfl j
   · rintro e w' ⟨rfl, q, rfl⟩; have hU1 : Under w (w.drewN q) := aB (Under.refl _) q; have hs : (Lib.strsOf (fun i => ss.getD i ByteArray.empty) ss.length).reverse.map Proofs.encStr = ss.reverse.map Value.string := by
      rw[List.map_reverse,List.map_reverse];congr 1
      apply List.ext_getElem
      · simp[Lib.strsOf]
      · intro j h1 h2;simp at h2;simp[Lib.strsOf,Proofs.encStr,List.getD_eq_getElem?_getD,List.getElem?_eq_getElem h2]
     rw[hs];have h4:=nW (g:=g) rfl (ss.reverse.map Value.string) 0 _ _ (dC hr hU1) (by simp);rw[List.take_zero,List.nil_append,List.drop_eq_nil_of_le (by simp),List.append_nil]at h4;exact⟨rfl,h4,vR (by omega) _ _ _ (hU.trans hU1)⟩
end Go.Proofs.YtggjbblgoddnjaaGreatDoor
