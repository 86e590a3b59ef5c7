/- Part 8 of what the proof rests on. -/
import Derived.OwnWalk
import Derived.Maps.AppendAt
import Derived.Deep.QuietTactic
import Derived.BigQuiet
import Derived.Deep.LoopGhost
import Derived.Test.YtggjbblgoddnjaaGreatDoorChecked
import Derived.Laws.ResultCell
import Derived.Shelf.Strings.Builder1
import Derived.Shelf.Small.Strs
import Derived.Shelf.Strings.BuilderF
import Derived.Shelf.Strings.BuilderK
import Derived.Shelf.Strconv.Atoi
import Derived.Shelf.Strconv.Itoa0
import Derived.Shelf.Strconv.Itoa1
import Derived.Shelf.LaysM
import Derived.Shelf.Strconv.Itoa2
import Derived.Shelf.Strconv.Itoa3
import Derived.Shelf.Strconv.AtoiErrFast
import Derived.Shelf.Strconv.ParseIntEmpty
import Derived.Shelf.Strconv.AtoiFail
import Derived.Shelf.Strconv.Clone
import Derived.Shelf.Strconv.SyntaxError
import Derived.Shelf.LaysC
import Derived.Shelf.Strconv.ToError
import Derived.Shelf.Strconv.Lower
import Derived.Shelf.Strconv.ParseUint10
import Derived.Shelf.Strconv.ParseUint10Empty
import Derived.Shelf.Strconv.ParseUint10Any
import Derived.Shelf.Strconv.ParseInt10
import Derived.Shelf.Strconv.AtoiLong
import Derived.Shelf.Strconv.AtoiInnerAll
import Derived.Shelf.Strconv.RangeError
import Derived.Shelf.Strconv.ToErrorRange
import Derived.Shelf.Strconv.AtoiAll
import Derived.Shelf.Strconv.ErrVarAll
import Derived.Shelf.Strings.Search1
import Derived.Shelf.Slices.Turned
import Derived.Ground.Names2Prog
import Derived.Shelf.Slices.ReverseS
import Derived.Shelf.Slices.Clone
import Derived.Shelf.Slices.Cells
import Derived.Test.YtggjbblgoddnjaaGreatDoorProg
import Derived.Deep.RegionLaw
import Derived.Deep.RegionHeld3
import Derived.Deep.AppendLies
import Derived.Conc.CompanyMem
import Derived.Conc.WalkWords
import Derived.Lib.ItoaLen
import Derived.Lib.AtoiAllCases
import Derived.Test.YtggjbblgoddnjaaGreatDoorM00
import Derived.Test.YtggjbblgoddnjaaGreatDoorM04
import Derived.Test.YtggjbblgoddnjaaGreatDoorM06
import Derived.Test.YtggjbblgoddnjaaGreatDoorM07
set_option linter.unusedSimpArgs false
set_option linter.unusedVariables false
set_option maxRecDepth 100000
set_option maxHeartbeats 4000000
namespace Go.Proofs.YtggjbblgoddnjaaGreatDoor
open Go.Conc Go.Lx Go.RowKit
structure PH (w0:World) (vr:Value) (row:List Sx) (vo:Value) (init:List Sx) (x:Sx) (w:World):Prop where
 row:w.ownsRow w0.heap.size 28 3 vr row.length (bE row)
 op:w.ownsRow w0.heap.size 28 3 vo (init.length+1) (bE (init++[x]))
 ne:vr.ownBlock=none∨vr.ownBlock≠vo.ownBlock
 low:Under w0 w
theorem Tryz.info28:(Tryz.prog.info? 28).map (fun i=>(i.zero,i.size,i.bytes))=some (some (.agg #[.int .i64 0,.int .i64 0,.string ⟨#[]⟩]),3,32):=by kernel_rfl
section
variable {w0 w w' : World} {vr vo v' : Value} {row init : List Sx} {x y : Sx}
theorem PH.alloc(h:PH w0 vr row vo init x w)(o:Obj):PH w0 vr row vo init x (w.alloc o):=⟨h.row.alloc o,h.op.alloc o,h.ne,bA h.low o⟩
theorem PH.addRow(h:PH w0 vr row vo init x w)(hg:w.grownBy w' vr.ownBlock)(hat:v'.ownBlock=vr.ownBlock∨v'.ownBlock=some w.heap.size)(hr:w'.ownsRow w0.heap.size 28 3 v' (row.length+1) (bE row++[.int .i64 y.many,.int .i64 y.pos,.string y.word])):PH w0 v' (row++[y]) vo init x w':=by
 refine⟨by rw[List.length_append,tK];exact hr,vE h.op hg ?_,?_,xA h.low hg fun g e=>(jB h.row e).1⟩
 · rcases h.ne with e | e
   · rw[e];cases vo.ownBlock<;>simp
   · exact .inr fun e'=>e e'.symm
 · rcases hat with e | e
   · rw[e];exact h.ne
   · rw [e]; refine .inr fun e' => ?_
     have:=(jB h.op e'.symm).2;omega
theorem PH.addOpen(h:PH w0 vr row vo init x w)(hg:w.grownBy w' vo.ownBlock)(hat:v'.ownBlock=vo.ownBlock∨v'.ownBlock=some w.heap.size)(hr:w'.ownsRow w0.heap.size 28 3 v' (init.length+1+1) (bE (init++[x])++[.int .i64 y.many,.int .i64 y.pos,.string y.word])):PH w0 vr row v' (init++[x]) y w':=by
 refine⟨vE h.row hg h.ne,by rw[List.length_append,tK (init++[x])];exact hr,?_,xA h.low hg fun g e=>(jB h.op e).1⟩;rcases hat with e | e
 · rw[e];exact h.ne
 · rw [e]; cases hv : vr.ownBlock with
   | none=>exact .inl rfl
   | some g=>refine .inr fun e'=>?_;cases e';have:=(jB h.row hv).2;omega
theorem PH.top(h:PH w0 vr row vo init x w){g:Nat}(hg:vo.ownBlock=some g)(m:Int):PH w0 vr row vo init ⟨m,x.pos,x.word⟩ (w.setCell ⟨g,init.length * 3,none⟩ (.int .i64 m)):=by
 refine⟨rD h.row ?_ _ _,?_,h.ne,bC h.low (jB h.op hg).1 _ _⟩
 · rcases h.ne with e | e
   · rw[e];simp
   · rw[← hg];exact e
 · have:=cWA h.op hg (j:=init.length * 3) (by rw[aI,List.length_append];simp) (.int .i64 m);rw[tK,List.set_append_right _ _ (by rw[aI];exact Nat.le_refl _),aI,Nat.sub_self]at this;rw[tK];exact this
theorem PH.cut{g c:Nat}(h:PH w0 vr row (.slice (some ⟨g,0,none⟩) (init.length+1+1) c) (init++[y]) x w):PH w0 vr row (.slice (some ⟨g,0,none⟩) (init.length+1) c) init y w:=by
 have ho:=h.op;rw[List.length_append]at ho;refine⟨h.row,?_,h.ne,h.low⟩;have:=pQ ho (m:=init.length+1) (by simp);rw[tK (init++[y]),List.take_append_of_le_length (by rw[aI,List.length_append];exact Nat.le_refl _),List.take_of_length_le (by rw[aI,List.length_append];exact Nat.le_refl _)]at this;exact this
theorem PH.topCells(h:PH w0 vr row vo init x w){g:Nat}(hg:vo.ownBlock=some g):w.cell? ⟨g,init.length * 3,none⟩=some (.int .i64 x.many)∧w.cell? ⟨g,init.length * 3+1,none⟩=some (.int .i64 x.pos)∧w.cell? ⟨g,init.length * 3+2,none⟩=some (.string x.word)∧∀ j,w.frozen? ⟨g,j,none⟩=false:=by
 have hc:∀ j u,[Value.int .i64 x.many,Value.int .i64 x.pos,Value.string x.word][j]? = some u→w.cell? ⟨g,init.length * 3+j,none⟩=some u:=fun j u e=>eD h.op hg (by rw[tK,List.getElem?_append_right (by rw[aI];omega),aI,Nat.add_sub_cancel_left];exact e)
 exact⟨hc 0 _ rfl,hc 1 _ rfl,hc 2 _ rfl,fQA h.op hg⟩
end
noncomputable def iM:Code:=Tryz.f102.body.getD .skip
noncomputable def qM:Code:=dB (qA (qA (qA iM)))
noncomputable def parseRound:Code:=fD (fD (qA qM))
def fG(l:Value)(n k:Nat)(vr vo:Value)(J:Nat→Value):Array Value :=
 #[l, J 1, J 2, J 3, J 4, vr, vo, J 7, J 8, J 9, J 10, J 11, J 12, l, .int .i64 (n : Int), .int .i64 (k : Int), J 16, J 17, J 18, J 19, J 20, J 21, J 22, J 23, J 24, J 25, J 26, J 27, J 28, J 29, J 30, J 31, J 32, J 33, J 34, J 35, J 36, J 37, J 38, J 39, J 40, J 41, J 42, J 43, J 44, J 45, J 46, J 47, J 48, J 49, J 50, J 51, J 52, J 53, J 54, J 55, J 56, J 57, J 58, J 59, J 60, J 61, J 62, J 63, J 64, J 65, J 66, J 67, J 68, J 69, J 70, J 71, J 72, J 73, J 74, J 75, J 76, J 77, J 78, J 79, J 80, J 81, J 82, J 83, J 84, J 85, J 86, J 87, J 88, J 89, J 90, J 91, J 92, J 93, J 94, J 95, J 96, J 97, J 98, J 99, J 100, J 101, J 102, J 103, J 104, J 105, J 106, J 107, J 108, J 109, J 110, J 111]
def jWA(w0:World)(l:Value)(n k:Nat)(row:List Sx)(init:List Sx)(x:Sx)(a':Act)(w':World):Prop :=
 ∃ vr vo J,a'=⟨fG l n k vr vo J,[]⟩∧PH w0 vr row vo init x w'
section
variable {w0 : World} {b off n cap k : Nat} {vr vo : Value} {row init : List Sx} {x : Sx}
theorem mRA (pos : Int) (text : ByteArray) (hk : k < n) (hn : n ≤ 1000000) (hr : row.length ≤ 1000000) (hil : init.length ≤ 1000000) (hm0 : 0 ≤ x.many) (hm1 : x.many ≤ 1000000) (J : Nat → Value) (w : World) (hP : PH w0 vr row vo init x w)
    (hb0:b < w0.heap.size) (c0:w0.cell? ⟨b,off+k * 3,none⟩=some (.int .i64 1)) (c1:w0.cell? ⟨b,off+k * 3+1,none⟩=some (.int .i64 pos)) (c2:w0.cell? ⟨b,off+k * 3+2,none⟩=some (.string text)) :
    parseRound.wp Tryz.prog (Exit.then (jWA w0 (.slice (some ⟨b,off,none⟩) n cap) n (k+1) (row++[⟨0,pos,text⟩]) init ⟨x.many+1,x.pos,x.word⟩) (fun _ _ _=>False)) ⟨fG (.slice (some ⟨b,off,none⟩) n cap) n k vr vo J,[]⟩ w:=by
  have hb:=Nat.lt_of_lt_of_le hb0 hP.low.size;rw[← fA hP.low hb0]at c0 c1 c2;obtain⟨g,gc,rfl,hg,hgb,hgl,_,_⟩:=dE hP.op (by omega);obtain⟨i0,hi,hz0,hz1,hz2⟩:=info_parts Tryz.info28;obtain⟨hcm,_,_,hfr⟩:=hP.topCells hg;have hfm:=hfr (init.length * 3);have hin:(k:Int) < n:=by omega
  unfold parseRound qM iM;simp only[Tryz.f102,Option.getD_some,dB,qA,fD];unfold fG;have hil':(init.length:Int)≤1000000:=by omega
  have hmx:row.length+1≤maxLen:=by simp only[maxLen];omega
  have hby:(row.length+1) * 32≤140737488355328:=by omega
  have HP:=aA hP;clear hP;go_wp2_with (at_builtin;refine wpList_append_own_at _ rfl _ _ 23 rfl w0.heap.size 28 i0 _ 3 32 Tryz.underlying23 hi hz0 hz1 hz2 rfl (by decide) _ _ _ rfl ((HP.out.row.alloc _).alloc _) ⟨w.heap.size+1,0,none⟩ 1 1 [.int .i64 0,.int .i64 pos,.string text] rfl rfl ?c1 ?c2 hmx hby ?c5 ?_)
  case c1 => 
    intro j u hj
    match j,hj with
    | 0,hj=>cases hj;simp[Addr.add]
    | 1,hj=>cases hj;simp[Addr.add]
    | 2,hj=>cases hj;simp[Addr.add]
  case c2=>intro u hu;simp at hu;rcases hu with rfl | rfl | rfl<;>rfl
  case c5=>have:=HP.out.low.size;simp;omega
  intro v' w' hown hgrow hnil hat;have HP2:=aA (((HP.out.alloc _).alloc _).addRow (y:=⟨0,pos,text⟩) hgrow (by simpa using hat) hown);clear hown hgrow hnil hat;obtain⟨hcm2,_,_,hfr2⟩:=HP2.out.topCells hg;have hfm2:=hfr2 (init.length * 3);clear hcm hfm hfr hfr2 c0 c1 c2;go_wp2;exact⟨v',_,eB (F:=fG _ n (k+1) v' _) (by rfl) (HP2.out.top hg _)⟩
theorem jVA (pos : Int) (text : ByteArray) (hk : k < n) (hn : n ≤ 1000000) (hil : init.length + 1 ≤ 60) (J : Nat → Value) (w : World) (hP : PH w0 vr row vo init x w)
    (hb0:b < w0.heap.size) (c0:w0.cell? ⟨b,off+k * 3,none⟩=some (.int .i64 2)) (c1:w0.cell? ⟨b,off+k * 3+1,none⟩=some (.int .i64 pos)) (c2:w0.cell? ⟨b,off+k * 3+2,none⟩=some (.string text)) :
    parseRound.wp Tryz.prog (Exit.then (jWA w0 (.slice (some ⟨b,off,none⟩) n cap) n (k+1) row (init++[x]) ⟨0,pos,⟨#[]⟩⟩) (fun _ _ _=>False)) ⟨fG (.slice (some ⟨b,off,none⟩) n cap) n k vr vo J,[]⟩ w:=by
  have hb:=Nat.lt_of_lt_of_le hb0 hP.low.size;rw[← fA hP.low hb0]at c0 c1 c2;obtain⟨g,gc,rfl,hg,hgb,hgl,_,_⟩:=dE hP.op (by omega);obtain⟨i0,hi,hz0,hz1,hz2⟩:=info_parts Tryz.info28;have hin:(k:Int) < n:=by omega
  unfold parseRound qM iM;simp only[Tryz.f102,Option.getD_some,dB,qA,fD];unfold fG;have hil':(init.length:Int)+1≤60:=by omega
  have hmx:init.length+1+1≤maxLen:=by simp only[maxLen];omega
  have hby:(init.length+1+1) * 32≤140737488355328:=by omega
  have HP:=aA hP;clear hP;go_wp2_with (at_builtin;refine wpList_append_own_at _ rfl _ _ 23 rfl w0.heap.size 28 i0 _ 3 32 Tryz.underlying23 hi hz0 hz1 hz2 rfl (by decide) _ _ _ rfl ((HP.out.op.alloc _).alloc _) ⟨w.heap.size+1,0,none⟩ 1 1 [.int .i64 0,.int .i64 pos,.string ⟨#[]⟩] rfl rfl ?c1 ?c2 hmx hby ?c5 ?_)
  case c1 => 
    intro j u hj
    match j,hj with
    | 0,hj=>cases hj;simp[Addr.add]
    | 1,hj=>cases hj;simp[Addr.add]
    | 2,hj=>cases hj;simp[Addr.add]
  case c2=>intro u hu;simp at hu;rcases hu with rfl | rfl | rfl<;>rfl
  case c5=>have:=HP.out.low.size;simp;omega
  intro v' w' hown hgrow hnil hat;have HP2:=aA (((HP.out.alloc _).alloc _).addOpen (y:=⟨0,pos,⟨#[]⟩⟩) hgrow (by simpa [Value.ownBlock] using hat) hown);clear hown hgrow hnil hat;go_wp2;exact⟨vr,v',eB (F:=fG _ n (k+1) vr v') (by rfl) HP2.out⟩
theorem tPA {y : Sx} (pos : Int) (text : ByteArray) (hk : k < n) (hn : n ≤ 1000000) (hr : row.length ≤ 1000000) (hil : init.length ≤ 1000000) (hm0 : 0 ≤ y.many) (hm1 : y.many ≤ 1000000) (J : Nat → Value) (w : World) (hP : PH w0 vr row vo (init ++ [y]) x w)
    (hb0:b < w0.heap.size) (c0:w0.cell? ⟨b,off+k * 3,none⟩=some (.int .i64 3)) (c1:w0.cell? ⟨b,off+k * 3+1,none⟩=some (.int .i64 pos)) (c2:w0.cell? ⟨b,off+k * 3+2,none⟩=some (.string text)) :
    parseRound.wp Tryz.prog (Exit.then (jWA w0 (.slice (some ⟨b,off,none⟩) n cap) n (k+1) (row++[x]) init ⟨y.many+1,y.pos,y.word⟩) (fun _ _ _=>False)) ⟨fG (.slice (some ⟨b,off,none⟩) n cap) n k vr vo J,[]⟩ w:=by
  have hb:=Nat.lt_of_lt_of_le hb0 hP.low.size;rw[← fA hP.low hb0]at c0 c1 c2;obtain⟨g,gc,hvo,hg,hgb,hgl,hgc,_⟩:=dE hP.op (by omega);rw[List.length_append]at hvo hgc;simp only[List.length_cons,List.length_nil,Nat.zero_add]at hvo hgc;subst hvo;obtain⟨i0,hi,hz0,hz1,hz2⟩:=info_parts Tryz.info28;obtain⟨hcm,hcp,hcw,hfr⟩:=hP.topCells hg;rw[List.length_append]at hcm hcp hcw;simp only[List.length_cons,List.length_nil,Nat.zero_add]at hcm hcp hcw;have hin:(k:Int) < n:=by omega
  unfold parseRound qM iM;simp only[Tryz.f102,Option.getD_some,dB,qA,fD];unfold fG;have hil':(init.length:Int)≤1000000:=by omega
  have hmx:row.length+1≤maxLen:=by simp only[maxLen];omega
  have hby:(row.length+1) * 32≤140737488355328:=by omega
  have HP:=aA hP;clear hP;go_wp2_with (at_builtin;refine wpList_append_own_at _ rfl _ _ 23 rfl w0.heap.size 28 i0 _ 3 32 Tryz.underlying23 hi hz0 hz1 hz2 rfl (by decide) _ _ _ rfl ((HP.out.row.alloc _).alloc _) ⟨w.heap.size+1,0,none⟩ 1 1 [.int .i64 x.many,.int .i64 x.pos,.string x.word] rfl rfl ?c1 ?c2 hmx hby ?c5 ?_)
  case c1 => 
    intro j u hj
    match j,hj with
    | 0,hj=>cases hj;simp[Addr.add]
    | 1,hj=>cases hj;simp[Addr.add]
    | 2,hj=>cases hj;simp[Addr.add]
  case c2=>intro u hu;simp at hu;rcases hu with rfl | rfl | rfl<;>rfl
  case c5=>have:=HP.out.low.size;simp;omega
  intro v' w' hown hgrow hnil hat;have HP2:=aA (((HP.out.alloc _).alloc _).addRow (y:=x) hgrow (by simpa using hat) hown).cut;clear hown hgrow hnil hat;obtain⟨hcm2,_,_,hfr2⟩:=HP2.out.topCells rfl;have hfm2:=hfr2 (init.length * 3);clear hcm hcp hcw hfr hfr2 c0 c1 c2;go_wp2;exact⟨v',_,eB (F:=fG _ n (k+1) v' _) (by rfl) (HP2.out.top rfl _)⟩
def oRA(e:Int)(p:Int)(J:Nat→Value):Array Value :=
 #[J 0, J 1, .slice none 0 0, .int .i64 p, .int .i64 e, J 5, J 6, J 7, J 8, J 9, J 10, J 11, J 12, J 13, J 14, J 15, J 16, J 17, J 18, J 19, J 20, J 21, J 22, J 23, J 24, J 25, J 26, J 27, J 28, J 29, J 30, J 31, J 32, J 33, J 34, J 35, J 36, J 37, J 38, J 39, J 40, J 41, J 42, J 43, J 44, J 45, J 46, J 47, J 48, J 49, J 50, J 51, J 52, J 53, J 54, J 55, J 56, J 57, J 58, J 59, J 60, J 61, J 62, J 63, J 64, J 65, J 66, J 67, J 68, J 69, J 70, J 71, J 72, J 73, J 74, J 75, J 76, J 77, J 78, J 79, J 80, J 81, J 82, J 83, J 84, J 85, J 86, J 87, J 88, J 89, J 90, J 91, J 92, J 93, J 94, J 95, J 96, J 97, J 98, J 99, J 100, J 101, J 102, J 103, J 104, J 105, J 106, J 107, J 108, J 109, J 110, J 111]
def z8A(w0:World)(p e:Int)(ex:Exit)(a':Act)(w':World):Prop:=ex = .ret∧∃ J,a'=⟨oRA e p J,[]⟩∧Under w0 w'
theorem eSA (pos : Int) (text : ByteArray) (hk : k < n) (hn : n ≤ 1000000) (hil : init.length = 60) (J : Nat → Value) (w : World) (hP : PH w0 vr row vo init x w)
    (hb0:b < w0.heap.size) (c0:w0.cell? ⟨b,off+k * 3,none⟩=some (.int .i64 2)) (c1:w0.cell? ⟨b,off+k * 3+1,none⟩=some (.int .i64 pos)) (c2:w0.cell? ⟨b,off+k * 3+2,none⟩=some (.string text)) :
    parseRound.wp Tryz.prog (Exit.then (fun _ _=>False) (z8A w0 pos 22)) ⟨fG (.slice (some ⟨b,off,none⟩) n cap) n k vr vo J,[]⟩ w:=by
  have hb:=Nat.lt_of_lt_of_le hb0 hP.low.size;rw[← fA hP.low hb0]at c0 c1 c2;obtain⟨g,gc,rfl,hg,hgb,hgl,_,_⟩:=dE hP.op (by omega);have hin:(k:Int) < n:=by omega
  unfold parseRound qM iM;simp only[Tryz.f102,Option.getD_some,dB,qA,fD];unfold fG;have hil':(init.length:Int)=60:=by omega
  have HP:=aA hP;clear hP;go_wp2;go_quiet (fail);go_wp2;exact⟨rfl,eB (F:=oRA 22 pos) (by rfl) (bB (bA HP.out.low _) _)⟩
theorem xVA (pos : Int) (text : ByteArray) (hk : k < n) (hn : n ≤ 1000000) (J : Nat → Value) (w : World) (hP : PH w0 vr row vo [] x w)
    (hb0:b < w0.heap.size) (c0:w0.cell? ⟨b,off+k * 3,none⟩=some (.int .i64 3)) (c1:w0.cell? ⟨b,off+k * 3+1,none⟩=some (.int .i64 pos)) (c2:w0.cell? ⟨b,off+k * 3+2,none⟩=some (.string text)) :
    parseRound.wp Tryz.prog (Exit.then (fun _ _=>False) (z8A w0 pos 70)) ⟨fG (.slice (some ⟨b,off,none⟩) n cap) n k vr vo J,[]⟩ w:=by
  have hb:=Nat.lt_of_lt_of_le hb0 hP.low.size;rw[← fA hP.low hb0]at c0 c1 c2;obtain⟨g,gc,rfl,hg,hgb,hgl,_,_⟩:=dE hP.op (by omega);have hin:(k:Int) < n:=by omega
  unfold parseRound qM iM;simp only[Tryz.f102,Option.getD_some,dB,qA,fD];unfold fG;have HP:=aA hP;clear hP;go_wp2;go_quiet (fail);go_wp2;exact⟨rfl,eB (F:=oRA 70 pos) (by rfl) (bB (bA HP.out.low _) _)⟩
def zCB(l:Value)(n:Nat)(vr vo:Value)(w:World)(e:Exit)(a':Act)(w':World):Prop:=e = .exit 0∧∃ J,a'=⟨fG l n n vr vo J,[]⟩∧w'=w
theorem aVA(l:Value)(J:Nat→Value)(w:World) :
 parseRound.wp Tryz.prog (Exit.then (fun _ _=>False) (zCB l n vr vo w)) ⟨fG l n n vr vo J,[]⟩ w:=by
 unfold parseRound qM iM;simp only[Tryz.f102,Option.getD_some,dB,qA,fD];unfold fG;go_wp2;exact⟨rfl,eB (F:=fG l n n vr vo) (by rfl) rfl⟩
end
def yCB(w0:World)(b off:Nat)(toks:List PTok):Prop:=∀ k t,toks[k]? = some t→w0.cell? ⟨b,off+k * 3,none⟩=some (.int .i64 t.kind)∧w0.cell? ⟨b,off+k * 3+1,none⟩=some (.int .i64 t.pos)∧w0.cell? ⟨b,off+k * 3+2,none⟩=some (.string t.text)
section
variable {w0 : World} {b off cap : Nat}
structure PInv (w0:World) (l:Value) (toks:List PTok) (R:Except (Int×Int) (List Sx)) (m k:Nat) (vr vo:Value) (row st:List Sx) (x:Sx) (w:World):Prop where
 cnt:m+k=toks.length
 ph:PH w0 vr row vo st.reverse x w
 go:wF (toks.drop k) row st x=R
 rowL:row.length≤k
 stL:st.length≤60
 x0:0≤x.many
 x1:x.many≤k
 ys:∀ y∈st,0≤y.many∧y.many≤k
def PI(w0:World)(l:Value)(toks:List PTok)(R:Except (Int×Int) (List Sx))(m:Nat)(a:Act)(w:World):Prop :=
 ∃ k vr vo row st x J,a=⟨fG l toks.length k vr vo J,[]⟩∧PInv w0 l toks R m k vr vo row st x w
def kCB(w0:World)(l:Value)(toks:List PTok)(R:Except (Int×Int) (List Sx))(e:Exit)(a:Act)(w:World):Prop :=
 (e = .exit 0∧∃ vr vo row st x J,a=⟨fG l toks.length toks.length vr vo J,[]⟩∧PInv w0 l toks R 0 toks.length vr vo row st x w)∨∃ p c,R = .error (p,c)∧z8A w0 p c e a w
def aUA(w0:World)(p:Option Addr)(toks:List PTok):Prop:=toks≠[]→∃ b off,p=some ⟨b,off,none⟩∧b < w0.heap.size∧yCB w0 b off toks
theorem vLA (toks : List PTok) {p : Option Addr} (hn : toks.length ≤ 1000000) (hp : aUA w0 p toks) (hk : ∀ t ∈ toks, t.kind = 1 ∨ t.kind = 2 ∨ t.kind = 3) (R : Except (Int × Int) (List Sx)) (m : Nat) (a : Act) (w : World)
    (h0:PI w0 (.slice p toks.length cap) toks R m a w) :
    (Code.loop parseRound).wp Tryz.prog (kCB w0 (.slice p toks.length cap) toks R) a w:=by
  refine wp_loop_ghost _ m h0 ?_;clear h0;rintro m a w ⟨k,vr,vo,row,st,x,J,rfl,hi⟩;have hmk:=hi.cnt;by_cases hkn:k=toks.length
  · subst hkn; refine wp_mono (aVA _ J w) ?_; rintro e a' w' h
    cases e with
    | normal=>exact h.elim
    | _ =>
      obtain⟨h1,J',rfl,rfl⟩:=h;have:m=0:=by omega
      subst this;exact .inl ⟨h1,vr,vo,row,st,x,J',rfl,hi⟩
  have hlt:k < toks.length:=by omega
  obtain⟨b,off,rfl,hb0,ht⟩:=hp (fun e=>by rw[e]at hlt;exact absurd hlt (Nat.not_lt_zero _));obtain⟨t,ht0⟩:∃ t,toks[k]? = some t:=⟨_,List.getElem?_eq_getElem hlt⟩;have hd:toks.drop k=t::toks.drop (k+1):=by
   rw[List.drop_eq_getElem_cons hlt];rw[List.getElem?_eq_getElem hlt]at ht0
   cases ht0;rfl
  have hgo:=hi.go;rw[hd,dO]at hgo;obtain⟨c0,c1,c2⟩:=ht k t ht0;have hrow:=hi.rowL;have hst:=hi.stL;have hx0:=hi.x0;have hx1:=hi.x1;have next:∀ {row' st':List Sx} {x':Sx},wF (toks.drop (k+1)) row' st' x'=R→row'.length≤k+1→st'.length≤60→0≤x'.many→x'.many≤k+1→(∀ y∈st',0≤y.many∧y.many≤k+1) →
   parseRound.wp Tryz.prog (Exit.then (jWA w0 (.slice (some ⟨b,off,none⟩) toks.length cap) toks.length (k+1) row' st'.reverse x') (fun _ _ _=>False)) ⟨fG (.slice (some ⟨b,off,none⟩) toks.length cap) toks.length k vr vo J,[]⟩ w →
   parseRound.wp Tryz.prog (Exit.then (fun a' w'=>∃ n',n' < m∧PI w0 (.slice (some ⟨b,off,none⟩) toks.length cap) toks R n' a' w') (kCB w0 (.slice (some ⟨b,off,none⟩) toks.length cap) toks R)) ⟨fG (.slice (some ⟨b,off,none⟩) toks.length cap) toks.length k vr vo J,[]⟩ w:=by
   intro row' st' x' g1 g2 g3 g4 g5 g6 h;refine wp_mono h ?_;rintro e a' w' h
   cases e with
   | normal =>
     obtain⟨vr',vo',J',rfl,hP'⟩:=h;exact⟨m - 1,by omega,k+1,vr',vo',row',st',x',J',rfl,by omega,hP',g1,g2,g3,g4,by omega,fun y hy=>by have:=g6 y hy;omega⟩
   | _=>exact h.elim
  have bad:∀ {q c:Int},Except.error (q,c)=R→parseRound.wp Tryz.prog (Exit.then (fun _ _=>False) (z8A w0 q c)) ⟨fG (.slice (some ⟨b,off,none⟩) toks.length cap) toks.length k vr vo J,[]⟩ w →
   parseRound.wp Tryz.prog (Exit.then (fun a' w'=>∃ n',n' < m∧PI w0 (.slice (some ⟨b,off,none⟩) toks.length cap) toks R n' a' w') (kCB w0 (.slice (some ⟨b,off,none⟩) toks.length cap) toks R)) ⟨fG (.slice (some ⟨b,off,none⟩) toks.length cap) toks.length k vr vo J,[]⟩ w:=by
   intro q c g h;refine wp_mono h ?_;rintro e a' w' h
   cases e with
   | normal=>exact h.elim
   | _=>exact .inr ⟨q,c,g.symm,h⟩
  rcases hk t (List.mem_of_getElem? ht0) with e | e | e
  · rw[if_pos e]at hgo;rw[e]at c0;exact next hgo (by simp;omega) hst (by show 0≤x.many+1;omega) (by show x.many+1≤(k:Int)+1;omega) (fun y hy=>by have:=hi.ys y hy;omega) (mRA t.pos t.text hlt hn (by omega) (by simp;omega) hx0 (by omega) J w hi.ph hb0 c0 c1 c2)
  · rw [if_neg (by omega), if_pos e] at hgo; rw [e] at c0; by_cases h60 : st.length = 60
    · rw[if_pos h60]at hgo;exact bad hgo (eSA t.pos t.text hlt hn (by simp;exact h60) J w hi.ph hb0 c0 c1 c2)
    · rw [if_neg h60] at hgo; have := jVA (cap := cap) t.pos t.text hlt hn (by simp; omega) J w hi.ph hb0 c0 c1 c2; rw [← List.reverse_cons] at this; refine next hgo (by omega) (by simp; omega) (by simp) (by simp; omega) ?_ this; intro y hy; rcases List.mem_cons.1 hy with rfl | hy
      · omega
      · have:=hi.ys y hy;omega
  · rw [if_neg (by omega), if_neg (by omega)] at hgo; rw [e] at c0; have hP := hi.ph; have hys := hi.ys; clear hi hd
    cases st with
    | nil=>exact bad hgo (xVA t.pos t.text hlt hn J w hP hb0 c0 c1 c2)
    | cons y st =>
      rw[List.reverse_cons]at hP;have hy:=hys y (List.mem_cons_self ..);simp only[List.length_cons]at hst;exact next hgo (by simp;omega) (by omega) (by show 0≤y.many+1;omega) (by show y.many+1≤(k:Int)+1;omega) (fun z hz=>by have:=hys z (List.mem_cons_of_mem _ hz);omega) (tPA t.pos t.text hlt hn (by omega) (by simp;omega) hy.1 (by omega) J w hP hb0 c0 c1 c2)
theorem lF(w:World)(base:Nat)(e:TypeId)(size:Nat):w.ownsRow base e size (.slice none 0 0) 0 []:=⟨by simp,.inl ⟨rfl,rfl⟩⟩
theorem i8A(w:World)(base:Nat)(hb:base≤w.heap.size)(x:Sx):(w.alloc (.cells #[.int .i64 x.many,.int .i64 x.pos,.string x.word] 28)).ownsRow base 28 3 (.slice (some ⟨w.heap.size,0,none⟩) 1 1) 1 (bE [x]) :=
 ⟨rfl,.inr ⟨w.heap.size,1,#[.int .i64 x.many,.int .i64 x.pos,.string x.word],rfl,hb,heap_alloc_new w _,Nat.le_refl _,by decide,rfl,rfl⟩⟩
theorem nD{A:Array Value}{F:(Nat→Value)→Array Value}(h:A=F fun n=>A.getD n undef):(⟨A,[]⟩:Act)=⟨F fun n=>A.getD n undef,[]⟩:=by rw[← h]
def d4A(w0:World)(R:Except (Int×Int) (List Sx))(e:Ending)(w':World):Prop :=
 Under w0 w'∧match R with
  | .ok row=>∃ vr,e = .returned (.tuple #[vr,.int .i64 0,.int .i64 0])∧w'.ownsRow w0.heap.size 28 3 vr row.length (bE row)
  | .error (p,c)=>e = .returned (.tuple #[.slice none 0 0,.int .i64 p,.int .i64 c])
theorem hXA(toks:List PTok){p:Option Addr}(hn:toks.length≤1000000)(hp:aUA w0 p toks)(hk:∀ t∈toks,t.kind=1∨t.kind=2∨t.kind=3) :
 Calls Tryz.prog 102 #[.slice p toks.length cap] w0 (d4A w0 (wF toks [] [] ⟨0,0,⟨#[]⟩⟩)):=by
 have HL:=aA (fun m a w h=>vLA (w0:=w0) (cap:=cap) toks hn hp hk (wF toks [] [] ⟨0,0,⟨#[]⟩⟩) m a w h);generalize hR:wF toks [] [] ⟨0,0,⟨#[]⟩⟩=R at *;have HR:=aA hR;clear hR hp hk;have HN:=aA hn;go_enter Tryz.func102,Tryz.ntmps102;go_wp2;rename_i K hK;refine wp_mono (HL.out toks.length _ _ ⟨0,.slice none 0 0,.slice (some ⟨w0.heap.size,0,none⟩) 1 1,[],[],⟨0,0,⟨#[]⟩⟩,_,nD (by rfl),⟨rfl,⟨lF _ _ _ _,i8A w0 _ (Nat.le_refl _) ⟨0,0,⟨#[]⟩⟩,.inl rfl,bA ⟨rfl,rfl,Nat.le_refl _,fun _ _=>rfl⟩ _⟩,HR.out,Nat.le_refl _,by decide,Int.le_refl _,Int.le_refl _,fun y hy=>by cases hy⟩⟩) ?_;rintro e a' w' (⟨rfl,vr,vo,row,st,x,J,rfl,hi⟩ | ⟨q,c,rfl,rfl,J,rfl,hu⟩)
 · simp only [Exit.inBlock, if_pos, Exit.then]; refine hK _ _ ?_; have hgo := hi.go; have hst := hi.stL; rw [List.drop_length] at hgo; obtain ⟨g, gc, rfl, hg, hgb, hgl, _, _⟩ := dE hi.ph.op (by omega)
   cases st with
   | nil =>
     have HI:=aA hi;have HG:=aA hgo;clear hi hgo;unfold fG;go_wp2;go_ret3;obtain rfl:Except.ok row=R:=HG.out;exact⟨HI.out.ph.low,vr,rfl,HI.out.ph.row⟩
   | cons y st =>
     have hl:(y::st).reverse.length=st.length+1:=by simp
     obtain⟨hcm,hcp,hcw,hfr⟩:=hi.ph.topCells hg;have HI:=aA hi;have HG:=aA hgo;clear hi hgo;rw[hl]at hcp ⊢;simp only[List.length_cons]at hst;clear hl hcm hcw hfr;unfold fG;go_wp2;go_quiet (fail);go_wp2;go_ret3;obtain rfl:Except.error (x.pos,70)=R:=HG.out;exact⟨bB HI.out.ph.low _,rfl⟩
 · simp only[Exit.inBlock,Exit.then];go_ret3;exact⟨hu,rfl⟩
end
def nI(l:List Nat):List Value:=l.map fun(n:Nat)=>.int .i64 (n:Int)
theorem qJ(l r:List Nat):nI (l++r)=nI l++nI r:=List.map_append
theorem iN{l:List Nat}{k n:Nat}(h:l[k]? = some n):(nI l)[k]? = some (.int .i64 (n:Int)):=by simp[nI,h]
theorem Tryz.info3:(Tryz.prog.info? 3).map (fun i=>(i.zero,i.size,i.bytes))=some (some (.int .i64 0),1,8):=by kernel_rfl
noncomputable def oGA:Code:=Tryz.f66.body.getD .skip
noncomputable def hFA:Code:=dB (qA (qA oGA))
noncomputable def bgRound:Code:=fD (fD (qA hFA))
def bG(l:Value)(n k:Nat)(va:Value)(J:Nat→Value):Array Value :=
 #[l, J 1, J 2, J 3, va, J 5, J 6, J 7, l, .int .i64 (n : Int), .int .i64 (k : Int), J 11, J 12, J 13, J 14, J 15, J 16, J 17, J 18, J 19, J 20, J 21, J 22, J 23, J 24, J 25, J 26, J 27, J 28, J 29, J 30, J 31, J 32, J 33, J 34, J 35, J 36, J 37, J 38, J 39, J 40, J 41, J 42, J 43, J 44, J 45, J 46, J 47, J 48, J 49, J 50, J 51, J 52, J 53, J 54, J 55, J 56, J 57, J 58, J 59, J 60, J 61, J 62]
def gQA(v:Value)(b:Bool)(J:Nat→Value):Array Value:=#[J 0,J 1,v,.bool b,J 4,J 5,J 6,J 7,J 8,J 9,J 10,J 11,J 12,J 13,J 14,J 15,J 16,J 17,J 18,J 19,J 20,J 21,J 22,J 23,J 24,J 25,J 26,J 27,J 28,J 29,J 30,J 31,J 32,J 33,J 34,J 35,J 36,J 37,J 38,J 39,J 40,J 41,J 42,J 43,J 44,J 45,J 46,J 47,J 48,J 49,J 50,J 51,J 52,J 53,J 54,J 55,J 56,J 57,J 58,J 59,J 60,J 61,J 62]
def pDB(w0:World)(l:Value)(n k:Nat)(st:List Nat)(a':Act)(w':World):Prop :=
 ∃ va J,a'=⟨bG l n k va J,[]⟩∧w'.ownsRow w0.heap.size 3 1 va st.length (nI st)∧Under w0 w'
def hEB(w0:World)(l:Value)(n k s:Nat)(xs:List Value)(a':Act)(w':World):Prop :=
 ∃ va J,a'=⟨bG l n k va J,[]⟩∧w'.ownsRow w0.heap.size 3 1 va s xs∧Under w0 w'
def nEB(w0:World)(ex:Exit)(a':Act)(w':World):Prop:=ex = .ret∧∃ J,a'=⟨gQA (.slice none 0 0) false J,[]⟩∧Under w0 w'
def gDB(l:Value)(n:Nat)(va:Value)(w:World)(e:Exit)(a':Act)(w':World):Prop:=e = .exit 0∧∃ J,a'=⟨bG l n n va J,[]⟩∧w'=w
section
variable {w0 : World} {b off n cap k : Nat} {va : Value} {st : List Nat} {x : Sx}
theorem b9A(l:Value)(J:Nat→Value)(w:World) :
 bgRound.wp Tryz.prog (Exit.then (fun _ _=>False) (gDB l n va w)) ⟨bG l n n va J,[]⟩ w:=by
 unfold bgRound hFA oGA;simp only[Tryz.f66,Option.getD_some,dB,qA,fD];unfold bG;go_wp2;exact⟨rfl,eB (F:=bG l n n va) (by rfl) rfl⟩
theorem xCB (hx : ¬ kHA x st.length) (hk : k < n) (hn : n ≤ 1000000) (hsl : st.length ≤ 1000000) (J : Nat → Value) (w : World) (hP : w.ownsRow w0.heap.size 3 1 va st.length (nI st)) (hU : Under w0 w)
    (hb0:b < w0.heap.size) (c0:w0.cell? ⟨b,off+k * 3,none⟩=some (.int .i64 x.many)) (c1:w0.cell? ⟨b,off+k * 3+1,none⟩=some (.int .i64 x.pos)) (c2:w0.cell? ⟨b,off+k * 3+2,none⟩=some (.string x.word)) :
    bgRound.wp Tryz.prog (Exit.then (fun _ _=>False) (nEB w0)) ⟨bG (.slice (some ⟨b,off,none⟩) n cap) n k va J,[]⟩ w:=by
  have hb:=Nat.lt_of_lt_of_le hb0 hU.size;rw[← fA hU hb0]at c0 c1 c2;have hin:(k:Int) < n:=by omega
  have hk0:(0:Int)≤k:=Int.natCast_nonneg _;obtain⟨p,c,rfl⟩:∃ p c,va = .slice p st.length c:=by
   rcases hP.2 with⟨rfl,h0⟩ | ⟨g,cap,cur,rfl,_⟩
   · exact⟨none,0,by rw[h0]⟩
   · exact⟨_,_,rfl⟩
  have HU:=aA hU;clear hU hP;obtain⟨m,q,t⟩:=x;simp only[kHA]at hx c0 c1 c2;unfold bgRound hFA oGA;simp only[Tryz.f66,Option.getD_some,dB,qA,fD];unfold bG;by_cases hA:m < 0
  · clear hx;go_wp2;exact⟨rfl,eB (F:=gQA _ _) (by rfl) (bA HU.out _)⟩
  by_cases hD:(st.length:Int) < m
  · have hm0 : (m != 0) = true := by simp; omega
    by_cases hB:t.size=0
    · have e0 : t = ⟨#[]⟩ := by
        apply ByteArray.ext;exact Array.eq_empty_of_size_eq_zero hB
      subst e0;clear hx;go_wp2;exact⟨rfl,eB (F:=gQA _ _) (by rfl) (bA HU.out _)⟩
    · obtain⟨e1,e2⟩:=yG hB;clear hx hB;go_wp2;exact⟨rfl,eB (F:=gQA _ _) (by rfl) (bA HU.out _)⟩
  · have hB : t.size ≠ 0 ∧ m ≠ 0 := by
      by_cases h1:t.size=0
      · exact absurd ⟨by omega,fun h=>absurd h1 h,by omega⟩ hx
      · by_cases h2 : m = 0
        · exact absurd ⟨by omega,fun _=>h2,by omega⟩ hx
        · exact⟨h1,h2⟩
    have hm0:(m != 0)=true:=by simp;omega
    obtain⟨e1,e2⟩:=yG hB.1;clear hx hB;go_wp2;exact⟨rfl,eB (F:=gQA _ _) (by rfl) (bA HU.out _)⟩
theorem k8A (hx : x.many = 0) (hk : k < n) (hn : n ≤ 1000000) (hsl : st.length ≤ 1000000) (J : Nat → Value) (w : World) (hP : w.ownsRow w0.heap.size 3 1 va st.length (nI st)) (hU : Under w0 w)
    (hb0:b < w0.heap.size) (c0:w0.cell? ⟨b,off+k * 3,none⟩=some (.int .i64 x.many)) (c1:w0.cell? ⟨b,off+k * 3+1,none⟩=some (.int .i64 x.pos)) (c2:w0.cell? ⟨b,off+k * 3+2,none⟩=some (.string x.word)) :
    bgRound.wp Tryz.prog (Exit.then (pDB w0 (.slice (some ⟨b,off,none⟩) n cap) n (k+1) (st++[k])) (fun _ _ _=>False)) ⟨bG (.slice (some ⟨b,off,none⟩) n cap) n k va J,[]⟩ w:=by
  have hb:=Nat.lt_of_lt_of_le hb0 hU.size;rw[← fA hU hb0]at c0 c1 c2;obtain⟨i0,hi,hz0,hz1,hz2⟩:=info_parts Tryz.info3;have hin:(k:Int) < n:=by omega
  have hk0:(0:Int)≤k:=Int.natCast_nonneg _;have hmx:st.length+1≤maxLen:=by simp only[maxLen];omega
  have hby:(st.length+1) * 8≤140737488355328:=by omega
  obtain⟨m,q,t⟩:=x;simp only at hx c0 c1 c2;subst hx;unfold bgRound hFA oGA;simp only[Tryz.f66,Option.getD_some,dB,qA,fD];unfold bG;have HU:=aA hU;clear hU;have both:t=⟨#[]⟩∨(¬ t.toList=[]∧t.toList.isEmpty=false):=by
   by_cases hB:t.size=0
   · exact .inl (ByteArray.ext (Array.eq_empty_of_size_eq_zero hB))
   · exact .inr (yG hB)
  have hm0:((0:Int) != 0)=false:=by decide
  rcases hP.2 with⟨rfl,h0⟩ | ⟨g,c,cur,rfl,_,_,hc,_⟩
  · have e := List.length_eq_zero_iff.1 h0; subst e; have HP := aA hP; clear hP h0; rcases both with rfl | ⟨e1, e2⟩
    · skip
      go_wp2_with (at_builtin;refine wpList_append_own_at _ rfl _ _ 123 rfl w0.heap.size 3 i0 _ 1 8 Tryz.underlying123 hi hz0 hz1 hz2 rfl (by decide) _ _ _ rfl ((HP.out.alloc _).alloc _) ⟨w.heap.size+1,0,none⟩ 1 1 [.int .i64 (k:Int)] rfl rfl ?c1 ?c2 hmx hby ?c5 ?_)
      case c1 =>
        intro j u hj
        match j,hj with
        | 0,hj=>cases hj;simp[Addr.add]
      case c2=>intro u hu;simp at hu;rcases hu with rfl;rfl
      case c5=>have:=HU.out.size;simp;omega
      intro v' w' hown hgrow hnil hat;have HW:=aA hown;have HU2:=aA (xA (bA (bA HU.out _) _) hgrow fun g e=>(jB HP.out e).1);clear hown hgrow hnil hat;go_wp2;exact⟨v',eB (F:=bG _ n (k+1) v') (by rfl) ⟨by rw[qJ,List.length_append];exact HW.out,HU2.out⟩⟩
    · skip
      go_wp2_with (at_builtin;refine wpList_append_own_at _ rfl _ _ 123 rfl w0.heap.size 3 i0 _ 1 8 Tryz.underlying123 hi hz0 hz1 hz2 rfl (by decide) _ _ _ rfl ((HP.out.alloc _).alloc _) ⟨w.heap.size+1,0,none⟩ 1 1 [.int .i64 (k:Int)] rfl rfl ?c1 ?c2 hmx hby ?c5 ?_)
      case c1 =>
        intro j u hj
        match j,hj with
        | 0,hj=>cases hj;simp[Addr.add]
      case c2=>intro u hu;simp at hu;rcases hu with rfl;rfl
      case c5=>have:=HU.out.size;simp;omega
      intro v' w' hown hgrow hnil hat;have HW:=aA hown;have HU2:=aA (xA (bA (bA HU.out _) _) hgrow fun g e=>(jB HP.out e).1);clear hown hgrow hnil hat;go_wp2;exact⟨v',eB (F:=bG _ n (k+1) v') (by rfl) ⟨by rw[qJ,List.length_append];exact HW.out,HU2.out⟩⟩
  · have hc' : (st.length : Int) ≤ c := by omega
    have HP:=aA hP;clear hP;rcases both with rfl | ⟨e1,e2⟩
    · skip
      go_wp2_with (at_builtin;refine wpList_append_own_at _ rfl _ _ 123 rfl w0.heap.size 3 i0 _ 1 8 Tryz.underlying123 hi hz0 hz1 hz2 rfl (by decide) _ _ _ rfl ((HP.out.alloc _).alloc _) ⟨w.heap.size+1,0,none⟩ 1 1 [.int .i64 (k:Int)] rfl rfl ?c1 ?c2 hmx hby ?c5 ?_)
      case c1 =>
        intro j u hj
        match j,hj with
        | 0,hj=>cases hj;simp[Addr.add]
      case c2=>intro u hu;simp at hu;rcases hu with rfl;rfl
      case c5=>have:=HU.out.size;simp;omega
      intro v' w' hown hgrow hnil hat;have HW:=aA hown;have HU2:=aA (xA (bA (bA HU.out _) _) hgrow fun g e=>(jB HP.out e).1);clear hown hgrow hnil hat;go_wp2;exact⟨v',eB (F:=bG _ n (k+1) v') (by rfl) ⟨by rw[qJ,List.length_append];exact HW.out,HU2.out⟩⟩
    · skip
      go_wp2_with (at_builtin;refine wpList_append_own_at _ rfl _ _ 123 rfl w0.heap.size 3 i0 _ 1 8 Tryz.underlying123 hi hz0 hz1 hz2 rfl (by decide) _ _ _ rfl ((HP.out.alloc _).alloc _) ⟨w.heap.size+1,0,none⟩ 1 1 [.int .i64 (k:Int)] rfl rfl ?c1 ?c2 hmx hby ?c5 ?_)
      case c1 =>
        intro j u hj
        match j,hj with
        | 0,hj=>cases hj;simp[Addr.add]
      case c2=>intro u hu;simp at hu;rcases hu with rfl;rfl
      case c5=>have:=HU.out.size;simp;omega
      intro v' w' hown hgrow hnil hat;have HW:=aA hown;have HU2:=aA (xA (bA (bA HU.out _) _) hgrow fun g e=>(jB HP.out e).1);clear hown hgrow hnil hat;go_wp2;exact⟨v',eB (F:=bG _ n (k+1) v') (by rfl) ⟨by rw[qJ,List.length_append];exact HW.out,HU2.out⟩⟩
theorem v9A {s m h : Nat} {xs : List Value} (hx : x.many = (m : Int)) (hm : 0 < m) (hxw : x.word = ⟨#[]⟩) (hk : k < n) (hn : n ≤ 1000000) (hsl : s + m ≤ 1000000) (J : Nat → Value) (w : World) (hP : w.ownsRow w0.heap.size 3 1 va (s + m) xs) (hh : xs[s]? = some (.int .i64 (h : Int))) (hU : Under w0 w)
    (hb0:b < w0.heap.size) (c0:w0.cell? ⟨b,off+k * 3,none⟩=some (.int .i64 x.many)) (c1:w0.cell? ⟨b,off+k * 3+1,none⟩=some (.int .i64 x.pos)) (c2:w0.cell? ⟨b,off+k * 3+2,none⟩=some (.string x.word)) :
    bgRound.wp Tryz.prog (Exit.then (hEB w0 (.slice (some ⟨b,off,none⟩) n cap) n (k+1) (s+1) (xs.take s++[.int .i64 (h:Int)])) (fun _ _ _=>False)) ⟨bG (.slice (some ⟨b,off,none⟩) n cap) n k va J,[]⟩ w:=by
  have hb:=Nat.lt_of_lt_of_le hb0 hU.size;rw[← fA hU hb0]at c0 c1 c2;obtain⟨i0,hi,hz0,hz1,hz2⟩:=info_parts Tryz.info3;obtain⟨g,c,rfl,hg,hgb,hgl,hgc,_⟩:=dE hP (by omega);have hcell:=eD hP hg hh;have hin:(k:Int) < n:=by omega
  have hk0:(0:Int)≤k:=Int.natCast_nonneg _;have hmx:s+1≤maxLen:=by simp only[maxLen];omega
  have hby:(s+1) * 8≤140737488355328:=by omega
  obtain⟨mm,q,t⟩:=x;simp only at hx hxw c0 c1 c2;subst hx hxw;unfold bgRound hFA oGA;simp only[Tryz.f66,Option.getD_some,dB,qA,fD];unfold bG;have HU:=aA hU;have HP:=aA hP;clear hU hP;have m0:(0:Int) < (m:Int):=by omega
  have m1:¬((m:Int) < 0):=by omega
  have m2:¬((s:Int)+(m:Int) < (m:Int)):=by omega
  have m3:(s:Int)≤(c:Int):=by omega
  have m4:(s:Int) < (s:Int)+(m:Int):=by omega
  have m5:(s:Int)+(m:Int)≤1000000:=by omega
  have m6:(0:Int)≤(s:Int):=by omega
  go_wp2_with (at_builtin;refine wpList_append_own_at _ rfl _ _ 123 rfl w0.heap.size 3 i0 _ 1 8 Tryz.underlying123 hi hz0 hz1 hz2 rfl (by decide) _ _ _ rfl (((pQ HP.out (m:=s) (by omega)).alloc _).alloc _) ⟨w.heap.size+1,0,none⟩ 1 1 [.int .i64 (h:Int)] rfl rfl ?c1 ?c2 hmx hby ?c5 ?_)
  case c2=>rfl
  case c5=>have:=HU.out.size;omega
  intro v' w' hown hgrow hnil hat;have HW:=aA hown;have HU2:=aA (xA (bA (bA HU.out _) _) hgrow fun g e=>(jB (pQ HP.out (m:=s) (by omega)) e).1);clear hown hgrow hnil hat;go_wp2;exact⟨v',eB (F:=bG _ n (k+1) v') (by rfl) ⟨HW.out,HU2.out⟩⟩
structure BInv (w0:World) (row:List Sx) (R:Option (List Nat)) (m k:Nat) (va:Value) (st:List Nat) (w:World):Prop where
 cnt:m+k=row.length
 own:w.ownsRow w0.heap.size 3 1 va st.length (nI st)
 low:Under w0 w
 go:oC (row.drop k) k st=R
 stL:st.length≤k
def BI(w0:World)(l:Value)(row:List Sx)(R:Option (List Nat))(m:Nat)(a:Act)(w:World):Prop :=
 ∃ k va st J,a=⟨bG l row.length k va J,[]⟩∧BInv w0 row R m k va st w
def vEB(w0:World)(l:Value)(row:List Sx)(R:Option (List Nat))(e:Exit)(a:Act)(w:World):Prop :=
 (e = .exit 0∧∃ va st J,a=⟨bG l row.length row.length va J,[]⟩∧BInv w0 row R 0 row.length va st w)∨(R=none∧nEB w0 e a w)
theorem eYA (row : List Sx) {p : Option Addr} (hn : row.length ≤ 1000000) (hp : SxArg w0 p row) (R : Option (List Nat)) (m : Nat) (a : Act) (w : World)
    (h0:BI w0 (.slice p row.length cap) row R m a w) :
    (Code.loop bgRound).wp Tryz.prog (vEB w0 (.slice p row.length cap) row R) a w:=by
  refine wp_loop_ghost _ m h0 ?_;clear h0;rintro m a w ⟨k,va,st,J,rfl,hi⟩;have hmk:=hi.cnt;by_cases hkn:k=row.length
  · subst hkn; refine wp_mono (b9A _ J w) ?_; rintro e a' w' h
    cases e with
    | normal=>exact h.elim
    | _ =>
      obtain⟨h1,J',rfl,rfl⟩:=h;have:m=0:=by omega
      subst this;exact .inl ⟨h1,va,st,J',rfl,hi⟩
  have hlt:k < row.length:=by omega
  obtain⟨b,off,rfl,hb0,ht⟩:=hp (fun e=>by rw[e]at hlt;exact absurd hlt (Nat.not_lt_zero _));obtain⟨x,hx0⟩:∃ x,row[k]? = some x:=⟨_,List.getElem?_eq_getElem hlt⟩;have hd:row.drop k=x::row.drop (k+1):=by
   rw[List.drop_eq_getElem_cons hlt];rw[List.getElem?_eq_getElem hlt]at hx0
   cases hx0;rfl
  have hgo:=hi.go;rw[hd]at hgo;simp only[oC]at hgo;obtain⟨c0,c1,c2⟩:=ht k x hx0;have hst:=hi.stL;by_cases hg:kHA x st.length
  · rw [if_pos hg] at hgo; obtain ⟨g1, g2, g3⟩ := hg; by_cases hm : x.many = 0
    · refine wp_mono (k8A (cap := cap) hm hlt hn (by omega) J w hi.own hi.low hb0 c0 c1 c2) ?_; rintro e a' w' h
      cases e with
      | normal =>
        obtain⟨va',J',rfl,ho,hU⟩:=h;refine⟨m - 1,by omega,k+1,va',st++[k],J',rfl,by omega,ho,hU,?_,by simp;omega⟩;rw[← hgo];congr 1
        unfold sN;simp[hm]
      | _=>exact h.elim
    · have hw : x.word = ⟨#[]⟩ := by
        apply ByteArray.ext;apply Array.eq_empty_of_size_eq_zero;exact Decidable.byContradiction fun h=>hm (g2 h)
      obtain⟨mm,hmm⟩:∃ mm:Nat,x.many=mm:=⟨x.many.toNat,by omega⟩;obtain⟨s,hs⟩:∃ s,st.length=s+mm:=⟨st.length - mm,by omega⟩;have hsl:s < st.length:=by omega
      have own:=hi.own;rw[hs]at own;refine wp_mono (v9A (cap:=cap) (s:=s) (m:=mm) (h:=st[s]) hmm (by omega) hw hlt hn (by omega) J w own (iN (List.getElem?_eq_getElem hsl)) hi.low hb0 c0 c1 c2) ?_;rintro e a' w' h
      cases e with
      | normal =>
        obtain⟨va',J',rfl,ho,hU⟩:=h;have e1:sN x k st=st.take s++[st[s]]:=by
         unfold sN;rw[hmm,Int.toNat_natCast,hs,Nat.add_sub_cancel];congr 2
         rw[List.drop_eq_getElem_cons hsl];rfl
        have e2:(sN x k st).length=s+1:=by rw[e1,List.length_append,List.length_take];simp;omega
        refine⟨m - 1,by omega,k+1,va',sN x k st,J',rfl,by omega,?_,hU,hgo,by omega⟩;rw[e2,e1,qJ];unfold nI at ho ⊢;rw[List.map_take];exact ho
      | _=>exact h.elim
  · rw [if_neg hg] at hgo; refine wp_mono (xCB (cap := cap) hg hlt hn (by omega) J w hi.own hi.low hb0 c0 c1 c2) ?_; rintro e a' w' h
    cases e with
    | normal=>exact h.elim
    | _=>exact .inr ⟨hgo.symm,h⟩
def dEB(w0:World)(n:Nat)(R:Option (List Nat))(e:Ending)(w':World):Prop :=
 Under w0 w'∧match R with
  | some st=>∃ va,e = .returned (.tuple #[va,.bool true])∧w'.ownsRow w0.heap.size 3 1 va (st.length+1) (nI (st++[n]))
  | none=>e = .returned (.tuple #[.slice none 0 0,.bool false])
theorem qZ(row:List Sx){p:Option Addr}(hn:row.length≤1000000)(hp:SxArg w0 p row) :
 Calls Tryz.prog 66 #[.slice p row.length cap] w0 (dEB w0 row.length (oC row 0 [])):=by
 have HL:=aA (fun m a w h=>eYA (w0:=w0) (cap:=cap) row hn hp (oC row 0 []) m a w h);generalize hR:oC row 0 []=R at *;have HR:=aA hR;obtain⟨i0,hi,hz0,hz1,hz2⟩:=info_parts Tryz.info3;clear hR hp;go_enter Tryz.func66,Tryz.ntmps66;go_wp2;rename_i K hK;refine wp_mono (HL.out row.length _ _ ⟨0,.slice none 0 0,[],_,nD (F:=bG _ _ 0 _) (by rfl),⟨rfl,lF _ _ _ _,⟨rfl,rfl,Nat.le_refl _,fun _ _=>rfl⟩,HR.out,Nat.le_refl _⟩⟩) ?_;rintro e a' w' (⟨rfl,va,st,J,rfl,hv⟩ | ⟨rfl,rfl,J,rfl,hu⟩)
 · simp only [Exit.inBlock, if_pos, Exit.then]; refine hK _ _ ?_; have hgo := hv.go; rw [List.drop_length] at hgo; have hst := hv.stL; have hmx : st.length + 1 ≤ maxLen := by simp only [maxLen]; omega
   have hby:(st.length+1) * 8≤140737488355328:=by omega
   have HI:=aA hv;have HG:=aA hgo;have hws:=hv.low.size;clear hv hgo;unfold bG;go_wp2_with (at_builtin;refine wpList_append_own_at _ rfl _ _ 123 rfl w0.heap.size 3 i0 _ 1 8 Tryz.underlying123 hi hz0 hz1 hz2 rfl (by decide) _ _ _ rfl (HI.out.own.alloc _) ⟨w'.heap.size,0,none⟩ 1 1 [.int .i64 (row.length:Int)] rfl rfl ?c1 ?c2 hmx hby ?c5 ?_)
   case c1 =>
     intro j u hj
     match j,hj with
     | 0,hj=>cases hj;simp[Addr.add]
   case c2=>intro u hu;simp at hu;rcases hu with rfl;rfl
   case c5=>simp;omega
   intro v' w1 hown hgrow hnil hat;have HW:=aA hown;have HU2:=aA (xA (bA HI.out.low _) hgrow fun g e=>(jB HI.out.own e).1);clear hown hgrow hnil hat;go_wp2;go_ret2;obtain rfl:some st=R:=HG.out;exact⟨HU2.out,v',rfl,by rw[qJ];exact HW.out⟩
 · simp only[Exit.inBlock,Exit.then];go_ret2;exact⟨hu,rfl⟩
end
end Go.Proofs.YtggjbblgoddnjaaGreatDoor
namespace Go.Proofs.YtggjbblgoddnjaaGreatDoor
open Go.Lx Go.RowKit
def sxV(x:Sx):Value:=.agg #[.int .i64 x.many,.int .i64 x.pos,.string x.word]
section
variable {w0 : World}
theorem qKA(T:ST){q:Option Addr}{cap:Nat}(hn:(fC T).length≤1000000)(hq:SxArg w0 q (fC T)):Calls Tryz.prog 127 #[.slice q (fC T).length cap] w0 fun e w=>e = .returned (sxV T.last)∧Under w0 w:=by
 obtain⟨init,hi⟩:=xY T;obtain⟨b,off,rfl,hb,ht⟩:=hq (by rw[hi];simp);obtain⟨c0,c1,c2⟩:=ht init.length T.last (by rw[hi];simp);have hl:(fC T).length=init.length+1:=by rw[hi];simp
 rw[hl]at hn ⊢;generalize T.last=x at *;generalize init.length=m at *;have hmi:((m:Int)+1 - 1)=(m:Int):=by omega
 have hm1:(m:Int)≤1000000:=by omega
 have hm0:(0:Int)≤(m:Int):=by omega
 clear hi ht hl hn;go_enter Tryz.func127,Tryz.ntmps127;go_wp2;refine bodyPost_ret (v:=sxV x) ?_ rfl ⟨rfl,bA (Under.refl _) _⟩;simp[results,Tryz.f127,go_sem,sxV]
theorem yYA(x:Sx){rb m1 m2:Nat}(hs:x.word.size≤maxLen)(hT:Tables w0 rb m1 m2):Calls Tryz.prog 153 #[.pointer (some ⟨rb,0,none⟩),sxV x] w0 fun e w=>e = .returned (.bool (pX x.word))∧Under w0 w:=by
 have hk:pX x.word=(uD x.word && !kwB x.word):=by unfold pX;rw[wAB]
 obtain⟨m,p,s⟩:=x;simp only at hk hs;have HN:=aA (fun w=>vI s w hs);have HU0:=aA (bA (Under.refl w0) (.cells #[.int .i64 m,.int .i64 p,.string s] 28));obtain⟨hlt,c1,c2,h1,h2⟩:=hT;have hT:Tables (w0.alloc (.cells #[.int .i64 m,.int .i64 p,.string s] 28)) rb m1 m2:=⟨by rw[World.size_alloc];omega,by rw[fA HU0.out hlt];exact c1,by rw[fA HU0.out hlt];exact c2,h1.under HU0.out,h2.under HU0.out⟩;have HK:=aA (eDA s hT);have HE:=aA hk;generalize pX s=R at *;generalize kwB s=b at *;generalize uD s=a at *;clear hk hT h1 h2 c1 c2 hs;unfold sxV
 cases a
 · go_enter Tryz.func153,Tryz.ntmps153;go_wp2_with fail;refine(HN.out _).mono ?_;rintro e w1 ⟨rfl,rfl⟩;go_wp2;go_ret;exact⟨by rw[HE.out];rfl,HU0.out⟩
 · go_enter Tryz.func153,Tryz.ntmps153;go_wp2_with fail;refine(HN.out _).mono ?_;rintro e w1 ⟨rfl,rfl⟩;go_wp2_with fail;refine HK.out.mono ?_;rintro e w2 ⟨rfl,hU⟩;have HU:=aA hU;clear hU;go_wp2;go_ret;exact⟨by rw[HE.out];rfl,HU0.out.trans HU.out⟩
end
end Go.Proofs.YtggjbblgoddnjaaGreatDoor
namespace Go.Proofs
open Go.Shelf
def Tryz.lays169_ren:Go.Shelf.Ren:=⟨fun | 169=>94 | n=>n,fun | 70=>148 | 9=>9 | 0=>0 | 72=>150 | 37=>115 | 127=>186 | 3=>3 | 5=>5 | n=>n,fun | n=>n⟩
theorem Tryz.lays169 : Go.Proofs.Lays.n169 Tryz.prog Tryz.lays169_ren := {
  mixed:=by kernel_rfl
  f169:=Tryz.func94.trans (congrArg some (by kernel_rfl))
  t0:=Tryz.underlying0
  a0:=Tryz.isAgg0
  z0:=Tryz.sizeOf0
  v0:=Tryz.zeroValue0
  t3:=Tryz.underlying3
  a3:=Tryz.isAgg3
  z3:=Tryz.sizeOf3
  v3:=Tryz.zeroValue3
  t9:=Tryz.underlying9
  a9:=Tryz.isAgg9
  z9:=Tryz.sizeOf9
  v9:=Tryz.zeroValue9
  t37:=Tryz.underlying115
  a37:=Tryz.isAgg115
  z37:=Tryz.sizeOf115
  v37:=Tryz.zeroValue115
  t70:=Tryz.underlying148
  a70:=Tryz.isAgg148
  z70:=Tryz.sizeOf148
  v70:=Tryz.zeroValue148
  t72:=Tryz.underlying150
  a72:=Tryz.isAgg150
  z72:=Tryz.sizeOf150
  v72:=Tryz.zeroValue150
  t127:=Tryz.underlying186
  a127:=Tryz.isAgg186
  z127:=Tryz.sizeOf186
  v127:=Tryz.zeroValue186 }
theorem Tryz.Builder_Extra_169 : Builder.Extra Tryz.prog Tryz.lays169_ren := {
  sizeBuilder:=by kernel_rfl
  liesBuilder:=by kernel_rfl
  t5:=Tryz.underlying5
  a5:=Tryz.isAgg5
  z5:=Tryz.sizeOf5
  v5:=Tryz.zeroValue5
  infoByte:=by kernel_rfl
  cellsByte:=by kernel_rfl
  sizeByte:=by kernel_rfl
  neB5:=by decide }
open Go.RowKit in
theorem Tryz.Builder_String_any(B b:Nat)(l:List UInt8)(w:World)(h:Lib.IsBuilder 150 5 B b (Lib.byteCells l) w)(hBw:B≤w.heap.size) :
 Calls Tryz.prog 94 #[.pointer (some ⟨b,0,none⟩)] w fun e w'=>e = .returned (.string ⟨l.toArray⟩)∧Below B w w':=Any.Builder_String_any Tryz.lays169 Tryz.Builder_Extra_169 B b l w h hBw
open Go.RowKit in
theorem Tryz.Builder_String_k(B b:Nat)(l:List UInt8)(w:World)(h:Lib.IsBuilderF 150 5 B b (Lib.byteCells l) w)(h0:l≠[]) :
 Calls Tryz.prog 94 #[.pointer (some ⟨b,0,none⟩)] w fun e w'=>e = .returned (.string ⟨l.toArray⟩)∧(Lib.IsBuilderF 150 5 B b (Lib.byteCells l) w'∧Below B w w'∧Lib.OthersKept 5 (some b) w w'):=Any.Builder_String_k Tryz.lays169 Tryz.Builder_Extra_169 B b l w h h0
def Tryz.lays109_ren:Go.Shelf.Ren:=⟨fun | 109=>90 | n=>n,fun | 31=>50 | 9=>9 | 3=>3 | 0=>0 | 4=>4 | n=>n,fun | n=>n⟩
theorem Tryz.lays109 : Go.Proofs.Lays.n109 Tryz.prog Tryz.lays109_ren := {
  mixed:=by kernel_rfl
  f109:=Tryz.func90.trans (congrArg some (by kernel_rfl))
  t0:=Tryz.underlying0
  a0:=Tryz.isAgg0
  z0:=Tryz.sizeOf0
  v0:=Tryz.zeroValue0
  t3:=Tryz.underlying3
  a3:=Tryz.isAgg3
  z3:=Tryz.sizeOf3
  v3:=Tryz.zeroValue3
  t4:=Tryz.underlying4
  a4:=Tryz.isAgg4
  z4:=Tryz.sizeOf4
  v4:=Tryz.zeroValue4
  t9:=Tryz.underlying9
  a9:=Tryz.isAgg9
  z9:=Tryz.sizeOf9
  v9:=Tryz.zeroValue9
  t31:=Tryz.underlying50
  a31:=Tryz.isAgg50
  z31:=Tryz.sizeOf50
  v31:=Tryz.zeroValue50 }
open Go.Lib in
theorem Tryz.slices_Index_string(b off n c:Nat)(zs:List ByteArray)(x:ByteArray)(w:World)(hz:n≤zs.length)(hbig:n≤9223372036854775807)(hc:∀ j,j < zs.length→w.cell? ⟨b,off+j,none⟩=some (.string (zs.getD j ByteArray.empty))) :
 Calls Tryz.prog 90 #[.slice (some ⟨b,off,none⟩) n c,.string x] w fun e w'=>e = .returned (.int .i64 (Lib.idxOfS (zs.take n) x))∧w'=w:=Any.slices_Index_string Tryz.lays109 b off n c zs x w hz hbig hc
open Go.Lib in
theorem Tryz.slices_Index_string_empty(a:Option Addr)(c:Nat)(x:ByteArray)(w:World) :
 Calls Tryz.prog 90 #[.slice a 0 c,.string x] w fun e w'=>e = .returned (.int .i64 (Lib.idxOfS [] x))∧w'=w:=Any.slices_Index_string_empty Tryz.lays109 a c x w
def Tryz.lays110_ren:Go.Shelf.Ren:=⟨fun | 110=>55 | 109=>90 | n=>n,fun | 31=>50 | 9=>9 | 4=>4 | 3=>3 | 0=>0 | n=>n,fun | n=>n⟩
theorem Tryz.lays110 : Go.Proofs.Lays.n110 Tryz.prog Tryz.lays110_ren := {
  mixed:=by kernel_rfl
  f109:=Tryz.func90.trans (congrArg some (by kernel_rfl))
  f110:=Tryz.func55.trans (congrArg some (by kernel_rfl))
  t0:=Tryz.underlying0
  a0:=Tryz.isAgg0
  z0:=Tryz.sizeOf0
  v0:=Tryz.zeroValue0
  t3:=Tryz.underlying3
  a3:=Tryz.isAgg3
  z3:=Tryz.sizeOf3
  v3:=Tryz.zeroValue3
  t4:=Tryz.underlying4
  a4:=Tryz.isAgg4
  z4:=Tryz.sizeOf4
  v4:=Tryz.zeroValue4
  t9:=Tryz.underlying9
  a9:=Tryz.isAgg9
  z9:=Tryz.sizeOf9
  v9:=Tryz.zeroValue9
  t31:=Tryz.underlying50
  a31:=Tryz.isAgg50
  z31:=Tryz.sizeOf50
  v31:=Tryz.zeroValue50 }
open Go.Lib in
theorem Tryz.slices_Contains_string(b off n c:Nat)(zs:List ByteArray)(x:ByteArray)(w:World)(hz:n≤zs.length)(hbig:n≤9223372036854775807)(hc:∀ j,j < zs.length→w.cell? ⟨b,off+j,none⟩=some (.string (zs.getD j ByteArray.empty))) :
 Calls Tryz.prog 55 #[.slice (some ⟨b,off,none⟩) n c,.string x] w fun e w'=>e = .returned (.bool (Lib.containsS (zs.take n) x))∧w'=w:=Any.slices_Contains_string Tryz.lays110 b off n c zs x w hz hbig hc
open Go.Lib in
theorem Tryz.slices_Contains_string_empty(a:Option Addr)(c:Nat)(x:ByteArray)(w:World) :
 Calls Tryz.prog 55 #[.slice a 0 c,.string x] w fun e w'=>e = .returned (.bool false)∧w'=w:=Any.slices_Contains_string_empty Tryz.lays110 a c x w
def Tryz.laysNm217_ren:Go.Shelf.Ren:=⟨fun | 17=>173 | n=>n,fun | 24=>50 | 9=>9 | 3=>3 | 4=>4 | 0=>0 | n=>n,fun | n=>n⟩
theorem Tryz.laysNm217 : Go.Proofs.Lays2.n17 Tryz.prog Tryz.laysNm217_ren := {
  mixed:=by kernel_rfl
  f17:=Tryz.func173.trans (congrArg some (by kernel_rfl))
  t0:=Tryz.underlying0
  a0:=Tryz.isAgg0
  z0:=Tryz.sizeOf0
  v0:=Tryz.zeroValue0
  t3:=Tryz.underlying3
  a3:=Tryz.isAgg3
  z3:=Tryz.sizeOf3
  v3:=Tryz.zeroValue3
  t4:=Tryz.underlying4
  a4:=Tryz.isAgg4
  z4:=Tryz.sizeOf4
  v4:=Tryz.zeroValue4
  t9:=Tryz.underlying9
  a9:=Tryz.isAgg9
  z9:=Tryz.sizeOf9
  v9:=Tryz.zeroValue9
  t24:=Tryz.underlying50
  a24:=Tryz.isAgg50
  z24:=Tryz.sizeOf50
  v24:=Tryz.zeroValue50 }
open Go.RowKit Go.Lib Go.Sort in
theorem Tryz.slices_Reverse_string_empty(a:Option Addr)(cap:Nat)(w:World) :
 Calls Tryz.prog 173 #[.slice a 0 cap] w fun e w'=>e = .returned (.tuple #[])∧w'=w:=Any.slices_Reverse_string_empty Tryz.laysNm217 a cap w
def Tryz.laysNm216_ren:Go.Shelf.Ren:=⟨fun | 16=>172 | n=>n,fun | 24=>50 | 9=>9 | 4=>4 | n=>n,fun | n=>n⟩
theorem Tryz.laysNm216 : Go.Proofs.Lays2.n16 Tryz.prog Tryz.laysNm216_ren := {
  mixed:=by kernel_rfl
  f16:=Tryz.func172.trans (congrArg some (by kernel_rfl))
  t4:=Tryz.underlying4
  a4:=Tryz.isAgg4
  z4:=Tryz.sizeOf4
  v4:=Tryz.zeroValue4
  t9:=Tryz.underlying9
  a9:=Tryz.isAgg9
  z9:=Tryz.sizeOf9
  v9:=Tryz.zeroValue9
  t24:=Tryz.underlying50
  a24:=Tryz.isAgg50
  z24:=Tryz.sizeOf50
  v24:=Tryz.zeroValue50
  i9:=by kernel_rfl }
open Go.RowKit Go.Lib in
theorem Tryz.slices_Clone_string(b off n c:Nat)(zs:List ByteArray)(w:World)(hz:n≤zs.length)(hbig:n * 16≤140737488355328)(hc:∀ j,j < zs.length→w.cell? ⟨b,off+j,none⟩=some (.string (zs.getD j ByteArray.empty))) :
 Calls Tryz.prog 172 #[.slice (some ⟨b,off,none⟩) n c] w fun e w'=>∃ v',e = .returned v'∧w'.ownsRow w.heap.size 9 1 v' n ((zs.take n).map (Value.string))∧v'≠.slice none 0 0∧Below w.heap.size w w':=Any.slices_Clone_string Tryz.laysNm216 b off n c zs w hz hbig hc
open Go.RowKit Go.Lib in
theorem Tryz.slices_Clone_string_nil(n c:Nat)(w:World) :
 Calls Tryz.prog 172 #[.slice none n c] w fun e w'=>e = .returned (.slice none 0 0)∧w'=w:=Any.slices_Clone_string_nil Tryz.laysNm216 n c w
open Go.RowKit Go.Lib in
theorem Tryz.slices_Clone_string_zero(a:Addr)(c:Nat)(w:World) :
 Calls Tryz.prog 172 #[.slice (some a) 0 c] w fun e w'=>∃ v',e = .returned v'∧w'.ownsRow w.heap.size 9 1 v' 0 []∧v'≠.slice none 0 0∧Below w.heap.size w w':=Any.slices_Clone_string_zero Tryz.laysNm216 a c w
open Go.RowKit Go.Lib Go.Sort in
theorem Tryz.slices_Reverse_string_cells(b off n c:Nat)(Sx:Nat→ByteArray)(w:World)(hbig:n≤9223372036854775807)(hc:∀ i,i < n→w.cell? ⟨b,off+i,none⟩=some (.string (Sx i)))(hf:∀ j,j < n→w.frozen? ⟨b,off+j,none⟩=false) :
 Calls Tryz.prog 173 #[.slice (some ⟨b,off,none⟩) n c] w fun e w'=>e = .returned (.tuple #[])∧∃ q,w'=(w.drewN q).setCells b off ((Lib.strsOf Sx n).reverse.map encStr):=Any.slices_Reverse_string_cells Tryz.laysNm217 b off n c Sx w hbig hc hf
end Go.Proofs
namespace Go.Proofs.YtggjbblgoddnjaaGreatDoor
open Go.Lx Go.RowKit
theorem wV{w:World}{b off:Nat}{ss:List ByteArray}(h:CellsAt w b off (ss.map .string))(j:Nat)(hj:j < ss.length):w.cell? ⟨b,off+j,none⟩=some (.string (ss.getD j ByteArray.empty)):=by
 refine h j _ ?_;rw[List.getElem?_map,List.getElem?_eq_getElem hj,List.getD_eq_getElem?_getD,List.getElem?_eq_getElem hj];rfl
theorem eTA{w:World}{v:Value}{ss:List ByteArray}(hv:TextsV w v ss)(hn:ss.length≤1000000):Calls Tryz.prog 172 #[v] w fun e w'=>∃ u,e = .returned u∧w'.ownsRow w.heap.size 9 1 u ss.length (ss.map .string)∧Under w w':=by
 obtain⟨p,c,rfl,h1,h2,h3⟩:=hv
 cases p with
 | none =>
   have hl:ss=[]:=Classical.byContradiction fun h=>by
    obtain⟨b,off,e,_⟩:=h3 (fun e=>h (by simpa using e))
    cases e
   subst hl;refine(Tryz.slices_Clone_string_nil _ c w).mono ?_;rintro e w' ⟨rfl,rfl⟩;exact⟨_,rfl,World.ownsRow_nil _ _ _ _,Under.refl _⟩
 | some a =>
   by_cases hl:ss=[]
   · subst hl;refine(Tryz.slices_Clone_string_zero a c w).mono ?_;rintro e w' ⟨v',rfl,h4,_,h5⟩;exact⟨v',rfl,h4,dDA h5⟩
   · obtain ⟨b, off, e, hb, hc⟩ := h3 (fun e => hl (by simpa using e))
     cases e;refine(Tryz.slices_Clone_string b off ss.length c ss w (Nat.le_refl _) (by omega) (wV hc)).mono ?_;rintro e w' ⟨v',rfl,h4,_,h5⟩;rw[List.take_length]at h4;exact⟨v',rfl,h4,dDA h5⟩
theorem sRA{w:World}{v:Value}{ss:List ByteArray}(x:ByteArray)(hv:TextsV w v ss)(hn:ss.length≤1000000):Calls Tryz.prog 90 #[v,.string x] w fun e w'=>e = .returned (.int .i64 (Lib.idxOfS ss x))∧w'=w:=by
 obtain⟨p,c,rfl,h1,h2,h3⟩:=hv;by_cases hl:ss=[]
 · subst hl;exact Tryz.slices_Index_string_empty p c x w
 · obtain⟨b,off,rfl,hb,hc⟩:=h3 (fun e=>hl (by simpa using e));have:=Tryz.slices_Index_string b off ss.length c ss x w (Nat.le_refl _) (by omega) (wV hc);rw[List.take_length]at this;exact this
theorem gJA{w:World}{v:Value}{ss:List ByteArray}(x:ByteArray)(hv:TextsV w v ss)(hn:ss.length≤1000000):Calls Tryz.prog 55 #[v,.string x] w fun e w'=>e = .returned (.bool (lBA ss x))∧w'=w:=by
 obtain⟨p,c,rfl,h1,h2,h3⟩:=hv;by_cases hl:ss=[]
 · subst hl;exact Tryz.slices_Contains_string_empty p c x w
 · obtain⟨b,off,rfl,hb,hc⟩:=h3 (fun e=>hl (by simpa using e));have:=Tryz.slices_Contains_string b off ss.length c ss x w (Nat.le_refl _) (by omega) (wV hc);rw[List.take_length,gFA]at this;exact this
theorem eMA{W w:World}{v:Value}{base:Nat}{ss:List ByteArray}(hr:w.ownsRow base 9 1 v ss.length (ss.map .string))(hn:ss.length≤1000000)(hb:W.heap.size≤base)(hU:Under W w) :
 Calls Tryz.prog 173 #[v] w fun e w'=>e = .returned (.tuple #[])∧w'.ownsRow base 9 1 v ss.length (ss.reverse.map .string)∧Under W w':=by
 by_cases hl:ss=[]
 · subst hl; have hv : ∃ a c, v = .slice a 0 c := by
    rcases hr.2 with⟨rfl,_⟩ | ⟨g,c,cur,rfl,_⟩
    · exact⟨_,_,rfl⟩
    · exact⟨_,_,rfl⟩
   obtain⟨a,c,rfl⟩:=hv;refine(Tryz.slices_Reverse_string_empty a c w).mono ?_;rintro e w' ⟨rfl,rfl⟩;exact⟨rfl,hr,hU⟩
 · have hpos : 0 < ss.length := List.length_pos_iff.2 hl; obtain ⟨g, c, rfl, hg, hgb, hgl, _, _⟩ := dE hr hpos; refine (Tryz.slices_Reverse_string_cells g 0 ss.length c (fun i => ss.getD i ByteArray.empty) w (by omega) ?_ ?_).mono ?_
   · intro i hi;rw[Nat.zero_add];exact eD hr rfl (by rw[List.getElem?_map,List.getElem?_eq_getElem hi,List.getD_eq_getElem?_getD,List.getElem?_eq_getElem hi];rfl)
   · intro j _;rw[Nat.zero_add];exact fQA hr rfl j
   · rintro e w' ⟨rfl, q, rfl⟩; have hU1 : Under w (w.drewN q) := bB (Under.refl _) q; have hs : (Lib.strsOf (fun i => ss.getD i ByteArray.empty) ss.length).reverse.map Proofs.encStr = ss.reverse.map Value.string := by
      rw[List.map_reverse,List.map_reverse];congr 1
      apply List.ext_getElem
      · simp[Lib.strsOf]
      · intro j h1 h2;simp at h2;simp[Lib.strsOf,Proofs.encStr,List.getD_eq_getElem?_getD,List.getElem?_eq_getElem h2]
     rw[hs];have h4:=o7 (g:=g) rfl (ss.reverse.map Value.string) 0 _ _ (uA hr hU1) (by simp);rw[List.take_zero,List.nil_append,List.drop_eq_nil_of_le (by simp),List.append_nil]at h4;exact⟨rfl,h4,uV (by omega) _ _ _ (hU.trans hU1)⟩
theorem Tryz.infoNode8:(Tryz.prog.info? 112).map (fun i=>(i.zero,i.size,i.bytes))=some (some (.agg #[.int .i64 0,.int .i64 0,.int .i64 0,.string ⟨#[]⟩]),4,40):=by kernel_rfl
theorem aSA{w:World}{m2:Nat}(h:MapAt w m2 aloneL)(s:ByteArray):(Instr.lookup 203 (.map (some m2)) (.string s) true).run Tryz.prog w = .ok (.tuple #[((nS s).map fun k=>zO k 0).getD (zO 0 0),.bool (nS s).isSome]) w:=by
 have:=(h.lookup (k:=s) (kt:=9) (et:=112) Tryz.underlying203 Tryz.underlying9 (uU w)).1;rw[wJA,Option.isSome_map]at this;exact this
theorem jEB{w w':World}{a b i j:Nat}{u v:Value}{m:Nat}{ks:zH}(hU:Under w w')(h:a < w.heap.size∧b < w.heap.size∧w.cell? ⟨a,i,none⟩=some u∧w.cell? ⟨b,j,none⟩=some v∧MapAt w m ks):w'.cell? ⟨a,i,none⟩=some u∧w'.cell? ⟨b,j,none⟩=some v∧MapAt w' m ks :=
 ⟨(fA hU h.1 _).trans h.2.2.1,(fA hU h.2.1 _).trans h.2.2.2.1,h.2.2.2.2.under hU⟩
def uEB(w:World)(b:Nat)(x:Nd):Prop:=w.cell? ⟨b,0,none⟩=some (.int .i64 x.k)∧w.cell? ⟨b,1,none⟩=some (.int .i64 x.n)∧w.cell? ⟨b,2,none⟩=some (.int .i64 x.m)∧w.cell? ⟨b,3,none⟩=some (.string x.s)
def fJ(x:Nd):Array Value:=#[.int .i64 x.k,.int .i64 x.n,.int .i64 x.m,.string x.s]
theorem jP{w:World}{b:Nat}{x:Nd}(h:BoxAt w b 112 (fJ x)):uEB w b x:=⟨h.cell 0,h.cell 1,h.cell 2,h.cell 3⟩
section
variable {W0 w w1 w2 : World} {rb m1 m2 nb g c : Nat} {cv dv ov : Value} {acc : List Nd} {p e : Int} {x : Nd}
theorem eBB(h:ReS W0 rb m1 m2 cv dv ov acc p e w)(hn:BoxAt w nb 112 (fJ x))(hne:ov.ownBlock≠some nb)(hU:Under w w2)(hg:w2.grownBy w1 ov.ownBlock):BoxAt w1 nb 112 (fJ x):=(hn.under hU).grown hg fun e=>hne e.symm
theorem ReOut.back{R:Say}{y:Ending}(hU:Under w w1)(h:ReOut W0 rb m1 m2 cv dv ov acc w1 R y w2):ReOut W0 rb m1 m2 cv dv ov acc w R y w2:=by
 obtain⟨ov',acc',p',e',h1,h2,h3,h4⟩:=h;exact⟨ov',acc',p',e',h1,(Ch.of_under hU).trans h2 (fun i _ h=>h),fun b hb e=>h3 b (by have:=hU.size;omega) e,h4⟩
theorem tKA (h : ReS W0 rb m1 m2 cv dv ov acc p e w) (hU : Under w w2) (hg : w2.grownBy w1 ov.ownBlock) (hat : ov.ownBlock = some g ∨ g = w2.heap.size)
    (hown:w1.ownsRow W0.heap.size 112 4 (.slice (some ⟨g,0,none⟩) (acc.length+1) c) (acc.length+1) (wB acc++[.int .i64 x.k,.int .i64 x.n,.int .i64 x.m,.string x.s])) :
    ReS W0 rb m1 m2 cv dv (.slice (some ⟨g,0,none⟩) (acc.length+1) c) (acc++[x]) p e (w1.setCell ⟨rb,4,none⟩ (.slice (some ⟨g,0,none⟩) (acc.length+1) c))∧Ch (xU rb ov) w (w1.setCell ⟨rb,4,none⟩ (.slice (some ⟨g,0,none⟩) (acc.length+1) c))∧(∀ b,b < w.heap.size→(Value.slice (some ⟨g,0,none⟩) (acc.length+1) c).ownBlock=some b→ov.ownBlock=some b):=by
  have h2:=h.under hU;have hb1:=h2.box.grown hg (fun e=>h2.ov_rb e.symm);have hc:Ch (xU rb ov) w w1:=(Ch.of_under hU).grown hg fun g e _=>.inr e
  have hc2:Ch (xU rb ov) w2 w1:=(Ch.refl _).grown hg fun g e _=>.inr e
  refine⟨⟨?_,?_,?_,?_,?_,h.lo⟩,hc.set (fun _=>.inl rfl) 4 _,?_⟩
  · exact hb1.set 4 _
  · exact iV (iV h2.f hc2 (fun e=>by rcases e with e | e;exact h2.rb_m1 e.symm;exact h2.ov_m1 e)) ((Ch.refl (C:=fun b=>b=rb) w1).set (g:=rb) (fun _=>rfl) 4 _) (fun e=>h2.rb_m1 e.symm)
  · exact iV (iV h2.a hc2 (fun e=>by rcases e with e | e;exact h2.rb_m2 e.symm;exact h2.ov_m2 e)) ((Ch.refl (C:=fun b=>b=rb) w1).set (g:=rb) (fun _=>rfl) 4 _) (fun e=>h2.rb_m2 e.symm)
  · have:=rD hown (b:=rb) (oD hb1 hown (by decide)) 4 (.slice (some ⟨g,0,none⟩) (acc.length+1) c);rw[List.length_append,gF];exact this
  · exact jC h.und (hc.set (fun _=>.inl rfl) 4 _) h.low
  · intro b hb e; have e : g = b := by simpa [Value.ownBlock] using e
    subst e;rcases hat with h | h
    · exact h
    · have:=hU.size;omega
end
theorem vV{P:Program}{c:Code}{Q:Exit→Act→World→Prop}{A:Array Value}{F:(Nat→Value)→Array Value}{df:List Deferred}{w:World}(hA:A=F fun n=>A.getD n undef)(h:∀ J,c.wp P Q ⟨F J,df⟩ w):c.wp P Q ⟨A,df⟩ w:=by
 have:=h fun n=>A.getD n undef
 rw[← hA]at this;exact this
noncomputable def f3A:Code:=Tryz.f150.body.getD .skip
noncomputable def wdPush:Code:=dB (qA (qA (qA (qA (qA (qA f3A))))))
def aL(rb nb:Nat)(J:Nat→Value):Array Value:=#[.pointer (some ⟨rb,0,none⟩),J 1,J 2,J 3,J 4,J 5,.bool false,.pointer (some ⟨nb,0,none⟩),J 8,J 9,J 10,J 11,J 12,J 13,J 14,J 15,J 16,J 17,J 18,J 19,J 20,J 21,J 22,J 23,J 24,J 25,J 26,J 27,J 28,J 29,J 30,J 31,J 32,J 33,J 34,J 35,J 36,J 37,J 38,J 39,J 40,J 41,J 42,J 43,J 44,J 45,J 46,J 47,J 48,J 49,J 50,J 51,J 52,J 53,J 54,J 55,J 56,J 57,J 58,J 59,J 60,J 61,J 62,J 63,J 64,J 65,J 66,J 67,J 68,J 69,J 70,J 71,J 72,J 73,J 74,J 75,J 76,J 77,J 78]
def kDB(W0:World)(rb nb m1 m2:Nat)(cv dv ov:Value)(acc:List Nd)(p e:Int)(x:Nd)(w4:World)(ex:Exit)(a':Act)(w':World):Prop :=
 ex = .normal∧(∃ J,a'=⟨aL rb nb J,[]⟩)∧∃ ov',ReS W0 rb m1 m2 cv dv ov' (acc++[x]) p e w'∧Ch (xU rb ov) w4 w'∧(∀ b,b < w4.heap.size→ov'.ownBlock=some b→ov.ownBlock=some b)
theorem aMA{W0 w4:World}{rb m1 m2 nb:Nat}{cv dv ov:Value}{acc:List Nd}{p e:Int}{x:Nd}(hR:ReS W0 rb m1 m2 cv dv ov acc p e w4)(hn:BoxAt w4 nb 112 (fJ x))(hne:ov.ownBlock≠some nb)(hrn:rb≠nb)(ha:acc.length≤1000000)(J:Nat→Value) :
 wdPush.wp Tryz.prog (kDB W0 rb nb m1 m2 cv dv ov acc p e x w4) ⟨aL rb nb J,[]⟩ w4:=by
 obtain⟨i0,hi,hz0,hz1,hz2⟩:=info_parts Tryz.infoNode8;obtain⟨xk,xn,xm,xs⟩:=x;have HNy:=aA hn;have y4:=hR.box.cell 4;have yl:=hR.box.lt;have HRy:=aA hR;have nd0:=jP (x:=⟨xk,xn,xm,xs⟩) hn;have HNv:RowKit.Hid (ov.ownBlock≠some nb):=aA hne;have HNr:RowKit.Hid (rb≠nb):=aA hrn;have hmx:acc.length+1≤maxLen:=by simp only[maxLen];omega
 have hby:(acc.length+1) * 40≤140737488355328:=by omega
 have hlo:W0.heap.size≤w4.heap.size:=hR.und.size;clear hR hn hne hrn;unfold wdPush f3A;simp only[Tryz.f150,Option.getD_some,dB,qA];unfold aL;refine wp_region_noPanic ?_;refine wp_region_held_drew (S:=fun w'=>w'.cell? ⟨nb,0,none⟩=some (.int .i64 (xk))∧w'.cell? ⟨nb,1,none⟩=some (.int .i64 (xn))∧w'.cell? ⟨nb,2,none⟩=some (.int .i64 (xm))∧w'.cell? ⟨nb,3,none⟩=some (.string xs)) (by kernel_rfl) nd0 (fun hHeld=>?_);refine dA 0 rfl ?_;refine dA 1 rfl ?_;refine dA 2 rfl ?_;refine dA 3 rfl ?_;refine dA 5 rfl ?_
 try walk_nrm
 refine oM 4 6 (by kernel_rfl) rfl rfl (fun K hK=>?_) (fun K hK=>?_)
 · go_simp; refine hK.out _ _ hHeld (fun _ => ?_); clear hK K hHeld; rename_i hHeld
   try walk_nrm
   refine yA 6 (by kernel_rfl) rfl fun K hK=>?_
   go_simp;refine hK.out _ _ ?_ (fun _=>?_)
   · exact jP (x:=⟨xk,xn,xm,xs⟩) ((HNy.out).under (by first | exact nA (Under.refl _) | exact nA (bA (Under.refl _) _) | exact bA (nA (Under.refl _)) _))
   clear hK K hHeld;rename_i hHeld
   try walk_nrm
   refine yA 7 (by kernel_rfl) rfl fun K hK=>?_
   refine step_append_lies _ (by rfl) _ _ _ (by rfl) W0.heap.size 112 i0 _ 4 40 Tryz.underlying30 hi hz0 hz1 hz2 rfl (by omega) ov acc.length (wB acc) (by rfl) (uA HRy.out.row (by first | exact nA (bA (Under.refl _) _) | exact bA (nA (Under.refl _)) _))
         ⟨w4.heap.size,0,none⟩ 1 1 [.int .i64 xk,.int .i64 xn,.int .i64 xm,.string xs] (by rfl) (by rfl) (World.news_of_block (cs:=#[.int .i64 xk,.int .i64 xn,.int .i64 xm,.string xs]) (t:=112) (fr:=(0,0)) (heap_alloc_new _ _)) (by simp[Value.oneCell'])
         (by omega) hmx hby (by simp;omega) (w4.heap.size+1) (by simp) ?_
   intro gg cc w5 hown5 hgrow5 hat5 hlt5;have HPd:=aA (tKA (x:=⟨xk,xn,xm,xs⟩) HRy.out (by first | exact nA (bA (Under.refl _) _) | exact bA (nA (Under.refl _)) _) hgrow5 (by rcases hat5 with h | h;exact .inl h;exact .inr (by rw[h];simp)) hown5);have HN5:=aA (eBB (x:=⟨xk,xn,xm,xs⟩) HRy.out (HNy.out) HNv.out (by first | exact nA (bA (Under.refl _) _) | exact bA (nA (Under.refl _)) _) hgrow5);have HB5:=aA ((HRy.out.box.under (by first | exact nA (bA (Under.refl _) _) | exact bA (nA (Under.refl _)) _)).grown hgrow5 (fun e=>HRy.out.ov_rb e.symm));have y5:=HB5.out.lt;have y6:=HB5.out.free 4;have y7:=HB5.out.cell 4;have HN6:=aA (HN5.out.other (g:=rb) (fun e=>HNr.out e.symm) 4 (.slice (some ⟨gg,0,none⟩) (acc.length+1) cc));clear hown5 hgrow5 hat5 hlt5;refine hK.out _ _ (jP (x:=⟨xk,xn,xm,xs⟩) HN5.out) (fun _=>?_);clear hK K hHeld;rename_i hHeld
   try walk_nrm
   refine dA 8 rfl ?_;refine dA 9 rfl ?_
   try walk_nrm
   refine yA 10 (by kernel_rfl) rfl fun K hK=>?_
   go_simp;refine hK.out _ _ (jP (x:=⟨xk,xn,xm,xs⟩) HN6.out) (fun _=>?_);clear hK K hHeld;rename_i hHeld
   try walk_nrm
   refine wpAnyH_done (by kernel_rfl) ?_ _;refine NoPanic.normal ?_;clear hHeld y5 y6 y7;exact⟨rfl,⟨_,nD (F:=aL rb nb) (by rfl)⟩,_,HPd.out.1,HPd.out.2.1,HPd.out.2.2⟩
 · go_simp; refine hK.out _ _ ?_ (fun _ => ?_)
   · exact jP (x:=⟨xk,xn,xm,xs⟩) ((HNy.out).under (by first | exact nA (Under.refl _) | exact nA (bA (Under.refl _) _) | exact bA (nA (Under.refl _)) _))
   clear hK K hHeld;rename_i hHeld
   try walk_nrm
   refine yA 4 (by kernel_rfl) rfl fun K hK=>?_
   go_simp;refine hK.out _ _ hHeld (fun _=>?_);clear hK K hHeld;rename_i hHeld
   try walk_nrm
   refine yA 7 (by kernel_rfl) rfl fun K hK=>?_
   refine step_append_lies _ (by rfl) _ _ _ (by rfl) W0.heap.size 112 i0 _ 4 40 Tryz.underlying30 hi hz0 hz1 hz2 rfl (by omega) ov acc.length (wB acc) (by rfl) (uA HRy.out.row (by first | exact nA (bA (Under.refl _) _) | exact bA (nA (Under.refl _)) _))
         ⟨w4.heap.size,0,none⟩ 1 1 [.int .i64 xk,.int .i64 xn,.int .i64 xm,.string xs] (by rfl) (by rfl) (World.news_of_block (cs:=#[.int .i64 xk,.int .i64 xn,.int .i64 xm,.string xs]) (t:=112) (fr:=(0,0)) (heap_alloc_new _ _)) (by simp[Value.oneCell'])
         (by omega) hmx hby (by simp;omega) (w4.heap.size+1) (by simp) ?_
   intro gg cc w5 hown5 hgrow5 hat5 hlt5;have HPd:=aA (tKA (x:=⟨xk,xn,xm,xs⟩) HRy.out (by first | exact nA (bA (Under.refl _) _) | exact bA (nA (Under.refl _)) _) hgrow5 (by rcases hat5 with h | h;exact .inl h;exact .inr (by rw[h];simp)) hown5);have HN5:=aA (eBB (x:=⟨xk,xn,xm,xs⟩) HRy.out (HNy.out) HNv.out (by first | exact nA (bA (Under.refl _) _) | exact bA (nA (Under.refl _)) _) hgrow5);have HB5:=aA ((HRy.out.box.under (by first | exact nA (bA (Under.refl _) _) | exact bA (nA (Under.refl _)) _)).grown hgrow5 (fun e=>HRy.out.ov_rb e.symm));have y5:=HB5.out.lt;have y6:=HB5.out.free 4;have y7:=HB5.out.cell 4;have HN6:=aA (HN5.out.other (g:=rb) (fun e=>HNr.out e.symm) 4 (.slice (some ⟨gg,0,none⟩) (acc.length+1) cc));clear hown5 hgrow5 hat5 hlt5;refine hK.out _ _ (jP (x:=⟨xk,xn,xm,xs⟩) HN5.out) (fun _=>?_);clear hK K hHeld;rename_i hHeld
   try walk_nrm
   refine dA 8 rfl ?_;refine dA 9 rfl ?_
   try walk_nrm
   refine yA 10 (by kernel_rfl) rfl fun K hK=>?_
   go_simp;refine hK.out _ _ (jP (x:=⟨xk,xn,xm,xs⟩) HN6.out) (fun _=>?_);clear hK K hHeld;rename_i hHeld
   try walk_nrm
   refine wpAnyH_done (by kernel_rfl) ?_ _;refine NoPanic.normal ?_;clear hHeld y5 y6 y7;exact⟨rfl,⟨_,nD (F:=aL rb nb) (by rfl)⟩,_,HPd.out.1,HPd.out.2.1,HPd.out.2.2⟩
def nCB(rb sb nb:Nat)(bv:Value)(fi:Bool)(J:Nat→Value):Array Value:=#[.pointer (some ⟨rb,0,none⟩),J 1,bv,J 3,.pointer (some ⟨sb,0,none⟩),J 5,.bool false,.pointer (some ⟨nb,0,none⟩),.bool fi,J 9,J 10,J 11,J 12,J 13,J 14,J 15,J 16,J 17,J 18,J 19,J 20,J 21,J 22,J 23,J 24,J 25,J 26,J 27,J 28,J 29,J 30,J 31,J 32,J 33,J 34,J 35,J 36,J 37,J 38,J 39,J 40,J 41,J 42,J 43,J 44,J 45,J 46,J 47,J 48,J 49,J 50,J 51,J 52,J 53,J 54,J 55,J 56,J 57,J 58,J 59,J 60,J 61,J 62,J 63,J 64,J 65,J 66,J 67,J 68,J 69,J 70,J 71,J 72,J 73,J 74,J 75,J 76,J 77,J 78]
def sEB(w:World)(rb sb nb:Nat)(bv:Value)(fi:Bool)(x n:Array Value)(e:Exit)(a':Act)(w':World):Prop:=e = .normal∧(∃ J,a'=⟨nCB rb sb nb bv fi J,[]⟩)∧Under w w'∧BoxAt w' nb 112 n∧BoxAt w' sb 28 x
theorem r4A(s:ByteArray):∃(k:Int) (fi:Bool),(((nS s).map fun k=>zO k 0).getD (zO 0 0) = .agg #[.int .i64 k,.int .i64 0,.int .i64 0,.string ⟨#[]⟩]∧(nS s).isSome=fi)∧((nS s=none∧fi=false∧k=0)∨(nS s=some k∧fi=true)):=by
 cases h:nS s with
 | none=>exact⟨0,false,⟨rfl,rfl⟩,.inl ⟨rfl,rfl,rfl⟩⟩
 | some k=>exact⟨k,true,⟨rfl,rfl⟩,.inr ⟨rfl,rfl⟩⟩
section
variable {W0 w : World} {rb m1 m2 : Nat} {cv dv ov : Value} {acc : List Nd} {p e : Int}
theorem aZA(x:Sx)(cs:List ByteArray)(st:List ByteArray){bv:Value}(hw:x.word.size≤1000000)(h:ReS W0 rb m1 m2 cv dv ov acc p e w)(hb:TextsV w bv st)(hn:st.length≤100000)(ha:acc.length≤1000000)(hcs:TextsV W0 cv cs)(hcn:cs.length≤1000000) :
 Calls Tryz.prog 150 #[.pointer (some ⟨rb,0,none⟩),sxV x,bv] w (ReOut W0 rb m1 m2 cv dv ov acc w (vL cs x.pos x.word st)):=by
 obtain⟨mm,pp,s⟩:=x;simp only at *;obtain⟨k,fi,⟨hv,hfi⟩,hlf⟩:=r4A s;have HLf:=aA hlf;have hU0:=bA (Under.refl w) (.cells #[.int .i64 mm,.int .i64 pp,.string s] 28);have hR:=h.under hU0;have d1:=hR.box.cell 3;have d2:(w.alloc (.cells #[.int .i64 mm,.int .i64 pp,.string s] 28)).cell? ⟨w.heap.size,2,none⟩=some (.string s):=(rA w _ _).cell 2;have d3:=hR.a;have HLk:∀(w':World),MapAt w' m2 aloneL→(Instr.lookup 203 (.map (some m2)) (.string s) true).run Tryz.prog w' = .ok (.tuple #[.agg #[.int .i64 k,.int .i64 0,.int .i64 0,.string ⟨#[]⟩],.bool fi]) w':=fun w' h=>by
  rw[aSA h s,hv,hfi]
 have HD:=aA (show rb < (w.alloc (.cells #[.int .i64 mm,.int .i64 pp,.string s] 28)).heap.size∧w.heap.size < (w.alloc (.cells #[.int .i64 mm,.int .i64 pp,.string s] 28)).heap.size∧_ from⟨hR.box.lt,by simp,And.intro d1 (And.intro d2 d3)⟩);have dd:=And.intro d1 (And.intro d2 d3);have HB:=aA hb;have HR:=aA h;have HU0:=aA hU0;have HCs:=aA hcs;clear d1 d2 d3 hR hb hU0 hlf hv hfi hcs;unfold sxV;simp only;clear h;go_enter Tryz.func150,Tryz.ntmps150;go_wp2_with fail;rename_i K hK;refine wp_mono (Q:=sEB w rb w.heap.size (w.heap.size+1) bv fi #[.int .i64 mm,.int .i64 pp,.string s] (fJ ⟨k,0,0,⟨#[]⟩⟩)) ?_ ?_
 · refine wp_region_noPanic ?_; go_region_held3 (fun w' => w'.cell? ⟨rb, 3, none⟩ = some (.map (some m2)) ∧ w'.cell? ⟨w.heap.size, 2, none⟩ = some (.string s) ∧ MapAt w' m2 aloneL)
     (first
       | exact dd
       | exact jEB (nA (bA (Under.refl _) _)) HD.out
       | go_keep)
     (fail)
   all_goals
    refine NoPanic.normal ?_;refine⟨rfl,⟨_,nD (F:=nCB rb w.heap.size (w.heap.size+1) bv fi) (by rfl)⟩,nA (bA HU0.out _),?_,(rA w _ _).alloc _⟩;have:=rA (w.alloc (.cells #[.int .i64 mm,.int .i64 pp,.string s] 28)) #[.int .i64 k,.int .i64 0,.int .i64 0,.string ⟨#[]⟩] 112;rw[World.size_alloc]at this;exact this
 rintro ex a' wx ⟨rfl,⟨J,rfl⟩,hUx,hNb,hSx⟩;have HUx:=aA hUx;have HNb:=aA hNb;have HSx:=aA hSx;simp only[Exit.then];refine hK _ _ ?_;unfold nCB;clear hUx hNb hSx hK K dd HLk HD HU0;have HC:=aA (eTA (HB.out.under HUx.out) (by omega));go_wp2_with fail;refine HC.out.mono ?_;rintro e w2 ⟨u,rfl,hu,hU2⟩;have HRv:=aA (eMA (W:=wx) hu (by omega) (Nat.le_refl _) hU2);clear hu hU2 HC;go_wp2_with fail;refine HRv.out.mono ?_;rintro e w3 ⟨rfl,hu3,hU3⟩;have HT3:=TextsV.of_own (ss:=st.reverse) (by rw[List.length_reverse];exact hu3);have HI:=aA (sRA s HT3 (by rw[List.length_reverse];omega));obtain⟨q3,c3,rfl,_,_,_⟩:=HT3;rw[List.length_reverse]at HI ⊢;generalize st.length=stn at *;have HIx:=aA (sNA st s);generalize Lib.idxOfS st.reverse s=ix at *;have HUz:=aA (HUx.out.trans hU3);have HUy:=aA hU3;have hNy:=HNb.out.under hU3;have hSy:=HSx.out.under hU3;have s0:=hSy.cell 0;have s1:=hSy.cell 1;have s2:=hSy.cell 2;have sl:=hSy.lt;have HSy:=aA hSy;have HNy:=aA hNy;clear hSy hNy;clear hu3 hU3 HRv;go_wp2_with fail;refine HI.out.mono ?_;rintro e w4 ⟨rfl,rfl⟩;clear HI;rcases HLf.out with⟨hl,rfl,rfl⟩ | ⟨hl,rfl⟩
 rotate_left
 · have HW := aA (show vL cs pp s st = .ok [⟨k, 0, 0, ⟨#[]⟩⟩] by unfold vL; rw [hl]); clear hl; have HRy := aA (HR.out.under HUz.out); have HNv : RowKit.Hid (ov.ownBlock ≠ some (w.heap.size + 1)) := aA fun e => by have := (jB HR.out.row e).2; omega
   have HNr:RowKit.Hid (rb≠w.heap.size+1):=aA fun e=>by have:=HR.out.box.lt;omega
   go_wp2_with fail;rename_i K hK;refine vV (F:=aL rb (w.heap.size+1)) (by rfl) fun J=>?_
   refine wp_mono (aMA (x:=⟨k,0,0,⟨#[]⟩⟩) HRy.out (HNy.out) HNv.out HNr.out ha J) ?_;rintro ex a' w9 ⟨rfl,⟨J',rfl⟩,ov',g1,g2,g3⟩;have HPd:=aA (And.intro g1 (And.intro g2 g3));clear g1 g2 g3;simp only[Exit.then];refine hK _ _ ?_;unfold aL;go_wp2;go_ret;rw[HW.out];exact⟨_,_,_,_,HPd.out.1,(Ch.of_under HUz.out).trans (C:=xU rb ov) (D:=xU rb ov) HPd.out.2.1 (fun i _ h=>h),fun b hb e=>HPd.out.2.2 b (by have:=HUz.out.size;omega) e,rfl,rfl⟩
 have HNm:=aA (yYA (w0:=w4) ⟨mm,pp,s⟩ (rb:=rb) (m1:=m1) (m2:=m2) (by simp only[maxLen];omega) (HR.out.under HUz.out).tables);simp only[sxV]at HNm;have HL:=aA hl;clear hl HLf
 cases hk:pX s
 all_goals
  rw[hk]at HNm;go_wp2_with fail;refine HNm.out.mono ?_;rintro e w5 ⟨rfl,hU5⟩;have HUw:=aA (HUz.out.trans hU5);have s1':=(HSy.out.under hU5).cell 1;have s2':=(HSy.out.under hU5).cell 2;have sl':=(HSy.out.under hU5).lt;have HNz:=aA (HNy.out.under hU5);have hUs:=(nA (W:=w4) (w:=w5) (hU5));clear hU5 s0 s1 s2 sl HNm
 · have HW:=aA (show vL cs pp s st = .error (71,pp) by simp[vL,HL.out,hk]);have HWr:=aA (jCA (HR.out.under HUw.out) pp 71);go_wp2_with fail;refine HWr.out.mono ?_;rintro e w6 hO;have HO:=aA (ReOut.back HUw.out hO);obtain⟨_,_,_,_,_,_,_,rfl,_,_⟩:=hO;go_wp2;go_ret;rw[HW.out];exact HO.out
 cases hf:zDA st s with
 | some ii =>
   obtain rfl:ix=(ii:Int):=by have:=HIx.out;rw[hf]at this;exact this
   by_cases h9:99 < ii
   · have HW := aA (show vL cs pp s st = .error (2, pp) by simp [vL, HL.out, hk, hf, h9]); have hi9 : (99 : Int) < (ii : Int) := by omega
     have HWr:=aA (jCA (HR.out.under HUw.out) pp 2);go_wp2_with fail;refine HWr.out.mono ?_;rintro e w6 hO;have HO:=aA (ReOut.back HUw.out hO);obtain⟨_,_,_,_,_,_,_,rfl,_,_⟩:=hO;go_wp2;go_ret;rw[HW.out];exact HO.out
   · have HW := aA (show vL cs pp s st = .ok [⟨0, (ii : Int), 0, ⟨#[]⟩⟩] by simp only [vL, HL.out, hk, hf, if_true, if_neg h9]); have hi9 : (ii : Int) ≤ 99 := by omega
     have hi0:(0:Int)≤(ii:Int):=by omega
     have n0:w5.cell? ⟨w.heap.size+1,0,none⟩=some (.int .i64 0):=HNz.out.cell 0;have n1:w5.cell? ⟨w.heap.size+1,1,none⟩=some (.int .i64 0):=HNz.out.cell 1;have n2:w5.cell? ⟨w.heap.size+1,2,none⟩=some (.int .i64 0):=HNz.out.cell 2;have n3:w5.cell? ⟨w.heap.size+1,3,none⟩=some (.string ⟨#[]⟩):=HNz.out.cell 3;have nl:=HNz.out.lt;have nf0:=HNz.out.free 0;have nf1:=HNz.out.free 1;have nf2:=HNz.out.free 2;have nf3:=HNz.out.free 3;go_wp2_with fail;obtain⟨w6,hw6⟩:∃ w6,w6=(((w5.setCell ⟨w.heap.size+1,0,none⟩ (.int .i64 (0))).setCell ⟨w.heap.size+1,1,none⟩ (.int .i64 ((ii:Int)))).setCell ⟨w.heap.size+1,2,none⟩ (.int .i64 (0))).setCell ⟨w.heap.size+1,3,none⟩ (.string ⟨#[]⟩):=⟨_,rfl⟩;have HNq:RowKit.Hid (BoxAt w6 (w.heap.size+1) 112 (fJ ⟨0,(ii:Int),0,⟨#[]⟩⟩)):=aA (by rw[hw6];exact(((HNz.out.set 0 _).set 1 _).set 2 _).set 3 _);have HUz:=aA (show Under w w6 by rw[hw6];exact bC (bC (bC (bC HUw.out (by omega) _ _) (by omega) _ _) (by omega) _ _) (by omega) _ _);rw[← hw6];clear hw6 n0 n1 n2 n3 nl nf0 nf1 nf2 nf3 HNz s1' s2' sl';have HRy:=aA (HR.out.under HUz.out);have HNv:RowKit.Hid (ov.ownBlock≠some (w.heap.size+1)):=aA fun e=>by have:=(jB HR.out.row e).2;omega
     have HNr:RowKit.Hid (rb≠w.heap.size+1):=aA fun e=>by have:=HR.out.box.lt;omega
     go_wp2_with fail;rename_i K hK;refine vV (F:=aL rb (w.heap.size+1)) (by rfl) fun J=>?_
     refine wp_mono (aMA (x:=⟨0,(ii:Int),0,⟨#[]⟩⟩) HRy.out (HNq.out) HNv.out HNr.out ha J) ?_;rintro ex a' w9 ⟨rfl,⟨J',rfl⟩,ov',g1,g2,g3⟩;have HPd:=aA (And.intro g1 (And.intro g2 g3));clear g1 g2 g3;simp only[Exit.then];refine hK _ _ ?_;unfold aL;go_wp2;go_ret;rw[HW.out];exact⟨_,_,_,_,HPd.out.1,(Ch.of_under HUz.out).trans (C:=xU rb ov) (D:=xU rb ov) HPd.out.2.1 (fun i _ h=>h),fun b hb e=>HPd.out.2.2 b (by have:=HUz.out.size;omega) e,rfl,rfl⟩
 | none =>
   have HF:=aA hf
   cases hc:lBA cs s
   all_goals
    obtain rfl:ix=(-1:Int):=by have:=HIx.out;rw[hf]at this;exact this
    have c0 := (HR.out.under HUw.out).box.cell 0; have cl := (HR.out.under HUw.out).box.lt; have HCt := aA (fun w' (hU : Under w5 w') => gJA s (HCs.out.under ((HR.out.und.trans HUw.out).trans hU)) hcn); rw [hc] at HCt; have ccd := And.intro c0 s2'; go_wp2_with fail; go_region_held3 (fun w' => w'.cell? ⟨rb, 0, none⟩ = some cv ∧ w'.cell? ⟨w.heap.size, 2, none⟩ = some (.string s))
      (first
        | exact ccd
        | go_keep)
      ((go_at_call 55;refine(HCt.out _ (by first | exact nA (Under.refl _) | exact Under.refl _)).mono ?_;rintro e w7 ⟨rfl,rfl⟩))
    rename_i K hK hHeld;clear hHeld ccd c0 cl;have HUw:=aA (HUw.out.trans (nA (Under.refl _)));have HSz:=aA (HSy.out.under (hUs));have HNz:=aA (HNz.out.under (nA (Under.refl _)));have s1':=HSz.out.cell 1;have s2':=HSz.out.cell 2;have sl':=HSz.out.lt;generalize w5.drew=w5 at *
   · have HW:=aA (show vL cs pp s st = .error (80,pp) by simp[vL,HL.out,hk,HF.out,hc]);have HWr:=aA (jCA (HR.out.under HUw.out) pp 80);go_wp2_with fail;refine HWr.out.mono ?_;rintro e w6 hO;have HO:=aA (ReOut.back HUw.out hO);obtain⟨_,_,_,_,_,_,_,rfl,_,_⟩:=hO;go_wp2;go_ret;rw[HW.out];exact HO.out
   · have HW := aA (show vL cs pp s st = .ok [⟨1, 0, 0, s⟩] by simp [vL, HL.out, hk, HF.out, hc]); have n0 : w5.cell? ⟨w.heap.size + 1, 0, none⟩ = some (.int .i64 0) := HNz.out.cell 0; have n1 : w5.cell? ⟨w.heap.size + 1, 1, none⟩ = some (.int .i64 0) := HNz.out.cell 1; have n2 : w5.cell? ⟨w.heap.size + 1, 2, none⟩ = some (.int .i64 0) := HNz.out.cell 2; have n3 : w5.cell? ⟨w.heap.size + 1, 3, none⟩ = some (.string ⟨#[]⟩) := HNz.out.cell 3; have nl := HNz.out.lt; have nf0 := HNz.out.free 0; have nf1 := HNz.out.free 1; have nf2 := HNz.out.free 2; have nf3 := HNz.out.free 3; go_wp2_with fail; obtain ⟨w6, hw6⟩ : ∃ w6, w6 = (((w5.setCell ⟨w.heap.size + 1, 0, none⟩ (.int .i64 (1))).setCell ⟨w.heap.size + 1, 1, none⟩ (.int .i64 (0))).setCell ⟨w.heap.size + 1, 2, none⟩ (.int .i64 (0))).setCell ⟨w.heap.size + 1, 3, none⟩ (.string s) := ⟨_, rfl⟩; have HNq : RowKit.Hid (BoxAt w6 (w.heap.size + 1) 112 (fJ ⟨1, 0, 0, s⟩)) := aA (by rw [hw6]; exact (((HNz.out.set 0 _).set 1 _).set 2 _).set 3 _); have HUz := aA (show Under w w6 by rw [hw6]; exact bC (bC (bC (bC HUw.out (by omega) _ _) (by omega) _ _) (by omega) _ _) (by omega) _ _); rw [← hw6]; clear hw6 n0 n1 n2 n3 nl nf0 nf1 nf2 nf3 HNz s1' s2' sl'; have HRy := aA (HR.out.under HUz.out); have HNv : RowKit.Hid (ov.ownBlock ≠ some (w.heap.size + 1)) := aA fun e => by have := (jB HR.out.row e).2; omega
     have HNr:RowKit.Hid (rb≠w.heap.size+1):=aA fun e=>by have:=HR.out.box.lt;omega
     go_wp2_with fail;rename_i K hK;refine vV (F:=aL rb (w.heap.size+1)) (by rfl) fun J=>?_
     refine wp_mono (aMA (x:=⟨1,0,0,s⟩) HRy.out (HNq.out) HNv.out HNr.out ha J) ?_;rintro ex a' w9 ⟨rfl,⟨J',rfl⟩,ov',g1,g2,g3⟩;have HPd:=aA (And.intro g1 (And.intro g2 g3));clear g1 g2 g3;simp only[Exit.then];refine hK _ _ ?_;unfold aL;go_wp2;go_ret;rw[HW.out];exact⟨_,_,_,_,HPd.out.1,(Ch.of_under HUz.out).trans (C:=xU rb ov) (D:=xU rb ov) HPd.out.2.1 (fun i _ h=>h),fun b hb e=>HPd.out.2.2 b (by have:=HUz.out.size;omega) e,rfl,rfl⟩
end
abbrev Pow10 (w : World) : Prop := Lib.TabIs Tryz.prog w "internal/strconv.uint64pow10" .u64 Lib.pow10Tab
theorem gPow : Tryz.prog.globalNamed "internal/strconv.uint64pow10" = some 5 := by kernel_rfl
theorem Pow10.under{W w:World}(h:Pow10 W)(hU:Under W w):Pow10 w:=by
 unfold Pow10 Lib.TabIs World.var? at *;rw[gPow]at *;simp only[Option.bind_some]at *;have hlt:5 < W.heap.size:=by
  cases hb:W.heap[5]? with
  | none=>simp[hb]at h
  | some o=>exact(Array.getElem?_eq_some_iff.1 hb).1
 rw[hU.low _ hlt];exact h
def q4A(v:Value):Prop:=v = .nilIface∨∃ te pe,v = .iface te pe
structure StrcAt (w:World):Prop where
 es:∃ v,w.cell? ⟨1,0,none⟩=some v∧q4A v
 er:∃ v,w.cell? ⟨2,0,none⟩=some v∧q4A v
 pow:Pow10 w
theorem uT{w:World}{a:Addr}{v:Value}(h:w.cell? a=some v):a.block < w.heap.size:=by
 unfold World.cell? at h
 cases hb:w.heap[a.block]? with
 | none=>simp[hb]at h
 | some o=>exact(Array.getElem?_eq_some_iff.1 hb).1
theorem StrcAt.under{W w:World}(h:StrcAt W)(hU:Under W w):StrcAt w:=by
 obtain⟨⟨v,h1,h2⟩,⟨u,h3,h4⟩,h5⟩:=h;exact⟨⟨v,(fA hU (uT h1) 0).trans h1,h2⟩,⟨u,(fA hU (uT h3) 0).trans h3,h4⟩,h5.under hU⟩
section
variable {w0 : World}
end
end Go.Proofs.YtggjbblgoddnjaaGreatDoor
