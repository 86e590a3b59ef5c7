/- Part 21 of what the proof rests on. -/
import Derived.OwnWalk
import Derived.Maps.AppendAt
import Derived.Deep.QuietTactic
import Derived.BigQuiet
import Derived.Deep.LoopGhost
import Derived.Test.YtggjbblgoddnjaaGreatDoorChecked
import Derived.Test.YtggjbblgoddnjaaGreatDoorM01
import Derived.Test.YtggjbblgoddnjaaGreatDoorM11
import Derived.Test.YtggjbblgoddnjaaGreatDoorM12
import Derived.Test.YtggjbblgoddnjaaGreatDoorM20
set_option linter.unusedSimpArgs false
set_option linter.unusedVariables false
set_option maxRecDepth 100000
set_option maxHeartbeats 4000000
namespace Go.Proofs.YtggjbblgoddnjaaGreatDoor
open Go.Conc Go.Lx Go.RowKit
structure PH (w0:World) (vr:Value) (row:List Sx) (vo:Value) (init:List Sx) (x:Sx) (w:World):Prop where
 row:w.ownsRow w0.heap.size 28 3 vr row.length (nD row)
 op:w.ownsRow w0.heap.size 28 3 vo (init.length+1) (nD (init++[x]))
 ne:vr.ownBlock=none∨vr.ownBlock≠vo.ownBlock
 low:Under w0 w
theorem Tryz.info28:(Tryz.prog.info? 28).map (fun i=>(i.zero,i.size,i.bytes))=some (some (.agg #[.int .i64 0,.int .i64 0,.string ⟨#[]⟩]),3,32):=by kernel_rfl
section
variable {w0 w w' : World} {vr vo v' : Value} {row init : List Sx} {x y : Sx}
theorem PH.alloc(h:PH w0 vr row vo init x w)(o:Obj):PH w0 vr row vo init x (w.alloc o):=⟨h.row.alloc o,h.op.alloc o,h.ne,aA h.low o⟩
theorem PH.addRow(h:PH w0 vr row vo init x w)(hg:w.grownBy w' vr.ownBlock)(hat:v'.ownBlock=vr.ownBlock∨v'.ownBlock=some w.heap.size)(hr:w'.ownsRow w0.heap.size 28 3 v' (row.length+1) (nD row++[.int .i64 y.many,.int .i64 y.pos,.string y.word])):PH w0 v' (row++[y]) vo init x w':=by
 refine⟨by rw[List.length_append,dJ];exact hr,oC h.op hg ?_,?_,rA h.low hg fun g e=>(vB h.row e).1⟩
 · rcases h.ne with e | e
   · rw[e];cases vo.ownBlock<;>simp
   · exact .inr fun e'=>e e'.symm
 · rcases hat with e | e
   · rw[e];exact h.ne
   · rw [e]; refine .inr fun e' => ?_
     have:=(vB h.op e'.symm).2;omega
theorem PH.addOpen(h:PH w0 vr row vo init x w)(hg:w.grownBy w' vo.ownBlock)(hat:v'.ownBlock=vo.ownBlock∨v'.ownBlock=some w.heap.size)(hr:w'.ownsRow w0.heap.size 28 3 v' (init.length+1+1) (nD (init++[x])++[.int .i64 y.many,.int .i64 y.pos,.string y.word])):PH w0 vr row v' (init++[x]) y w':=by
 refine⟨oC h.row hg h.ne,by rw[List.length_append,dJ (init++[x])];exact hr,?_,rA h.low hg fun g e=>(vB h.op e).1⟩;rcases hat with e | e
 · rw[e];exact h.ne
 · rw [e]; cases hv : vr.ownBlock with
   | none=>exact .inl rfl
   | some g=>refine .inr fun e'=>?_;cases e';have:=(vB h.row hv).2;omega
theorem PH.top(h:PH w0 vr row vo init x w){g:Nat}(hg:vo.ownBlock=some g)(m:Int):PH w0 vr row vo init ⟨m,x.pos,x.word⟩ (w.setCell ⟨g,init.length * 3,none⟩ (.int .i64 m)):=by
 refine⟨yB h.row ?_ _ _,?_,h.ne,uA h.low (vB h.op hg).1 _ _⟩
 · rcases h.ne with e | e
   · rw[e];simp
   · rw[← hg];exact e
 · have:=qQA h.op hg (j:=init.length * 3) (by rw[yG,List.length_append];simp) (.int .i64 m);rw[dJ,List.set_append_right _ _ (by rw[yG];exact Nat.le_refl _),yG,Nat.sub_self]at this;rw[dJ];exact this
theorem PH.cut{g c:Nat}(h:PH w0 vr row (.slice (some ⟨g,0,none⟩) (init.length+1+1) c) (init++[y]) x w):PH w0 vr row (.slice (some ⟨g,0,none⟩) (init.length+1) c) init y w:=by
 have ho:=h.op;rw[List.length_append]at ho;refine⟨h.row,?_,h.ne,h.low⟩;have:=nN ho (m:=init.length+1) (by simp);rw[dJ (init++[y]),List.take_append_of_le_length (by rw[yG,List.length_append];exact Nat.le_refl _),List.take_of_length_le (by rw[yG,List.length_append];exact Nat.le_refl _)]at this;exact this
theorem PH.topCells(h:PH w0 vr row vo init x w){g:Nat}(hg:vo.ownBlock=some g):w.cell? ⟨g,init.length * 3,none⟩=some (.int .i64 x.many)∧w.cell? ⟨g,init.length * 3+1,none⟩=some (.int .i64 x.pos)∧w.cell? ⟨g,init.length * 3+2,none⟩=some (.string x.word)∧∀ j,w.frozen? ⟨g,j,none⟩=false:=by
 have hc:∀ j u,[Value.int .i64 x.many,Value.int .i64 x.pos,Value.string x.word][j]? = some u→w.cell? ⟨g,init.length * 3+j,none⟩=some u:=fun j u e=>yD h.op hg (by rw[dJ,List.getElem?_append_right (by rw[yG];omega),yG,Nat.add_sub_cancel_left];exact e)
 exact⟨hc 0 _ rfl,hc 1 _ rfl,hc 2 _ rfl,qKA h.op hg⟩
end
noncomputable def zJ:Code:=Tryz.f102.body.getD .skip
noncomputable def wJ:Code:=xA (jA (jA (jA zJ)))
noncomputable def parseRound:Code:=aD (aD (jA wJ))
def jF(l:Value)(n k:Nat)(vr vo:Value)(J:Nat→Value):Array Value :=
 #[l, J 1, J 2, J 3, J 4, vr, vo, J 7, J 8, J 9, J 10, J 11, J 12, l, .int .i64 (n : Int), .int .i64 (k : Int), J 16, J 17, J 18, J 19, J 20, J 21, J 22, J 23, J 24, J 25, J 26, J 27, J 28, J 29, J 30, J 31, J 32, J 33, J 34, J 35, J 36, J 37, J 38, J 39, J 40, J 41, J 42, J 43, J 44, J 45, J 46, J 47, J 48, J 49, J 50, J 51, J 52, J 53, J 54, J 55, J 56, J 57, J 58, J 59, J 60, J 61, J 62, J 63, J 64, J 65, J 66, J 67, J 68, J 69, J 70, J 71, J 72, J 73, J 74, J 75, J 76, J 77, J 78, J 79, J 80, J 81, J 82, J 83, J 84, J 85, J 86, J 87, J 88, J 89, J 90, J 91, J 92, J 93, J 94, J 95, J 96, J 97, J 98, J 99, J 100, J 101, J 102, J 103, J 104, J 105, J 106, J 107, J 108, J 109, J 110, J 111]
def mQA(w0:World)(l:Value)(n k:Nat)(row:List Sx)(init:List Sx)(x:Sx)(a':Act)(w':World):Prop :=
 ∃ vr vo J,a'=⟨jF l n k vr vo J,[]⟩∧PH w0 vr row vo init x w'
section
variable {w0 : World} {b off n cap k : Nat} {vr vo : Value} {row init : List Sx} {x : Sx}
theorem oNA (pos : Int) (text : ByteArray) (hk : k < n) (hn : n ≤ 1000000) (hr : row.length ≤ 1000000) (hil : init.length ≤ 1000000) (hm0 : 0 ≤ x.many) (hm1 : x.many ≤ 1000000) (J : Nat → Value) (w : World) (hP : PH w0 vr row vo init x w)
    (hb0:b < w0.heap.size) (c0:w0.cell? ⟨b,off+k * 3,none⟩=some (.int .i64 1)) (c1:w0.cell? ⟨b,off+k * 3+1,none⟩=some (.int .i64 pos)) (c2:w0.cell? ⟨b,off+k * 3+2,none⟩=some (.string text)) :
    parseRound.wp Tryz.prog (Exit.then (mQA w0 (.slice (some ⟨b,off,none⟩) n cap) n (k+1) (row++[⟨0,pos,text⟩]) init ⟨x.many+1,x.pos,x.word⟩) (fun _ _ _=>False)) ⟨jF (.slice (some ⟨b,off,none⟩) n cap) n k vr vo J,[]⟩ w:=by
  have hb:=Nat.lt_of_lt_of_le hb0 hP.low.size;rw[← dA hP.low hb0]at c0 c1 c2;obtain⟨g,gc,rfl,hg,hgb,hgl,_,_⟩:=kE hP.op (by omega);obtain⟨i0,hi,hz0,hz1,hz2⟩:=info_parts Tryz.info28;obtain⟨hcm,_,_,hfr⟩:=hP.topCells hg;have hfm:=hfr (init.length * 3);have hin:(k:Int) < n:=by omega
  unfold parseRound wJ zJ;simp only[Tryz.f102,Option.getD_some,xA,jA,aD];unfold jF;have hil':(init.length:Int)≤1000000:=by omega
  have hmx:row.length+1≤maxLen:=by simp only[maxLen];omega
  have hby:(row.length+1) * 32≤140737488355328:=by omega
  have HP:=Lib.hid hP;clear hP;go_wp2_with (at_builtin;refine wpList_append_own_at _ rfl _ _ 23 rfl w0.heap.size 28 i0 _ 3 32 Tryz.underlying23 hi hz0 hz1 hz2 rfl (by decide) _ _ _ rfl ((HP.out.row.alloc _).alloc _) ⟨w.heap.size+1,0,none⟩ 1 1 [.int .i64 0,.int .i64 pos,.string text] rfl rfl ?c1 ?c2 hmx hby ?c5 ?_)
  case c1 => 
    intro j u hj
    match j,hj with
    | 0,hj=>cases hj;simp[Addr.add]
    | 1,hj=>cases hj;simp[Addr.add]
    | 2,hj=>cases hj;simp[Addr.add]
  case c2=>intro u hu;simp at hu;rcases hu with rfl | rfl | rfl<;>rfl
  case c5=>have:=HP.out.low.size;simp;omega
  intro v' w' hown hgrow hnil hat;have HP2:=Lib.hid (((HP.out.alloc _).alloc _).addRow (y:=⟨0,pos,text⟩) hgrow (by simpa using hat) hown);clear hown hgrow hnil hat;obtain⟨hcm2,_,_,hfr2⟩:=HP2.out.topCells hg;have hfm2:=hfr2 (init.length * 3);clear hcm hfm hfr hfr2 c0 c1 c2;go_wp2;exact⟨v',_,bB (F:=jF _ n (k+1) v' _) (by rfl) (HP2.out.top hg _)⟩
theorem vOA (pos : Int) (text : ByteArray) (hk : k < n) (hn : n ≤ 1000000) (hil : init.length + 1 ≤ 60) (J : Nat → Value) (w : World) (hP : PH w0 vr row vo init x w)
    (hb0:b < w0.heap.size) (c0:w0.cell? ⟨b,off+k * 3,none⟩=some (.int .i64 2)) (c1:w0.cell? ⟨b,off+k * 3+1,none⟩=some (.int .i64 pos)) (c2:w0.cell? ⟨b,off+k * 3+2,none⟩=some (.string text)) :
    parseRound.wp Tryz.prog (Exit.then (mQA w0 (.slice (some ⟨b,off,none⟩) n cap) n (k+1) row (init++[x]) ⟨0,pos,⟨#[]⟩⟩) (fun _ _ _=>False)) ⟨jF (.slice (some ⟨b,off,none⟩) n cap) n k vr vo J,[]⟩ w:=by
  have hb:=Nat.lt_of_lt_of_le hb0 hP.low.size;rw[← dA hP.low hb0]at c0 c1 c2;obtain⟨g,gc,rfl,hg,hgb,hgl,_,_⟩:=kE hP.op (by omega);obtain⟨i0,hi,hz0,hz1,hz2⟩:=info_parts Tryz.info28;have hin:(k:Int) < n:=by omega
  unfold parseRound wJ zJ;simp only[Tryz.f102,Option.getD_some,xA,jA,aD];unfold jF;have hil':(init.length:Int)+1≤60:=by omega
  have hmx:init.length+1+1≤maxLen:=by simp only[maxLen];omega
  have hby:(init.length+1+1) * 32≤140737488355328:=by omega
  have HP:=Lib.hid hP;clear hP;go_wp2_with (at_builtin;refine wpList_append_own_at _ rfl _ _ 23 rfl w0.heap.size 28 i0 _ 3 32 Tryz.underlying23 hi hz0 hz1 hz2 rfl (by decide) _ _ _ rfl ((HP.out.op.alloc _).alloc _) ⟨w.heap.size+1,0,none⟩ 1 1 [.int .i64 0,.int .i64 pos,.string ⟨#[]⟩] rfl rfl ?c1 ?c2 hmx hby ?c5 ?_)
  case c1 => 
    intro j u hj
    match j,hj with
    | 0,hj=>cases hj;simp[Addr.add]
    | 1,hj=>cases hj;simp[Addr.add]
    | 2,hj=>cases hj;simp[Addr.add]
  case c2=>intro u hu;simp at hu;rcases hu with rfl | rfl | rfl<;>rfl
  case c5=>have:=HP.out.low.size;simp;omega
  intro v' w' hown hgrow hnil hat;have HP2:=Lib.hid (((HP.out.alloc _).alloc _).addOpen (y:=⟨0,pos,⟨#[]⟩⟩) hgrow (by simpa [Value.ownBlock] using hat) hown);clear hown hgrow hnil hat;go_wp2;exact⟨vr,v',bB (F:=jF _ n (k+1) vr v') (by rfl) HP2.out⟩
theorem bKA {y : Sx} (pos : Int) (text : ByteArray) (hk : k < n) (hn : n ≤ 1000000) (hr : row.length ≤ 1000000) (hil : init.length ≤ 1000000) (hm0 : 0 ≤ y.many) (hm1 : y.many ≤ 1000000) (J : Nat → Value) (w : World) (hP : PH w0 vr row vo (init ++ [y]) x w)
    (hb0:b < w0.heap.size) (c0:w0.cell? ⟨b,off+k * 3,none⟩=some (.int .i64 3)) (c1:w0.cell? ⟨b,off+k * 3+1,none⟩=some (.int .i64 pos)) (c2:w0.cell? ⟨b,off+k * 3+2,none⟩=some (.string text)) :
    parseRound.wp Tryz.prog (Exit.then (mQA w0 (.slice (some ⟨b,off,none⟩) n cap) n (k+1) (row++[x]) init ⟨y.many+1,y.pos,y.word⟩) (fun _ _ _=>False)) ⟨jF (.slice (some ⟨b,off,none⟩) n cap) n k vr vo J,[]⟩ w:=by
  have hb:=Nat.lt_of_lt_of_le hb0 hP.low.size;rw[← dA hP.low hb0]at c0 c1 c2;obtain⟨g,gc,hvo,hg,hgb,hgl,hgc,_⟩:=kE hP.op (by omega);rw[List.length_append]at hvo hgc;simp only[List.length_cons,List.length_nil,Nat.zero_add]at hvo hgc;subst hvo;obtain⟨i0,hi,hz0,hz1,hz2⟩:=info_parts Tryz.info28;obtain⟨hcm,hcp,hcw,hfr⟩:=hP.topCells hg;rw[List.length_append]at hcm hcp hcw;simp only[List.length_cons,List.length_nil,Nat.zero_add]at hcm hcp hcw;have hin:(k:Int) < n:=by omega
  unfold parseRound wJ zJ;simp only[Tryz.f102,Option.getD_some,xA,jA,aD];unfold jF;have hil':(init.length:Int)≤1000000:=by omega
  have hmx:row.length+1≤maxLen:=by simp only[maxLen];omega
  have hby:(row.length+1) * 32≤140737488355328:=by omega
  have HP:=Lib.hid hP;clear hP;go_wp2_with (at_builtin;refine wpList_append_own_at _ rfl _ _ 23 rfl w0.heap.size 28 i0 _ 3 32 Tryz.underlying23 hi hz0 hz1 hz2 rfl (by decide) _ _ _ rfl ((HP.out.row.alloc _).alloc _) ⟨w.heap.size+1,0,none⟩ 1 1 [.int .i64 x.many,.int .i64 x.pos,.string x.word] rfl rfl ?c1 ?c2 hmx hby ?c5 ?_)
  case c1 => 
    intro j u hj
    match j,hj with
    | 0,hj=>cases hj;simp[Addr.add]
    | 1,hj=>cases hj;simp[Addr.add]
    | 2,hj=>cases hj;simp[Addr.add]
  case c2=>intro u hu;simp at hu;rcases hu with rfl | rfl | rfl<;>rfl
  case c5=>have:=HP.out.low.size;simp;omega
  intro v' w' hown hgrow hnil hat;have HP2:=Lib.hid (((HP.out.alloc _).alloc _).addRow (y:=x) hgrow (by simpa using hat) hown).cut;clear hown hgrow hnil hat;obtain⟨hcm2,_,_,hfr2⟩:=HP2.out.topCells rfl;have hfm2:=hfr2 (init.length * 3);clear hcm hcp hcw hfr hfr2 c0 c1 c2;go_wp2;exact⟨v',_,bB (F:=jF _ n (k+1) v' _) (by rfl) (HP2.out.top rfl _)⟩
def dOA(e:Int)(p:Int)(J:Nat→Value):Array Value :=
 #[J 0, J 1, .slice none 0 0, .int .i64 p, .int .i64 e, J 5, J 6, J 7, J 8, J 9, J 10, J 11, J 12, J 13, J 14, J 15, J 16, J 17, J 18, J 19, J 20, J 21, J 22, J 23, J 24, J 25, J 26, J 27, J 28, J 29, J 30, J 31, J 32, J 33, J 34, J 35, J 36, J 37, J 38, J 39, J 40, J 41, J 42, J 43, J 44, J 45, J 46, J 47, J 48, J 49, J 50, J 51, J 52, J 53, J 54, J 55, J 56, J 57, J 58, J 59, J 60, J 61, J 62, J 63, J 64, J 65, J 66, J 67, J 68, J 69, J 70, J 71, J 72, J 73, J 74, J 75, J 76, J 77, J 78, J 79, J 80, J 81, J 82, J 83, J 84, J 85, J 86, J 87, J 88, J 89, J 90, J 91, J 92, J 93, J 94, J 95, J 96, J 97, J 98, J 99, J 100, J 101, J 102, J 103, J 104, J 105, J 106, J 107, J 108, J 109, J 110, J 111]
def zYA(w0:World)(p e:Int)(ex:Exit)(a':Act)(w':World):Prop:=ex = .ret∧∃ J,a'=⟨dOA e p J,[]⟩∧Under w0 w'
theorem tMA (pos : Int) (text : ByteArray) (hk : k < n) (hn : n ≤ 1000000) (hil : init.length = 60) (J : Nat → Value) (w : World) (hP : PH w0 vr row vo init x w)
    (hb0:b < w0.heap.size) (c0:w0.cell? ⟨b,off+k * 3,none⟩=some (.int .i64 2)) (c1:w0.cell? ⟨b,off+k * 3+1,none⟩=some (.int .i64 pos)) (c2:w0.cell? ⟨b,off+k * 3+2,none⟩=some (.string text)) :
    parseRound.wp Tryz.prog (Exit.then (fun _ _=>False) (zYA w0 pos 22)) ⟨jF (.slice (some ⟨b,off,none⟩) n cap) n k vr vo J,[]⟩ w:=by
  have hb:=Nat.lt_of_lt_of_le hb0 hP.low.size;rw[← dA hP.low hb0]at c0 c1 c2;obtain⟨g,gc,rfl,hg,hgb,hgl,_,_⟩:=kE hP.op (by omega);have hin:(k:Int) < n:=by omega
  unfold parseRound wJ zJ;simp only[Tryz.f102,Option.getD_some,xA,jA,aD];unfold jF;have hil':(init.length:Int)=60:=by omega
  have HP:=Lib.hid hP;clear hP;go_wp2;go_quiet (fail);go_wp2;exact⟨rfl,bB (F:=dOA 22 pos) (by rfl) (aB (aA HP.out.low _) _)⟩
theorem oMA (pos : Int) (text : ByteArray) (hk : k < n) (hn : n ≤ 1000000) (J : Nat → Value) (w : World) (hP : PH w0 vr row vo [] x w)
    (hb0:b < w0.heap.size) (c0:w0.cell? ⟨b,off+k * 3,none⟩=some (.int .i64 3)) (c1:w0.cell? ⟨b,off+k * 3+1,none⟩=some (.int .i64 pos)) (c2:w0.cell? ⟨b,off+k * 3+2,none⟩=some (.string text)) :
    parseRound.wp Tryz.prog (Exit.then (fun _ _=>False) (zYA w0 pos 70)) ⟨jF (.slice (some ⟨b,off,none⟩) n cap) n k vr vo J,[]⟩ w:=by
  have hb:=Nat.lt_of_lt_of_le hb0 hP.low.size;rw[← dA hP.low hb0]at c0 c1 c2;obtain⟨g,gc,rfl,hg,hgb,hgl,_,_⟩:=kE hP.op (by omega);have hin:(k:Int) < n:=by omega
  unfold parseRound wJ zJ;simp only[Tryz.f102,Option.getD_some,xA,jA,aD];unfold jF;have HP:=Lib.hid hP;clear hP;go_wp2;go_quiet (fail);go_wp2;exact⟨rfl,bB (F:=dOA 70 pos) (by rfl) (aB (aA HP.out.low _) _)⟩
def i5A(l:Value)(n:Nat)(vr vo:Value)(w:World)(e:Exit)(a':Act)(w':World):Prop:=e = .exit 0∧∃ J,a'=⟨jF l n n vr vo J,[]⟩∧w'=w
theorem tOA(l:Value)(J:Nat→Value)(w:World) :
 parseRound.wp Tryz.prog (Exit.then (fun _ _=>False) (i5A l n vr vo w)) ⟨jF l n n vr vo J,[]⟩ w:=by
 unfold parseRound wJ zJ;simp only[Tryz.f102,Option.getD_some,xA,jA,aD];unfold jF;go_wp2;exact⟨rfl,bB (F:=jF l n n vr vo) (by rfl) rfl⟩
end
def z4A(w0:World)(b off:Nat)(toks:List PTok):Prop:=∀ k t,toks[k]? = some t→w0.cell? ⟨b,off+k * 3,none⟩=some (.int .i64 t.kind)∧w0.cell? ⟨b,off+k * 3+1,none⟩=some (.int .i64 t.pos)∧w0.cell? ⟨b,off+k * 3+2,none⟩=some (.string t.text)
section
variable {w0 : World} {b off cap : Nat}
structure PInv (w0:World) (l:Value) (toks:List PTok) (R:Except (Int×Int) (List Sx)) (m k:Nat) (vr vo:Value) (row st:List Sx) (x:Sx) (w:World):Prop where
 cnt:m+k=toks.length
 ph:PH w0 vr row vo st.reverse x w
 go:bF (toks.drop k) row st x=R
 rowL:row.length≤k
 stL:st.length≤60
 x0:0≤x.many
 x1:x.many≤k
 ys:∀ y∈st,0≤y.many∧y.many≤k
def PI(w0:World)(l:Value)(toks:List PTok)(R:Except (Int×Int) (List Sx))(m:Nat)(a:Act)(w:World):Prop :=
 ∃ k vr vo row st x J,a=⟨jF l toks.length k vr vo J,[]⟩∧PInv w0 l toks R m k vr vo row st x w
def a3A(w0:World)(l:Value)(toks:List PTok)(R:Except (Int×Int) (List Sx))(e:Exit)(a:Act)(w:World):Prop :=
 (e = .exit 0∧∃ vr vo row st x J,a=⟨jF l toks.length toks.length vr vo J,[]⟩∧PInv w0 l toks R 0 toks.length vr vo row st x w)∨∃ p c,R = .error (p,c)∧zYA w0 p c e a w
def xOA(w0:World)(p:Option Addr)(toks:List PTok):Prop:=toks≠[]→∃ b off,p=some ⟨b,off,none⟩∧b < w0.heap.size∧z4A w0 b off toks
theorem nGA (toks : List PTok) {p : Option Addr} (hn : toks.length ≤ 1000000) (hp : xOA w0 p toks) (hk : ∀ t ∈ toks, t.kind = 1 ∨ t.kind = 2 ∨ t.kind = 3) (R : Except (Int × Int) (List Sx)) (m : Nat) (a : Act) (w : World)
    (h0:PI w0 (.slice p toks.length cap) toks R m a w) :
    (Code.loop parseRound).wp Tryz.prog (a3A w0 (.slice p toks.length cap) toks R) a w:=by
  refine wp_loop_ghost _ m h0 ?_;clear h0;rintro m a w ⟨k,vr,vo,row,st,x,J,rfl,hi⟩;have hmk:=hi.cnt;by_cases hkn:k=toks.length
  · subst hkn; refine wp_mono (tOA _ J w) ?_; rintro e a' w' h
    cases e with
    | normal=>exact h.elim
    | _ =>
      obtain⟨h1,J',rfl,rfl⟩:=h;have:m=0:=by omega
      subst this;exact .inl ⟨h1,vr,vo,row,st,x,J',rfl,hi⟩
  have hlt:k < toks.length:=by omega
  obtain⟨b,off,rfl,hb0,ht⟩:=hp (fun e=>by rw[e]at hlt;exact absurd hlt (Nat.not_lt_zero _));obtain⟨t,ht0⟩:∃ t,toks[k]? = some t:=⟨_,List.getElem?_eq_getElem hlt⟩;have hd:toks.drop k=t::toks.drop (k+1):=by
   rw[List.drop_eq_getElem_cons hlt];rw[List.getElem?_eq_getElem hlt]at ht0
   cases ht0;rfl
  have hgo:=hi.go;rw[hd,lL]at hgo;obtain⟨c0,c1,c2⟩:=ht k t ht0;have hrow:=hi.rowL;have hst:=hi.stL;have hx0:=hi.x0;have hx1:=hi.x1;have next:∀ {row' st':List Sx} {x':Sx},bF (toks.drop (k+1)) row' st' x'=R→row'.length≤k+1→st'.length≤60→0≤x'.many→x'.many≤k+1→(∀ y∈st',0≤y.many∧y.many≤k+1) →
   parseRound.wp Tryz.prog (Exit.then (mQA w0 (.slice (some ⟨b,off,none⟩) toks.length cap) toks.length (k+1) row' st'.reverse x') (fun _ _ _=>False)) ⟨jF (.slice (some ⟨b,off,none⟩) toks.length cap) toks.length k vr vo J,[]⟩ w →
   parseRound.wp Tryz.prog (Exit.then (fun a' w'=>∃ n',n' < m∧PI w0 (.slice (some ⟨b,off,none⟩) toks.length cap) toks R n' a' w') (a3A w0 (.slice (some ⟨b,off,none⟩) toks.length cap) toks R)) ⟨jF (.slice (some ⟨b,off,none⟩) toks.length cap) toks.length k vr vo J,[]⟩ w:=by
   intro row' st' x' g1 g2 g3 g4 g5 g6 h;refine wp_mono h ?_;rintro e a' w' h
   cases e with
   | normal =>
     obtain⟨vr',vo',J',rfl,hP'⟩:=h;exact⟨m - 1,by omega,k+1,vr',vo',row',st',x',J',rfl,by omega,hP',g1,g2,g3,g4,by omega,fun y hy=>by have:=g6 y hy;omega⟩
   | _=>exact h.elim
  have bad:∀ {q c:Int},Except.error (q,c)=R→parseRound.wp Tryz.prog (Exit.then (fun _ _=>False) (zYA w0 q c)) ⟨jF (.slice (some ⟨b,off,none⟩) toks.length cap) toks.length k vr vo J,[]⟩ w →
   parseRound.wp Tryz.prog (Exit.then (fun a' w'=>∃ n',n' < m∧PI w0 (.slice (some ⟨b,off,none⟩) toks.length cap) toks R n' a' w') (a3A w0 (.slice (some ⟨b,off,none⟩) toks.length cap) toks R)) ⟨jF (.slice (some ⟨b,off,none⟩) toks.length cap) toks.length k vr vo J,[]⟩ w:=by
   intro q c g h;refine wp_mono h ?_;rintro e a' w' h
   cases e with
   | normal=>exact h.elim
   | _=>exact .inr ⟨q,c,g.symm,h⟩
  rcases hk t (List.mem_of_getElem? ht0) with e | e | e
  · rw[if_pos e]at hgo;rw[e]at c0;exact next hgo (by simp;omega) hst (by show 0≤x.many+1;omega) (by show x.many+1≤(k:Int)+1;omega) (fun y hy=>by have:=hi.ys y hy;omega) (oNA t.pos t.text hlt hn (by omega) (by simp;omega) hx0 (by omega) J w hi.ph hb0 c0 c1 c2)
  · rw [if_neg (by omega), if_pos e] at hgo; rw [e] at c0; by_cases h60 : st.length = 60
    · rw[if_pos h60]at hgo;exact bad hgo (tMA t.pos t.text hlt hn (by simp;exact h60) J w hi.ph hb0 c0 c1 c2)
    · rw [if_neg h60] at hgo; have := vOA (cap := cap) t.pos t.text hlt hn (by simp; omega) J w hi.ph hb0 c0 c1 c2; rw [← List.reverse_cons] at this; refine next hgo (by omega) (by simp; omega) (by simp) (by simp; omega) ?_ this; intro y hy; rcases List.mem_cons.1 hy with rfl | hy
      · omega
      · have:=hi.ys y hy;omega
  · rw [if_neg (by omega), if_neg (by omega)] at hgo; rw [e] at c0; have hP := hi.ph; have hys := hi.ys; clear hi hd
    cases st with
    | nil=>exact bad hgo (oMA t.pos t.text hlt hn J w hP hb0 c0 c1 c2)
    | cons y st =>
      rw[List.reverse_cons]at hP;have hy:=hys y (List.mem_cons_self ..);simp only[List.length_cons]at hst;exact next hgo (by simp;omega) (by omega) (by show 0≤y.many+1;omega) (by show y.many+1≤(k:Int)+1;omega) (fun z hz=>by have:=hys z (List.mem_cons_of_mem _ hz);omega) (bKA t.pos t.text hlt hn (by omega) (by simp;omega) hy.1 (by omega) J w hP hb0 c0 c1 c2)
theorem kX(w:World)(base:Nat)(e:TypeId)(size:Nat):w.ownsRow base e size (.slice none 0 0) 0 []:=⟨by simp,.inl ⟨rfl,rfl⟩⟩
theorem p0A(w:World)(base:Nat)(hb:base≤w.heap.size)(x:Sx):(w.alloc (.cells #[.int .i64 x.many,.int .i64 x.pos,.string x.word] 28)).ownsRow base 28 3 (.slice (some ⟨w.heap.size,0,none⟩) 1 1) 1 (nD [x]) :=
 ⟨rfl,.inr ⟨w.heap.size,1,#[.int .i64 x.many,.int .i64 x.pos,.string x.word],rfl,hb,heap_alloc_new w _,Nat.le_refl _,by decide,rfl,rfl⟩⟩
theorem zB{A:Array Value}{F:(Nat→Value)→Array Value}(h:A=F fun n=>A.getD n undef):(⟨A,[]⟩:Act)=⟨F fun n=>A.getD n undef,[]⟩:=by rw[← h]
def wXA(w0:World)(R:Except (Int×Int) (List Sx))(e:Ending)(w':World):Prop :=
 Under w0 w'∧match R with
  | .ok row=>∃ vr,e = .returned (.tuple #[vr,.int .i64 0,.int .i64 0])∧w'.ownsRow w0.heap.size 28 3 vr row.length (nD row)
  | .error (p,c)=>e = .returned (.tuple #[.slice none 0 0,.int .i64 p,.int .i64 c])
theorem cTA(toks:List PTok){p:Option Addr}(hn:toks.length≤1000000)(hp:xOA w0 p toks)(hk:∀ t∈toks,t.kind=1∨t.kind=2∨t.kind=3) :
 Calls Tryz.prog 102 #[.slice p toks.length cap] w0 (wXA w0 (bF toks [] [] ⟨0,0,⟨#[]⟩⟩)):=by
 have HL:=Lib.hid (fun m a w h=>nGA (w0:=w0) (cap:=cap) toks hn hp hk (bF toks [] [] ⟨0,0,⟨#[]⟩⟩) m a w h);generalize hR:bF toks [] [] ⟨0,0,⟨#[]⟩⟩=R at *;have HR:=Lib.hid hR;clear hR hp hk;have HN:=Lib.hid hn;go_enter Tryz.func102,Tryz.ntmps102;go_wp2;rename_i K hK;refine wp_mono (HL.out toks.length _ _ ⟨0,.slice none 0 0,.slice (some ⟨w0.heap.size,0,none⟩) 1 1,[],[],⟨0,0,⟨#[]⟩⟩,_,zB (by rfl),⟨rfl,⟨kX _ _ _ _,p0A w0 _ (Nat.le_refl _) ⟨0,0,⟨#[]⟩⟩,.inl rfl,aA ⟨rfl,rfl,Nat.le_refl _,fun _ _=>rfl⟩ _⟩,HR.out,Nat.le_refl _,by decide,Int.le_refl _,Int.le_refl _,fun y hy=>by cases hy⟩⟩) ?_;rintro e a' w' (⟨rfl,vr,vo,row,st,x,J,rfl,hi⟩ | ⟨q,c,rfl,rfl,J,rfl,hu⟩)
 · simp only [Exit.inBlock, if_pos, Exit.then]; refine hK _ _ ?_; have hgo := hi.go; have hst := hi.stL; rw [List.drop_length] at hgo; obtain ⟨g, gc, rfl, hg, hgb, hgl, _, _⟩ := kE hi.ph.op (by omega)
   cases st with
   | nil =>
     have HI:=Lib.hid hi;have HG:=Lib.hid hgo;clear hi hgo;unfold jF;go_wp2;go_ret3;obtain rfl:Except.ok row=R:=HG.out;exact⟨HI.out.ph.low,vr,rfl,HI.out.ph.row⟩
   | cons y st =>
     have hl:(y::st).reverse.length=st.length+1:=by simp
     obtain⟨hcm,hcp,hcw,hfr⟩:=hi.ph.topCells hg;have HI:=Lib.hid hi;have HG:=Lib.hid hgo;clear hi hgo;rw[hl]at hcp ⊢;simp only[List.length_cons]at hst;clear hl hcm hcw hfr;unfold jF;go_wp2;go_quiet (fail);go_wp2;go_ret3;obtain rfl:Except.error (x.pos,70)=R:=HG.out;exact⟨aB HI.out.ph.low _,rfl⟩
 · simp only[Exit.inBlock,Exit.then];go_ret3;exact⟨hu,rfl⟩
end
end Go.Proofs.YtggjbblgoddnjaaGreatDoor
