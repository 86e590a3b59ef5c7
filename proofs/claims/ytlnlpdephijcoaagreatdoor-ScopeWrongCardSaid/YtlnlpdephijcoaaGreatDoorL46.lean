/- Part 46 of what the proof rests on. -/
import Derived.Deep.RegionHeld3
import Derived.Deep.AppendLies
import Derived.Test.YtlnlpdephijcoaaGreatDoorL22
set_option linter.unusedSimpArgs false
set_option linter.unusedVariables false
set_option maxRecDepth 100000
set_option maxHeartbeats 4000000
namespace Go.Proofs.YtlnlpdephijcoaaGreatDoor
open Go.Conc Go.Lx Go.RowKit
def zL : List Sx → List Value
  | []=>[]
  | x::l=>.int .i64 x.pos :: .int .i64 x.many::zL l
theorem xM(l r:List Sx):zL (l++r)=zL l++zL r:=by
 induction l with
 | nil=>rfl
 | cons x l ih=>simp[zL,ih]
theorem zI(l:List Sx):(zL l).length=l.length * 2:=by
 induction l with
 | nil=>rfl
 | cons x l ih=>simp[zL,ih];omega
structure RH (w0:World) (vr:Value) (row:List Sx) (vo:Value) (init:List Sx) (x:Sx) (w:World):Prop where
 row:w.ownsRow w0.heap.size 73 3 vr row.length (nC row)
 op:w.ownsRow w0.heap.size 180 2 vo (init.length+1) (zL (init++[x]))
 ne:vr.ownBlock=none∨vr.ownBlock≠vo.ownBlock
 low:Under w0 w
theorem Tryz.info73:(Tryz.prog.info? 73).map (fun i=>(i.zero,i.size,i.bytes))=some (some (.agg #[.int .i64 0,.int .i64 0,.string ⟨#[]⟩]),3,32):=by kernel_rfl
theorem Tryz.info180:(Tryz.prog.info? 180).map (fun i=>(i.zero,i.size,i.bytes))=some (some (.agg #[.int .i64 0,.int .i64 0]),2,16):=by kernel_rfl
section
variable {w0 w w' : World} {vr vo v' : Value} {row init : List Sx} {x y : Sx}
theorem RH.alloc(h:RH w0 vr row vo init x w)(o:Obj):RH w0 vr row vo init x (w.alloc o):=⟨h.row.alloc o,h.op.alloc o,h.ne,aA h.low o⟩
theorem RH.drew(h:RH w0 vr row vo init x w):RH w0 vr row vo init x w.drew:=⟨h.row.drew,h.op.drew,h.ne,⟨h.low.os,h.low.output,h.low.size,h.low.low⟩⟩
theorem RH.addRow(h:RH w0 vr row vo init x w)(hg:w.grownBy w' vr.ownBlock)(hat:v'.ownBlock=vr.ownBlock∨v'.ownBlock=some w.heap.size)(hr:w'.ownsRow w0.heap.size 73 3 v' (row.length+1) (nC row++[.int .i64 y.many,.int .i64 y.pos,.string y.word])):RH w0 v' (row++[y]) vo init x w':=by
 refine⟨by rw[List.length_append,tH];exact hr,bG h.op hg ?_,?_,bB h.low hg fun g e=>(iC h.row e).1⟩
 · rcases h.ne with e | e
   · rw[e];cases vo.ownBlock<;>simp
   · exact .inr fun e'=>e e'.symm
 · rcases hat with e | e
   · rw[e];exact h.ne
   · rw [e]; refine .inr fun e' => ?_
     have:=(iC h.op e'.symm).2;omega
theorem RH.addOpen(h:RH w0 vr row vo init x w)(hg:w.grownBy w' vo.ownBlock)(hat:v'.ownBlock=vo.ownBlock∨v'.ownBlock=some w.heap.size)(hr:w'.ownsRow w0.heap.size 180 2 v' (init.length+1+1) (zL (init++[x])++[.int .i64 y.pos,.int .i64 y.many])):RH w0 vr row v' (init++[x]) y w':=by
 refine⟨bG h.row hg h.ne,by rw[List.length_append,xM (init++[x])];exact hr,?_,bB h.low hg fun g e=>(iC h.op e).1⟩;rcases hat with e | e
 · rw[e];exact h.ne
 · rw [e]; cases hv : vr.ownBlock with
   | none=>exact .inl rfl
   | some g=>refine .inr fun e'=>?_;cases e';have:=(iC h.row hv).2;omega
theorem RH.top(h:RH w0 vr row vo init x w){g:Nat}(hg:vo.ownBlock=some g)(m:Int):RH w0 vr row vo init ⟨m,x.pos,x.word⟩ (w.setCell ⟨g,init.length * 2+1,none⟩ (.int .i64 m)):=by
 refine⟨l8 h.row ?_ _ _,?_,h.ne,qA h.low (iC h.op hg).1 _ _⟩
 · rcases h.ne with e | e
   · rw[e];simp
   · rw[← hg];exact e
 · have:=vIA h.op hg (j:=init.length * 2+1) (by rw[zI,List.length_append];simp;omega) (.int .i64 m);rw[xM,List.set_append_right _ _ (by rw[zI];omega),zI,Nat.add_sub_cancel_left]at this;rw[xM];exact this
theorem RH.cut{g c:Nat}(h:RH w0 vr row (.slice (some ⟨g,0,none⟩) (init.length+1+1) c) (init++[y]) x w):RH w0 vr row (.slice (some ⟨g,0,none⟩) (init.length+1) c) init y w:=by
 have ho:=h.op;rw[List.length_append]at ho;refine⟨h.row,?_,h.ne,h.low⟩;have:=gP ho (m:=init.length+1) (by simp);rw[xM (init++[y]),List.take_append_of_le_length (by rw[zI,List.length_append];exact Nat.le_refl _),List.take_of_length_le (by rw[zI,List.length_append];exact Nat.le_refl _)]at this;exact this
theorem RH.topCells(h:RH w0 vr row vo init x w){g:Nat}(hg:vo.ownBlock=some g):w.cell? ⟨g,init.length * 2,none⟩=some (.int .i64 x.pos)∧w.cell? ⟨g,init.length * 2+1,none⟩=some (.int .i64 x.many)∧∀ j,w.frozen? ⟨g,j,none⟩=false:=by
 have hc:∀ j u,[Value.int .i64 x.pos,Value.int .i64 x.many][j]? = some u→w.cell? ⟨g,init.length * 2+j,none⟩=some u:=fun j u e=>kD h.op hg (by rw[xM,List.getElem?_append_right (by rw[zI];omega),zI,Nat.add_sub_cancel_left];exact e)
 exact⟨hc 0 _ rfl,hc 1 _ rfl,yDA h.op hg⟩
end
noncomputable def oW:Code:=Tryz.f76.body.getD .skip
noncomputable def nW:Code:=rA (dA (dA (dA oW)))
noncomputable def rpRound:Code:=bC (bC (dA nW))
def dE(l:Value)(k:Nat)(vr vo:Value)(J:Nat→Value):Array Value :=
 #[l, J 1, J 2, J 3, J 4, vr, vo, .int .i64 (k : Int), J 8, J 9, J 10, J 11, J 12, J 13, J 14, J 15, J 16, J 17, J 18, J 19, J 20, J 21, J 22, J 23, J 24, J 25, J 26, J 27, J 28, J 29, J 30, J 31, J 32, J 33, J 34, J 35, J 36, J 37, J 38, J 39, J 40, J 41, J 42, J 43, J 44, J 45, J 46, J 47, J 48, J 49, J 50, J 51, J 52, J 53, J 54, J 55, J 56, J 57, J 58, J 59, J 60, J 61, J 62, J 63, J 64, J 65, J 66, J 67, J 68, J 69, J 70, J 71, J 72, J 73, J 74, J 75, J 76, J 77, J 78, J 79, J 80, J 81, J 82, J 83, J 84, J 85, J 86, J 87, J 88, J 89, J 90, J 91, J 92, J 93, J 94, J 95, J 96, J 97, J 98, J 99, J 100, J 101, J 102, J 103, J 104, J 105, J 106, J 107, J 108, J 109, J 110, J 111, J 112, J 113]
def hRA(w0:World)(l:Value)(k:Nat)(row:List Sx)(init:List Sx)(x:Sx)(a':Act)(w':World):Prop :=
 ∃ vr vo J,a'=⟨dE l k vr vo J,[]⟩∧RH w0 vr row vo init x w'
section
variable {w0 : World} {b off n cap k : Nat} {vr vo : Value} {row init : List Sx} {x : Sx}
theorem d3A (pos : Int) (text : ByteArray) (hk : k < n) (hn : n ≤ 1000000) (hr : row.length ≤ 1000000) (hil : init.length ≤ 1000000) (hm0 : 0 ≤ x.many) (hm1 : x.many ≤ 1000000) (J : Nat → Value) (w : World) (hP : RH w0 vr row vo init x w)
    (hb0:b < w0.heap.size) (c0:w0.cell? ⟨b,off+k * 3,none⟩=some (.int .i64 1)) (c1:w0.cell? ⟨b,off+k * 3+1,none⟩=some (.int .i64 pos)) (c2:w0.cell? ⟨b,off+k * 3+2,none⟩=some (.string text)) :
    rpRound.wp Tryz.prog (Exit.then (hRA w0 (.slice (some ⟨b,off,none⟩) n cap) (k+1) (row++[⟨0,pos,text⟩]) init ⟨x.many+1,x.pos,x.word⟩) (fun _ _ _=>False)) ⟨dE (.slice (some ⟨b,off,none⟩) n cap) k vr vo J,[]⟩ w:=by
  have hb:=Nat.lt_of_lt_of_le hb0 hP.low.size;rw[← jA hP.low hb0]at c0 c1 c2;obtain⟨g,gc,rfl,hg,hgb,hgl,_,_⟩:=fD hP.op (by omega);obtain⟨i0,hi,hz0,hz1,hz2⟩:=info_parts Tryz.info73;have ak:vr.ownBlock≠some b:=fun e=>by have:=(iC hP.row e).1;omega
  have hin:(k:Int) < n:=by omega
  have hk0:(0:Int)≤(k:Int):=Int.natCast_nonneg _;unfold rpRound nW oW;simp only[Tryz.f76,Option.getD_some,rA,dA,bC];unfold dE;have hil':(init.length:Int)≤1000000:=by omega
  have hmx:row.length+1≤maxLen:=by simp only[maxLen];omega
  have hby:(row.length+1) * 32≤140737488355328:=by omega
  have hws : w0.heap.size ≤ w.heap.size := hP.low.size; have HP := Lib.hid hP; clear hP; go_wp2_with fail; go_region_held3 (fun w' => w'.cell? ⟨b, off + k * 3 + 1, none⟩ = some (.int .i64 pos) ∧ w'.cell? ⟨b, off + k * 3 + 2, none⟩ = some (.string text))
    (first
      | go_keep
      | (go_split_ands
         refine⟨?_,?_⟩
         · (rw[hgrow.cell_far _ (by simp;omega) (Ne.symm ak)];assumption)
         · (rw[hgrow.cell_far _ (by simp;omega) (Ne.symm ak)];assumption)))
    ((refine step_append_lies _ (by rfl) _ _ _ (by rfl) w0.heap.size 73 i0 _ 3 32 Tryz.underlying36 hi hz0 hz1 hz2 rfl (by omega) vr row.length (nC row) (by rfl) ((HP.out.row.alloc _).drew)
        ⟨w.heap.size,0,none⟩ 1 1 [.int .i64 0,.int .i64 pos,.string text] (by rfl) (by rfl) (World.news_of_block (cs:=#[.int .i64 0,.int .i64 pos,.string text]) (t:=73) (fr:=(0,0)) (heap_alloc_new w _)) (by simp[Value.oneCell'])
        (by omega) hmx hby (by simp;omega) (w.heap.size+1) (by simp) ?_;intro gg cc w1 hown1 hgrow hat hlt))
  have HP2 := Lib.hid ((HP.out.alloc _).drew.addRow (y := ⟨0, pos, text⟩) hgrow (by
    rcases hat with e | rfl
    · exact .inl (by rw[e];rfl)
    · exact .inr (by simp[Value.ownBlock])) hown1)
  clear hown1 hgrow hat hlt;obtain⟨_,hcm2,hfr2⟩:=HP2.out.topCells hg;have hfm2:=hfr2 (init.length * 2+1);clear hfr2 c0 c1 c2;go_wp2;exact⟨_,_,nA (F:=dE _ (k+1) _ _) (by rfl) (HP2.out.top hg _)⟩
theorem j4A (pos : Int) (text : ByteArray) (hk : k < n) (hn : n ≤ 1000000) (hil : init.length + 1 ≤ 60) (J : Nat → Value) (w : World) (hP : RH w0 vr row vo init x w)
    (hb0:b < w0.heap.size) (c0:w0.cell? ⟨b,off+k * 3,none⟩=some (.int .i64 2)) (c1:w0.cell? ⟨b,off+k * 3+1,none⟩=some (.int .i64 pos)) (c2:w0.cell? ⟨b,off+k * 3+2,none⟩=some (.string text)) :
    rpRound.wp Tryz.prog (Exit.then (hRA w0 (.slice (some ⟨b,off,none⟩) n cap) (k+1) row (init++[x]) ⟨0,pos,⟨#[]⟩⟩) (fun _ _ _=>False)) ⟨dE (.slice (some ⟨b,off,none⟩) n cap) k vr vo J,[]⟩ w:=by
  have hb:=Nat.lt_of_lt_of_le hb0 hP.low.size;rw[← jA hP.low hb0]at c0 c1 c2;obtain⟨g,gc,rfl,hg,hgb,hgl,_,_⟩:=fD hP.op (by omega);obtain⟨i0,hi,hz0,hz1,hz2⟩:=info_parts Tryz.info180;have hin:(k:Int) < n:=by omega
  unfold rpRound nW oW;simp only[Tryz.f76,Option.getD_some,rA,dA,bC];unfold dE;have hil':(init.length:Int)+1≤60:=by omega
  have hmx:init.length+1+1≤maxLen:=by simp only[maxLen];omega
  have hby:(init.length+1+1) * 16≤140737488355328:=by omega
  have HP:=Lib.hid hP;clear hP;go_wp2_with (at_builtin;refine wpList_append_own_at _ rfl _ _ 181 rfl w0.heap.size 180 i0 _ 2 16 Tryz.underlying181 hi hz0 hz1 hz2 rfl (by decide) _ _ _ rfl (HP.out.op.alloc _) ⟨w.heap.size,0,none⟩ 1 1 [.int .i64 pos,.int .i64 0] rfl rfl ?c1 ?c2 hmx hby ?c5 ?_)
  case c1 => 
    intro j u hj
    match j,hj with
    | 0,hj=>cases hj;simp[Addr.add]
    | 1,hj=>cases hj;simp[Addr.add]
  case c2=>intro u hu;simp at hu;rcases hu with rfl | rfl<;>rfl
  case c5=>have:=HP.out.low.size;simp;omega
  intro v' w' hown hgrow hnil hat;have HP2:=Lib.hid ((HP.out.alloc _).addOpen (y:=⟨0,pos,⟨#[]⟩⟩) hgrow (by simpa [Value.ownBlock] using hat) hown);clear hown hgrow hnil hat;go_wp2;exact⟨vr,v',nA (F:=dE _ (k+1) vr v') (by rfl) HP2.out⟩
theorem zZA {y : Sx} (pos : Int) (text : ByteArray) (hk : k < n) (hn : n ≤ 1000000) (hr : row.length ≤ 1000000) (hil : init.length ≤ 1000000) (hm0 : 0 ≤ y.many) (hm1 : y.many ≤ 1000000) (hxw : x.word = ⟨#[]⟩) (J : Nat → Value) (w : World) (hP : RH w0 vr row vo (init ++ [y]) x w)
    (hb0:b < w0.heap.size) (c0:w0.cell? ⟨b,off+k * 3,none⟩=some (.int .i64 3)) (c1:w0.cell? ⟨b,off+k * 3+1,none⟩=some (.int .i64 pos)) (c2:w0.cell? ⟨b,off+k * 3+2,none⟩=some (.string text)) :
    rpRound.wp Tryz.prog (Exit.then (hRA w0 (.slice (some ⟨b,off,none⟩) n cap) (k+1) (row++[x]) init ⟨y.many+1,y.pos,y.word⟩) (fun _ _ _=>False)) ⟨dE (.slice (some ⟨b,off,none⟩) n cap) k vr vo J,[]⟩ w:=by
  have hb:=Nat.lt_of_lt_of_le hb0 hP.low.size;rw[← jA hP.low hb0]at c0 c1 c2;obtain⟨g,gc,hvo,hg,hgb,hgl,hgc,_⟩:=fD hP.op (by omega);rw[List.length_append]at hvo hgc;simp only[List.length_cons,List.length_nil,Nat.zero_add]at hvo hgc;subst hvo;obtain⟨i0,hi,hz0,hz1,hz2⟩:=info_parts Tryz.info73;obtain⟨hcp,hcm,hfr⟩:=hP.topCells hg;rw[List.length_append]at hcm hcp;simp only[List.length_cons,List.length_nil,Nat.zero_add]at hcm hcp;have ag:vr.ownBlock≠some g:=by
   rcases hP.ne with e | e
   · rw[e];simp
   · exact e
  have hin:(k:Int) < n:=by omega
  have hk0:(0:Int)≤(k:Int):=Int.natCast_nonneg _;unfold rpRound nW oW;simp only[Tryz.f76,Option.getD_some,rA,dA,bC];unfold dE;have hil':(init.length:Int)≤1000000:=by omega
  have hmx:row.length+1≤maxLen:=by simp only[maxLen];omega
  have hby:(row.length+1) * 32≤140737488355328:=by omega
  have hws:w0.heap.size≤w.heap.size:=hP.low.size;have HP:=Lib.hid hP;have HXW:=Lib.hid hxw;clear hP hxw;have ix0:(0:Int)≤(init.length:Int)+1:=by omega
  have ix1:(init.length:Int)+1 < (init.length:Int)+1+1:=by omega
  have ix2:(init.length:Int)+1 < ((init.length+1+1:Nat):Int):=by omega
  go_wp2_with fail; go_region_held3 (fun w' => w'.cell? ⟨g, (init.length + 1) * 2, none⟩ = some (.int .i64 x.pos) ∧ w'.cell? ⟨g, (init.length + 1) * 2 + 1, none⟩ = some (.int .i64 x.many))
    (first
      | go_keep
      | (go_split_ands
         refine⟨?_,?_⟩
         · (rw[hgrow.cell_far _ (by simp;omega) (Ne.symm ag)];assumption)
         · (rw[hgrow.cell_far _ (by simp;omega) (Ne.symm ag)];assumption)))
    ((refine step_append_lies _ (by rfl) _ _ _ (by rfl) w0.heap.size 73 i0 _ 3 32 Tryz.underlying36 hi hz0 hz1 hz2 rfl (by omega) vr row.length (nC row) (by rfl) ((HP.out.row.alloc _).drew)
        ⟨w.heap.size,0,none⟩ 1 1 [.int .i64 x.many,.int .i64 x.pos,.string ⟨#[]⟩] (by rfl) (by rfl) (World.news_of_block (cs:=#[.int .i64 x.many,.int .i64 x.pos,.string ⟨#[]⟩]) (t:=73) (fr:=(0,0)) (heap_alloc_new w _)) (by simp[Value.oneCell'])
        (by omega) hmx hby (by simp;omega) (w.heap.size+1) (by simp) ?_;intro gg cc w1 hown1 hgrow hat hlt))
  all_goals (
    have HP2 := Lib.hid ((HP.out.alloc _).drew.addRow (v' := .slice (some ⟨gg, 0, none⟩) (row.length + 1) cc) (y := x) hgrow (by
      rcases hat with e | rfl
      · exact .inl (by rw[e];rfl)
      · exact .inr (by simp[Value.ownBlock])) (by rw[HXW.out];exact hown1)).cut
    clear hown1 hgrow hat hlt;obtain⟨_,hcm2,hfr2⟩:=HP2.out.topCells rfl;have hfm2:=hfr2 (init.length * 2+1);clear hfr hfr2 hcm hcp c0 c1 c2;go_wp2;exact⟨_,_,nA (F:=dE _ (k+1) _ _) (by rfl) (HP2.out.top rfl _)⟩)
def hOA(e:Int)(p:Int)(J:Nat→Value):Array Value :=
 #[J 0, J 1, .slice none 0 0, .int .i64 p, .int .i64 e, J 5, J 6, J 7, J 8, J 9, J 10, J 11, J 12, J 13, J 14, J 15, J 16, J 17, J 18, J 19, J 20, J 21, J 22, J 23, J 24, J 25, J 26, J 27, J 28, J 29, J 30, J 31, J 32, J 33, J 34, J 35, J 36, J 37, J 38, J 39, J 40, J 41, J 42, J 43, J 44, J 45, J 46, J 47, J 48, J 49, J 50, J 51, J 52, J 53, J 54, J 55, J 56, J 57, J 58, J 59, J 60, J 61, J 62, J 63, J 64, J 65, J 66, J 67, J 68, J 69, J 70, J 71, J 72, J 73, J 74, J 75, J 76, J 77, J 78, J 79, J 80, J 81, J 82, J 83, J 84, J 85, J 86, J 87, J 88, J 89, J 90, J 91, J 92, J 93, J 94, J 95, J 96, J 97, J 98, J 99, J 100, J 101, J 102, J 103, J 104, J 105, J 106, J 107, J 108, J 109, J 110, J 111, J 112, J 113]
def p1A(w0:World)(p e:Int)(ex:Exit)(a':Act)(w':World):Prop:=ex = .ret∧∃ J,a'=⟨hOA e p J,[]⟩∧Under w0 w'
theorem z2A (pos : Int) (text : ByteArray) (hk : k < n) (hn : n ≤ 1000000) (hil : init.length = 60) (J : Nat → Value) (w : World) (hP : RH w0 vr row vo init x w)
    (hb0:b < w0.heap.size) (c0:w0.cell? ⟨b,off+k * 3,none⟩=some (.int .i64 2)) (c1:w0.cell? ⟨b,off+k * 3+1,none⟩=some (.int .i64 pos)) (c2:w0.cell? ⟨b,off+k * 3+2,none⟩=some (.string text)) :
    rpRound.wp Tryz.prog (Exit.then (fun _ _=>False) (p1A w0 pos 22)) ⟨dE (.slice (some ⟨b,off,none⟩) n cap) k vr vo J,[]⟩ w:=by
  have hb:=Nat.lt_of_lt_of_le hb0 hP.low.size;rw[← jA hP.low hb0]at c0 c1 c2;obtain⟨g,gc,rfl,hg,hgb,hgl,_,_⟩:=fD hP.op (by omega);have hin:(k:Int) < n:=by omega
  unfold rpRound nW oW;simp only[Tryz.f76,Option.getD_some,rA,dA,bC];unfold dE;have hil':(init.length:Int)=60:=by omega
  have HP:=Lib.hid hP;clear hP;go_wp2;go_quiet (fail);go_wp2;exact⟨rfl,nA (F:=hOA 22 pos) (by rfl) (zA HP.out.low _)⟩
theorem l3A (pos : Int) (text : ByteArray) (hk : k < n) (hn : n ≤ 1000000) (J : Nat → Value) (w : World) (hP : RH w0 vr row vo [] x w)
    (hb0:b < w0.heap.size) (c0:w0.cell? ⟨b,off+k * 3,none⟩=some (.int .i64 3)) (c1:w0.cell? ⟨b,off+k * 3+1,none⟩=some (.int .i64 pos)) (c2:w0.cell? ⟨b,off+k * 3+2,none⟩=some (.string text)) :
    rpRound.wp Tryz.prog (Exit.then (fun _ _=>False) (p1A w0 pos 70)) ⟨dE (.slice (some ⟨b,off,none⟩) n cap) k vr vo J,[]⟩ w:=by
  have hb:=Nat.lt_of_lt_of_le hb0 hP.low.size;rw[← jA hP.low hb0]at c0 c1 c2;obtain⟨g,gc,rfl,hg,hgb,hgl,_,_⟩:=fD hP.op (by omega);have hin:(k:Int) < n:=by omega
  unfold rpRound nW oW;simp only[Tryz.f76,Option.getD_some,rA,dA,bC];unfold dE;have HP:=Lib.hid hP;clear hP;go_wp2;go_quiet (fail);go_wp2;exact⟨rfl,nA (F:=hOA 70 pos) (by rfl) (zA HP.out.low _)⟩
def q9A(l:Value)(n:Nat)(vr vo:Value)(w:World)(e:Exit)(a':Act)(w':World):Prop:=e = .exit 0∧∃ J,a'=⟨dE l n vr vo J,[]⟩∧w'=w
theorem q1A(p:Option Addr)(J:Nat→Value)(w:World) :
 rpRound.wp Tryz.prog (Exit.then (fun _ _=>False) (q9A (.slice p n cap) n vr vo w)) ⟨dE (.slice p n cap) n vr vo J,[]⟩ w:=by
 unfold rpRound nW oW;simp only[Tryz.f76,Option.getD_some,rA,dA,bC];unfold dE;go_wp2;exact⟨rfl,nA (F:=dE (.slice p n cap) n vr vo) (by rfl) rfl⟩
end
section
variable {w0 : World} {b off cap : Nat}
structure RInv (w0:World) (toks:List PTok) (R:Except (Int×Int) (List Sx)) (m k:Nat) (vr vo:Value) (row st:List Sx) (x:Sx) (w:World):Prop where
 cnt:m+k=toks.length
 ph:RH w0 vr row vo st.reverse x w
 go:vC (toks.drop k) row st x=R
 rowL:row.length≤k
 stL:st.length≤60
 x0:0≤x.many
 x1:x.many≤k
 xw:x.word=⟨#[]⟩
 ys:∀ y∈st,0≤y.many∧y.many≤k∧y.word=⟨#[]⟩
def RI(w0:World)(l:Value)(toks:List PTok)(R:Except (Int×Int) (List Sx))(m:Nat)(a:Act)(w:World):Prop :=
 ∃ k vr vo row st x J,a=⟨dE l k vr vo J,[]⟩∧RInv w0 toks R m k vr vo row st x w
def f6A(w0:World)(l:Value)(toks:List PTok)(R:Except (Int×Int) (List Sx))(e:Exit)(a:Act)(w:World):Prop :=
 (e = .exit 0∧∃ vr vo row st x J,a=⟨dE l toks.length vr vo J,[]⟩∧RInv w0 toks R 0 toks.length vr vo row st x w)∨∃ p c,R = .error (p,c)∧p1A w0 p c e a w
theorem mUA (toks : List PTok) {p : Option Addr} (hn : toks.length ≤ 1000000) (hp : z8 w0 p toks) (hk : ∀ t ∈ toks, t.kind = 1 ∨ t.kind = 2 ∨ t.kind = 3) (R : Except (Int × Int) (List Sx)) (m : Nat) (a : Act) (w : World)
    (h0:RI w0 (.slice p toks.length cap) toks R m a w) :
    (Code.loop rpRound).wp Tryz.prog (f6A w0 (.slice p toks.length cap) toks R) a w:=by
  refine wp_loop_ghost _ m h0 ?_;clear h0;rintro m a w ⟨k,vr,vo,row,st,x,J,rfl,hi⟩;have hmk:=hi.cnt;by_cases hkn:k=toks.length
  · subst hkn; refine wp_mono (q1A p J w) ?_; rintro e a' w' h
    cases e with
    | normal=>exact h.elim
    | _ =>
      obtain⟨h1,J',rfl,rfl⟩:=h;have:m=0:=by omega
      subst this;exact .inl ⟨h1,vr,vo,row,st,x,J',rfl,hi⟩
  have hlt:k < toks.length:=by omega
  obtain⟨b,off,rfl,hb0,ht⟩:=hp (fun e=>by rw[e]at hlt;exact absurd hlt (Nat.not_lt_zero _));obtain⟨t,ht0⟩:∃ t,toks[k]? = some t:=⟨_,List.getElem?_eq_getElem hlt⟩;have hd:toks.drop k=t::toks.drop (k+1):=by
   rw[List.drop_eq_getElem_cons hlt];rw[List.getElem?_eq_getElem hlt]at ht0
   cases ht0;rfl
  have hgo:=hi.go;rw[hd,vF]at hgo;obtain⟨c0,c1,c2⟩:=ht k t ht0;have hrow:=hi.rowL;have hst:=hi.stL;have hx0:=hi.x0;have hx1:=hi.x1;have next:∀ {row' st':List Sx} {x':Sx},vC (toks.drop (k+1)) row' st' x'=R→row'.length≤k+1→st'.length≤60→0≤x'.many→x'.many≤k+1→x'.word=⟨#[]⟩→(∀ y∈st',0≤y.many∧y.many≤k+1∧y.word=⟨#[]⟩) →
   rpRound.wp Tryz.prog (Exit.then (hRA w0 (.slice (some ⟨b,off,none⟩) toks.length cap) (k+1) row' st'.reverse x') (fun _ _ _=>False)) ⟨dE (.slice (some ⟨b,off,none⟩) toks.length cap) k vr vo J,[]⟩ w →
   rpRound.wp Tryz.prog (Exit.then (fun a' w'=>∃ n',n' < m∧RI w0 (.slice (some ⟨b,off,none⟩) toks.length cap) toks R n' a' w') (f6A w0 (.slice (some ⟨b,off,none⟩) toks.length cap) toks R)) ⟨dE (.slice (some ⟨b,off,none⟩) toks.length cap) k vr vo J,[]⟩ w:=by
   intro row' st' x' g1 g2 g3 g4 g5 g6 g7 h;refine wp_mono h ?_;rintro e a' w' h
   cases e with
   | normal =>
     obtain⟨vr',vo',J',rfl,hP'⟩:=h;exact⟨m - 1,by omega,k+1,vr',vo',row',st',x',J',rfl,by omega,hP',g1,g2,g3,g4,by omega,g6,fun y hy=>by have:=g7 y hy;exact⟨this.1,by omega,this.2.2⟩⟩
   | _=>exact h.elim
  have bad:∀ {q c:Int},Except.error (q,c)=R→rpRound.wp Tryz.prog (Exit.then (fun _ _=>False) (p1A w0 q c)) ⟨dE (.slice (some ⟨b,off,none⟩) toks.length cap) k vr vo J,[]⟩ w →
   rpRound.wp Tryz.prog (Exit.then (fun a' w'=>∃ n',n' < m∧RI w0 (.slice (some ⟨b,off,none⟩) toks.length cap) toks R n' a' w') (f6A w0 (.slice (some ⟨b,off,none⟩) toks.length cap) toks R)) ⟨dE (.slice (some ⟨b,off,none⟩) toks.length cap) k vr vo J,[]⟩ w:=by
   intro q c g h;refine wp_mono h ?_;rintro e a' w' h
   cases e with
   | normal=>exact h.elim
   | _=>exact .inr ⟨q,c,g.symm,h⟩
  rcases hk t (List.mem_of_getElem? ht0) with e | e | e
  · rw[if_pos e]at hgo;rw[e]at c0;exact next hgo (by simp;omega) hst (by show 0≤x.many+1;omega) (by show x.many+1≤(k:Int)+1;omega) hi.xw (fun y hy=>by have:=hi.ys y hy;exact⟨this.1,by omega,this.2.2⟩) (d3A t.pos t.text hlt hn (by omega) (by simp;omega) hx0 (by omega) J w hi.ph hb0 c0 c1 c2)
  · rw [if_neg (by omega), if_pos e] at hgo; rw [e] at c0; by_cases h60 : st.length = 60
    · rw[if_pos h60]at hgo;exact bad hgo (z2A t.pos t.text hlt hn (by simp;exact h60) J w hi.ph hb0 c0 c1 c2)
    · rw [if_neg h60] at hgo; have := j4A (cap := cap) t.pos t.text hlt hn (by simp; omega) J w hi.ph hb0 c0 c1 c2; rw [← List.reverse_cons] at this; refine next hgo (by omega) (by simp; omega) (by simp) (by simp; omega) rfl ?_ this; intro y hy; rcases List.mem_cons.1 hy with rfl | hy
      · exact⟨hx0,by omega,hi.xw⟩
      · have:=hi.ys y hy;exact⟨this.1,by omega,this.2.2⟩
  · rw [if_neg (by omega), if_neg (by omega)] at hgo; rw [e] at c0; have hP := hi.ph; have hys := hi.ys; have hxw := hi.xw; clear hi hd
    cases st with
    | nil=>exact bad hgo (l3A t.pos t.text hlt hn J w hP hb0 c0 c1 c2)
    | cons y st =>
      rw[List.reverse_cons]at hP;have hy:=hys y (List.mem_cons_self ..);simp only[List.length_cons]at hst;exact next hgo (by simp;omega) (by omega) (by show 0≤y.many+1;omega) (by show y.many+1≤(k:Int)+1;omega) hy.2.2 (fun z hz=>by have:=hys z (List.mem_cons_of_mem _ hz);exact⟨this.1,by omega,this.2.2⟩) (zZA t.pos t.text hlt hn (by omega) (by simp;omega) hy.1 (by omega) hxw J w hP hb0 c0 c1 c2)
theorem aYA(w:World)(base:Nat)(hb:base≤w.heap.size)(x:Sx):(w.alloc (.cells #[.int .i64 x.pos,.int .i64 x.many] 180)).ownsRow base 180 2 (.slice (some ⟨w.heap.size,0,none⟩) 1 1) 1 (zL [x]) :=
 ⟨rfl,.inr ⟨w.heap.size,1,#[.int .i64 x.pos,.int .i64 x.many],rfl,hb,heap_alloc_new w _,Nat.le_refl _,by decide,rfl,rfl⟩⟩
theorem wI(w:World)(base:Nat)(e:TypeId)(size:Nat)(hb:base≤w.heap.size):(w.alloc (.cells #[] e)).ownsRow base e size (.slice (some ⟨w.heap.size,0,none⟩) 0 0) 0 [] :=
 ⟨by simp,.inr ⟨w.heap.size,0,#[],rfl,hb,heap_alloc_new w _,Nat.le_refl _,by decide,by simp,by simp⟩⟩
def vZA(w0:World)(R:Except (Int×Int) (List Sx))(e:Ending)(w':World):Prop :=
 Under w0 w'∧match R with
  | .ok row=>∃ vr,e = .returned (.tuple #[vr,.int .i64 0,.int .i64 0])∧w'.ownsRow w0.heap.size 73 3 vr row.length (nC row)
  | .error (p,c)=>e = .returned (.tuple #[.slice none 0 0,.int .i64 p,.int .i64 c])
theorem j7A(toks:List PTok){p:Option Addr}(hn:toks.length≤1000000)(hp:z8 w0 p toks)(hk:∀ t∈toks,t.kind=1∨t.kind=2∨t.kind=3) :
 Calls Tryz.prog 76 #[.slice p toks.length cap] w0 (vZA w0 (vC toks [] [] ⟨0,0,⟨#[]⟩⟩)):=by
 have HL:=Lib.hid (fun m a w h=>mUA (w0:=w0) (cap:=cap) toks hn hp hk (vC toks [] [] ⟨0,0,⟨#[]⟩⟩) m a w h);generalize hR:vC toks [] [] ⟨0,0,⟨#[]⟩⟩=R at *;have HR:=Lib.hid hR;clear hR hp hk;go_enter Tryz.func76,Tryz.ntmps76;go_wp2;rename_i K hK;have hN:Value.slice (some ⟨w0.heap.size+1,0,none⟩) 1 1 = .slice (some ⟨(w0.alloc (Obj.cells #[] 73)).heap.size,0,none⟩) 1 1:=by simp
 refine wp_mono (HL.out toks.length _ _ ⟨0,.slice (some ⟨w0.heap.size,0,none⟩) 0 0,.slice (some ⟨w0.heap.size+1,0,none⟩) 1 1,[],[],⟨0,0,⟨#[]⟩⟩,_,fB (by rfl),⟨rfl,⟨(wI w0 _ _ _ (Nat.le_refl _)).alloc _,by rw[hN];exact aYA _ _ (by simp) ⟨0,0,⟨#[]⟩⟩,.inr (by simp[Value.ownBlock]),aA (aA ⟨rfl,rfl,Nat.le_refl _,fun _ _=>rfl⟩ _) _⟩,HR.out,Nat.le_refl _,by decide,Int.le_refl _,Int.le_refl _,rfl,fun y hy=>by cases hy⟩⟩) ?_;clear hN;rintro e a' w' (⟨rfl,vr,vo,row,st,x,J,rfl,hi⟩ | ⟨q,c,rfl,rfl,J,rfl,hu⟩)
 · simp only [Exit.inBlock, if_pos, Exit.then]; refine hK _ _ ?_; have hgo := hi.go; have hst := hi.stL; rw [List.drop_length] at hgo; obtain ⟨g, gc, rfl, hg, hgb, hgl, _, _⟩ := fD hi.ph.op (by omega)
   cases st with
   | nil =>
     have HI:=Lib.hid hi;have HG:=Lib.hid hgo;clear hi hgo;unfold dE;go_wp2;go_ret3;obtain rfl:Except.ok row=R:=HG.out;exact⟨HI.out.ph.low,vr,rfl,HI.out.ph.row⟩
   | cons y st =>
     have hl:(y::st).reverse.length=st.length+1:=by simp
     obtain⟨hcp,hcm,hfr⟩:=hi.ph.topCells hg;have HI:=Lib.hid hi;have HG:=Lib.hid hgo;clear hi hgo;rw[hl]at hcp ⊢;simp only[List.length_cons]at hst;clear hl hcm hfr;unfold dE;go_wp2;go_quiet (fail);go_wp2;go_ret3;obtain rfl:Except.error (x.pos,70)=R:=HG.out;exact⟨zA HI.out.ph.low _,rfl⟩
 · simp only[Exit.inBlock,Exit.then];go_ret3;exact⟨hu,rfl⟩
end
end Go.Proofs.YtlnlpdephijcoaaGreatDoor
