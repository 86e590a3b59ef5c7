/- Part 8 of what the proof rests on. -/
import Derived.Test.YtpkaiodmbicjiaaGreatDoorChecked
import Derived.KernelRfl
import Derived.Tactics
import Derived.OwnWalk
import Derived.Maps.AppendAt
import Derived.Deep.QuietTactic
import Derived.BigQuiet
import Derived.Deep.LoopGhost
import Derived.Laws.ResultCell
import Derived.Shelf.Small.Strs
import Derived.Shelf.Strconv.Atoi
import Derived.Shelf.Strconv.Itoa0
import Derived.Shelf.Strconv.Itoa1
import Derived.Shelf.LaysM
import Derived.Shelf.Strconv.Itoa2
import Derived.Shelf.Strconv.Itoa3
import Derived.Shelf.Strconv.AtoiErrFast
import Derived.Shelf.Strconv.ParseIntEmpty
import Derived.Shelf.Strconv.AtoiFail
import Derived.Shelf.Strconv.Clone
import Derived.Shelf.Strconv.SyntaxError
import Derived.Shelf.LaysC
import Derived.Shelf.Strconv.ToError
import Derived.Shelf.Strconv.Lower
import Derived.Shelf.Strconv.ParseUint10
import Derived.Shelf.Strconv.ParseUint10Empty
import Derived.Shelf.Strconv.ParseUint10Any
import Derived.Shelf.Strconv.ParseInt10
import Derived.Shelf.Strconv.AtoiLong
import Derived.Shelf.Strconv.AtoiInnerAll
import Derived.Shelf.Strconv.RangeError
import Derived.Shelf.Strconv.ToErrorRange
import Derived.Shelf.Strconv.AtoiAll
import Derived.Shelf.Strconv.ErrVarAll
import Derived.Shelf.Strings.Search1
import Derived.Shelf.Slices.Turned
import Derived.Ground.Names2Prog
import Derived.Shelf.Slices.ReverseS
import Derived.Shelf.Slices.Clone
import Derived.Shelf.Slices.Cells
import Derived.Ground.SlgnProg
import Derived.Shelf.SlicesE.Clone
import Derived.Test.YtpkaiodmbicjiaaGreatDoorProg
import Derived.Test.YtpkaiodmbicjiaaGreatDoorM00
import Derived.Test.YtpkaiodmbicjiaaGreatDoorM04
import Derived.Test.YtpkaiodmbicjiaaGreatDoorM06
import Derived.Test.YtpkaiodmbicjiaaGreatDoorM07
set_option linter.unusedSimpArgs false
set_option linter.unusedVariables false
set_option maxRecDepth 100000
set_option maxHeartbeats 4000000
namespace Go.Proofs.YtpkaiodmbicjiaaGreatDoor
open Go.Proofs.Tryz
open Go.Lx
theorem xZA : ∀ args, Ok Tryz.prog ((Extern.ReflectliteType.rows.getD 11 ("", Extern.RuntimeError.nothing)).2 args) := by
 intro args;exact Ok.bind (eH _) λ_=>Ok.pure
theorem dK{fn:Func}{e:Array Value->Sem Value}{f:FuncId}{g:Func}(h:prog.funcs[f]? = some fn)(hg:prog.funcs[f]? = some g)(he:Extern.find fn=some e)(hn:(Extern.find g).isNone=true):False:=by
 have:=Qt (hg.symm.trans h);subst this;rw[he]at hn
 cases hn
theorem lH{fn:Func}{e e':Array Value->Sem Value}{f:FuncId}{g:Func}(h:prog.funcs[f]? = some fn)(hg:prog.funcs[f]? = some g)(he:Extern.find fn=some e)(hn:Extern.find g=some e'):e=e':=by
 have:=Qt (hg.symm.trans h);subst this;exact Qt (he.symm.trans hn)
theorem nD:Tame prog:=by
 refine k7A [0,1,122,138,139,140,141,142,143,144,145,146,147,148,149,150,151,152,153,154,155,156,157,158,159,160,161,162,163,164,165] (by kernel_rfl) (by kernel_rfl) (by kernel_rfl) ?_;intro f hf fn e h he args;simp only[List.mem_cons,List.not_mem_nil,or_false]at hf;rcases hf with rfl|rfl|rfl|rfl|rfl|rfl|rfl|rfl|rfl|rfl|rfl|rfl|rfl|rfl|rfl|rfl|rfl|rfl|rfl|rfl|rfl|rfl|rfl|rfl|rfl|rfl|rfl|rfl|rfl|rfl|rfl
 . exact(dK h func0 he (by kernel_rfl)).elim
 . exact(dK h func1 he (by kernel_rfl)).elim
 . rw[lH (e':=Extern.BytealgIndexByte.indexByte) h func122 he (by kernel_rfl)];exact vGA args
 . rw[lH (e':=Extern.RuntimeError.boundsError) h func138 he (by kernel_rfl)];exact sBA args
 . rw[lH (e':=Extern.RuntimeError.nothing) h func139 he (by kernel_rfl)];exact wI args
 · rw [lH (e' := (Extern.RuntimeError.rows.getD 0 ("", Extern.RuntimeError.nothing)).2) h Tryz.func140 he (by kernel_rfl)]; exact i2A args
 . rw[lH (e':=Extern.RuntimeError.nothing) h func141 he (by kernel_rfl)];exact wI args
 · rw [lH (e' := (Extern.RuntimeError.rows.getD 1 ("", Extern.RuntimeError.nothing)).2) h Tryz.func142 he (by kernel_rfl)]; exact m0A args
 . rw[lH (e':=Extern.RuntimeError.nothing) h func143 he (by kernel_rfl)];exact wI args
 · rw [lH (e' := (Extern.RuntimeError.rows.getD 2 ("", Extern.RuntimeError.nothing)).2) h Tryz.func144 he (by kernel_rfl)]; exact e1A args
 . rw[lH (e':=Extern.RuntimeError.nothing) h func145 he (by kernel_rfl)];exact wI args
 . rw[lH (e':=Extern.RuntimeError.typeAssertionError) h func146 he (by kernel_rfl)];exact sS args
 . rw[lH (e':=Extern.RuntimeError.nothing) h func147 he (by kernel_rfl)];exact wI args
 · rw [lH (e' := (Extern.RuntimeError.rows.getD 6 ("", Extern.RuntimeError.nothing)).2) h Tryz.func148 he (by kernel_rfl)]; exact aZA args
 . rw[lH (e':=Extern.RuntimeError.nothing) h func149 he (by kernel_rfl)];exact wI args
 . exact(dK h func150 he (by kernel_rfl)).elim
 . rw[lH (e':=Extern.RuntimeError.unhashableTypeError) h func151 he (by kernel_rfl)];exact sDA args
 . rw[lH (e':=Extern.RuntimeError.nothing) h func152 he (by kernel_rfl)];exact wI args
 . exact(dK h func153 he (by kernel_rfl)).elim
 . exact(dK h func154 he (by kernel_rfl)).elim
 . exact(dK h func155 he (by kernel_rfl)).elim
 · rw [lH (e' := (Extern.ReflectliteType.rows.getD 11 ("", Extern.RuntimeError.nothing)).2) h Tryz.func156 he (by kernel_rfl)]; exact xZA args
 . exact(dK h func157 he (by kernel_rfl)).elim
 . exact(dK h func158 he (by kernel_rfl)).elim
 . exact(dK h func159 he (by kernel_rfl)).elim
 . exact(dK h func160 he (by kernel_rfl)).elim
 . exact(dK h func161 he (by kernel_rfl)).elim
 . exact(dK h func162 he (by kernel_rfl)).elim
 . exact(dK h func163 he (by kernel_rfl)).elim
 . exact(dK h func164 he (by kernel_rfl)).elim
 . exact(dK h func165 he (by kernel_rfl)).elim
end Go.Proofs.YtpkaiodmbicjiaaGreatDoor
namespace Go.Proofs.YtpkaiodmbicjiaaGreatDoor
open Go.Proofs.Tryz
open Go.Conc Go.Lx
theorem jR{P:Program}{fn:Func}{t:Tmp}{Post:Value->World->Prop}{a:Act}{w:World}(h:fn.results=#[.tmp t])(hd:a.defers=[])(hp:Post (a.tmps.getD t undef) w):pV P fn Post .ret a w :=
 ⟨hd,_,λ_ _=>results_tmp h _ P _,hp⟩
structure Lexes (s:ByteArray) (all:List Tok):Prop where
 size:s.size<=20000
 scans:∃ acts,Scans s 0 acts/\sends acts=all.map rP
 len:all.length<=1000000
theorem Lexes.calls{s:ByteArray}{all:List Tok}(h:Lexes s all)(W:World):CallsG prog 41 #[.string s] W (hKA W all):=by
 obtain⟨acts,h1,h2⟩:=h.scans;exact kUA nD s h.size acts h1 all h2 h.len W
def TrueU(W:World)(v:Value)(w:World):Prop:=v = .bool true/\Under W w
theorem TrueU.re{W:World}(v:Value)(w:World)(τ:Nat->Question->Nat)(d:Nat)(h:TrueU W v w):TrueU W v (re w τ d):=⟨h.1,h.2.re τ d⟩
theorem yI{P:Program}{a:Act}{o:Oper}{f:FuncId}{fn:Func}{args:Array Operand}{ats:Array TypeId}{vs:Array Value}(hop:o.op = .call { callee:=.value (.func f),args,argTypes:=ats })(hf:P.funcs[f]? = some fn)
    (hname : (fn.name == "runtime.NumGoroutine") = false) (hb : fn.body.isNone = false) (hv : args.map a.eval = vs) (w : World) : (execOp a.eval o).run P w = .ok (.enter f vs) w := by
  have h1 : ¬ fn.name = "runtime.NumGoroutine" := by simpa using hname
  have h2:¬ fn.body=none:=by cases hx:fn.body<;>simp_all
  have e:a.eval (.func f) = .func (.func f) #[] #[]:=rfl;unfold execOp;simp[hop,resolve,Deferred.ofValue,invoke,callFunc,hf,h1,h2,e,hv]
end Go.Proofs.YtpkaiodmbicjiaaGreatDoor
namespace Go.Proofs.YtpkaiodmbicjiaaGreatDoor
open Go.Proofs.Tryz
open Go.Conc Go.Lx Go.RowKit
structure PH (w0:World) (vr:Value) (row:List Sx) (vo:Value) (init:List Sx) (x:Sx) (w:World):Prop where
 row:w.ownsRow w0.heap.size 28 3 vr row.length (mD row)
 op:w.ownsRow w0.heap.size 28 3 vo (init.length+1) (mD (init++[x]))
 ne:vr.ownBlock=none∨vr.ownBlock≠vo.ownBlock
 low:Under w0 w
theorem Tryz.info28:(Tryz.prog.info? 28).map (λi=>(i.zero,i.size,i.bytes))=some (some (.agg #[.int .i64 0,.int .i64 0,.string ⟨#[]⟩]),3,32):=by kernel_rfl
section
variable {w0 w w' : World} {vr vo v' : Value} {row init : List Sx} {x y : Sx}
theorem PH.alloc(h:PH w0 vr row vo init x w)(o:Obj):PH w0 vr row vo init x (w.alloc o):=⟨h.row.alloc o,h.op.alloc o,h.ne,bA h.low o⟩
theorem PH.addRow(h:PH w0 vr row vo init x w)(hg:w.grownBy w' vr.ownBlock)(hat:v'.ownBlock=vr.ownBlock∨v'.ownBlock=some w.heap.size)(hr:w'.ownsRow w0.heap.size 28 3 v' (row.length+1) (mD row++[.int .i64 y.many,.int .i64 y.pos,.string y.word])):PH w0 v' (row++[y]) vo init x w':=by
 refine⟨by rw[Qc,aJ];exact hr,rC h.op hg ?_,?_,eB h.low hg λg e=>(xB h.row e).1⟩
 . rcases h.ne with e|e
   . rw[e];cases vo.ownBlock<;>simp
   . exact .inr λe'=>e e'.symm
 . rcases hat with e|e
   . rw[e];exact h.ne
   . rw[e];refine .inr λe'=>?_
     have:=(xB h.op e'.symm).2;omega
theorem PH.addOpen(h:PH w0 vr row vo init x w)(hg:w.grownBy w' vo.ownBlock)(hat:v'.ownBlock=vo.ownBlock∨v'.ownBlock=some w.heap.size)(hr:w'.ownsRow w0.heap.size 28 3 v' (init.length+1+1) (mD (init++[x])++[.int .i64 y.many,.int .i64 y.pos,.string y.word])):PH w0 vr row v' (init++[x]) y w':=by
 refine⟨rC h.row hg h.ne,by rw[Qc,aJ (init++[x])];exact hr,?_,eB h.low hg λg e=>(xB h.op e).1⟩;rcases hat with e|e
 . rw[e];exact h.ne
 . rw[e];cases hv:vr.ownBlock with
   | none=>exact .inl rfl
   | some g=>refine .inr λe'=>?_;cases e';have:=(xB h.row hv).2;omega
theorem PH.top(h:PH w0 vr row vo init x w){g:Nat}(hg:vo.ownBlock=some g)(m:Int):PH w0 vr row vo init ⟨m,x.pos,x.word⟩ (w.setCell ⟨g,init.length * 3,none⟩ (.int .i64 m)):=by
 refine⟨qD h.row ?_ _ _,?_,h.ne,nA h.low (xB h.op hg).1 _ _⟩
 . rcases h.ne with e|e
   . rw[e];simp
   . rw[<- hg];exact e
 . have:=iTA h.op hg (j:=init.length * 3) (by rw[uH,Qc];simp) (.int .i64 m);rw[aJ,List.set_append_right _ _ (by rw[uH];exact Qd _),uH,Nat.sub_self]at this;rw[aJ];exact this
theorem PH.cut{g c:Nat}(h:PH w0 vr row (.slice (some ⟨g,0,none⟩) (init.length+1+1) c) (init++[y]) x w):PH w0 vr row (.slice (some ⟨g,0,none⟩) (init.length+1) c) init y w:=by
 have ho:=h.op;rw[Qc]at ho;refine⟨h.row,?_,h.ne,h.low⟩;have:=rR ho (m:=init.length+1) (by simp);rw[aJ (init++[y]),List.take_append_of_le_length (by rw[uH,Qc];exact Qd _),List.take_of_length_le (by rw[uH,Qc];exact Qd _)]at this;exact this
theorem PH.topCells(h:PH w0 vr row vo init x w){g:Nat}(hg:vo.ownBlock=some g):w.cell? ⟨g,init.length * 3,none⟩=some (.int .i64 x.many)/\w.cell? ⟨g,init.length * 3+1,none⟩=some (.int .i64 x.pos)/\w.cell? ⟨g,init.length * 3+2,none⟩=some (.string x.word)/\∀ j,w.frozen? ⟨g,j,none⟩=false:=by
 have hc:∀ j u,[Value.int .i64 x.many,Value.int .i64 x.pos,Value.string x.word][j]? = some u->w.cell? ⟨g,init.length * 3+j,none⟩=some u:=λj u e=>rD h.op hg (by rw[aJ,List.getElem?_append_right (by rw[uH];omega),uH,Nat.add_sub_cancel_left];exact e)
 exact⟨hc 0 _ rfl,hc 1 _ rfl,hc 2 _ rfl,mLA h.op hg⟩
end
noncomputable def uL:Code:=f42.body.getD .skip
noncomputable def qL:Code:=aB (jA (jA (jA uL)))
noncomputable def parseRound:Code:=nC (nC (jA qL))
def vF(l:Value)(n k:Nat)(vr vo:Value)(J:Nat->Value):Array Value :=
 #[l, J 1, J 2, J 3, J 4, vr, vo, J 7, J 8, J 9, J 10, J 11, J 12, l, .int .i64 (n : Int), .int .i64 (k : Int), J 16, J 17, J 18, J 19, J 20, J 21, J 22, J 23, J 24, J 25, J 26, J 27, J 28, J 29, J 30, J 31, J 32, J 33, J 34, J 35, J 36, J 37, J 38, J 39, J 40, J 41, J 42, J 43, J 44, J 45, J 46, J 47, J 48, J 49, J 50, J 51, J 52, J 53, J 54, J 55, J 56, J 57, J 58, J 59, J 60, J 61, J 62, J 63, J 64, J 65, J 66, J 67, J 68, J 69, J 70, J 71, J 72, J 73, J 74, J 75, J 76, J 77, J 78, J 79, J 80, J 81, J 82, J 83, J 84, J 85, J 86, J 87, J 88, J 89, J 90, J 91, J 92, J 93, J 94, J 95, J 96, J 97, J 98, J 99, J 100, J 101, J 102, J 103, J 104, J 105, J 106, J 107, J 108, J 109, J 110, J 111]
def fTA(w0:World)(l:Value)(n k:Nat)(row:List Sx)(init:List Sx)(x:Sx)(a':Act)(w':World):Prop :=
 ∃ vr vo J,a'=⟨vF l n k vr vo J,[]⟩/\PH w0 vr row vo init x w'
section
variable {w0 : World} {b off n cap k : Nat} {vr vo : Value} {row init : List Sx} {x : Sx}
theorem pQA(pos:Int)(text:ByteArray)(hk:k < n)(hn:n<=1000000)(hr:row.length<=1000000)(hil:init.length<=1000000)(hm0:0<=x.many)(hm1:x.many<=1000000)(J:Nat->Value)(w:World)(hP:PH w0 vr row vo init x w)
    (hb0:b < w0.heap.size) (c0:w0.cell? ⟨b,off+k * 3,none⟩=some (.int .i64 1)) (c1:w0.cell? ⟨b,off+k * 3+1,none⟩=some (.int .i64 pos)) (c2:w0.cell? ⟨b,off+k * 3+2,none⟩=some (.string text)) :
    parseRound.wp prog (Exit.then (fTA w0 (.slice (some ⟨b,off,none⟩) n cap) n (k+1) (row++[⟨0,pos,text⟩]) init ⟨x.many+1,x.pos,x.word⟩) (λ_ _ _=>False)) ⟨vF (.slice (some ⟨b,off,none⟩) n cap) n k vr vo J,[]⟩ w:=by
  have hb:=Qb hb0 hP.low.size;rw[<- iA hP.low hb0]at c0 c1 c2;obtain⟨g,gc,rfl,hg,hgb,hgl,_,_⟩:=yE hP.op (by omega);obtain⟨i0,hi,hz0,hz1,hz2⟩:=info_parts Tryz.info28;obtain⟨hcm,_,_,hfr⟩:=hP.topCells hg;have hfm:=hfr (init.length * 3);have hin:(k:Int) < n:=by omega
  unfold parseRound qL uL;simp only[f42,Qf,aB,jA,nC];unfold vF;have hil':(init.length:Int)<=1000000:=by omega
  have hmx:row.length+1<=maxLen:=by simp only[maxLen];omega
  have hby:(row.length+1) * 32<=140737488355328:=by omega
  have HP:=aA hP;clear hP;go_wp2_with (at_builtin;refine wpList_append_own_at _ rfl _ _ 23 rfl w0.heap.size 28 i0 _ 3 32 underlying23 hi hz0 hz1 hz2 rfl (by decide) _ _ _ rfl ((HP.out.row.alloc _).alloc _) ⟨w.heap.size+1,0,none⟩ 1 1 [.int .i64 0,.int .i64 pos,.string text] rfl rfl ?c1 ?c2 hmx hby ?c5 ?_)
  case c1 => 
    intro j u hj
    match j,hj with
    | 0,hj=>cases hj;simp[Addr.add]
    | 1,hj=>cases hj;simp[Addr.add]
    | 2,hj=>cases hj;simp[Addr.add]
  case c2=>intro u hu;simp at hu;rcases hu with rfl|rfl|rfl<;>rfl
  case c5=>have:=HP.out.low.size;simp;omega
  intro v' w' hown hgrow hnil hat;have HP2:=aA (((HP.out.alloc _).alloc _).addRow (y:=⟨0,pos,text⟩) hgrow (by simpa using hat) hown);clear hown hgrow hnil hat;obtain⟨hcm2,_,_,hfr2⟩:=HP2.out.topCells hg;have hfm2:=hfr2 (init.length * 3);clear hcm hfm hfr hfr2 c0 c1 c2;go_wp2;exact⟨v',_,bB (F:=vF _ n (k+1) v' _) (by rfl) (HP2.out.top hg _)⟩
theorem lQA(pos:Int)(text:ByteArray)(hk:k < n)(hn:n<=1000000)(hil:init.length+1<=60)(J:Nat->Value)(w:World)(hP:PH w0 vr row vo init x w)
    (hb0:b < w0.heap.size) (c0:w0.cell? ⟨b,off+k * 3,none⟩=some (.int .i64 2)) (c1:w0.cell? ⟨b,off+k * 3+1,none⟩=some (.int .i64 pos)) (c2:w0.cell? ⟨b,off+k * 3+2,none⟩=some (.string text)) :
    parseRound.wp prog (Exit.then (fTA w0 (.slice (some ⟨b,off,none⟩) n cap) n (k+1) row (init++[x]) ⟨0,pos,⟨#[]⟩⟩) (λ_ _ _=>False)) ⟨vF (.slice (some ⟨b,off,none⟩) n cap) n k vr vo J,[]⟩ w:=by
  have hb:=Qb hb0 hP.low.size;rw[<- iA hP.low hb0]at c0 c1 c2;obtain⟨g,gc,rfl,hg,hgb,hgl,_,_⟩:=yE hP.op (by omega);obtain⟨i0,hi,hz0,hz1,hz2⟩:=info_parts Tryz.info28;have hin:(k:Int) < n:=by omega
  unfold parseRound qL uL;simp only[f42,Qf,aB,jA,nC];unfold vF;have hil':(init.length:Int)+1<=60:=by omega
  have hmx:init.length+1+1<=maxLen:=by simp only[maxLen];omega
  have hby:(init.length+1+1) * 32<=140737488355328:=by omega
  have HP:=aA hP;clear hP;go_wp2_with (at_builtin;refine wpList_append_own_at _ rfl _ _ 23 rfl w0.heap.size 28 i0 _ 3 32 underlying23 hi hz0 hz1 hz2 rfl (by decide) _ _ _ rfl ((HP.out.op.alloc _).alloc _) ⟨w.heap.size+1,0,none⟩ 1 1 [.int .i64 0,.int .i64 pos,.string ⟨#[]⟩] rfl rfl ?c1 ?c2 hmx hby ?c5 ?_)
  case c1 => 
    intro j u hj
    match j,hj with
    | 0,hj=>cases hj;simp[Addr.add]
    | 1,hj=>cases hj;simp[Addr.add]
    | 2,hj=>cases hj;simp[Addr.add]
  case c2=>intro u hu;simp at hu;rcases hu with rfl|rfl|rfl<;>rfl
  case c5=>have:=HP.out.low.size;simp;omega
  intro v' w' hown hgrow hnil hat;have HP2:=aA (((HP.out.alloc _).alloc _).addOpen (y:=⟨0,pos,⟨#[]⟩⟩) hgrow (by simpa [Value.ownBlock] using hat) hown);clear hown hgrow hnil hat;go_wp2;exact⟨vr,v',bB (F:=vF _ n (k+1) vr v') (by rfl) HP2.out⟩
theorem kNA{y:Sx}(pos:Int)(text:ByteArray)(hk:k < n)(hn:n<=1000000)(hr:row.length<=1000000)(hil:init.length<=1000000)(hm0:0<=y.many)(hm1:y.many<=1000000)(J:Nat->Value)(w:World)(hP:PH w0 vr row vo (init++[y]) x w)
    (hb0:b < w0.heap.size) (c0:w0.cell? ⟨b,off+k * 3,none⟩=some (.int .i64 3)) (c1:w0.cell? ⟨b,off+k * 3+1,none⟩=some (.int .i64 pos)) (c2:w0.cell? ⟨b,off+k * 3+2,none⟩=some (.string text)) :
    parseRound.wp prog (Exit.then (fTA w0 (.slice (some ⟨b,off,none⟩) n cap) n (k+1) (row++[x]) init ⟨y.many+1,y.pos,y.word⟩) (λ_ _ _=>False)) ⟨vF (.slice (some ⟨b,off,none⟩) n cap) n k vr vo J,[]⟩ w:=by
  have hb:=Qb hb0 hP.low.size;rw[<- iA hP.low hb0]at c0 c1 c2;obtain⟨g,gc,hvo,hg,hgb,hgl,hgc,_⟩:=yE hP.op (by omega);rw[Qc]at hvo hgc;simp only[Qk,List.length_nil,Nat.zero_add]at hvo hgc;subst hvo;obtain⟨i0,hi,hz0,hz1,hz2⟩:=info_parts Tryz.info28;obtain⟨hcm,hcp,hcw,hfr⟩:=hP.topCells hg;rw[Qc]at hcm hcp hcw;simp only[Qk,List.length_nil,Nat.zero_add]at hcm hcp hcw;have hin:(k:Int) < n:=by omega
  unfold parseRound qL uL;simp only[f42,Qf,aB,jA,nC];unfold vF;have hil':(init.length:Int)<=1000000:=by omega
  have hmx:row.length+1<=maxLen:=by simp only[maxLen];omega
  have hby:(row.length+1) * 32<=140737488355328:=by omega
  have HP:=aA hP;clear hP;go_wp2_with (at_builtin;refine wpList_append_own_at _ rfl _ _ 23 rfl w0.heap.size 28 i0 _ 3 32 underlying23 hi hz0 hz1 hz2 rfl (by decide) _ _ _ rfl ((HP.out.row.alloc _).alloc _) ⟨w.heap.size+1,0,none⟩ 1 1 [.int .i64 x.many,.int .i64 x.pos,.string x.word] rfl rfl ?c1 ?c2 hmx hby ?c5 ?_)
  case c1 => 
    intro j u hj
    match j,hj with
    | 0,hj=>cases hj;simp[Addr.add]
    | 1,hj=>cases hj;simp[Addr.add]
    | 2,hj=>cases hj;simp[Addr.add]
  case c2=>intro u hu;simp at hu;rcases hu with rfl|rfl|rfl<;>rfl
  case c5=>have:=HP.out.low.size;simp;omega
  intro v' w' hown hgrow hnil hat;have HP2:=aA (((HP.out.alloc _).alloc _).addRow (y:=x) hgrow (by simpa using hat) hown).cut;clear hown hgrow hnil hat;obtain⟨hcm2,_,_,hfr2⟩:=HP2.out.topCells rfl;have hfm2:=hfr2 (init.length * 3);clear hcm hcp hcw hfr hfr2 c0 c1 c2;go_wp2;exact⟨v',_,bB (F:=vF _ n (k+1) v' _) (by rfl) (HP2.out.top rfl _)⟩
def jQA(e:Int)(p:Int)(J:Nat->Value):Array Value :=
 #[J 0, J 1, .slice none 0 0, .int .i64 p, .int .i64 e, J 5, J 6, J 7, J 8, J 9, J 10, J 11, J 12, J 13, J 14, J 15, J 16, J 17, J 18, J 19, J 20, J 21, J 22, J 23, J 24, J 25, J 26, J 27, J 28, J 29, J 30, J 31, J 32, J 33, J 34, J 35, J 36, J 37, J 38, J 39, J 40, J 41, J 42, J 43, J 44, J 45, J 46, J 47, J 48, J 49, J 50, J 51, J 52, J 53, J 54, J 55, J 56, J 57, J 58, J 59, J 60, J 61, J 62, J 63, J 64, J 65, J 66, J 67, J 68, J 69, J 70, J 71, J 72, J 73, J 74, J 75, J 76, J 77, J 78, J 79, J 80, J 81, J 82, J 83, J 84, J 85, J 86, J 87, J 88, J 89, J 90, J 91, J 92, J 93, J 94, J 95, J 96, J 97, J 98, J 99, J 100, J 101, J 102, J 103, J 104, J 105, J 106, J 107, J 108, J 109, J 110, J 111]
def v4A(w0:World)(p e:Int)(ex:Exit)(a':Act)(w':World):Prop:=ex = .ret/\∃ J,a'=⟨jQA e p J,[]⟩/\Under w0 w'
theorem gRA(pos:Int)(text:ByteArray)(hk:k < n)(hn:n<=1000000)(hil:init.length=60)(J:Nat->Value)(w:World)(hP:PH w0 vr row vo init x w)
    (hb0:b < w0.heap.size) (c0:w0.cell? ⟨b,off+k * 3,none⟩=some (.int .i64 2)) (c1:w0.cell? ⟨b,off+k * 3+1,none⟩=some (.int .i64 pos)) (c2:w0.cell? ⟨b,off+k * 3+2,none⟩=some (.string text)) :
    parseRound.wp prog (Exit.then (λ_ _=>False) (v4A w0 pos 22)) ⟨vF (.slice (some ⟨b,off,none⟩) n cap) n k vr vo J,[]⟩ w:=by
  have hb:=Qb hb0 hP.low.size;rw[<- iA hP.low hb0]at c0 c1 c2;obtain⟨g,gc,rfl,hg,hgb,hgl,_,_⟩:=yE hP.op (by omega);have hin:(k:Int) < n:=by omega
  unfold parseRound qL uL;simp only[f42,Qf,aB,jA,nC];unfold vF;have hil':(init.length:Int)=60:=by omega
  have HP:=aA hP;clear hP;go_wp2;go_quiet (fail);go_wp2;exact⟨rfl,bB (F:=jQA 22 pos) (by rfl) (iB (bA HP.out.low _) _)⟩
theorem tQA(pos:Int)(text:ByteArray)(hk:k < n)(hn:n<=1000000)(J:Nat->Value)(w:World)(hP:PH w0 vr row vo [] x w)
    (hb0:b < w0.heap.size) (c0:w0.cell? ⟨b,off+k * 3,none⟩=some (.int .i64 3)) (c1:w0.cell? ⟨b,off+k * 3+1,none⟩=some (.int .i64 pos)) (c2:w0.cell? ⟨b,off+k * 3+2,none⟩=some (.string text)) :
    parseRound.wp prog (Exit.then (λ_ _=>False) (v4A w0 pos 70)) ⟨vF (.slice (some ⟨b,off,none⟩) n cap) n k vr vo J,[]⟩ w:=by
  have hb:=Qb hb0 hP.low.size;rw[<- iA hP.low hb0]at c0 c1 c2;obtain⟨g,gc,rfl,hg,hgb,hgl,_,_⟩:=yE hP.op (by omega);have hin:(k:Int) < n:=by omega
  unfold parseRound qL uL;simp only[f42,Qf,aB,jA,nC];unfold vF;have HP:=aA hP;clear hP;go_wp2;go_quiet (fail);go_wp2;exact⟨rfl,bB (F:=jQA 70 pos) (by rfl) (iB (bA HP.out.low _) _)⟩
def jBB(l:Value)(n:Nat)(vr vo:Value)(w:World)(e:Exit)(a':Act)(w':World):Prop:=e = .exit 0/\∃ J,a'=⟨vF l n n vr vo J,[]⟩/\w'=w
theorem rRA(l:Value)(J:Nat->Value)(w:World) :
 parseRound.wp prog (Exit.then (λ_ _=>False) (jBB l n vr vo w)) ⟨vF l n n vr vo J,[]⟩ w:=by
 unfold parseRound qL uL;simp only[f42,Qf,aB,jA,nC];unfold vF;go_wp2;exact⟨rfl,bB (F:=vF l n n vr vo) (by rfl) rfl⟩
end
def oBB(w0:World)(b off:Nat)(toks:List PTok):Prop:=∀ k t,toks[k]? = some t->w0.cell? ⟨b,off+k * 3,none⟩=some (.int .i64 t.kind)/\w0.cell? ⟨b,off+k * 3+1,none⟩=some (.int .i64 t.pos)/\w0.cell? ⟨b,off+k * 3+2,none⟩=some (.string t.text)
section
variable {w0 : World} {b off cap : Nat}
structure PInv (w0:World) (l:Value) (toks:List PTok) (R:Except (Int×Int) (List Sx)) (m k:Nat) (vr vo:Value) (row st:List Sx) (x:Sx) (w:World):Prop where
 cnt:m+k=toks.length
 ph:PH w0 vr row vo st.reverse x w
 go:mF (toks.drop k) row st x=R
 rowL:row.length<=k
 stL:st.length<=60
 x0:0<=x.many
 x1:x.many<=k
 ys:∀ y∈st,0<=y.many/\y.many<=k
def PI(w0:World)(l:Value)(toks:List PTok)(R:Except (Int×Int) (List Sx))(m:Nat)(a:Act)(w:World):Prop :=
 ∃ k vr vo row st x J,a=⟨vF l toks.length k vr vo J,[]⟩/\PInv w0 l toks R m k vr vo row st x w
def j9A(w0:World)(l:Value)(toks:List PTok)(R:Except (Int×Int) (List Sx))(e:Exit)(a:Act)(w:World):Prop :=
 (e = .exit 0/\∃ vr vo row st x J,a=⟨vF l toks.length toks.length vr vo J,[]⟩/\PInv w0 l toks R 0 toks.length vr vo row st x w)∨∃ p c,R = .error (p,c)/\v4A w0 p c e a w
def rSA(w0:World)(p:Option Addr)(toks:List PTok):Prop:=toks≠[]->∃ b off,p=some ⟨b,off,none⟩/\b < w0.heap.size/\oBB w0 b off toks
theorem oIA(toks:List PTok){p:Option Addr}(hn:toks.length<=1000000)(hp:rSA w0 p toks)(hk:∀ t∈toks,t.kind=1∨t.kind=2∨t.kind=3)(R:Except (Int×Int) (List Sx))(m:Nat)(a:Act)(w:World)
    (h0:PI w0 (.slice p toks.length cap) toks R m a w) :
    (Code.loop parseRound).wp prog (j9A w0 (.slice p toks.length cap) toks R) a w:=by
  refine wp_loop_ghost _ m h0 ?_;clear h0;rintro m a w ⟨k,vr,vo,row,st,x,J,rfl,hi⟩;have hmk:=hi.cnt;by_cases hkn:k=toks.length
  . subst hkn;refine wp_mono (rRA _ J w) ?_;rintro e a' w' h
    cases e with
    | normal=>exact h.elim
    | _ =>
      obtain⟨h1,J',rfl,rfl⟩:=h;have:m=0:=by omega
      subst this;exact .inl ⟨h1,vr,vo,row,st,x,J',rfl,hi⟩
  have hlt:k < toks.length:=by omega
  obtain⟨b,off,rfl,hb0,ht⟩:=hp (λe=>by rw[e]at hlt;exact absurd hlt (Nat.not_lt_zero _));obtain⟨t,ht0⟩:∃ t,toks[k]? = some t:=⟨_,Qa hlt⟩;have hd:toks.drop k=t::toks.drop (k+1):=by
   rw[Qi hlt];rw[Qa hlt]at ht0
   cases ht0;rfl
  have hgo:=hi.go;rw[hd,lN]at hgo;obtain⟨c0,c1,c2⟩:=ht k t ht0;have hrow:=hi.rowL;have hst:=hi.stL;have hx0:=hi.x0;have hx1:=hi.x1;have next:∀ {row' st':List Sx} {x':Sx},mF (toks.drop (k+1)) row' st' x'=R->row'.length<=k+1->st'.length<=60->0<=x'.many->x'.many<=k+1->(∀ y∈st',0<=y.many/\y.many<=k+1) ->
   parseRound.wp prog (Exit.then (fTA w0 (.slice (some ⟨b,off,none⟩) toks.length cap) toks.length (k+1) row' st'.reverse x') (λ_ _ _=>False)) ⟨vF (.slice (some ⟨b,off,none⟩) toks.length cap) toks.length k vr vo J,[]⟩ w ->
   parseRound.wp prog (Exit.then (λa' w'=>∃ n',n' < m/\PI w0 (.slice (some ⟨b,off,none⟩) toks.length cap) toks R n' a' w') (j9A w0 (.slice (some ⟨b,off,none⟩) toks.length cap) toks R)) ⟨vF (.slice (some ⟨b,off,none⟩) toks.length cap) toks.length k vr vo J,[]⟩ w:=by
   intro row' st' x' g1 g2 g3 g4 g5 g6 h;refine wp_mono h ?_;rintro e a' w' h
   cases e with
   | normal =>
     obtain⟨vr',vo',J',rfl,hP'⟩:=h;exact⟨m - 1,by omega,k+1,vr',vo',row',st',x',J',rfl,by omega,hP',g1,g2,g3,g4,by omega,λy hy=>by have:=g6 y hy;omega⟩
   | _=>exact h.elim
  have bad:∀ {q c:Int},Except.error (q,c)=R->parseRound.wp prog (Exit.then (λ_ _=>False) (v4A w0 q c)) ⟨vF (.slice (some ⟨b,off,none⟩) toks.length cap) toks.length k vr vo J,[]⟩ w ->
   parseRound.wp prog (Exit.then (λa' w'=>∃ n',n' < m/\PI w0 (.slice (some ⟨b,off,none⟩) toks.length cap) toks R n' a' w') (j9A w0 (.slice (some ⟨b,off,none⟩) toks.length cap) toks R)) ⟨vF (.slice (some ⟨b,off,none⟩) toks.length cap) toks.length k vr vo J,[]⟩ w:=by
   intro q c g h;refine wp_mono h ?_;rintro e a' w' h
   cases e with
   | normal=>exact h.elim
   | _=>exact .inr ⟨q,c,g.symm,h⟩
  rcases hk t (List.mem_of_getElem? ht0) with e|e|e
  . rw[if_pos e]at hgo;rw[e]at c0;exact next hgo (by simp;omega) hst (by show 0<=x.many+1;omega) (by show x.many+1<=(k:Int)+1;omega) (λy hy=>by have:=hi.ys y hy;omega) (pQA t.pos t.text hlt hn (by omega) (by simp;omega) hx0 (by omega) J w hi.ph hb0 c0 c1 c2)
  . rw[if_neg (by omega),if_pos e]at hgo;rw[e]at c0;by_cases h60:st.length=60
    . rw[if_pos h60]at hgo;exact bad hgo (gRA t.pos t.text hlt hn (by simp;exact h60) J w hi.ph hb0 c0 c1 c2)
    . rw[if_neg h60]at hgo;have:=lQA (cap:=cap) t.pos t.text hlt hn (by simp;omega) J w hi.ph hb0 c0 c1 c2;rw[<- List.reverse_cons]at this;refine next hgo (by omega) (by simp;omega) (by simp) (by simp;omega) ?_ this;intro y hy;rcases List.mem_cons.1 hy with rfl|hy
      . omega
      . have:=hi.ys y hy;omega
  . rw[if_neg (by omega),if_neg (by omega)]at hgo;rw[e]at c0;have hP:=hi.ph;have hys:=hi.ys;clear hi hd
    cases st with
    | nil=>exact bad hgo (tQA t.pos t.text hlt hn J w hP hb0 c0 c1 c2)
    | cons y st =>
      rw[List.reverse_cons]at hP;have hy:=hys y (Qn ..);simp only[Qk]at hst;exact next hgo (by simp;omega) (by omega) (by show 0<=y.many+1;omega) (by show y.many+1<=(k:Int)+1;omega) (λz hz=>by have:=hys z (Qh _ hz);omega) (kNA t.pos t.text hlt hn (by omega) (by simp;omega) hy.1 (by omega) J w hP hb0 c0 c1 c2)
theorem eKA(w:World)(base:Nat)(e:TypeId)(size:Nat):w.ownsRow base e size (.slice none 0 0) 0 []:=⟨by simp,.inl ⟨rfl,rfl⟩⟩
theorem t7A(w:World)(base:Nat)(hb:base<=w.heap.size)(x:Sx):(w.alloc (.cells #[.int .i64 x.many,.int .i64 x.pos,.string x.word] 28)).ownsRow base 28 3 (.slice (some ⟨w.heap.size,0,none⟩) 1 1) 1 (mD [x]) :=
 ⟨rfl,.inr ⟨w.heap.size,1,#[.int .i64 x.many,.int .i64 x.pos,.string x.word],rfl,hb,heap_alloc_new w _,Qd _,by decide,rfl,rfl⟩⟩
theorem fB{A:Array Value}{F:(Nat->Value)->Array Value}(h:A=F λn=>A.getD n undef):(⟨A,[]⟩:Act)=⟨F λn=>A.getD n undef,[]⟩:=by rw[<- h]
def tYA(w0:World)(R:Except (Int×Int) (List Sx))(e:Ending)(w':World):Prop :=
 Under w0 w'/\match R with
  | .ok row=>∃ vr,e = .returned (.tuple #[vr,.int .i64 0,.int .i64 0])/\w'.ownsRow w0.heap.size 28 3 vr row.length (mD row)
  | .error (p,c)=>e = .returned (.tuple #[.slice none 0 0,.int .i64 p,.int .i64 c])
theorem pVA(toks:List PTok){p:Option Addr}(hn:toks.length<=1000000)(hp:rSA w0 p toks)(hk:∀ t∈toks,t.kind=1∨t.kind=2∨t.kind=3) :
 Calls prog 42 #[.slice p toks.length cap] w0 (tYA w0 (mF toks [] [] ⟨0,0,⟨#[]⟩⟩)):=by
 have HL:=aA (λm a w h=>oIA (w0:=w0) (cap:=cap) toks hn hp hk (mF toks [] [] ⟨0,0,⟨#[]⟩⟩) m a w h);generalize hR:mF toks [] [] ⟨0,0,⟨#[]⟩⟩=R at *;have HR:=aA hR;clear hR hp hk;have HN:=aA hn;go_enter func42,ntmps42;go_wp2;rename_i K hK;refine wp_mono (HL.out toks.length _ _ ⟨0,.slice none 0 0,.slice (some ⟨w0.heap.size,0,none⟩) 1 1,[],[],⟨0,0,⟨#[]⟩⟩,_,fB (by rfl),⟨rfl,⟨eKA _ _ _ _,t7A w0 _ (Qd _) ⟨0,0,⟨#[]⟩⟩,.inl rfl,bA ⟨rfl,rfl,Qd _,λ_ _=>rfl⟩ _⟩,HR.out,Qd _,by decide,Int.le_refl _,Int.le_refl _,λy hy=>by cases hy⟩⟩) ?_;rintro e a' w' (⟨rfl,vr,vo,row,st,x,J,rfl,hi⟩|⟨q,c,rfl,rfl,J,rfl,hu⟩)
 . simp only[Exit.inBlock,if_pos,Exit.then];refine hK _ _ ?_;have hgo:=hi.go;have hst:=hi.stL;rw[List.drop_length]at hgo;obtain⟨g,gc,rfl,hg,hgb,hgl,_,_⟩:=yE hi.ph.op (by omega)
   cases st with
   | nil =>
     have HI:=aA hi;have HG:=aA hgo;clear hi hgo;unfold vF;go_wp2;go_ret3;obtain rfl:Except.ok row=R:=HG.out;exact⟨HI.out.ph.low,vr,rfl,HI.out.ph.row⟩
   | cons y st =>
     have hl:(y::st).reverse.length=st.length+1:=by simp
     obtain⟨hcm,hcp,hcw,hfr⟩:=hi.ph.topCells hg;have HI:=aA hi;have HG:=aA hgo;clear hi hgo;rw[hl]at hcp ⊢;simp only[Qk]at hst;clear hl hcm hcw hfr;unfold vF;go_wp2;go_quiet (fail);go_wp2;go_ret3;obtain rfl:Except.error (x.pos,70)=R:=HG.out;exact⟨iB HI.out.ph.low _,rfl⟩
 . simp only[Exit.inBlock,Exit.then];go_ret3;exact⟨hu,rfl⟩
end
def yH(l:List Nat):List Value:=l.map λ(n:Nat)=>.int .i64 (n:Int)
theorem kJ(l r:List Nat):yH (l++r)=yH l++yH r:=List.map_append
theorem sM{l:List Nat}{k n:Nat}(h:l[k]? = some n):(yH l)[k]? = some (.int .i64 (n:Int)):=by simp[yH,h]
theorem Tryz.info3:(Tryz.prog.info? 3).map (λi=>(i.zero,i.size,i.bytes))=some (some (.int .i64 0),1,8):=by kernel_rfl
noncomputable def iEA:Code:=f22.body.getD .skip
noncomputable def bGA:Code:=aB (jA (jA iEA))
noncomputable def bgRound:Code:=nC (nC (jA bGA))
def rF(l:Value)(n k:Nat)(va:Value)(J:Nat->Value):Array Value :=
 #[l, J 1, J 2, J 3, va, J 5, J 6, J 7, l, .int .i64 (n : Int), .int .i64 (k : Int), J 11, J 12, J 13, J 14, J 15, J 16, J 17, J 18, J 19, J 20, J 21, J 22, J 23, J 24, J 25, J 26, J 27, J 28, J 29, J 30, J 31, J 32, J 33, J 34, J 35, J 36, J 37, J 38, J 39, J 40, J 41, J 42, J 43, J 44, J 45, J 46, J 47, J 48, J 49, J 50, J 51, J 52, J 53, J 54, J 55, J 56, J 57, J 58, J 59, J 60, J 61, J 62]
def fMA(v:Value)(b:Bool)(J:Nat->Value):Array Value:=#[J 0,J 1,v,.bool b,J 4,J 5,J 6,J 7,J 8,J 9,J 10,J 11,J 12,J 13,J 14,J 15,J 16,J 17,J 18,J 19,J 20,J 21,J 22,J 23,J 24,J 25,J 26,J 27,J 28,J 29,J 30,J 31,J 32,J 33,J 34,J 35,J 36,J 37,J 38,J 39,J 40,J 41,J 42,J 43,J 44,J 45,J 46,J 47,J 48,J 49,J 50,J 51,J 52,J 53,J 54,J 55,J 56,J 57,J 58,J 59,J 60,J 61,J 62]
def bCB(w0:World)(l:Value)(n k:Nat)(st:List Nat)(a':Act)(w':World):Prop :=
 ∃ va J,a'=⟨rF l n k va J,[]⟩/\w'.ownsRow w0.heap.size 3 1 va st.length (yH st)/\Under w0 w'
def vCB(w0:World)(l:Value)(n k s:Nat)(xs:List Value)(a':Act)(w':World):Prop :=
 ∃ va J,a'=⟨rF l n k va J,[]⟩/\w'.ownsRow w0.heap.size 3 1 va s xs/\Under w0 w'
def nBB(w0:World)(ex:Exit)(a':Act)(w':World):Prop:=ex = .ret/\∃ J,a'=⟨fMA (.slice none 0 0) false J,[]⟩/\Under w0 w'
def sCB(l:Value)(n:Nat)(va:Value)(w:World)(e:Exit)(a':Act)(w':World):Prop:=e = .exit 0/\∃ J,a'=⟨rF l n n va J,[]⟩/\w'=w
section
variable {w0 : World} {b off n cap k : Nat} {va : Value} {st : List Nat} {x : Sx}
theorem y5A(l:Value)(J:Nat->Value)(w:World) :
 bgRound.wp prog (Exit.then (λ_ _=>False) (sCB l n va w)) ⟨rF l n n va J,[]⟩ w:=by
 unfold bgRound bGA iEA;simp only[f22,Qf,aB,jA,nC];unfold rF;go_wp2;exact⟨rfl,bB (F:=rF l n n va) (by rfl) rfl⟩
theorem iAB(hx:¬ q9 x st.length)(hk:k < n)(hn:n<=1000000)(hsl:st.length<=1000000)(J:Nat->Value)(w:World)(hP:w.ownsRow w0.heap.size 3 1 va st.length (yH st))(hU:Under w0 w)
    (hb0:b < w0.heap.size) (c0:w0.cell? ⟨b,off+k * 3,none⟩=some (.int .i64 x.many)) (c1:w0.cell? ⟨b,off+k * 3+1,none⟩=some (.int .i64 x.pos)) (c2:w0.cell? ⟨b,off+k * 3+2,none⟩=some (.string x.word)) :
    bgRound.wp prog (Exit.then (λ_ _=>False) (nBB w0)) ⟨rF (.slice (some ⟨b,off,none⟩) n cap) n k va J,[]⟩ w:=by
  have hb:=Qb hb0 hU.size;rw[<- iA hU hb0]at c0 c1 c2;have hin:(k:Int) < n:=by omega
  have hk0:(0:Int)<=k:=Int.natCast_nonneg _;obtain⟨p,c,rfl⟩:∃ p c,va = .slice p st.length c:=by
   rcases hP.2 with⟨rfl,h0⟩|⟨g,cap,cur,rfl,_⟩
   . exact⟨none,0,by rw[h0]⟩
   . exact⟨_,_,rfl⟩
  have HU:=aA hU;clear hU hP;obtain⟨m,q,t⟩:=x;simp only[q9]at hx c0 c1 c2;unfold bgRound bGA iEA;simp only[f22,Qf,aB,jA,nC];unfold rF;by_cases hA:m < 0
  . clear hx;go_wp2;exact⟨rfl,bB (F:=fMA _ _) (by rfl) (bA HU.out _)⟩
  by_cases hD:(st.length:Int) < m
  . have hm0:(m != 0)=true:=by simp;omega
    by_cases hB:t.size=0
    . have e0:t=⟨#[]⟩:=by
        apply ByteArray.ext;exact Array.eq_empty_of_size_eq_zero hB
      subst e0;clear hx;go_wp2;exact⟨rfl,bB (F:=fMA _ _) (by rfl) (bA HU.out _)⟩
    . obtain⟨e1,e2⟩:=nJ hB;clear hx hB;go_wp2;exact⟨rfl,bB (F:=fMA _ _) (by rfl) (bA HU.out _)⟩
  . have hB:t.size≠0/\m≠0:=by
      by_cases h1:t.size=0
      . exact absurd ⟨by omega,λh=>absurd h1 h,by omega⟩ hx
      . by_cases h2:m=0
        . exact absurd ⟨by omega,λ_=>h2,by omega⟩ hx
        . exact⟨h1,h2⟩
    have hm0:(m != 0)=true:=by simp;omega
    obtain⟨e1,e2⟩:=nJ hB.1;clear hx hB;go_wp2;exact⟨rfl,bB (F:=fMA _ _) (by rfl) (bA HU.out _)⟩
theorem b6A(hx:x.many=0)(hk:k < n)(hn:n<=1000000)(hsl:st.length<=1000000)(J:Nat->Value)(w:World)(hP:w.ownsRow w0.heap.size 3 1 va st.length (yH st))(hU:Under w0 w)
    (hb0:b < w0.heap.size) (c0:w0.cell? ⟨b,off+k * 3,none⟩=some (.int .i64 x.many)) (c1:w0.cell? ⟨b,off+k * 3+1,none⟩=some (.int .i64 x.pos)) (c2:w0.cell? ⟨b,off+k * 3+2,none⟩=some (.string x.word)) :
    bgRound.wp prog (Exit.then (bCB w0 (.slice (some ⟨b,off,none⟩) n cap) n (k+1) (st++[k])) (λ_ _ _=>False)) ⟨rF (.slice (some ⟨b,off,none⟩) n cap) n k va J,[]⟩ w:=by
  have hb:=Qb hb0 hU.size;rw[<- iA hU hb0]at c0 c1 c2;obtain⟨i0,hi,hz0,hz1,hz2⟩:=info_parts Tryz.info3;have hin:(k:Int) < n:=by omega
  have hk0:(0:Int)<=k:=Int.natCast_nonneg _;have hmx:st.length+1<=maxLen:=by simp only[maxLen];omega
  have hby:(st.length+1) * 8<=140737488355328:=by omega
  obtain⟨m,q,t⟩:=x;simp only at hx c0 c1 c2;subst hx;unfold bgRound bGA iEA;simp only[f22,Qf,aB,jA,nC];unfold rF;have HU:=aA hU;clear hU;have both:t=⟨#[]⟩∨(¬ t.toList=[]/\t.toList.isEmpty=false):=by
   by_cases hB:t.size=0
   . exact .inl (ByteArray.ext (Array.eq_empty_of_size_eq_zero hB))
   . exact .inr (nJ hB)
  have hm0:((0:Int) != 0)=false:=by decide
  rcases hP.2 with⟨rfl,h0⟩|⟨g,c,cur,rfl,_,_,hc,_⟩
  . have e:=List.length_eq_zero_iff.1 h0;subst e;have HP:=aA hP;clear hP h0;rcases both with rfl|⟨e1,e2⟩
    . skip
      go_wp2_with (at_builtin;refine wpList_append_own_at _ rfl _ _ 66 rfl w0.heap.size 3 i0 _ 1 8 underlying66 hi hz0 hz1 hz2 rfl (by decide) _ _ _ rfl ((HP.out.alloc _).alloc _) ⟨w.heap.size+1,0,none⟩ 1 1 [.int .i64 (k:Int)] rfl rfl ?c1 ?c2 hmx hby ?c5 ?_)
      case c1 =>
        intro j u hj
        match j,hj with
        | 0,hj=>cases hj;simp[Addr.add]
      case c2=>intro u hu;simp at hu;rcases hu with rfl;rfl
      case c5=>have:=HU.out.size;simp;omega
      intro v' w' hown hgrow hnil hat;have HW:=aA hown;have HU2:=aA (eB (bA (bA HU.out _) _) hgrow λg e=>(xB HP.out e).1);clear hown hgrow hnil hat;go_wp2;exact⟨v',bB (F:=rF _ n (k+1) v') (by rfl) ⟨by rw[kJ,Qc];exact HW.out,HU2.out⟩⟩
    . skip
      go_wp2_with (at_builtin;refine wpList_append_own_at _ rfl _ _ 66 rfl w0.heap.size 3 i0 _ 1 8 underlying66 hi hz0 hz1 hz2 rfl (by decide) _ _ _ rfl ((HP.out.alloc _).alloc _) ⟨w.heap.size+1,0,none⟩ 1 1 [.int .i64 (k:Int)] rfl rfl ?c1 ?c2 hmx hby ?c5 ?_)
      case c1 =>
        intro j u hj
        match j,hj with
        | 0,hj=>cases hj;simp[Addr.add]
      case c2=>intro u hu;simp at hu;rcases hu with rfl;rfl
      case c5=>have:=HU.out.size;simp;omega
      intro v' w' hown hgrow hnil hat;have HW:=aA hown;have HU2:=aA (eB (bA (bA HU.out _) _) hgrow λg e=>(xB HP.out e).1);clear hown hgrow hnil hat;go_wp2;exact⟨v',bB (F:=rF _ n (k+1) v') (by rfl) ⟨by rw[kJ,Qc];exact HW.out,HU2.out⟩⟩
  . have hc':(st.length:Int)<=c:=by omega
    have HP:=aA hP;clear hP;rcases both with rfl|⟨e1,e2⟩
    . skip
      go_wp2_with (at_builtin;refine wpList_append_own_at _ rfl _ _ 66 rfl w0.heap.size 3 i0 _ 1 8 underlying66 hi hz0 hz1 hz2 rfl (by decide) _ _ _ rfl ((HP.out.alloc _).alloc _) ⟨w.heap.size+1,0,none⟩ 1 1 [.int .i64 (k:Int)] rfl rfl ?c1 ?c2 hmx hby ?c5 ?_)
      case c1 =>
        intro j u hj
        match j,hj with
        | 0,hj=>cases hj;simp[Addr.add]
      case c2=>intro u hu;simp at hu;rcases hu with rfl;rfl
      case c5=>have:=HU.out.size;simp;omega
      intro v' w' hown hgrow hnil hat;have HW:=aA hown;have HU2:=aA (eB (bA (bA HU.out _) _) hgrow λg e=>(xB HP.out e).1);clear hown hgrow hnil hat;go_wp2;exact⟨v',bB (F:=rF _ n (k+1) v') (by rfl) ⟨by rw[kJ,Qc];exact HW.out,HU2.out⟩⟩
    . skip
      go_wp2_with (at_builtin;refine wpList_append_own_at _ rfl _ _ 66 rfl w0.heap.size 3 i0 _ 1 8 underlying66 hi hz0 hz1 hz2 rfl (by decide) _ _ _ rfl ((HP.out.alloc _).alloc _) ⟨w.heap.size+1,0,none⟩ 1 1 [.int .i64 (k:Int)] rfl rfl ?c1 ?c2 hmx hby ?c5 ?_)
      case c1 =>
        intro j u hj
        match j,hj with
        | 0,hj=>cases hj;simp[Addr.add]
      case c2=>intro u hu;simp at hu;rcases hu with rfl;rfl
      case c5=>have:=HU.out.size;simp;omega
      intro v' w' hown hgrow hnil hat;have HW:=aA hown;have HU2:=aA (eB (bA (bA HU.out _) _) hgrow λg e=>(xB HP.out e).1);clear hown hgrow hnil hat;go_wp2;exact⟨v',bB (F:=rF _ n (k+1) v') (by rfl) ⟨by rw[kJ,Qc];exact HW.out,HU2.out⟩⟩
theorem b7A{s m h:Nat}{xs:List Value}(hx:x.many=(m:Int))(hm:0 < m)(hxw:x.word=⟨#[]⟩)(hk:k < n)(hn:n<=1000000)(hsl:s+m<=1000000)(J:Nat->Value)(w:World)(hP:w.ownsRow w0.heap.size 3 1 va (s+m) xs)(hh:xs[s]? = some (.int .i64 (h:Int)))(hU:Under w0 w)
    (hb0:b < w0.heap.size) (c0:w0.cell? ⟨b,off+k * 3,none⟩=some (.int .i64 x.many)) (c1:w0.cell? ⟨b,off+k * 3+1,none⟩=some (.int .i64 x.pos)) (c2:w0.cell? ⟨b,off+k * 3+2,none⟩=some (.string x.word)) :
    bgRound.wp prog (Exit.then (vCB w0 (.slice (some ⟨b,off,none⟩) n cap) n (k+1) (s+1) (xs.take s++[.int .i64 (h:Int)])) (λ_ _ _=>False)) ⟨rF (.slice (some ⟨b,off,none⟩) n cap) n k va J,[]⟩ w:=by
  have hb:=Qb hb0 hU.size;rw[<- iA hU hb0]at c0 c1 c2;obtain⟨i0,hi,hz0,hz1,hz2⟩:=info_parts Tryz.info3;obtain⟨g,c,rfl,hg,hgb,hgl,hgc,_⟩:=yE hP (by omega);have hcell:=rD hP hg hh;have hin:(k:Int) < n:=by omega
  have hk0:(0:Int)<=k:=Int.natCast_nonneg _;have hmx:s+1<=maxLen:=by simp only[maxLen];omega
  have hby:(s+1) * 8<=140737488355328:=by omega
  obtain⟨mm,q,t⟩:=x;simp only at hx hxw c0 c1 c2;subst hx hxw;unfold bgRound bGA iEA;simp only[f22,Qf,aB,jA,nC];unfold rF;have HU:=aA hU;have HP:=aA hP;clear hU hP;have m0:(0:Int) < (m:Int):=by omega
  have m1:¬((m:Int) < 0):=by omega
  have m2:¬((s:Int)+(m:Int) < (m:Int)):=by omega
  have m3:(s:Int)<=(c:Int):=by omega
  have m4:(s:Int) < (s:Int)+(m:Int):=by omega
  have m5:(s:Int)+(m:Int)<=1000000:=by omega
  have m6:(0:Int)<=(s:Int):=by omega
  go_wp2_with (at_builtin;refine wpList_append_own_at _ rfl _ _ 66 rfl w0.heap.size 3 i0 _ 1 8 underlying66 hi hz0 hz1 hz2 rfl (by decide) _ _ _ rfl (((rR HP.out (m:=s) (by omega)).alloc _).alloc _) ⟨w.heap.size+1,0,none⟩ 1 1 [.int .i64 (h:Int)] rfl rfl ?c1 ?c2 hmx hby ?c5 ?_)
  case c2=>rfl
  case c5=>have:=HU.out.size;omega
  intro v' w' hown hgrow hnil hat;have HW:=aA hown;have HU2:=aA (eB (bA (bA HU.out _) _) hgrow λg e=>(xB (rR HP.out (m:=s) (by omega)) e).1);clear hown hgrow hnil hat;go_wp2;exact⟨v',bB (F:=rF _ n (k+1) v') (by rfl) ⟨HW.out,HU2.out⟩⟩
structure BInv (w0:World) (row:List Sx) (R:Option (List Nat)) (m k:Nat) (va:Value) (st:List Nat) (w:World):Prop where
 cnt:m+k=row.length
 own:w.ownsRow w0.heap.size 3 1 va st.length (yH st)
 low:Under w0 w
 go:jC (row.drop k) k st=R
 stL:st.length<=k
def BI(w0:World)(l:Value)(row:List Sx)(R:Option (List Nat))(m:Nat)(a:Act)(w:World):Prop :=
 ∃ k va st J,a=⟨rF l row.length k va J,[]⟩/\BInv w0 row R m k va st w
def eDB(w0:World)(l:Value)(row:List Sx)(R:Option (List Nat))(e:Exit)(a:Act)(w:World):Prop :=
 (e = .exit 0/\∃ va st J,a=⟨rF l row.length row.length va J,[]⟩/\BInv w0 row R 0 row.length va st w)∨(R=none/\nBB w0 e a w)
theorem dYA(row:List Sx){p:Option Addr}(hn:row.length<=1000000)(hp:SxArg w0 p row)(R:Option (List Nat))(m:Nat)(a:Act)(w:World)
    (h0:BI w0 (.slice p row.length cap) row R m a w) :
    (Code.loop bgRound).wp prog (eDB w0 (.slice p row.length cap) row R) a w:=by
  refine wp_loop_ghost _ m h0 ?_;clear h0;rintro m a w ⟨k,va,st,J,rfl,hi⟩;have hmk:=hi.cnt;by_cases hkn:k=row.length
  . subst hkn;refine wp_mono (y5A _ J w) ?_;rintro e a' w' h
    cases e with
    | normal=>exact h.elim
    | _ =>
      obtain⟨h1,J',rfl,rfl⟩:=h;have:m=0:=by omega
      subst this;exact .inl ⟨h1,va,st,J',rfl,hi⟩
  have hlt:k < row.length:=by omega
  obtain⟨b,off,rfl,hb0,ht⟩:=hp (λe=>by rw[e]at hlt;exact absurd hlt (Nat.not_lt_zero _));obtain⟨x,hx0⟩:∃ x,row[k]? = some x:=⟨_,Qa hlt⟩;have hd:row.drop k=x::row.drop (k+1):=by
   rw[Qi hlt];rw[Qa hlt]at hx0
   cases hx0;rfl
  have hgo:=hi.go;rw[hd]at hgo;simp only[jC]at hgo;obtain⟨c0,c1,c2⟩:=ht k x hx0;have hst:=hi.stL;by_cases hg:q9 x st.length
  . rw[if_pos hg]at hgo;obtain⟨g1,g2,g3⟩:=hg;by_cases hm:x.many=0
    . refine wp_mono (b6A (cap:=cap) hm hlt hn (by omega) J w hi.own hi.low hb0 c0 c1 c2) ?_;rintro e a' w' h
      cases e with
      | normal =>
        obtain⟨va',J',rfl,ho,hU⟩:=h;refine⟨m - 1,by omega,k+1,va',st++[k],J',rfl,by omega,ho,hU,?_,by simp;omega⟩;rw[<- hgo];congr 1
        unfold bJ;simp[hm]
      | _=>exact h.elim
    . have hw:x.word=⟨#[]⟩:=by
        apply ByteArray.ext;apply Array.eq_empty_of_size_eq_zero;exact Decidable.byContradiction λh=>hm (g2 h)
      obtain⟨mm,hmm⟩:∃ mm:Nat,x.many=mm:=⟨x.many.toNat,by omega⟩;obtain⟨s,hs⟩:∃ s,st.length=s+mm:=⟨st.length - mm,by omega⟩;have hsl:s < st.length:=by omega
      have own:=hi.own;rw[hs]at own;refine wp_mono (b7A (cap:=cap) (s:=s) (m:=mm) (h:=st[s]) hmm (by omega) hw hlt hn (by omega) J w own (sM (Qa hsl)) hi.low hb0 c0 c1 c2) ?_;rintro e a' w' h
      cases e with
      | normal =>
        obtain⟨va',J',rfl,ho,hU⟩:=h;have e1:bJ x k st=st.take s++[st[s]]:=by
         unfold bJ;rw[hmm,Int.toNat_natCast,hs,Nat.add_sub_cancel];congr 2
         rw[Qi hsl];rfl
        have e2:(bJ x k st).length=s+1:=by rw[e1,Qc,List.length_take];simp;omega
        refine⟨m - 1,by omega,k+1,va',bJ x k st,J',rfl,by omega,?_,hU,hgo,by omega⟩;rw[e2,e1,kJ];unfold yH at ho ⊢;rw[List.map_take];exact ho
      | _=>exact h.elim
  . rw[if_neg hg]at hgo;refine wp_mono (iAB (cap:=cap) hg hlt hn (by omega) J w hi.own hi.low hb0 c0 c1 c2) ?_;rintro e a' w' h
    cases e with
    | normal=>exact h.elim
    | _=>exact .inr ⟨hgo.symm,h⟩
def dCB(w0:World)(n:Nat)(R:Option (List Nat))(e:Ending)(w':World):Prop :=
 Under w0 w'/\match R with
  | some st=>∃ va,e = .returned (.tuple #[va,.bool true])/\w'.ownsRow w0.heap.size 3 1 va (st.length+1) (yH (st++[n]))
  | none=>e = .returned (.tuple #[.slice none 0 0,.bool false])
theorem gX(row:List Sx){p:Option Addr}(hn:row.length<=1000000)(hp:SxArg w0 p row) :
 Calls prog 22 #[.slice p row.length cap] w0 (dCB w0 row.length (jC row 0 [])):=by
 have HL:=aA (λm a w h=>dYA (w0:=w0) (cap:=cap) row hn hp (jC row 0 []) m a w h);generalize hR:jC row 0 []=R at *;have HR:=aA hR;obtain⟨i0,hi,hz0,hz1,hz2⟩:=info_parts Tryz.info3;clear hR hp;go_enter func22,ntmps22;go_wp2;rename_i K hK;refine wp_mono (HL.out row.length _ _ ⟨0,.slice none 0 0,[],_,fB (F:=rF _ _ 0 _) (by rfl),⟨rfl,eKA _ _ _ _,⟨rfl,rfl,Qd _,λ_ _=>rfl⟩,HR.out,Qd _⟩⟩) ?_;rintro e a' w' (⟨rfl,va,st,J,rfl,hv⟩|⟨rfl,rfl,J,rfl,hu⟩)
 . simp only[Exit.inBlock,if_pos,Exit.then];refine hK _ _ ?_;have hgo:=hv.go;rw[List.drop_length]at hgo;have hst:=hv.stL;have hmx:st.length+1<=maxLen:=by simp only[maxLen];omega
   have hby:(st.length+1) * 8<=140737488355328:=by omega
   have HI:=aA hv;have HG:=aA hgo;have hws:=hv.low.size;clear hv hgo;unfold rF;go_wp2_with (at_builtin;refine wpList_append_own_at _ rfl _ _ 66 rfl w0.heap.size 3 i0 _ 1 8 underlying66 hi hz0 hz1 hz2 rfl (by decide) _ _ _ rfl (HI.out.own.alloc _) ⟨w'.heap.size,0,none⟩ 1 1 [.int .i64 (row.length:Int)] rfl rfl ?c1 ?c2 hmx hby ?c5 ?_)
   case c1 =>
     intro j u hj
     match j,hj with
     | 0,hj=>cases hj;simp[Addr.add]
   case c2=>intro u hu;simp at hu;rcases hu with rfl;rfl
   case c5=>simp;omega
   intro v' w1 hown hgrow hnil hat;have HW:=aA hown;have HU2:=aA (eB (bA HI.out.low _) hgrow λg e=>(xB HI.out.own e).1);clear hown hgrow hnil hat;go_wp2;go_ret2;obtain rfl:some st=R:=HG.out;exact⟨HU2.out,v',rfl,by rw[kJ];exact HW.out⟩
 . simp only[Exit.inBlock,Exit.then];go_ret2;exact⟨hu,rfl⟩
end
end Go.Proofs.YtpkaiodmbicjiaaGreatDoor
namespace Go.Proofs.YtpkaiodmbicjiaaGreatDoor
open Go.Proofs.Tryz
open Go.Lx Go.RowKit
def sxV(x:Sx):Value:=.agg #[.int .i64 x.many,.int .i64 x.pos,.string x.word]
section
variable {w0 : World}
theorem jJ(T:ST){q:Option Addr}{cap:Nat}(hn:(qA T).length<=1000000)(hq:SxArg w0 q (qA T)):Calls prog 61 #[.slice q (qA T).length cap] w0 λe w=>e = .returned (sxV T.last)/\Under w0 w:=by
 obtain⟨init,hi⟩:=zF T;obtain⟨b,off,rfl,hb,ht⟩:=hq (by rw[hi];simp);obtain⟨c0,c1,c2⟩:=ht init.length T.last (by rw[hi];simp);have hl:(qA T).length=init.length+1:=by rw[hi];simp
 rw[hl]at hn ⊢;generalize T.last=x at *;generalize init.length=m at *;have hmi:((m:Int)+1 - 1)=(m:Int):=by omega
 have hm1:(m:Int)<=1000000:=by omega
 have hm0:(0:Int)<=(m:Int):=by omega
 clear hi ht hl hn;go_enter func61,ntmps61;go_wp2;refine bodyPost_ret (v:=sxV x) ?_ rfl ⟨rfl,bA (Qu _) _⟩;simp[results,f61,go_sem,sxV]
theorem oK(x:Sx){rb m1 m2:Nat}(hs:x.word.size<=maxLen)(hT:Tables w0 rb m1 m2):Calls prog 82 #[.pointer (some ⟨rb,0,none⟩),sxV x] w0 λe w=>e = .returned (.bool (nH x.word))/\Under w0 w:=by
 have hk:nH x.word=(fD x.word && !kwB x.word):=by unfold nH;rw[t8A]
 obtain⟨m,p,s⟩:=x;simp only at hk hs;have HN:=aA (λw=>bI s w hs);have HU0:=aA (bA (Qu w0) (.cells #[.int .i64 m,.int .i64 p,.string s] 28));obtain⟨hlt,c1,c2,h1,h2⟩:=hT;have hT:Tables (w0.alloc (.cells #[.int .i64 m,.int .i64 p,.string s] 28)) rb m1 m2:=⟨by rw[World.size_alloc];omega,by rw[iA HU0.out hlt];exact c1,by rw[iA HU0.out hlt];exact c2,h1.under HU0.out,h2.under HU0.out⟩;have HK:=aA (dBA s hT);have HE:=aA hk;generalize nH s=R at *;generalize kwB s=b at *;generalize fD s=a at *;clear hk hT h1 h2 c1 c2 hs;unfold sxV
 cases a
 . go_enter func82,ntmps82;go_wp2_with fail;refine(HN.out _).mono ?_;rintro e w1 ⟨rfl,rfl⟩;go_wp2;go_ret;exact⟨by rw[HE.out];rfl,HU0.out⟩
 . go_enter func82,ntmps82;go_wp2_with fail;refine(HN.out _).mono ?_;rintro e w1 ⟨rfl,rfl⟩;go_wp2_with fail;refine HK.out.mono ?_;rintro e w2 ⟨rfl,hU⟩;have HU:=aA hU;clear hU;go_wp2;go_ret;exact⟨by rw[HE.out];rfl,HU0.out.trans HU.out⟩
end
end Go.Proofs.YtpkaiodmbicjiaaGreatDoor
namespace Go.Proofs
open Go.Shelf
def Tryz.laysM171_ren:Go.Shelf.Ren:=⟨fun|171=>101|243=>112|246=>119|283=>123|284=>124|285=>125|286=>126|129=>129|317=>128|318=>130|319=>131|320=>132|337=>135|338=>136|n=>n,fun|3=>3|9=>9|2=>2|4=>4|171=>210|0=>0|53=>188|37=>169|5=>5|173=>213|212=>217|51=>218|20=>20|213=>219|46=>191|232=>224|233=>225|n=>n,fun|17=>4|18=>5|19=>6|n=>n⟩
theorem Tryz.laysM171:Go.Proofs.LaysM.n171 prog Tryz.laysM171_ren:={
  mixed:=by kernel_rfl
  f129:=func129.trans (congrArg some (by kernel_rfl))
  f171:=func101.trans (congrArg some (by kernel_rfl))
  f243:=func112.trans (congrArg some (by kernel_rfl))
  f246:=func119.trans (congrArg some (by kernel_rfl))
  f283:=func123.trans (congrArg some (by kernel_rfl))
  f284:=func124.trans (congrArg some (by kernel_rfl))
  f285:=func125.trans (congrArg some (by kernel_rfl))
  f286:=func126.trans (congrArg some (by kernel_rfl))
  f317:=func128.trans (congrArg some (by kernel_rfl))
  f318:=func130.trans (congrArg some (by kernel_rfl))
  f319:=func131.trans (congrArg some (by kernel_rfl))
  f320:=func132.trans (congrArg some (by kernel_rfl))
  f337:=func135.trans (congrArg some (by kernel_rfl))
  f338:=func136.trans (congrArg some (by kernel_rfl))
  t0:=underlying0
  a0:=isAgg0
  z0:=sizeOf0
  v0:=zeroValue0
  t2:=underlying2
  a2:=isAgg2
  z2:=sizeOf2
  v2:=zeroValue2
  t3:=underlying3
  a3:=isAgg3
  z3:=sizeOf3
  v3:=zeroValue3
  t4:=underlying4
  a4:=isAgg4
  z4:=sizeOf4
  v4:=zeroValue4
  t5:=underlying5
  a5:=isAgg5
  z5:=sizeOf5
  v5:=zeroValue5
  t9:=underlying9
  a9:=isAgg9
  z9:=sizeOf9
  v9:=zeroValue9
  t20:=underlying20
  a20:=isAgg20
  z20:=sizeOf20
  v20:=zeroValue20
  t37:=underlying169
  a37:=isAgg169
  z37:=sizeOf169
  v37:=zeroValue169
  t46:=underlying191
  a46:=isAgg191
  z46:=sizeOf191
  v46:=zeroValue191
  t51:=underlying218
  a51:=isAgg218
  z51:=sizeOf218
  v51:=zeroValue218
  t53:=underlying188
  a53:=isAgg188
  z53:=sizeOf188
  v53:=zeroValue188
  t171:=underlying210
  a171:=isAgg210
  z171:=sizeOf210
  v171:=zeroValue210
  t173:=underlying213
  a173:=isAgg213
  z173:=sizeOf213
  v173:=zeroValue213
  t212:=underlying217
  a212:=isAgg217
  z212:=sizeOf217
  v212:=zeroValue217
  t213:=underlying219
  a213:=isAgg219
  z213:=sizeOf219
  t232:=underlying224
  a232:=isAgg224
  z232:=sizeOf224
  v232:=zeroValue224
  t233:=underlying225
  a233:=isAgg225
  z233:=sizeOf225
  v233:=zeroValue225
  g17:=by kernel_rfl
  g18:=by kernel_rfl
  g19:=by kernel_rfl
  i0:=by kernel_rfl
  i2:=by kernel_rfl
  i3:=by kernel_rfl
  i4:=by kernel_rfl
  i5:=by kernel_rfl
  i9:=by kernel_rfl
  i20:=by kernel_rfl
  i37:=by kernel_rfl
  i46:=by kernel_rfl
  i51:=by kernel_rfl
  i53:=by kernel_rfl
  i171:=by kernel_rfl
  i173:=by kernel_rfl
  i212:=by kernel_rfl
  i232:=by kernel_rfl
  i233:=by kernel_rfl
  m17:=by kernel_rfl
  m18:=by kernel_rfl
  m19:=by kernel_rfl }
open Go.RowKit Go.Sort Go.Lib in
theorem Tryz.strconv_Itoa (n : Int) (h0 : -9223372036854775808 ≤ n) (h1 : n ≤ 9223372036854775807) (w : World) (htab : Lib.TabIs Tryz.prog w "internal/strconv.uint64pow10" .u64 Lib.pow10Tab) :
 Calls prog 101 #[.int .i64 n] w λe w'=>e = .returned (.string ⟨(Lib.itoa n).toArray⟩)/\∃ k os,w'=grow (w.drewN k) os:=Any.strconv_Itoa Tryz.laysM171 n h0 h1 w htab
def Tryz.laysC172_ren:Go.Shelf.Ren:=⟨fun|172=>49|244=>62|245=>63|247=>87|279=>88|280=>89|281=>90|282=>91|287=>104|316=>105|171=>101|205=>106|321=>115|322=>116|243=>112|246=>119|283=>123|284=>124|285=>125|286=>126|129=>129|317=>128|318=>130|319=>131|320=>132|337=>135|338=>136|n=>n,fun|9=>9|3=>3|75=>106|76=>107|4=>4|5=>5|167=>168|37=>169|0=>0|85=>170|2=>2|168=>172|53=>188|175=>189|46=>191|210=>193|127=>200|145=>203|143=>201|21=>21|171=>210|173=>213|212=>217|51=>218|20=>20|213=>219|232=>224|233=>225|80=>226|n=>n,fun|15=>0|16=>1|17=>4|18=>5|19=>6|n=>n⟩
theorem Tryz.laysC172:Go.Proofs.LaysC.n172 prog Tryz.laysC172_ren:={
  mixed:=by kernel_rfl
  f129:=func129.trans (congrArg some (by kernel_rfl))
  f171:=func101.trans (congrArg some (by kernel_rfl))
  f172:=func49.trans (congrArg some (by kernel_rfl))
  f205:=func106.trans (congrArg some (by kernel_rfl))
  f243:=func112.trans (congrArg some (by kernel_rfl))
  f244:=func62.trans (congrArg some (by kernel_rfl))
  f245:=func63.trans (congrArg some (by kernel_rfl))
  f246:=func119.trans (congrArg some (by kernel_rfl))
  f247:=func87.trans (congrArg some (by kernel_rfl))
  f279:=func88.trans (congrArg some (by kernel_rfl))
  f280:=func89.trans (congrArg some (by kernel_rfl))
  f281:=func90.trans (congrArg some (by kernel_rfl))
  f282:=func91.trans (congrArg some (by kernel_rfl))
  f283:=func123.trans (congrArg some (by kernel_rfl))
  f284:=func124.trans (congrArg some (by kernel_rfl))
  f285:=func125.trans (congrArg some (by kernel_rfl))
  f286:=func126.trans (congrArg some (by kernel_rfl))
  f287:=func104.trans (congrArg some (by kernel_rfl))
  f316:=func105.trans (congrArg some (by kernel_rfl))
  f317:=func128.trans (congrArg some (by kernel_rfl))
  f318:=func130.trans (congrArg some (by kernel_rfl))
  f319:=func131.trans (congrArg some (by kernel_rfl))
  f320:=func132.trans (congrArg some (by kernel_rfl))
  f321:=func115.trans (congrArg some (by kernel_rfl))
  f322:=func116.trans (congrArg some (by kernel_rfl))
  f337:=func135.trans (congrArg some (by kernel_rfl))
  f338:=func136.trans (congrArg some (by kernel_rfl))
  t0:=underlying0
  a0:=isAgg0
  z0:=sizeOf0
  v0:=zeroValue0
  t2:=underlying2
  a2:=isAgg2
  z2:=sizeOf2
  v2:=zeroValue2
  t3:=underlying3
  a3:=isAgg3
  z3:=sizeOf3
  v3:=zeroValue3
  t4:=underlying4
  a4:=isAgg4
  z4:=sizeOf4
  v4:=zeroValue4
  t5:=underlying5
  a5:=isAgg5
  z5:=sizeOf5
  v5:=zeroValue5
  t9:=underlying9
  a9:=isAgg9
  z9:=sizeOf9
  v9:=zeroValue9
  t20:=underlying20
  a20:=isAgg20
  z20:=sizeOf20
  v20:=zeroValue20
  t21:=underlying21
  a21:=isAgg21
  z21:=sizeOf21
  v21:=zeroValue21
  t37:=underlying169
  a37:=isAgg169
  z37:=sizeOf169
  v37:=zeroValue169
  t46:=underlying191
  a46:=isAgg191
  z46:=sizeOf191
  v46:=zeroValue191
  t51:=underlying218
  a51:=isAgg218
  z51:=sizeOf218
  v51:=zeroValue218
  t53:=underlying188
  a53:=isAgg188
  z53:=sizeOf188
  v53:=zeroValue188
  t75:=underlying106
  a75:=isAgg106
  z75:=sizeOf106
  v75:=zeroValue106
  t76:=underlying107
  a76:=isAgg107
  z76:=sizeOf107
  v76:=zeroValue107
  t85:=underlying170
  a85:=isAgg170
  z85:=sizeOf170
  v85:=zeroValue170
  t127:=underlying200
  a127:=isAgg200
  z127:=sizeOf200
  v127:=zeroValue200
  t143:=underlying201
  a143:=isAgg201
  z143:=sizeOf201
  v143:=zeroValue201
  t145:=underlying203
  a145:=isAgg203
  z145:=sizeOf203
  v145:=zeroValue203
  t167:=underlying168
  a167:=isAgg168
  z167:=sizeOf168
  v167:=zeroValue168
  t168:=underlying172
  a168:=isAgg172
  z168:=sizeOf172
  v168:=zeroValue172
  t171:=underlying210
  a171:=isAgg210
  z171:=sizeOf210
  v171:=zeroValue210
  t173:=underlying213
  a173:=isAgg213
  z173:=sizeOf213
  v173:=zeroValue213
  t175:=underlying189
  a175:=isAgg189
  z175:=sizeOf189
  v175:=zeroValue189
  t210:=underlying193
  a210:=isAgg193
  z210:=sizeOf193
  v210:=zeroValue193
  t212:=underlying217
  a212:=isAgg217
  z212:=sizeOf217
  v212:=zeroValue217
  t213:=underlying219
  a213:=isAgg219
  z213:=sizeOf219
  t232:=underlying224
  a232:=isAgg224
  z232:=sizeOf224
  v232:=zeroValue224
  t233:=underlying225
  a233:=isAgg225
  z233:=sizeOf225
  v233:=zeroValue225
  g15:=by kernel_rfl
  g16:=by kernel_rfl
  g17:=by kernel_rfl
  g18:=by kernel_rfl
  g19:=by kernel_rfl
  t80:=underlying226
  a80:=isAgg226
  z80:=sizeOf226
  v80:=zeroValue226
  i0:=by kernel_rfl
  i2:=by kernel_rfl
  i3:=by kernel_rfl
  i4:=by kernel_rfl
  i5:=by kernel_rfl
  i9:=by kernel_rfl
  i20:=by kernel_rfl
  i21:=by kernel_rfl
  i37:=by kernel_rfl
  i46:=by kernel_rfl
  i51:=by kernel_rfl
  i53:=by kernel_rfl
  i75:=by kernel_rfl
  i76:=by kernel_rfl
  i80:=by kernel_rfl
  i85:=by kernel_rfl
  i127:=by kernel_rfl
  i143:=by kernel_rfl
  i145:=by kernel_rfl
  i167:=by kernel_rfl
  i168:=by kernel_rfl
  i171:=by kernel_rfl
  i173:=by kernel_rfl
  i175:=by kernel_rfl
  i210:=by kernel_rfl
  i212:=by kernel_rfl
  i232:=by kernel_rfl
  i233:=by kernel_rfl
  m15:=by kernel_rfl
  m16:=by kernel_rfl
  m17:=by kernel_rfl
  m18:=by kernel_rfl
  m19:=by kernel_rfl
  c0:=by kernel_rfl
  c2:=by kernel_rfl
  c3:=by kernel_rfl
  c4:=by kernel_rfl
  c5:=by kernel_rfl
  c9:=by kernel_rfl
  c20:=by kernel_rfl
  c21:=by kernel_rfl
  c37:=by kernel_rfl
  c46:=by kernel_rfl
  c51:=by kernel_rfl
  c53:=by kernel_rfl
  c75:=by kernel_rfl
  c76:=by kernel_rfl
  c80:=by kernel_rfl
  c85:=by kernel_rfl
  c127:=by kernel_rfl
  c143:=by kernel_rfl
  c145:=by kernel_rfl
  c167:=by kernel_rfl
  c168:=by kernel_rfl
  c171:=by kernel_rfl
  c173:=by kernel_rfl
  c175:=by kernel_rfl
  c210:=by kernel_rfl
  c212:=by kernel_rfl
  c213:=by kernel_rfl
  c232:=by kernel_rfl
  c233:=by kernel_rfl }
open Go.RowKit in
theorem Tryz.strconv_Atoi_ok(s:ByteArray)(hmax:s.size<=9223372036854775806)(v:Int)(h:Lib.atoiAll s.data.toList = .ok v)(w:World) :
 Calls prog 49 #[.string s] w λe w'=>e = .returned (.tuple #[.int .i64 v,.nilIface])/\(w'=w∨∃ t,w'=Lib.bytesWorld w 5 t):=Any.strconv_Atoi_ok Tryz.laysC172 s hmax v h w
open Go.RowKit in
theorem Tryz.strconv_Atoi_syntax(s:ByteArray)(hlim:s.size<=281474976710656)(h:∀ v,Lib.atoiAll s.data.toList≠.ok v)(h':Lib.atoiAll s.data.toList≠.range)(ev:Value)(w:World)(hv:w.cell? ⟨0,0,none⟩=some ev)(hev:ev = .nilIface∨∃ te pe,ev = .iface te pe) :
 Calls prog 49 #[.string s] w λe w'=>∃ N,e = .returned (.tuple #[.int .i64 (0),.iface 172 (.pointer (some ⟨N,0,none⟩))])/\w.heap.size<=N/\w'.heap[N]? = some (.cells #[.string ⟨#[65,116,111,105]⟩,.string s,ev] 193 (0,0))/\Below w.heap.size w w':=by
 rcases hh:Lib.atoiAll s.data.toList with v|_|_
 . exact absurd hh (h v)
 . exact Any.strconv_Atoi_syntax Tryz.laysC172 s hlim hh ev w hv hev
 . exact absurd hh h'
open Go.RowKit in
theorem Tryz.strconv_Atoi_range(s:ByteArray)(hlim:s.size<=281474976710656)(h:Lib.atoiAll s.data.toList = .range)(ev:Value)(w:World)(hv:w.cell? ⟨1,0,none⟩=some ev)(hev:ev = .nilIface∨∃ te pe,ev = .iface te pe) :
 Calls prog 49 #[.string s] w λe w'=>∃ N,e = .returned (.tuple #[.int .i64 (Lib.atoiSat s.data.toList),.iface 172 (.pointer (some ⟨N,0,none⟩))])/\w.heap.size<=N/\w'.heap[N]? = some (.cells #[.string ⟨#[65,116,111,105]⟩,.string s,ev] 193 (0,0))/\Below w.heap.size w w':=Any.strconv_Atoi_range Tryz.laysC172 s hlim h ev w hv hev
def Tryz.lays109_ren:Go.Shelf.Ren:=⟨fun|109=>100|n=>n,fun|31=>80|9=>9|3=>3|0=>0|4=>4|n=>n,fun|n=>n⟩
theorem Tryz.lays109:Go.Proofs.Lays.n109 prog Tryz.lays109_ren:={
  mixed:=by kernel_rfl
  f109:=func100.trans (congrArg some (by kernel_rfl))
  t0:=underlying0
  a0:=isAgg0
  z0:=sizeOf0
  v0:=zeroValue0
  t3:=underlying3
  a3:=isAgg3
  z3:=sizeOf3
  v3:=zeroValue3
  t4:=underlying4
  a4:=isAgg4
  z4:=sizeOf4
  v4:=zeroValue4
  t9:=underlying9
  a9:=isAgg9
  z9:=sizeOf9
  v9:=zeroValue9
  t31:=underlying80
  a31:=isAgg80
  z31:=sizeOf80
  v31:=zeroValue80 }
open Go.Lib in
theorem Tryz.slices_Index_string(b off n c:Nat)(zs:List ByteArray)(x:ByteArray)(w:World)(hz:n<=zs.length)(hbig:n<=9223372036854775807)(hc:∀ j,j < zs.length->w.cell? ⟨b,off+j,none⟩=some (.string (zs.getD j ByteArray.empty))) :
 Calls prog 100 #[.slice (some ⟨b,off,none⟩) n c,.string x] w λe w'=>e = .returned (.int .i64 (Lib.idxOfS (zs.take n) x))/\w'=w:=Any.slices_Index_string Tryz.lays109 b off n c zs x w hz hbig hc
open Go.Lib in
theorem Tryz.slices_Index_string_empty(a:Option Addr)(c:Nat)(x:ByteArray)(w:World) :
 Calls prog 100 #[.slice a 0 c,.string x] w λe w'=>e = .returned (.int .i64 (Lib.idxOfS [] x))/\w'=w:=Any.slices_Index_string_empty Tryz.lays109 a c x w
def Tryz.lays110_ren:Go.Shelf.Ren:=⟨fun|110=>84|109=>100|n=>n,fun|31=>80|9=>9|4=>4|3=>3|0=>0|n=>n,fun|n=>n⟩
theorem Tryz.lays110:Go.Proofs.Lays.n110 prog Tryz.lays110_ren:={
  mixed:=by kernel_rfl
  f109:=func100.trans (congrArg some (by kernel_rfl))
  f110:=func84.trans (congrArg some (by kernel_rfl))
  t0:=underlying0
  a0:=isAgg0
  z0:=sizeOf0
  v0:=zeroValue0
  t3:=underlying3
  a3:=isAgg3
  z3:=sizeOf3
  v3:=zeroValue3
  t4:=underlying4
  a4:=isAgg4
  z4:=sizeOf4
  v4:=zeroValue4
  t9:=underlying9
  a9:=isAgg9
  z9:=sizeOf9
  v9:=zeroValue9
  t31:=underlying80
  a31:=isAgg80
  z31:=sizeOf80
  v31:=zeroValue80 }
open Go.Lib in
theorem Tryz.slices_Contains_string(b off n c:Nat)(zs:List ByteArray)(x:ByteArray)(w:World)(hz:n<=zs.length)(hbig:n<=9223372036854775807)(hc:∀ j,j < zs.length->w.cell? ⟨b,off+j,none⟩=some (.string (zs.getD j ByteArray.empty))) :
 Calls prog 84 #[.slice (some ⟨b,off,none⟩) n c,.string x] w λe w'=>e = .returned (.bool (Lib.containsS (zs.take n) x))/\w'=w:=Any.slices_Contains_string Tryz.lays110 b off n c zs x w hz hbig hc
open Go.Lib in
theorem Tryz.slices_Contains_string_empty(a:Option Addr)(c:Nat)(x:ByteArray)(w:World) :
 Calls prog 84 #[.slice a 0 c,.string x] w λe w'=>e = .returned (.bool false)/\w'=w:=Any.slices_Contains_string_empty Tryz.lays110 a c x w
def Tryz.laysNm217_ren:Go.Shelf.Ren:=⟨fun|17=>99|n=>n,fun|24=>80|9=>9|3=>3|4=>4|0=>0|n=>n,fun|n=>n⟩
theorem Tryz.laysNm217:Go.Proofs.Lays2.n17 prog Tryz.laysNm217_ren:={
  mixed:=by kernel_rfl
  f17:=func99.trans (congrArg some (by kernel_rfl))
  t0:=underlying0
  a0:=isAgg0
  z0:=sizeOf0
  v0:=zeroValue0
  t3:=underlying3
  a3:=isAgg3
  z3:=sizeOf3
  v3:=zeroValue3
  t4:=underlying4
  a4:=isAgg4
  z4:=sizeOf4
  v4:=zeroValue4
  t9:=underlying9
  a9:=isAgg9
  z9:=sizeOf9
  v9:=zeroValue9
  t24:=underlying80
  a24:=isAgg80
  z24:=sizeOf80
  v24:=zeroValue80 }
open Go.RowKit Go.Lib Go.Sort in
theorem Tryz.slices_Reverse_string_empty(a:Option Addr)(cap:Nat)(w:World) :
 Calls prog 99 #[.slice a 0 cap] w λe w'=>e = .returned (.tuple #[])/\w'=w:=Any.slices_Reverse_string_empty Tryz.laysNm217 a cap w
def Tryz.laysNm216_ren:Go.Shelf.Ren:=⟨fun|16=>98|n=>n,fun|24=>80|9=>9|4=>4|n=>n,fun|n=>n⟩
theorem Tryz.laysNm216:Go.Proofs.Lays2.n16 prog Tryz.laysNm216_ren:={
  mixed:=by kernel_rfl
  f16:=func98.trans (congrArg some (by kernel_rfl))
  t4:=underlying4
  a4:=isAgg4
  z4:=sizeOf4
  v4:=zeroValue4
  t9:=underlying9
  a9:=isAgg9
  z9:=sizeOf9
  v9:=zeroValue9
  t24:=underlying80
  a24:=isAgg80
  z24:=sizeOf80
  v24:=zeroValue80
  i9:=by kernel_rfl }
open Go.RowKit Go.Lib in
theorem Tryz.slices_Clone_string(b off n c:Nat)(zs:List ByteArray)(w:World)(hz:n<=zs.length)(hbig:n * 16<=140737488355328)(hc:∀ j,j < zs.length->w.cell? ⟨b,off+j,none⟩=some (.string (zs.getD j ByteArray.empty))) :
 Calls prog 98 #[.slice (some ⟨b,off,none⟩) n c] w λe w'=>∃ v',e = .returned v'/\w'.ownsRow w.heap.size 9 1 v' n ((zs.take n).map (Value.string))/\v'≠.slice none 0 0/\Below w.heap.size w w':=Any.slices_Clone_string Tryz.laysNm216 b off n c zs w hz hbig hc
open Go.RowKit Go.Lib in
theorem Tryz.slices_Clone_string_nil(n c:Nat)(w:World) :
 Calls prog 98 #[.slice none n c] w λe w'=>e = .returned (.slice none 0 0)/\w'=w:=Any.slices_Clone_string_nil Tryz.laysNm216 n c w
open Go.RowKit Go.Lib in
theorem Tryz.slices_Clone_string_zero(a:Addr)(c:Nat)(w:World) :
 Calls prog 98 #[.slice (some a) 0 c] w λe w'=>∃ v',e = .returned v'/\w'.ownsRow w.heap.size 9 1 v' 0 []/\v'≠.slice none 0 0/\Below w.heap.size w w':=Any.slices_Clone_string_zero Tryz.laysNm216 a c w
open Go.RowKit Go.Lib Go.Sort in
theorem Tryz.slices_Reverse_string_cells(b off n c:Nat)(Sx:Nat->ByteArray)(w:World)(hbig:n<=9223372036854775807)(hc:∀ i,i < n->w.cell? ⟨b,off+i,none⟩=some (.string (Sx i)))(hf:∀ j,j < n->w.frozen? ⟨b,off+j,none⟩=false) :
 Calls prog 99 #[.slice (some ⟨b,off,none⟩) n c] w λe w'=>e = .returned (.tuple #[])/\∃ q,w'=(w.drewN q).setCells b off ((Lib.strsOf Sx n).reverse.map encStr):=Any.slices_Reverse_string_cells Tryz.laysNm217 b off n c Sx w hbig hc hf
end Go.Proofs
namespace Go.Proofs.YtpkaiodmbicjiaaGreatDoor
open Go.Proofs.Tryz
open Go.Lx Go.RowKit
theorem fU{w:World}{b off:Nat}{ss:List ByteArray}(h:CellsAt w b off (ss.map .string))(j:Nat)(hj:j < ss.length):w.cell? ⟨b,off+j,none⟩=some (.string (ss.getD j ByteArray.empty)):=by
 refine h j _ ?_;rw[List.getElem?_map,Qa hj,List.getD_eq_getElem?_getD,Qa hj];rfl
theorem vOA{w:World}{v:Value}{ss:List ByteArray}(hv:TextsV w v ss)(hn:ss.length<=1000000):Calls prog 98 #[v] w λe w'=>∃ u,e = .returned u/\w'.ownsRow w.heap.size 9 1 u ss.length (ss.map .string)/\Under w w':=by
 obtain⟨p,c,rfl,h1,h2,h3⟩:=hv
 cases p with
 | none =>
   have hl:ss=[]:=Classical.byContradiction λh=>by
    obtain⟨b,off,e,_⟩:=h3 (λe=>h (by simpa using e))
    cases e
   subst hl;refine(Tryz.slices_Clone_string_nil _ c w).mono ?_;rintro e w' ⟨rfl,rfl⟩;exact⟨_,rfl,World.ownsRow_nil _ _ _ _,Qu _⟩
 | some a =>
   by_cases hl:ss=[]
   . subst hl;refine(Tryz.slices_Clone_string_zero a c w).mono ?_;rintro e w' ⟨v',rfl,h4,_,h5⟩;exact⟨v',rfl,h4,qP h5⟩
   . obtain⟨b,off,e,hb,hc⟩:=h3 (λe=>hl (by simpa using e))
     cases e;refine(Tryz.slices_Clone_string b off ss.length c ss w (Qd _) (by omega) (fU hc)).mono ?_;rintro e w' ⟨v',rfl,h4,_,h5⟩;rw[List.take_length]at h4;exact⟨v',rfl,h4,qP h5⟩
theorem wSA{w:World}{v:Value}{ss:List ByteArray}(x:ByteArray)(hv:TextsV w v ss)(hn:ss.length<=1000000):Calls prog 100 #[v,.string x] w λe w'=>e = .returned (.int .i64 (Lib.idxOfS ss x))/\w'=w:=by
 obtain⟨p,c,rfl,h1,h2,h3⟩:=hv;by_cases hl:ss=[]
 . subst hl;exact Tryz.slices_Index_string_empty p c x w
 . obtain⟨b,off,rfl,hb,hc⟩:=h3 (λe=>hl (by simpa using e));have:=Tryz.slices_Index_string b off ss.length c ss x w (Qd _) (by omega) (fU hc);rw[List.take_length]at this;exact this
theorem jQ{w:World}{v:Value}{ss:List ByteArray}(x:ByteArray)(hv:TextsV w v ss)(hn:ss.length<=1000000):Calls prog 84 #[v,.string x] w λe w'=>e = .returned (.bool (jK ss x))/\w'=w:=by
 obtain⟨p,c,rfl,h1,h2,h3⟩:=hv;by_cases hl:ss=[]
 . subst hl;exact Tryz.slices_Contains_string_empty p c x w
 . obtain⟨b,off,rfl,hb,hc⟩:=h3 (λe=>hl (by simpa using e));have:=Tryz.slices_Contains_string b off ss.length c ss x w (Qd _) (by omega) (fU hc);rw[List.take_length,sCA]at this;exact this
theorem nIA{W w:World}{v:Value}{base:Nat}{ss:List ByteArray}(hr:w.ownsRow base 9 1 v ss.length (ss.map .string))(hn:ss.length<=1000000)(hb:W.heap.size<=base)(hU:Under W w) :
 Calls prog 99 #[v] w λe w'=>e = .returned (.tuple #[])/\w'.ownsRow base 9 1 v ss.length (ss.reverse.map .string)/\Under W w':=by
 by_cases hl:ss=[]
 . subst hl;have hv:∃ a c,v = .slice a 0 c:=by
    rcases hr.2 with⟨rfl,_⟩|⟨g,c,cur,rfl,_⟩
    . exact⟨_,_,rfl⟩
    . exact⟨_,_,rfl⟩
   obtain⟨a,c,rfl⟩:=hv;refine(Tryz.slices_Reverse_string_empty a c w).mono ?_;rintro e w' ⟨rfl,rfl⟩;exact⟨rfl,hr,hU⟩
 . have hpos:0 < ss.length:=List.length_pos_iff.2 hl;obtain⟨g,c,rfl,hg,hgb,hgl,_,_⟩:=yE hr hpos;refine(Tryz.slices_Reverse_string_cells g 0 ss.length c (λi=>ss.getD i ByteArray.empty) w (by omega) ?_ ?_).mono ?_
   . intro i hi;rw[Nat.zero_add];exact rD hr rfl (by rw[List.getElem?_map,Qa hi,List.getD_eq_getElem?_getD,Qa hi];rfl)
   . intro j _;rw[Nat.zero_add];exact mLA hr rfl j
   . rintro e w' ⟨rfl,q,rfl⟩;have hU1:Under w (w.drewN q):=iB (Qu _) q;have hs:(Lib.strsOf (λi=>ss.getD i ByteArray.empty) ss.length).reverse.map Proofs.encStr=ss.reverse.map Value.string:=by
      rw[List.map_reverse,List.map_reverse];congr 1
      apply List.ext_getElem
      . simp[Lib.strsOf]
      . intro j h1 h2;simp at h2;simp[Lib.strsOf,Proofs.encStr,List.getD_eq_getElem?_getD,Qa h2]
     rw[hs];have h4:=wY (g:=g) rfl (ss.reverse.map Value.string) 0 _ _ (uA hr hU1) (by simp);rw[List.take_zero,List.nil_append,List.drop_eq_nil_of_le (by simp),List.append_nil]at h4;exact⟨rfl,h4,vT (by omega) _ _ _ (hU.trans hU1)⟩
end Go.Proofs.YtpkaiodmbicjiaaGreatDoor
