/- Part 21 of what the proof rests on. -/
import Derived.WalkKit
import Derived.RegionTactic
import Derived.LoopTactic
import Derived.Conc.LoneCalls
import Derived.Test.YtlnlpdephijcoaaGreatDoorChecked
import Derived.KernelRfl
import Derived.Test.YtlnlpdephijcoaaGreatDoorL13
import Derived.Test.YtlnlpdephijcoaaGreatDoorL20
set_option linter.unusedSimpArgs false
set_option linter.unusedVariables false
set_option maxRecDepth 100000
set_option maxHeartbeats 4000000
namespace Go.Proofs.YtlnlpdephijcoaaGreatDoor
open Go.Conc Go.Lx
structure Tok where
 kind:Int
 at_:Nat
 text:ByteArray
def gN(t:Tok):Value:=.agg (gB t.kind t.at_ t.text 0)
def fG : List Tok → List Value
  | []=>[]
  | t::l=>.int .i64 t.kind :: .int .i64 (t.at_:Int) :: .string t.text::fG l
theorem qJ(l:List Tok)(t:Tok):fG (l++[t])=fG l++[.int .i64 t.kind,.int .i64 (t.at_:Int),.string t.text]:=by
 induction l with
 | nil=>rfl
 | cons x l ih=>simp[fG,ih]
def dCA : List Tok → List MAct
  | []=>[]
  | t::l=>.recv (gN t) :: .box::dCA l
theorem mKA(l:List Tok):recvs (dCA l)=l.map gN:=by
 induction l with
 | nil=>rfl
 | cons x l ih=>simp[dCA,recvs,ih]
def bLex:Frame:=base 73
noncomputable def oU:List Item:=[.inLoop xD,.inBlock 0,.code lexEnd]
def zC(q:Nat):List Deferred:=[cK q #[171] 0 #[false]]
def rEA(s:ByteArray)(B c q:Nat)(cs:List Frame)(w0:World)(all:List Tok)(g:Goroutine)(w:World):Prop :=
 ∃ o v J,g=G (bLex.at ⟨(rD s c q v J).setIfInBounds 19 (.tuple #[vM,.bool false]),zC q⟩ (.inRegion pK [1] :: .code (.seq (rA (dA xD)) (.block 1 (.seq (.region 9 lCA false) (.seq (rA (dA vE)) (dA (dA vE))))))::oU)) cs∧MX ⟨B,c⟩ [] w0 v all.length (fG all) o w
section
variable {s : ByteArray} {B c q : Nat} {cs : List Frame} {w0 : World} {all : List Tok}
theorem uMA:∀(l done:List Tok),done++l=all→all.length≤1000000 →
 ∃ m,∀ o J v w,MX ⟨B,c⟩ [] w0 v done.length (fG done) o w →
  GoM (shared B c q (rEA s B c q cs w0 all)) (dCA l) o m (G (bLex.at ⟨rD s c q v J,zC q⟩ (.code xD::oU)) cs) w
 | [], done, hall, hlen => by
   refine⟨2,fun o J v w hF=>?_⟩;rw[gAA];refine vD terms (gK terms ?_);intro w₁ hR;have hF1:=MH.rely hF hR;refine⟨rfl,kMA (b:=bLex) s c q J (by decide) w₁,o,v,J,xMA s c q vM false J,?_⟩;have hall:done=all:=by simpa using hall
   rw[← hall];exact hF1
 | t :: l, done, hall, hlen => by
   obtain⟨m',ih⟩:=uMA l (done++[t]) (by simpa using hall) hlen;have hdl:done.length≤1000000:=by
    have:done.length≤all.length:=by rw[← hall];simp
    omega
   refine⟨2,fun o J v w hF=>?_⟩;rw[gAA];refine vD terms (gK terms ?_);intro w₁ hR;have hF1:=MH.rely hF hR;refine⟨rfl,kMA (b:=bLex) s c q J (by decide) w₁,200,?_⟩
   show Goes Tryz.prog true (Rely ⟨B,c⟩ T0 o) (Lx.Does ⟨B,c⟩ T0 o) _ 200 ((G (bLex.at ⟨rD s c q v J,zC q⟩ (.inRegion pK [0,1]::_)) cs).finishComm Tryz.prog #[rcase c vM] (.recv true) 0 (gN t) true) w₁
   rw[xMA];refine iAB s c q (gN t) J rfl (by decide) w₁ hF1 fun J w₂ hF2=>?_
   obtain⟨es,hst,hes⟩:=v7A (d:=⟨B,c⟩) (b:=bLex) (v:=v) (df:=zC q) (kk:=.code (.seq (rA (dA vE)) (dA (dA vE))) :: .inBlock 1::oU) (cs:=cs) s c q (gN t) J (by decide) w₂;have hb:=hF2.boxed (tb:=176) (gB 0 0 ⟨#[]⟩ 0);have hv:v.ownBlock≠some w₂.heap.size:=fun h=>by
    have:=(hF2.own.lt _ h).2;omega
   refine⟨rfl,_,_,es,hst,⟨rfl,rfl,rfl,_,_,qD _ _⟩,hes,m'+300,?_⟩;refine Goes.mono (jQ (m:=m'+250) (k2A s t.text c q t.at_ t.kind 0 J hv _ hb) rfl (by decide) ?_) (by omega);rintro e a' w' h
   cases e with
   | normal =>
     obtain⟨J',rfl,hF'⟩:=h;refine Goes.mono (vD terms (fE (m:=m'+120) (j6A s t.text c q t.at_ t.kind J' w' hF') rfl (by decide) ?_)) (by omega);rintro e a' w' h
     cases e with
     | normal =>
       obtain⟨J',rfl,hF'⟩:=h;refine Goes.mono (fE (m:=m'+2) (t0A s t.text c q t.at_ t.kind J' hdl w' hF') rfl (by decide) ?_) (by omega);rintro e a' w' h
       cases e with
       | normal =>
         obtain⟨v',J',rfl,hF'⟩:=h;refine tY terms (yT terms (ih _ J' v' w' ?_));rw[qJ,List.length_append];exact hF'
       | _=>exact h.elim
     | _=>exact h.elim
   | _=>exact h.elim
def wJ(s:ByteArray)(c q:Nat)(J:Nat→Value):Array Value :=
 #[.string s, J 1, J 2, J 3, J 4, .chan (some c), .chan (some q), J 7, J 8, J 9, J 10, J 11, J 12, J 13, J 14, .string s, .chan (some c), .chan (some q), J 18, J 19, J 20, J 21, J 22, J 23, J 24, J 25, J 26, J 27, J 28, J 29, J 30, J 31, J 32, J 33, J 34, J 35]
def mX(s:ByteArray)(c q:Nat)(J:Nat→Value):Array Value :=
 #[.string s, J 1, J 2, J 3, J 4, .chan (some c), .chan (some q), .slice none 0 0, J 8, J 9, J 10, J 11, J 12, J 13, J 14, J 15, J 16, J 17, J 18, J 19, J 20, J 21, J 22, J 23, J 24, J 25, J 26, J 27, J 28, J 29, J 30, J 31, J 32, J 33, J 34, J 35]
theorem nUA{d:Deal}{df:List Deferred}{o:Option Nat}(J:Nat→Value)(w:World)(hF:MX d [] w0 (.slice none 0 0) 0 [] o w) :
 Code.wpC Tryz.prog true (Rely d T0 o) (Lx.Does d T0 o) 73 (rA nE) 100
   (Exit.then (fun a' w'=>∃ J',a'=⟨mX s c q J',df⟩∧MX d [] w0 (.slice none 0 0) 0 [] o w') (fun _ _ _=>False)) ⟨wJ s c q J,df⟩ w:=by
 unfold nE rE pE;simp only[Tryz.f73,Option.getD_some,rA,dA,wJ,mX];co_apply wpC_more
 · co_reg terms
   co_op MH.rely hF (co_quiet terms);co_apply opsC_nil terms;co_then;exact nA (by rfl) hF
 · decide
theorem iNA{d:Deal}{df:List Deferred}{o:Option Nat}(J:Nat→Value)(w:World)(hF:MX d [] w0 (.slice none 0 0) 0 [] o w) :
 Code.wpC Tryz.prog true (Rely d T0 o) (Lx.Does d T0 o) 73 (rA tJ) 100
   (Exit.then (fun a' w'=>∃ J',a'=⟨rD s c q (.slice none 0 0) J',df⟩∧MX d [] w0 (.slice none 0 0) 0 [] o w') (fun _ _ _=>False)) ⟨mX s c q J,df⟩ w:=by
 unfold tJ nE rE pE;simp only[Tryz.f73,Option.getD_some,rA,dA,mX,rD];co_apply wpC_more
 · co_reg terms
   co_op MH.rely hF (co_quiet terms);co_apply opsC_nil terms;co_then;exact nA (by rfl) hF
 · decide
theorem fZA(hlen:all.length≤1000000)(J:Nat→Value)(w:World)(hF:MX ⟨B,c⟩ [] w0 (.slice none 0 0) 0 [] none w) :
 ∃ m,GoM (shared B c q (rEA s B c q cs w0 all)) (dCA all) none m (G (bLex.at ⟨wJ s c q J,zC q⟩ (.inRegion dHA [] :: .code nE::[])) cs) w:=by
 obtain⟨m,hm⟩:=uMA (s:=s) (B:=B) (c:=c) (q:=q) (cs:=cs) (w0:=w0) (all:=all) all [] rfl hlen;refine⟨m+500,?_⟩;refine Goes.mono (jQ (m:=m+400) (fn:=73) (Q:=Exit.then (fun a' w'=>a'=⟨wJ s c q J,zC q⟩∧MX ⟨B,c⟩ [] w0 (.slice none 0 0) 0 [] none w') (fun _ _ _=>False)) (opsC_nil terms ⟨rfl,hF⟩) rfl (by decide) ?_) (by omega);rintro e a' w' h
 cases e with
 | normal =>
   obtain⟨rfl,hF⟩:=h;rw[iLA];refine Goes.mono (vD terms (fE (m:=m+200) (nUA J w' hF) rfl (by decide) ?_)) (by omega);rintro e a' w' h
   cases e with
   | normal =>
     obtain⟨J',rfl,hF⟩:=h;refine Goes.mono (vD terms (vD terms (fE (m:=m+2) (iNA J' w' hF) rfl (by decide) ?_))) (by omega);rintro e a' w' h
     cases e with
     | normal =>
       obtain⟨J',rfl,hF⟩:=h;exact qR terms (nHA terms (hm none J' _ w' hF))
     | _=>exact h.elim
   | _=>exact h.elim
 | _=>exact h.elim
theorem rOA(Fin:Goroutine→World→Prop)(hc:c < B)(hq:q < B)(hcq:c≠q):(shared B c q Fin).Fit:=by
 refine⟨?_,?_,?_,hc,hq,hcq⟩
 · intro ty h0 h1;have h0:ty=174:=h0;subst h0;rcases h1 with h | h | h<;>exact absurd h (by decide)
 · intro h;exact absurd (show 176=174 from h) (by decide)
 · intro h;have h:176=9∨176=41∨176=210:=h;exact absurd h (by decide)
theorem wYA (hs : s.size ≤ 100000) (acts : List SAct) (h : Scans s 0 acts) (hsame : sends acts = all.map gN) (hlen : all.length ≤ 1000000) (hcq : c ≠ q) (J : Nat → Value) (w : World) (h0 : Low ⟨B, c⟩ w0 w)
    (hB:B=w.heap.size) (hc:∃ s r tm,w.heap[c]? = some (.chan 0 #[] false s r tm)) (hq:∃ s r tm,w.heap[q]? = some (.chan 0 #[] false s r tm)) :
    AtGo (shared B c q (rEA s B c q cs w0 all)) (dCA all) acts (G (bLex.at ⟨wJ s c q J,zC q⟩ (.inRegion dHA [3] :: .code nE::[])) cs) w:=by
  have hcl:c < B:=by obtain⟨_,_,_,h⟩:=hc;rw[hB];exact(Array.getElem?_eq_some_iff.1 h).1
  have hql:q < B:=by obtain⟨_,_,_,h⟩:=hq;rw[hB];exact(Array.getElem?_eq_some_iff.1 h).1
  refine ⟨rOA _ hcl hql hcq, rfl, hB, hq, hc, by rw [mKA, hsame], fun e => ?_⟩; have ho : dHA[3]? = some { dst := none, op := .go { callee := .value (.func 104), args := #[.tmp 15, .tmp 16, .tmp 17], argTypes := #[9, 205, 206] }, type := 0, pos := "lexer.go:99", after := #[{ on := 0, ground := .data }, { on := 1, ground := .data }, { on := 2, ground := .data }], guard := none } := by rfl
  have e1 : (⟨wJ s c q J, zC q⟩ : Act).eval (.tmp 15) = .string s := rfl; have e2 : (⟨wJ s c q J, zC q⟩ : Act).eval (.tmp 16) = .chan (some c) := rfl; have e3 : (⟨wJ s c q J, zC q⟩ : Act).eval (.tmp 17) = .chan (some q) := rfl; have e4 : (⟨wJ s c q J, zC q⟩ : Act).eval (.func 104) = .func (.func 104) #[] #[] := rfl; refine ⟨_, _, ?_, fZA hlen J (w.at e) ⟨⟨by simp, by simp, by rw [hB]; exact Nat.le_refl _, by simp⟩, World.ownsRow_nil _ _ _ _, ⟨h0.os, h0.output, h0.size, h0.block⟩, rO, by simp⟩,
    oTA s hs acts h (w.at e) ⟨by simp,by simp,by rw[hB];exact Nat.le_refl _,by simp⟩⟩
  refine(stepG_spawn (P:=Tryz.prog) (d:=tQ s c q) (w':=w.at e) ho (by rfl) (by decide) ?_ rfl).trans ?_
  · unfold execOp;simp[resolve,Deferred.ofValue,e1,e2,e3,e4,tQ]
  · rw [listed_nil]
    · rfl
    · unfold execOp;simp[resolve,Deferred.ofValue,e4]
end
def nH(s:ByteArray)(J:Nat→Value):Array Value:=#[.string s,J 1,J 2,J 3,J 4,J 5,J 6,J 7,J 8,J 9,J 10,J 11,J 12,J 13,J 14,J 15,J 16,J 17,J 18,J 19,J 20,J 21,J 22,J 23,J 24,J 25,J 26,J 27,J 28,J 29,J 30,J 31,J 32,J 33,J 34,J 35]
def yL(s:ByteArray)(c q:Nat)(J:Nat→Value):Array Value:=#[.string s,J 1,J 2,J 3,J 4,.chan (some c),.chan (some q),J 7,J 8,J 9,J 10,J 11,J 12,J 13,J 14,J 15,J 16,J 17,J 18,J 19,J 20,J 21,J 22,J 23,J 24,J 25,J 26,J 27,J 28,J 29,J 30,J 31,J 32,J 33,J 34,J 35]
theorem mPA:pE = .seq (rA pE) (.seq (rA (dA pE)) rE):=by rfl
theorem pPA:rE = .seq (rA rE) (.seq (rA (dA rE)) (.seq (.region 5 dHA false) nE)):=by rfl
def IsF(F:(Nat→Value)→Array Value)(df:List Deferred)(Pw:World→Prop)(a:Act)(w:World):Prop:=(∃ J,a=⟨F J,df⟩)∧Pw w
theorem isF{F:(Nat→Value)→Array Value}{df:List Deferred}{Pw:World→Prop}{A:Array Value}{w:World}(h:A=F fun n=>A.getD n undef)(hp:Pw w):IsF F df Pw ⟨A,df⟩ w:=⟨⟨_,by rw[← h]⟩,hp⟩
theorem wPA{F:(Nat→Value)→Array Value}{df:List Deferred}{Pw:World→Prop}{a:Act}{w:World}(h:a=⟨F fun n=>a.tmps.getD n undef,df⟩)(hp:Pw w):IsF F df Pw a w:=⟨⟨_,h⟩,hp⟩
theorem ySA(s:ByteArray)(J:Nat→Value)(w:World) :
 (rA pE).wp Tryz.prog (Exit.then (IsF (nH s) [] (w = ·)) (fun _ _ _=>False)) ⟨nH s J,[]⟩ w:=by
 unfold pE;simp only[Tryz.f73,Option.getD_some,rA];unfold nH;go_wp2;exact isF (F:=nH s) (by rfl) rfl
theorem iYA(s:ByteArray)(hs:s.size≤20000)(J:Nat→Value)(w:World) :
 (rA (dA pE)).wp Tryz.prog (Exit.then (IsF (nH s) [] (w = ·)) (fun _ _ _=>False)) ⟨nH s J,[]⟩ w:=by
 unfold pE;simp only[Tryz.f73,Option.getD_some,rA,dA];unfold nH;have h1:¬(20000:Int) < s.size:=by omega
 go_wp2;exact isF (F:=nH s) (by rfl) rfl
structure Chans (w0:World) (c q:Nat) (w:World):Prop where
 os:w.os=w0.os
 output:w.output=w0.output
 size:w.heap.size=w0.heap.size+2
 low:∀ b,b < w0.heap.size→w.heap[b]? = w0.heap[b]?
 ne:c≠q
 cl:w0.heap.size≤c
 ql:w0.heap.size≤q
 chan:∃ s r tm,w.heap[c]? = some (.chan 0 #[] false s r tm)
 quit:∃ s r tm,w.heap[q]? = some (.chan 0 #[] false s r tm)
def IsC(s:ByteArray)(df:Nat→List Deferred)(w0:World)(a:Act)(w:World):Prop:=∃ c q,IsF (yL s c q) (df q) (Chans w0 c q) a w
theorem bKA(w:World){c q:Nat}(h:(c=w.heap.size∧q=w.heap.size+1)∨(c=w.heap.size+1∧q=w.heap.size)):Chans w c q ((w.alloc (.chan 0 #[] false 0 0 false)).alloc (.chan 0 #[] false 0 0 false)).drew:=by
 have e0:∀ b,b < w.heap.size→((w.alloc (.chan 0 #[] false 0 0 false)).alloc (.chan 0 #[] false 0 0 false)).drew.heap[b]? = w.heap[b]? := fun b hb=>by
  show((w.alloc (.chan 0 #[] false 0 0 false)).alloc (.chan 0 #[] false 0 0 false)).heap[b]? = _
  rw[qD,qD,Array.getElem?_push_lt (by simp;omega),← Array.getElem?_eq_getElem,Array.getElem?_push_lt hb,← Array.getElem?_eq_getElem]
 have e1:((w.alloc (.chan 0 #[] false 0 0 false)).alloc (.chan 0 #[] false 0 0 false)).drew.heap[w.heap.size]? = some (.chan 0 #[] false 0 0 false):=by
  show((w.alloc (.chan 0 #[] false 0 0 false)).alloc (.chan 0 #[] false 0 0 false)).heap[w.heap.size]? = _
  rw[qD,qD,Array.getElem?_push_lt (by simp),← Array.getElem?_eq_getElem,Array.getElem?_push_size]
 have e2:((w.alloc (.chan 0 #[] false 0 0 false)).alloc (.chan 0 #[] false 0 0 false)).drew.heap[w.heap.size+1]? = some (.chan 0 #[] false 0 0 false):=by
  show((w.alloc (.chan 0 #[] false 0 0 false)).alloc (.chan 0 #[] false 0 0 false)).heap[w.heap.size+1]? = _
  have:w.heap.size+1=(w.heap.push (.chan 0 #[] false 0 0 false)).size:=by simp
  rw[qD,qD,this,Array.getElem?_push_size]
 have e3:((w.alloc (.chan 0 #[] false 0 0 false)).alloc (.chan 0 #[] false 0 0 false)).drew.heap.size=w.heap.size+2:=by
  show((w.alloc (.chan 0 #[] false 0 0 false)).alloc (.chan 0 #[] false 0 0 false)).heap.size=_
  rw[qD,qD];simp
 rcases h with⟨rfl,rfl⟩ | ⟨rfl,rfl⟩
 · exact⟨rfl,rfl,e3,e0,by omega,by omega,by omega,⟨_,_,_,e1⟩,⟨_,_,_,e2⟩⟩
 · exact⟨rfl,rfl,e3,e0,by omega,by omega,by omega,⟨_,_,_,e2⟩,⟨_,_,_,e1⟩⟩
theorem i2A(w:World):(Instr.makeChan 170 (.int .i64 0)).run Tryz.prog w = .ok (.chan (some w.heap.size)) (w.alloc (.chan 0 #[] false 0 0 false)):=by kernel_rfl
theorem r2A(w:World):(Instr.makeChan 171 (.int .i64 0)).run Tryz.prog w = .ok (.chan (some w.heap.size)) (w.alloc (.chan 0 #[] false 0 0 false)):=by kernel_rfl
theorem jUA(s:ByteArray)(J:Nat→Value)(w:World) :
 (rA rE).wp Tryz.prog (Exit.then (IsC s (fun _=>[]) w) (fun _ _ _=>False)) ⟨nH s J,[]⟩ w:=by
 unfold rE pE;simp only[Tryz.f73,Option.getD_some,rA,dA];unfold nH;have h1:=i2A;have h2:=r2A
 go_region
 all_goals
  first
  | exact⟨w.heap.size,w.heap.size+1,wPA (by rfl) (bKA w (.inl ⟨rfl,rfl⟩))⟩
  | exact⟨w.heap.size+1,w.heap.size,wPA (by rfl) (bKA w (.inr ⟨rfl,rfl⟩))⟩
theorem qSA(s:ByteArray)(c q:Nat)(J:Nat→Value)(w:World) :
 (rA (dA rE)).wp Tryz.prog (Exit.then (IsF (yL s c q) (zC q) (w = ·)) (fun _ _ _=>False)) ⟨yL s c q J,[]⟩ w:=by
 unfold rE pE;simp only[Tryz.f73,Option.getD_some,rA,dA];unfold yL;go_wp2;exact wPA (F:=yL s c q) (df:=zC q) (by rfl) rfl
theorem f0A(s:ByteArray)(c q:Nat)(J:Nat→Value)(w:World) :
 wpOps Tryz.prog dHA (Exit.then (IsF (wJ s c q) (zC q) (w = ·)) (fun _ _ _=>False)) [0,1,2] ⟨yL s c q J,zC q⟩ w:=by
 have he:dHA=opsOf (rA (dA (dA rE))):=rfl;rw[he];unfold rE pE;simp only[Tryz.f73,Option.getD_some,rA,dA,opsOf];refine .inl ?_;refine .inl ?_;refine .inl ?_;exact wPA (F:=wJ s c q) (df:=zC q) (by rfl) rfl
def gIA(W:World)(all:List Tok)(r:Value)(w:World):Prop :=
 ∃ v,r = .tuple #[v,.int .i64 0,.int .i64 0]∧w.ownsRow W.heap.size 174 3 v all.length (fG all)∧Under W w
def gQ(v:Value)(J:Nat→Value):Array Value:=#[J 0,J 1,v,.int .i64 0,.int .i64 0,J 5,J 6,J 7,J 8,J 9,J 10,J 11,J 12,J 13,J 14,J 15,J 16,J 17,J 18,J 19,J 20,J 21,J 22,J 23,J 24,J 25,J 26,J 27,J 28,J 29,J 30,J 31,J 32,J 33,J 34,J 35]
def kI(s:ByteArray)(c q:Nat)(v:Value)(J:Nat→Value):Array Value:=#[.string s,J 1,J 2,J 3,J 4,.chan (some c),.chan (some q),v,J 8,J 9,J 10,J 11,J 12,J 13,J 14,J 15,J 16,J 17,J 18,J 19,.bool false,J 21,J 22,J 23,J 24,J 25,J 26,J 27,J 28,J 29,J 30,J 31,J 32,J 33,J 34,J 35]
section
variable {s : ByteArray} {c q : Nat} {v : Value}
theorem hKA{df:List Deferred}(J:Nat→Value)(w:World) :
 wpOps Tryz.prog pK (Exit.then (IsF (kI s c q v) df (w = ·)) (fun _ _ _=>False)) [1] ⟨(rD s c q v J).setIfInBounds 19 (.tuple #[vM,.bool false]),df⟩ w:=by
 have he:pK=opsOf (rA xD):=rfl;rw[he];unfold xD tJ nE rE pE;simp only[Tryz.f73,Option.getD_some,rA,dA,bC,opsOf];refine .inl ?_;exact wPA (F:=kI s c q v) (df:=df) (by rfl) rfl
theorem rXA{df:List Deferred}(J:Nat→Value)(w:World) :
 (rA (dA xD)).wp Tryz.prog (fun e a' w'=>e = .exit 0∧IsF (kI s c q v) df (w = ·) a' w') ⟨kI s c q v J,df⟩ w:=by
 unfold xD tJ nE rE pE;simp only[Tryz.f73,Option.getD_some,rA,dA,bC];unfold kI;go_wp2;exact wPA (F:=kI s c q v) (by rfl) rfl
theorem i4A{df:List Deferred}(J:Nat→Value)(w:World) :
 lexEnd.wp Tryz.prog (fun e a' w'=>e = .ret∧IsF (gQ v) df (w = ·) a' w') ⟨kI s c q v J,df⟩ w:=by
 unfold lexEnd nE rE pE;simp only[Tryz.f73,Option.getD_some,dA];unfold kI;go_wp2;exact wPA (F:=gQ v) (by rfl) rfl
end
theorem xBA{c:Code}{Q:Exit→Act→World→Prop}{a:Act}{W w:World}(hw:w.Alike W)(h:∀ w',w'.Alike W→c.wp Tryz.prog Q a w')(τ:Nat→Question→Nat)(d:Nat):c.wp Tryz.prog Q a (re w τ d):=h _ ⟨hw.1,hw.2.1,hw.2.2⟩
theorem iZ{F:(Nat→Value)→Array Value}{df:List Deferred}{W w:World}(hw:w.Alike W):∀ e a w',Exit.then (IsF F df (w = ·)) (fun _ _ _=>False) e a w'→Exit.then (IsF F df (·.Alike W)) (fun _ _ _=>False) e a w':=by
 intro e a w' h
 cases e with
 | normal=>obtain⟨h1,rfl⟩:=h;exact⟨h1,hw⟩
 | _=>exact h
theorem iR{w:World}{b b':Nat}{e:TypeId}{size n:Nat}{v:Value}{xs:List Value}(h:w.ownsRow b e size v n xs)(hb:b'≤b):w.ownsRow b' e size v n xs:=by
 refine⟨h.1,?_⟩;rcases h.2 with hn | ⟨g,cap,cur,rfl,hg,rest⟩
 · exact .inl hn
 · exact .inr ⟨g,cap,cur,rfl,Nat.le_trans hb hg,rest⟩
theorem sXA(T:Tame Tryz.prog){s:ByteArray}{W w0:World}{c q:Nat}{all:List Tok}(hC:Chans W c q w0)(cs:List Frame)(g:Goroutine)(w:World)(h:rEA s w0.heap.size c q cs w0 all g w) :
 RunG Tryz.prog (fun g' w'=>∃ r fr,g'=G fr cs∧fr.fn=73∧(∀ τ d,fr.leaving Tryz.prog (re w' τ d) (.returned r))∧gIA W all r w') g w:=by
 obtain⟨o,v,J,rfl,hM⟩:=h;have hsz:=hC.size;have hqlt:q < w0.heap.size:=by obtain⟨_,_,_,hq⟩:=hC.quit;exact(Array.getElem?_eq_some_iff.1 hq).1
 have hq:∃ s r tm,w.heap[q]? = some (.chan 0 #[] false s r tm):=by
  obtain⟨s,r,tm,hq⟩:=hC.quit;exact⟨s,r,tm,by rw[hM.low.block q hqlt (Ne.symm hC.ne)];exact hq⟩
 refine RunG.lone T fun τ d=>?_
 obtain⟨a1,w1,⟨⟨J1,rfl⟩,rfl⟩,hs1⟩:=iFA (K:=IsF (kI s c q v) (zC q) (re w τ d = ·)) [1] [] _ _ (hKA (s:=s) (c:=c) (q:=q) (v:=v) (df:=zC q) J (re w τ d)) bLex (.code (.seq (rA (dA xD)) (.block 1 (.seq (.region 9 lCA false) (.seq (rA (dA vE)) (dA (dA vE))))))::oU) cs (by decide);refine⟨_,_,hs1,rfl,RunG.re ?_ τ d⟩;refine RunG.step T (fun w=>step_region_end) (RunG.step T (fun w=>step_seq) ?_);refine aC T (Q:=fun e a' w'=>e = .exit 0∧IsF (kI s c q v) (zC q) (·.Alike w) a' w') (fun τ d=>wp_mono (rXA (s:=s) (c:=c) (q:=q) (v:=v) (df:=zC q) J1 (re w τ d)) ?_) bLex _ cs _ (by decide) ?_
 · rintro e a' w' ⟨rfl,h1,rfl⟩;exact⟨rfl,h1,rfl,rfl,rfl⟩
 rintro e a' w2 ⟨rfl,⟨J2,rfl⟩,hA2⟩;refine⟨[.code lexEnd],by simp[exitTo,oU],?_⟩;refine aC T (Q:=fun e a' w'=>e = .ret∧IsF (gQ v) (zC q) (·.Alike w) a' w') (fun τ d=>wp_mono (i4A (s:=s) (c:=c) (q:=q) (v:=v) (df:=zC q) J2 (re w2 τ d)) ?_) bLex _ cs _ (by decide) ?_
 · rintro e a' w' ⟨rfl,h1,rfl⟩;exact⟨rfl,h1,hA2.1,hA2.2.1,hA2.2.2⟩
 rintro e a' w3 ⟨rfl,⟨J3,rfl⟩,hA3⟩;intro todo;obtain⟨s',r',tm',hq3⟩:=hq;rw[← hA3.1]at hq3;refine RunG.lone T fun τ d=>⟨G { bLex.at ⟨gQ v J3,[]⟩ todo with mode:=.returning } cs,(re w3 τ d).setChan q 0 #[] true s' r' tm',.one ?_,rfl,?_⟩
 · exact step_solo_go rfl (iY (b:=bLex) (w:=re w3 τ d) (ats:=#[171]) (ty:=0) (bs:=#[false]) hq3 (by kernel_rfl))
 · refine RunG.stop fun τ' d' => ⟨.tuple #[v, .int .i64 0, .int .i64 0], _, rfl, rfl, fun τ'' d'' => ⟨rfl, rfl, rfl, _, Tryz.func73, ?_⟩, v, rfl, ?_, ?_⟩
   · show (results Tryz.f73 (gQ v J3)).run Tryz.prog _ = _
     simp[results,Tryz.f73,gQ]
   · have ho : w3.ownsRow W.heap.size 174 3 v all.length (fG all) := by
       have:=iR hM.own (b':=W.heap.size) (by show W.heap.size≤w0.heap.size;omega);unfold World.ownsRow at this ⊢;rw[hA3.1];exact this
     refine⟨ho.1,?_⟩;rcases ho.2 with hn | ⟨gg,cap,cur,rfl,hb,hg,rest⟩
     · exact .inl hn
     · refine .inr ⟨gg, cap, cur, rfl, hb, ?_, rest⟩; have hne : q ≠ gg := by rintro rfl; rw [hq3] at hg; cases hg
       show(w3.setChan q 0 #[] true s' r' tm').heap[gg]? = _
       simp only[World.setChan];rw[Array.getElem?_setIfInBounds_ne hne];exact hg
   · refine ⟨?_, ?_, ?_, fun b hb => ?_⟩
     · show w3.os = W.os
       rw[hA3.2.1,hM.low.os,hC.os]
     · show w3.output = W.output
       rw[hA3.2.2,hM.low.output,hC.output]
     · show W.heap.size ≤ (w3.heap.setIfInBounds q _).size
       have:=hM.low.size;rw[Array.size_setIfInBounds,hA3.1];omega
     · show (w3.heap.setIfInBounds q _)[b]? = _
       have h1:=hC.ql;have h2:=hC.cl;rw[Array.getElem?_setIfInBounds_ne (by omega),hA3.1,hM.low.block b (by show b < w0.heap.size;omega) (by show b≠c;omega),hC.low b hb]
theorem cVA(s:ByteArray):Frame.enter Tryz.prog 73 #[.string s] .normal=bLex.at ⟨nH s (fun _=>undef),[]⟩ [.code pE]:=by
 have hb:Tryz.f73.body=some pE:=rfl;rw[enter_at _ Tryz.func73 hb];simp only[Tryz.ntmps73,List.size_toArray,List.length_cons,List.length_nil,Nat.reduceAdd,Nat.reduceSub,Array.replicate_succ,Array.replicate_zero,List.push_toArray,List.append_toArray,List.nil_append,List.cons_append];rfl
theorem bVA(T:Tame Tryz.prog)(s:ByteArray)(hs:s.size≤20000)(acts:List SAct)(h:Scans s 0 acts)(all:List Tok)(hsame:sends acts=all.map gN)(hlen:all.length≤1000000)(W:World) :
 CallsG Tryz.prog 73 #[.string s] W (gIA W all):=by
 intro cs;rw[cVA,mPA];refine RunG.step T (fun w=>step_seq) ?_;refine aC T (Q:=Exit.then (IsF (nH s) [] (·.Alike W)) (fun _ _ _=>False)) (xBA ⟨rfl,rfl,rfl⟩ fun w' hw'=>wp_mono (ySA s _ w') (iZ hw')) bLex _ cs _ (by decide) ?_;rintro e a' w1 h1
 cases e with
 | normal =>
   obtain⟨⟨J1,rfl⟩,hA1⟩:=h1;refine RunG.step T (fun w=>step_seq) ?_;refine aC T (Q:=Exit.then (IsF (nH s) [] (·.Alike W)) (fun _ _ _=>False)) (xBA hA1 fun w' hw'=>wp_mono (iYA s hs _ w') (iZ hw')) bLex _ cs _ (by decide) ?_;rintro e a' w2 h2
   cases e with
   | normal =>
     obtain⟨⟨J2,rfl⟩,hA2⟩:=h2;rw[pPA];refine RunG.step T (fun w=>step_seq) ?_;refine aC T (Q:=Exit.then (IsC s (fun _=>[]) W) (fun _ _ _=>False)) (xBA hA2 fun w' hw'=>wp_mono (jUA s _ w') ?_) bLex _ cs _ (by decide) ?_
     · intro e a w'' hh
       cases e with
       | normal =>
         obtain⟨c,q,hF,hC⟩:=hh;have hz:w'.heap.size=W.heap.size:=by rw[hw'.1]
         exact⟨c,q,hF,hC.os.trans hw'.2.1,hC.output.trans hw'.2.2,by rw[hC.size,hz],fun b hb=>by rw[hC.low b (by omega),hw'.1],hC.ne,by have:=hC.cl;omega,by have:=hC.ql;omega,hC.chan,hC.quit⟩
       | _=>exact hh
     rintro e a' w3 h3
     cases e with
     | normal =>
       obtain⟨c,q,⟨J3,rfl⟩,hC⟩:=h3;refine RunG.step T (fun w=>step_seq) ?_;refine aC T (Q:=Exit.then (IsF (yL s c q) (zC q) (·.Alike w3)) (fun _ _ _=>False)) (xBA ⟨rfl,rfl,rfl⟩ fun w' hw'=>wp_mono (qSA s c q _ w') (iZ hw')) bLex _ cs _ (by decide) ?_;rintro e a' w4 h4
       cases e with
       | normal =>
         obtain⟨⟨J4,rfl⟩,hA4⟩:=h4;refine RunG.step T (fun w=>step_seq) (RunG.step T (fun w=>step_region) ?_);refine RunG.lone T fun τ d=>?_
         obtain⟨a5,w5,⟨⟨J5,rfl⟩,rfl⟩,hs5⟩:=iFA (K:=IsF (wJ s c q) (zC q) (re w4 τ d = ·)) [0,1,2] [3] _ _ (f0A s c q J4 (re w4 τ d)) bLex [.code nE] cs (by decide);refine⟨_,_,hs5,rfl,RunG.re ?_ τ d⟩;refine RunG.trans (RunG.phase (X:=shared w3.heap.size c q (rEA s w3.heap.size c q cs w3 all)) (ms:=dCA all) (ss:=acts) (fun τ d=>wYA (by omega) acts h hsame hlen hC.ne J5 (re w4 τ d) ⟨hA4.2.1,hA4.2.2,by show w3.heap.size≤w4.heap.size;rw[hA4.1];exact Nat.le_refl _,fun b _ _=>by show w4.heap[b]? = _;rw[hA4.1]⟩ (by show _=w4.heap.size;rw[hA4.1]) (by show ∃ s r tm,w4.heap[c]? = _;rw[hA4.1];exact hC.chan) (by show ∃ s r tm,w4.heap[q]? = _;rw[hA4.1];exact hC.quit)) ?_) fun g' w' hf=>sXA T hC cs g' w' hf
         intro hg g' w' hf;obtain⟨o,v,J,rfl,_⟩:=hf;refine⟨⟨fun i hi=>?_,hg.below,.inl rfl⟩,rfl⟩;simp only[G,Frame.at,oU,List.mem_cons,List.not_mem_nil,or_false]at hi;rcases hi with rfl | rfl | rfl | rfl | rfl<;>trivial
       | _=>exact h4.elim
     | _=>exact h3.elim
   | _=>exact h2.elim
 | _=>exact h1.elim
end Go.Proofs.YtlnlpdephijcoaaGreatDoor
namespace Go.Proofs.YtlnlpdephijcoaaGreatDoor
open Go.Lx
theorem gZA : ∀ args, Ok Tryz.prog ((Extern.ReflectliteType.rows.getD 11 ("", Extern.RuntimeError.nothing)).2 args) := by
 intro args;exact Ok.bind (rG _) fun _=>Ok.pure
theorem kJ{fn:Func}{e:Array Value→Sem Value}{f:FuncId}{g:Func}(h:Tryz.prog.funcs[f]? = some fn)(hg:Tryz.prog.funcs[f]? = some g)(he:Extern.find fn=some e)(hn:(Extern.find g).isNone=true):False:=by
 have:=Option.some.inj (hg.symm.trans h);subst this;rw[he]at hn
 cases hn
theorem kG{fn:Func}{e e':Array Value→Sem Value}{f:FuncId}{g:Func}(h:Tryz.prog.funcs[f]? = some fn)(hg:Tryz.prog.funcs[f]? = some g)(he:Extern.find fn=some e)(hn:Extern.find g=some e'):e=e':=by
 have:=Option.some.inj (hg.symm.trans h);subst this;exact Option.some.inj (he.symm.trans hn)
theorem xB:Tame Tryz.prog:=by
 refine i3A [0,1,160,161,187,188,189,190,191,192,193,194,195,196,197,198,199,200,201,202,203,204,205,206,207,208,209,210,211,212,213,214,215,216] (by kernel_rfl) (by kernel_rfl) (by kernel_rfl) ?_;intro f hf fn e h he args;simp only[List.mem_cons,List.not_mem_nil,or_false]at hf;rcases hf with rfl | rfl | rfl | rfl | rfl | rfl | rfl | rfl | rfl | rfl | rfl | rfl | rfl | rfl | rfl | rfl | rfl | rfl | rfl | rfl | rfl | rfl | rfl | rfl | rfl | rfl | rfl | rfl | rfl | rfl | rfl | rfl | rfl | rfl
 · exact(kJ h Tryz.func0 he (by kernel_rfl)).elim
 · exact(kJ h Tryz.func1 he (by kernel_rfl)).elim
 · rw[kG (e':=Extern.AbiNoEscape.same) h Tryz.func160 he (by kernel_rfl)];exact gYA args
 · rw[kG (e':=Extern.BytealgMakeNoZero.makeNoZero Tryz.f161.params Tryz.f161.resultTypes) h Tryz.func161 he (by kernel_rfl)];exact kCA _ _ args
 · rw[kG (e':=Extern.BytealgIndexByte.indexByte) h Tryz.func187 he (by kernel_rfl)];exact bGA args
 · rw[kG (e':=Extern.RuntimeError.boundsError) h Tryz.func188 he (by kernel_rfl)];exact mBA args
 · rw[kG (e':=Extern.RuntimeError.nothing) h Tryz.func189 he (by kernel_rfl)];exact pI args
 · rw [kG (e' := (Extern.RuntimeError.rows.getD 0 ("", Extern.RuntimeError.nothing)).2) h Tryz.func190 he (by kernel_rfl)]; exact yXA args
 · rw[kG (e':=Extern.RuntimeError.nothing) h Tryz.func191 he (by kernel_rfl)];exact pI args
 · rw [kG (e' := (Extern.RuntimeError.rows.getD 1 ("", Extern.RuntimeError.nothing)).2) h Tryz.func192 he (by kernel_rfl)]; exact dXA args
 · rw[kG (e':=Extern.RuntimeError.nothing) h Tryz.func193 he (by kernel_rfl)];exact pI args
 · rw [kG (e' := (Extern.RuntimeError.rows.getD 2 ("", Extern.RuntimeError.nothing)).2) h Tryz.func194 he (by kernel_rfl)]; exact cZA args
 · rw[kG (e':=Extern.RuntimeError.nothing) h Tryz.func195 he (by kernel_rfl)];exact pI args
 · rw[kG (e':=Extern.RuntimeError.typeAssertionError) h Tryz.func196 he (by kernel_rfl)];exact uR args
 · rw[kG (e':=Extern.RuntimeError.nothing) h Tryz.func197 he (by kernel_rfl)];exact pI args
 · rw [kG (e' := (Extern.RuntimeError.rows.getD 6 ("", Extern.RuntimeError.nothing)).2) h Tryz.func198 he (by kernel_rfl)]; exact b0A args
 · rw[kG (e':=Extern.RuntimeError.nothing) h Tryz.func199 he (by kernel_rfl)];exact pI args
 · exact(kJ h Tryz.func200 he (by kernel_rfl)).elim
 · rw[kG (e':=Extern.RuntimeError.unhashableTypeError) h Tryz.func201 he (by kernel_rfl)];exact lEA args
 · rw[kG (e':=Extern.RuntimeError.nothing) h Tryz.func202 he (by kernel_rfl)];exact pI args
 · exact(kJ h Tryz.func203 he (by kernel_rfl)).elim
 · exact(kJ h Tryz.func204 he (by kernel_rfl)).elim
 · exact(kJ h Tryz.func205 he (by kernel_rfl)).elim
 · exact(kJ h Tryz.func206 he (by kernel_rfl)).elim
 · rw [kG (e' := (Extern.ReflectliteType.rows.getD 11 ("", Extern.RuntimeError.nothing)).2) h Tryz.func207 he (by kernel_rfl)]; exact gZA args
 · exact(kJ h Tryz.func208 he (by kernel_rfl)).elim
 · exact(kJ h Tryz.func209 he (by kernel_rfl)).elim
 · exact(kJ h Tryz.func210 he (by kernel_rfl)).elim
 · exact(kJ h Tryz.func211 he (by kernel_rfl)).elim
 · exact(kJ h Tryz.func212 he (by kernel_rfl)).elim
 · exact(kJ h Tryz.func213 he (by kernel_rfl)).elim
 · exact(kJ h Tryz.func214 he (by kernel_rfl)).elim
 · exact(kJ h Tryz.func215 he (by kernel_rfl)).elim
 · exact(kJ h Tryz.func216 he (by kernel_rfl)).elim
end Go.Proofs.YtlnlpdephijcoaaGreatDoor
