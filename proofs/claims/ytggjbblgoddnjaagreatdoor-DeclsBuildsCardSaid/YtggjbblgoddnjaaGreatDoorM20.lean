/- Part 20 of what the proof rests on. -/
import Derived.WalkKit
import Derived.RegionTactic
import Derived.LoopTactic
import Derived.Conc.LoneCalls
import Derived.Test.YtggjbblgoddnjaaGreatDoorChecked
import Derived.KernelRfl
import Derived.Tactics
import Derived.Test.YtggjbblgoddnjaaGreatDoorM12
import Derived.Test.YtggjbblgoddnjaaGreatDoorM19
set_option linter.unusedSimpArgs false
set_option linter.unusedVariables false
set_option maxRecDepth 100000
set_option maxHeartbeats 4000000
namespace Go.Proofs.YtggjbblgoddnjaaGreatDoor
open Go.Conc Go.Lx
structure Tok where
 kind:Int
 at_:Nat
 text:ByteArray
def vN(t:Tok):Value:=.agg (eB t.kind t.at_ t.text 0)
def fH : List Tok → List Value
  | []=>[]
  | t::l=>.int .i64 t.kind :: .int .i64 (t.at_:Int) :: .string t.text::fH l
theorem dEA(l:List Tok)(t:Tok):fH (l++[t])=fH l++[.int .i64 t.kind,.int .i64 (t.at_:Int),.string t.text]:=by
 induction l with
 | nil=>rfl
 | cons x l ih=>simp[fH,ih]
def kAA : List Tok → List MAct
  | []=>[]
  | t::l=>.recv (vN t) :: .box::kAA l
theorem uHA(l:List Tok):recvs (kAA l)=l.map vN:=by
 induction l with
 | nil=>rfl
 | cons x l ih=>simp[kAA,recvs,ih]
def bLex:Frame:=base 101
noncomputable def nS:List Item:=[.inLoop dE,.inBlock 0,.code lexEnd]
def xC(q:Nat):List Deferred:=[zI q #[194] 0 #[false]]
def iDA(s:ByteArray)(B c q:Nat)(cs:List Frame)(w0:World)(all:List Tok)(g:Goroutine)(w:World):Prop :=
 ∃ o v J,g=G (bLex.at ⟨(wD s c q v J).setIfInBounds 19 (.tuple #[qK,.bool false]),xC q⟩ (.inRegion mJ [1] :: .code (.seq (xA (jA dE)) (.block 1 (.seq (.region 9 iBA false) (.seq (xA (jA rE)) (jA (jA rE))))))::nS)) cs∧MX ⟨B,c⟩ [] w0 v all.length (fH all) o w
section
variable {s : ByteArray} {B c q : Nat} {cs : List Frame} {w0 : World} {all : List Tok}
theorem xKA:∀(l done:List Tok),done++l=all→all.length≤1000000 →
 ∃ m,∀ o J v w,MX ⟨B,c⟩ [] w0 v done.length (fH done) o w →
  GoM (shared B c q (iDA s B c q cs w0 all)) (kAA l) o m (G (bLex.at ⟨wD s c q v J,xC q⟩ (.code dE::nS)) cs) w
 | [], done, hall, hlen => by
   refine⟨2,fun o J v w hF=>?_⟩;rw[lZ];refine fE terms (aJ terms ?_);intro w₁ hR;have hF1:=MH.rely hF hR;refine⟨rfl,hLA (b:=bLex) s c q J (by decide) w₁,o,v,J,aKA s c q qK false J,?_⟩;have hall:done=all:=by simpa using hall
   rw[← hall];exact hF1
 | t :: l, done, hall, hlen => by
   obtain⟨m',ih⟩:=xKA l (done++[t]) (by simpa using hall) hlen;have hdl:done.length≤1000000:=by
    have:done.length≤all.length:=by rw[← hall];simp
    omega
   refine⟨2,fun o J v w hF=>?_⟩;rw[lZ];refine fE terms (aJ terms ?_);intro w₁ hR;have hF1:=MH.rely hF hR;refine⟨rfl,hLA (b:=bLex) s c q J (by decide) w₁,200,?_⟩
   show Goes Tryz.prog true (Rely ⟨B,c⟩ T0 o) (Lx.Does ⟨B,c⟩ T0 o) _ 200 ((G (bLex.at ⟨wD s c q v J,xC q⟩ (.inRegion mJ [0,1]::_)) cs).finishComm Tryz.prog #[rcase c qK] (.recv true) 0 (vN t) true) w₁
   rw[aKA];refine r5A s c q (vN t) J rfl (by decide) w₁ hF1 fun J w₂ hF2=>?_
   obtain⟨es,hst,hes⟩:=j3A (d:=⟨B,c⟩) (b:=bLex) (v:=v) (df:=xC q) (kk:=.code (.seq (xA (jA rE)) (jA (jA rE))) :: .inBlock 1::nS) (cs:=cs) s c q (vN t) J (by decide) w₂;have hb:=hF2.boxed (tb:=199) (eB 0 0 ⟨#[]⟩ 0);have hv:v.ownBlock≠some w₂.heap.size:=fun h=>by
    have:=(hF2.own.lt _ h).2;omega
   refine⟨rfl,_,_,es,hst,⟨rfl,rfl,rfl,_,_,rC _ _⟩,hes,m'+300,?_⟩;refine Goes.mono (tO (m:=m'+250) (dZA s t.text c q t.at_ t.kind 0 J hv _ hb) rfl (by decide) ?_) (by omega);rintro e a' w' h
   cases e with
   | normal =>
     obtain⟨J',rfl,hF'⟩:=h;refine Goes.mono (fE terms (iE (m:=m'+120) (j2A s t.text c q t.at_ t.kind J' w' hF') rfl (by decide) ?_)) (by omega);rintro e a' w' h
     cases e with
     | normal =>
       obtain⟨J',rfl,hF'⟩:=h;refine Goes.mono (iE (m:=m'+2) (lXA s t.text c q t.at_ t.kind J' hdl w' hF') rfl (by decide) ?_) (by omega);rintro e a' w' h
       cases e with
       | normal =>
         obtain⟨v',J',rfl,hF'⟩:=h;refine aX terms (rR terms (ih _ J' v' w' ?_));rw[dEA,List.length_append];exact hF'
       | _=>exact h.elim
     | _=>exact h.elim
   | _=>exact h.elim
def oI(s:ByteArray)(c q:Nat)(J:Nat→Value):Array Value :=
 #[.string s, J 1, J 2, J 3, J 4, .chan (some c), .chan (some q), J 7, J 8, J 9, J 10, J 11, J 12, J 13, J 14, .string s, .chan (some c), .chan (some q), J 18, J 19, J 20, J 21, J 22, J 23, J 24, J 25, J 26, J 27, J 28, J 29, J 30, J 31, J 32, J 33, J 34, J 35]
def iX(s:ByteArray)(c q:Nat)(J:Nat→Value):Array Value :=
 #[.string s, J 1, J 2, J 3, J 4, .chan (some c), .chan (some q), .slice none 0 0, J 8, J 9, J 10, J 11, J 12, J 13, J 14, J 15, J 16, J 17, J 18, J 19, J 20, J 21, J 22, J 23, J 24, J 25, J 26, J 27, J 28, J 29, J 30, J 31, J 32, J 33, J 34, J 35]
theorem uTA{d:Deal}{df:List Deferred}{o:Option Nat}(J:Nat→Value)(w:World)(hF:MX d [] w0 (.slice none 0 0) 0 [] o w) :
 Code.wpC Tryz.prog true (Rely d T0 o) (Lx.Does d T0 o) 101 (xA pE) 100
   (Exit.then (fun a' w'=>∃ J',a'=⟨iX s c q J',df⟩∧MX d [] w0 (.slice none 0 0) 0 [] o w') (fun _ _ _=>False)) ⟨oI s c q J,df⟩ w:=by
 unfold pE uE qE;simp only[Tryz.f101,Option.getD_some,xA,jA,oI,iX];co_apply wpC_more
 · co_reg terms
   co_op MH.rely hF (co_quiet terms);co_apply opsC_nil terms;co_then;exact bB (by rfl) hF
 · decide
theorem nOA{d:Deal}{df:List Deferred}{o:Option Nat}(J:Nat→Value)(w:World)(hF:MX d [] w0 (.slice none 0 0) 0 [] o w) :
 Code.wpC Tryz.prog true (Rely d T0 o) (Lx.Does d T0 o) 101 (xA pI) 100
   (Exit.then (fun a' w'=>∃ J',a'=⟨wD s c q (.slice none 0 0) J',df⟩∧MX d [] w0 (.slice none 0 0) 0 [] o w') (fun _ _ _=>False)) ⟨iX s c q J,df⟩ w:=by
 unfold pI pE uE qE;simp only[Tryz.f101,Option.getD_some,xA,jA,iX,wD];co_apply wpC_more
 · co_reg terms
   co_op MH.rely hF (co_quiet terms);co_apply opsC_nil terms;co_then;exact bB (by rfl) hF
 · decide
theorem tWA(hlen:all.length≤1000000)(J:Nat→Value)(w:World)(hF:MX ⟨B,c⟩ [] w0 (.slice none 0 0) 0 [] none w) :
 ∃ m,GoM (shared B c q (iDA s B c q cs w0 all)) (kAA all) none m (G (bLex.at ⟨oI s c q J,xC q⟩ (.inRegion qEA [] :: .code pE::[])) cs) w:=by
 obtain⟨m,hm⟩:=xKA (s:=s) (B:=B) (c:=c) (q:=q) (cs:=cs) (w0:=w0) (all:=all) all [] rfl hlen;refine⟨m+500,?_⟩;refine Goes.mono (tO (m:=m+400) (fn:=101) (Q:=Exit.then (fun a' w'=>a'=⟨oI s c q J,xC q⟩∧MX ⟨B,c⟩ [] w0 (.slice none 0 0) 0 [] none w') (fun _ _ _=>False)) (opsC_nil terms ⟨rfl,hF⟩) rfl (by decide) ?_) (by omega);rintro e a' w' h
 cases e with
 | normal =>
   obtain⟨rfl,hF⟩:=h;rw[zJA];refine Goes.mono (fE terms (iE (m:=m+200) (uTA J w' hF) rfl (by decide) ?_)) (by omega);rintro e a' w' h
   cases e with
   | normal =>
     obtain⟨J',rfl,hF⟩:=h;refine Goes.mono (fE terms (fE terms (iE (m:=m+2) (nOA J' w' hF) rfl (by decide) ?_))) (by omega);rintro e a' w' h
     cases e with
     | normal =>
       obtain⟨J',rfl,hF⟩:=h;exact kQ terms (fFA terms (hm none J' _ w' hF))
     | _=>exact h.elim
   | _=>exact h.elim
 | _=>exact h.elim
theorem pLA(Fin:Goroutine→World→Prop)(hc:c < B)(hq:q < B)(hcq:c≠q):(shared B c q Fin).Fit:=by
 refine⟨?_,?_,?_,hc,hq,hcq⟩
 · intro ty h0 h1;have h0:ty=197:=h0;subst h0;rcases h1 with h | h | h<;>exact absurd h (by decide)
 · intro h;exact absurd (show 199=197 from h) (by decide)
 · intro h;have h:199=9∨199=175∨199=235:=h;exact absurd h (by decide)
theorem uWA (hs : s.size ≤ 100000) (acts : List SAct) (h : Scans s 0 acts) (hsame : sends acts = all.map vN) (hlen : all.length ≤ 1000000) (hcq : c ≠ q) (J : Nat → Value) (w : World) (h0 : Low ⟨B, c⟩ w0 w)
    (hB:B=w.heap.size) (hc:∃ s r tm,w.heap[c]? = some (.chan 0 #[] false s r tm)) (hq:∃ s r tm,w.heap[q]? = some (.chan 0 #[] false s r tm)) :
    AtGo (shared B c q (iDA s B c q cs w0 all)) (kAA all) acts (G (bLex.at ⟨oI s c q J,xC q⟩ (.inRegion qEA [3] :: .code pE::[])) cs) w:=by
  have hcl:c < B:=by obtain⟨_,_,_,h⟩:=hc;rw[hB];exact(Array.getElem?_eq_some_iff.1 h).1
  have hql:q < B:=by obtain⟨_,_,_,h⟩:=hq;rw[hB];exact(Array.getElem?_eq_some_iff.1 h).1
  refine ⟨pLA _ hcl hql hcq, rfl, hB, hq, hc, by rw [uHA, hsame], fun e => ?_⟩; have ho : qEA[3]? = some { dst := none, op := .go { callee := .value (.func 125), args := #[.tmp 15, .tmp 16, .tmp 17], argTypes := #[9, 230, 231] }, type := 0, pos := "lexer.go:99", after := #[{ on := 0, ground := .data }, { on := 1, ground := .data }, { on := 2, ground := .data }], guard := none } := by rfl
  have e1 : (⟨oI s c q J, xC q⟩ : Act).eval (.tmp 15) = .string s := rfl; have e2 : (⟨oI s c q J, xC q⟩ : Act).eval (.tmp 16) = .chan (some c) := rfl; have e3 : (⟨oI s c q J, xC q⟩ : Act).eval (.tmp 17) = .chan (some q) := rfl; have e4 : (⟨oI s c q J, xC q⟩ : Act).eval (.func 125) = .func (.func 125) #[] #[] := rfl; refine ⟨_, _, ?_, tWA hlen J (w.at e) ⟨⟨by simp, by simp, by rw [hB]; exact Nat.le_refl _, by simp⟩, World.ownsRow_nil _ _ _ _, ⟨h0.os, h0.output, h0.size, h0.block⟩, pM, by simp⟩,
    wRA s hs acts h (w.at e) ⟨by simp,by simp,by rw[hB];exact Nat.le_refl _,by simp⟩⟩
  refine(stepG_spawn (P:=Tryz.prog) (d:=zO s c q) (w':=w.at e) ho (by rfl) (by decide) ?_ rfl).trans ?_
  · unfold execOp;simp[resolve,Deferred.ofValue,e1,e2,e3,e4,zO]
  · rw [listed_nil]
    · rfl
    · unfold execOp;simp[resolve,Deferred.ofValue,e4]
end
def vG(s:ByteArray)(J:Nat→Value):Array Value:=#[.string s,J 1,J 2,J 3,J 4,J 5,J 6,J 7,J 8,J 9,J 10,J 11,J 12,J 13,J 14,J 15,J 16,J 17,J 18,J 19,J 20,J 21,J 22,J 23,J 24,J 25,J 26,J 27,J 28,J 29,J 30,J 31,J 32,J 33,J 34,J 35]
def bK(s:ByteArray)(c q:Nat)(J:Nat→Value):Array Value:=#[.string s,J 1,J 2,J 3,J 4,.chan (some c),.chan (some q),J 7,J 8,J 9,J 10,J 11,J 12,J 13,J 14,J 15,J 16,J 17,J 18,J 19,J 20,J 21,J 22,J 23,J 24,J 25,J 26,J 27,J 28,J 29,J 30,J 31,J 32,J 33,J 34,J 35]
theorem xLA:qE = .seq (xA qE) (.seq (xA (jA qE)) uE):=by rfl
theorem oOA:uE = .seq (xA uE) (.seq (xA (jA uE)) (.seq (.region 5 qEA false) pE)):=by rfl
def IsF(F:(Nat→Value)→Array Value)(df:List Deferred)(Pw:World→Prop)(a:Act)(w:World):Prop:=(∃ J,a=⟨F J,df⟩)∧Pw w
theorem isF{F:(Nat→Value)→Array Value}{df:List Deferred}{Pw:World→Prop}{A:Array Value}{w:World}(h:A=F fun n=>A.getD n undef)(hp:Pw w):IsF F df Pw ⟨A,df⟩ w:=⟨⟨_,by rw[← h]⟩,hp⟩
theorem zOA{F:(Nat→Value)→Array Value}{df:List Deferred}{Pw:World→Prop}{a:Act}{w:World}(h:a=⟨F fun n=>a.tmps.getD n undef,df⟩)(hp:Pw w):IsF F df Pw a w:=⟨⟨_,h⟩,hp⟩
theorem fTA(s:ByteArray)(J:Nat→Value)(w:World) :
 (xA qE).wp Tryz.prog (Exit.then (IsF (vG s) [] (w = ·)) (fun _ _ _=>False)) ⟨vG s J,[]⟩ w:=by
 unfold qE;simp only[Tryz.f101,Option.getD_some,xA];unfold vG;go_wp2;exact isF (F:=vG s) (by rfl) rfl
theorem aYA(s:ByteArray)(hs:s.size≤20000)(J:Nat→Value)(w:World) :
 (xA (jA qE)).wp Tryz.prog (Exit.then (IsF (vG s) [] (w = ·)) (fun _ _ _=>False)) ⟨vG s J,[]⟩ w:=by
 unfold qE;simp only[Tryz.f101,Option.getD_some,xA,jA];unfold vG;have h1:¬(20000:Int) < s.size:=by omega
 go_wp2;exact isF (F:=vG s) (by rfl) rfl
structure Chans (w0:World) (c q:Nat) (w:World):Prop where
 os:w.os=w0.os
 output:w.output=w0.output
 size:w.heap.size=w0.heap.size+2
 low:∀ b,b < w0.heap.size→w.heap[b]? = w0.heap[b]?
 ne:c≠q
 cl:w0.heap.size≤c
 ql:w0.heap.size≤q
 chan:∃ s r tm,w.heap[c]? = some (.chan 0 #[] false s r tm)
 quit:∃ s r tm,w.heap[q]? = some (.chan 0 #[] false s r tm)
def IsC(s:ByteArray)(df:Nat→List Deferred)(w0:World)(a:Act)(w:World):Prop:=∃ c q,IsF (bK s c q) (df q) (Chans w0 c q) a w
theorem eJA(w:World){c q:Nat}(h:(c=w.heap.size∧q=w.heap.size+1)∨(c=w.heap.size+1∧q=w.heap.size)):Chans w c q ((w.alloc (.chan 0 #[] false 0 0 false)).alloc (.chan 0 #[] false 0 0 false)).drew:=by
 have e0:∀ b,b < w.heap.size→((w.alloc (.chan 0 #[] false 0 0 false)).alloc (.chan 0 #[] false 0 0 false)).drew.heap[b]? = w.heap[b]? := fun b hb=>by
  show((w.alloc (.chan 0 #[] false 0 0 false)).alloc (.chan 0 #[] false 0 0 false)).heap[b]? = _
  rw[rC,rC,Array.getElem?_push_lt (by simp;omega),← Array.getElem?_eq_getElem,Array.getElem?_push_lt hb,← Array.getElem?_eq_getElem]
 have e1:((w.alloc (.chan 0 #[] false 0 0 false)).alloc (.chan 0 #[] false 0 0 false)).drew.heap[w.heap.size]? = some (.chan 0 #[] false 0 0 false):=by
  show((w.alloc (.chan 0 #[] false 0 0 false)).alloc (.chan 0 #[] false 0 0 false)).heap[w.heap.size]? = _
  rw[rC,rC,Array.getElem?_push_lt (by simp),← Array.getElem?_eq_getElem,Array.getElem?_push_size]
 have e2:((w.alloc (.chan 0 #[] false 0 0 false)).alloc (.chan 0 #[] false 0 0 false)).drew.heap[w.heap.size+1]? = some (.chan 0 #[] false 0 0 false):=by
  show((w.alloc (.chan 0 #[] false 0 0 false)).alloc (.chan 0 #[] false 0 0 false)).heap[w.heap.size+1]? = _
  have:w.heap.size+1=(w.heap.push (.chan 0 #[] false 0 0 false)).size:=by simp
  rw[rC,rC,this,Array.getElem?_push_size]
 have e3:((w.alloc (.chan 0 #[] false 0 0 false)).alloc (.chan 0 #[] false 0 0 false)).drew.heap.size=w.heap.size+2:=by
  show((w.alloc (.chan 0 #[] false 0 0 false)).alloc (.chan 0 #[] false 0 0 false)).heap.size=_
  rw[rC,rC];simp
 rcases h with⟨rfl,rfl⟩ | ⟨rfl,rfl⟩
 · exact⟨rfl,rfl,e3,e0,by omega,by omega,by omega,⟨_,_,_,e1⟩,⟨_,_,_,e2⟩⟩
 · exact⟨rfl,rfl,e3,e0,by omega,by omega,by omega,⟨_,_,_,e2⟩,⟨_,_,_,e1⟩⟩
theorem lZA(w:World):(Instr.makeChan 193 (.int .i64 0)).run Tryz.prog w = .ok (.chan (some w.heap.size)) (w.alloc (.chan 0 #[] false 0 0 false)):=by kernel_rfl
theorem qYA(w:World):(Instr.makeChan 194 (.int .i64 0)).run Tryz.prog w = .ok (.chan (some w.heap.size)) (w.alloc (.chan 0 #[] false 0 0 false)):=by kernel_rfl
theorem sRA(s:ByteArray)(J:Nat→Value)(w:World) :
 (xA uE).wp Tryz.prog (Exit.then (IsC s (fun _=>[]) w) (fun _ _ _=>False)) ⟨vG s J,[]⟩ w:=by
 unfold uE qE;simp only[Tryz.f101,Option.getD_some,xA,jA];unfold vG;have h1:=lZA;have h2:=qYA
 go_region
 all_goals
  first
  | exact⟨w.heap.size,w.heap.size+1,zOA (by rfl) (eJA w (.inl ⟨rfl,rfl⟩))⟩
  | exact⟨w.heap.size+1,w.heap.size,zOA (by rfl) (eJA w (.inr ⟨rfl,rfl⟩))⟩
theorem nTA(s:ByteArray)(c q:Nat)(J:Nat→Value)(w:World) :
 (xA (jA uE)).wp Tryz.prog (Exit.then (IsF (bK s c q) (xC q) (w = ·)) (fun _ _ _=>False)) ⟨bK s c q J,[]⟩ w:=by
 unfold uE qE;simp only[Tryz.f101,Option.getD_some,xA,jA];unfold bK;go_wp2;exact zOA (F:=bK s c q) (df:=xC q) (by rfl) rfl
theorem cYA(s:ByteArray)(c q:Nat)(J:Nat→Value)(w:World) :
 wpOps Tryz.prog qEA (Exit.then (IsF (oI s c q) (xC q) (w = ·)) (fun _ _ _=>False)) [0,1,2] ⟨bK s c q J,xC q⟩ w:=by
 have he:qEA=opsOf (xA (jA (jA uE))):=rfl;rw[he];unfold uE qE;simp only[Tryz.f101,Option.getD_some,xA,jA,opsOf];refine .inl ?_;refine .inl ?_;refine .inl ?_;exact zOA (F:=oI s c q) (df:=xC q) (by rfl) rfl
def rGA(W:World)(all:List Tok)(r:Value)(w:World):Prop :=
 ∃ v,r = .tuple #[v,.int .i64 0,.int .i64 0]∧w.ownsRow W.heap.size 197 3 v all.length (fH all)∧Under W w
def oP(v:Value)(J:Nat→Value):Array Value:=#[J 0,J 1,v,.int .i64 0,.int .i64 0,J 5,J 6,J 7,J 8,J 9,J 10,J 11,J 12,J 13,J 14,J 15,J 16,J 17,J 18,J 19,J 20,J 21,J 22,J 23,J 24,J 25,J 26,J 27,J 28,J 29,J 30,J 31,J 32,J 33,J 34,J 35]
def uH(s:ByteArray)(c q:Nat)(v:Value)(J:Nat→Value):Array Value:=#[.string s,J 1,J 2,J 3,J 4,.chan (some c),.chan (some q),v,J 8,J 9,J 10,J 11,J 12,J 13,J 14,J 15,J 16,J 17,J 18,J 19,.bool false,J 21,J 22,J 23,J 24,J 25,J 26,J 27,J 28,J 29,J 30,J 31,J 32,J 33,J 34,J 35]
section
variable {s : ByteArray} {c q : Nat} {v : Value}
theorem sJA{df:List Deferred}(J:Nat→Value)(w:World) :
 wpOps Tryz.prog mJ (Exit.then (IsF (uH s c q v) df (w = ·)) (fun _ _ _=>False)) [1] ⟨(wD s c q v J).setIfInBounds 19 (.tuple #[qK,.bool false]),df⟩ w:=by
 have he:mJ=opsOf (xA dE):=rfl;rw[he];unfold dE pI pE uE qE;simp only[Tryz.f101,Option.getD_some,xA,jA,aD,opsOf];refine .inl ?_;exact zOA (F:=uH s c q v) (df:=df) (by rfl) rfl
theorem lUA{df:List Deferred}(J:Nat→Value)(w:World) :
 (xA (jA dE)).wp Tryz.prog (fun e a' w'=>e = .exit 0∧IsF (uH s c q v) df (w = ·) a' w') ⟨uH s c q v J,df⟩ w:=by
 unfold dE pI pE uE qE;simp only[Tryz.f101,Option.getD_some,xA,jA,aD];unfold uH;go_wp2;exact zOA (F:=uH s c q v) (by rfl) rfl
theorem lYA{df:List Deferred}(J:Nat→Value)(w:World) :
 lexEnd.wp Tryz.prog (fun e a' w'=>e = .ret∧IsF (oP v) df (w = ·) a' w') ⟨uH s c q v J,df⟩ w:=by
 unfold lexEnd pE uE qE;simp only[Tryz.f101,Option.getD_some,jA];unfold uH;go_wp2;exact zOA (F:=oP v) (by rfl) rfl
end
theorem bAA{c:Code}{Q:Exit→Act→World→Prop}{a:Act}{W w:World}(hw:w.Alike W)(h:∀ w',w'.Alike W→c.wp Tryz.prog Q a w')(τ:Nat→Question→Nat)(d:Nat):c.wp Tryz.prog Q a (re w τ d):=h _ ⟨hw.1,hw.2.1,hw.2.2⟩
theorem aZ{F:(Nat→Value)→Array Value}{df:List Deferred}{W w:World}(hw:w.Alike W):∀ e a w',Exit.then (IsF F df (w = ·)) (fun _ _ _=>False) e a w'→Exit.then (IsF F df (·.Alike W)) (fun _ _ _=>False) e a w':=by
 intro e a w' h
 cases e with
 | normal=>obtain⟨h1,rfl⟩:=h;exact⟨h1,hw⟩
 | _=>exact h
theorem mW{w:World}{b b':Nat}{e:TypeId}{size n:Nat}{v:Value}{xs:List Value}(h:w.ownsRow b e size v n xs)(hb:b'≤b):w.ownsRow b' e size v n xs:=by
 refine⟨h.1,?_⟩;rcases h.2 with hn | ⟨g,cap,cur,rfl,hg,rest⟩
 · exact .inl hn
 · exact .inr ⟨g,cap,cur,rfl,Nat.le_trans hb hg,rest⟩
theorem fVA(T:Tame Tryz.prog){s:ByteArray}{W w0:World}{c q:Nat}{all:List Tok}(hC:Chans W c q w0)(cs:List Frame)(g:Goroutine)(w:World)(h:iDA s w0.heap.size c q cs w0 all g w) :
 RunG Tryz.prog (fun g' w'=>∃ r fr,g'=G fr cs∧fr.fn=101∧(∀ τ d,fr.leaving Tryz.prog (re w' τ d) (.returned r))∧rGA W all r w') g w:=by
 obtain⟨o,v,J,rfl,hM⟩:=h;have hsz:=hC.size;have hqlt:q < w0.heap.size:=by obtain⟨_,_,_,hq⟩:=hC.quit;exact(Array.getElem?_eq_some_iff.1 hq).1
 have hq:∃ s r tm,w.heap[q]? = some (.chan 0 #[] false s r tm):=by
  obtain⟨s,r,tm,hq⟩:=hC.quit;exact⟨s,r,tm,by rw[hM.low.block q hqlt (Ne.symm hC.ne)];exact hq⟩
 refine RunG.lone T fun τ d=>?_
 obtain⟨a1,w1,⟨⟨J1,rfl⟩,rfl⟩,hs1⟩:=sBA (K:=IsF (uH s c q v) (xC q) (re w τ d = ·)) [1] [] _ _ (sJA (s:=s) (c:=c) (q:=q) (v:=v) (df:=xC q) J (re w τ d)) bLex (.code (.seq (xA (jA dE)) (.block 1 (.seq (.region 9 iBA false) (.seq (xA (jA rE)) (jA (jA rE))))))::nS) cs (by decide);refine⟨_,_,hs1,rfl,RunG.re ?_ τ d⟩;refine RunG.step T (fun w=>step_region_end) (RunG.step T (fun w=>step_seq) ?_);refine vD T (Q:=fun e a' w'=>e = .exit 0∧IsF (uH s c q v) (xC q) (·.Alike w) a' w') (fun τ d=>wp_mono (lUA (s:=s) (c:=c) (q:=q) (v:=v) (df:=xC q) J1 (re w τ d)) ?_) bLex _ cs _ (by decide) ?_
 · rintro e a' w' ⟨rfl,h1,rfl⟩;exact⟨rfl,h1,rfl,rfl,rfl⟩
 rintro e a' w2 ⟨rfl,⟨J2,rfl⟩,hA2⟩;refine⟨[.code lexEnd],by simp[exitTo,nS],?_⟩;refine vD T (Q:=fun e a' w'=>e = .ret∧IsF (oP v) (xC q) (·.Alike w) a' w') (fun τ d=>wp_mono (lYA (s:=s) (c:=c) (q:=q) (v:=v) (df:=xC q) J2 (re w2 τ d)) ?_) bLex _ cs _ (by decide) ?_
 · rintro e a' w' ⟨rfl,h1,rfl⟩;exact⟨rfl,h1,hA2.1,hA2.2.1,hA2.2.2⟩
 rintro e a' w3 ⟨rfl,⟨J3,rfl⟩,hA3⟩;intro todo;obtain⟨s',r',tm',hq3⟩:=hq;rw[← hA3.1]at hq3;refine RunG.lone T fun τ d=>⟨G { bLex.at ⟨oP v J3,[]⟩ todo with mode:=.returning } cs,(re w3 τ d).setChan q 0 #[] true s' r' tm',.one ?_,rfl,?_⟩
 · exact step_solo_go rfl (pW (b:=bLex) (w:=re w3 τ d) (ats:=#[194]) (ty:=0) (bs:=#[false]) hq3 (by kernel_rfl))
 · refine RunG.stop fun τ' d' => ⟨.tuple #[v, .int .i64 0, .int .i64 0], _, rfl, rfl, fun τ'' d'' => ⟨rfl, rfl, rfl, _, Tryz.func101, ?_⟩, v, rfl, ?_, ?_⟩
   · show (results Tryz.f101 (oP v J3)).run Tryz.prog _ = _
     simp[results,Tryz.f101,oP]
   · have ho : w3.ownsRow W.heap.size 197 3 v all.length (fH all) := by
       have:=mW hM.own (b':=W.heap.size) (by show W.heap.size≤w0.heap.size;omega);unfold World.ownsRow at this ⊢;rw[hA3.1];exact this
     refine⟨ho.1,?_⟩;rcases ho.2 with hn | ⟨gg,cap,cur,rfl,hb,hg,rest⟩
     · exact .inl hn
     · refine .inr ⟨gg, cap, cur, rfl, hb, ?_, rest⟩; have hne : q ≠ gg := by rintro rfl; rw [hq3] at hg; cases hg
       show(w3.setChan q 0 #[] true s' r' tm').heap[gg]? = _
       simp only[World.setChan];rw[Array.getElem?_setIfInBounds_ne hne];exact hg
   · refine ⟨?_, ?_, ?_, fun b hb => ?_⟩
     · show w3.os = W.os
       rw[hA3.2.1,hM.low.os,hC.os]
     · show w3.output = W.output
       rw[hA3.2.2,hM.low.output,hC.output]
     · show W.heap.size ≤ (w3.heap.setIfInBounds q _).size
       have:=hM.low.size;rw[Array.size_setIfInBounds,hA3.1];omega
     · show (w3.heap.setIfInBounds q _)[b]? = _
       have h1:=hC.ql;have h2:=hC.cl;rw[Array.getElem?_setIfInBounds_ne (by omega),hA3.1,hM.low.block b (by show b < w0.heap.size;omega) (by show b≠c;omega),hC.low b hb]
theorem yQA(s:ByteArray):Frame.enter Tryz.prog 101 #[.string s] .normal=bLex.at ⟨vG s (fun _=>undef),[]⟩ [.code qE]:=by
 have hb:Tryz.f101.body=some qE:=rfl;rw[enter_at _ Tryz.func101 hb];simp only[Tryz.ntmps101,List.size_toArray,List.length_cons,List.length_nil,Nat.reduceAdd,Nat.reduceSub,Array.replicate_succ,Array.replicate_zero,List.push_toArray,List.append_toArray,List.nil_append,List.cons_append];rfl
theorem hSA(T:Tame Tryz.prog)(s:ByteArray)(hs:s.size≤20000)(acts:List SAct)(h:Scans s 0 acts)(all:List Tok)(hsame:sends acts=all.map vN)(hlen:all.length≤1000000)(W:World) :
 CallsG Tryz.prog 101 #[.string s] W (rGA W all):=by
 intro cs;rw[yQA,xLA];refine RunG.step T (fun w=>step_seq) ?_;refine vD T (Q:=Exit.then (IsF (vG s) [] (·.Alike W)) (fun _ _ _=>False)) (bAA ⟨rfl,rfl,rfl⟩ fun w' hw'=>wp_mono (fTA s _ w') (aZ hw')) bLex _ cs _ (by decide) ?_;rintro e a' w1 h1
 cases e with
 | normal =>
   obtain⟨⟨J1,rfl⟩,hA1⟩:=h1;refine RunG.step T (fun w=>step_seq) ?_;refine vD T (Q:=Exit.then (IsF (vG s) [] (·.Alike W)) (fun _ _ _=>False)) (bAA hA1 fun w' hw'=>wp_mono (aYA s hs _ w') (aZ hw')) bLex _ cs _ (by decide) ?_;rintro e a' w2 h2
   cases e with
   | normal =>
     obtain⟨⟨J2,rfl⟩,hA2⟩:=h2;rw[oOA];refine RunG.step T (fun w=>step_seq) ?_;refine vD T (Q:=Exit.then (IsC s (fun _=>[]) W) (fun _ _ _=>False)) (bAA hA2 fun w' hw'=>wp_mono (sRA s _ w') ?_) bLex _ cs _ (by decide) ?_
     · intro e a w'' hh
       cases e with
       | normal =>
         obtain⟨c,q,hF,hC⟩:=hh;have hz:w'.heap.size=W.heap.size:=by rw[hw'.1]
         exact⟨c,q,hF,hC.os.trans hw'.2.1,hC.output.trans hw'.2.2,by rw[hC.size,hz],fun b hb=>by rw[hC.low b (by omega),hw'.1],hC.ne,by have:=hC.cl;omega,by have:=hC.ql;omega,hC.chan,hC.quit⟩
       | _=>exact hh
     rintro e a' w3 h3
     cases e with
     | normal =>
       obtain⟨c,q,⟨J3,rfl⟩,hC⟩:=h3;refine RunG.step T (fun w=>step_seq) ?_;refine vD T (Q:=Exit.then (IsF (bK s c q) (xC q) (·.Alike w3)) (fun _ _ _=>False)) (bAA ⟨rfl,rfl,rfl⟩ fun w' hw'=>wp_mono (nTA s c q _ w') (aZ hw')) bLex _ cs _ (by decide) ?_;rintro e a' w4 h4
       cases e with
       | normal =>
         obtain⟨⟨J4,rfl⟩,hA4⟩:=h4;refine RunG.step T (fun w=>step_seq) (RunG.step T (fun w=>step_region) ?_);refine RunG.lone T fun τ d=>?_
         obtain⟨a5,w5,⟨⟨J5,rfl⟩,rfl⟩,hs5⟩:=sBA (K:=IsF (oI s c q) (xC q) (re w4 τ d = ·)) [0,1,2] [3] _ _ (cYA s c q J4 (re w4 τ d)) bLex [.code pE] cs (by decide);refine⟨_,_,hs5,rfl,RunG.re ?_ τ d⟩;refine RunG.trans (RunG.phase (X:=shared w3.heap.size c q (iDA s w3.heap.size c q cs w3 all)) (ms:=kAA all) (ss:=acts) (fun τ d=>uWA (by omega) acts h hsame hlen hC.ne J5 (re w4 τ d) ⟨hA4.2.1,hA4.2.2,by show w3.heap.size≤w4.heap.size;rw[hA4.1];exact Nat.le_refl _,fun b _ _=>by show w4.heap[b]? = _;rw[hA4.1]⟩ (by show _=w4.heap.size;rw[hA4.1]) (by show ∃ s r tm,w4.heap[c]? = _;rw[hA4.1];exact hC.chan) (by show ∃ s r tm,w4.heap[q]? = _;rw[hA4.1];exact hC.quit)) ?_) fun g' w' hf=>fVA T hC cs g' w' hf
         intro hg g' w' hf;obtain⟨o,v,J,rfl,_⟩:=hf;refine⟨⟨fun i hi=>?_,hg.below,.inl rfl⟩,rfl⟩;simp only[G,Frame.at,nS,List.mem_cons,List.not_mem_nil,or_false]at hi;rcases hi with rfl | rfl | rfl | rfl | rfl<;>trivial
       | _=>exact h4.elim
     | _=>exact h3.elim
   | _=>exact h2.elim
 | _=>exact h1.elim
end Go.Proofs.YtggjbblgoddnjaaGreatDoor
namespace Go.Proofs.YtggjbblgoddnjaaGreatDoor
open Go.Lx
theorem nUA : ∀ args, Ok Tryz.prog ((Extern.ReflectliteType.rows.getD 11 ("", Extern.RuntimeError.nothing)).2 args) := by
 intro args;exact Ok.bind (lG _) fun _=>Ok.pure
theorem xH{fn:Func}{e:Array Value→Sem Value}{f:FuncId}{g:Func}(h:Tryz.prog.funcs[f]? = some fn)(hg:Tryz.prog.funcs[f]? = some g)(he:Extern.find fn=some e)(hn:(Extern.find g).isNone=true):False:=by
 have:=Option.some.inj (hg.symm.trans h);subst this;rw[he]at hn
 cases hn
theorem jG{fn:Func}{e e':Array Value→Sem Value}{f:FuncId}{g:Func}(h:Tryz.prog.funcs[f]? = some fn)(hg:Tryz.prog.funcs[f]? = some g)(he:Extern.find fn=some e)(hn:Extern.find g=some e'):e=e':=by
 have:=Option.some.inj (hg.symm.trans h);subst this;exact Option.some.inj (he.symm.trans hn)
theorem lC:Tame Tryz.prog:=by
 refine xZA [0,1,144,194,209,210,211,212,213,214,215,216,217,218,219,220,221,222,223,224,225,226,227,228,229,230,231,232,233,234,235,236,237,238] (by kernel_rfl) (by kernel_rfl) (by kernel_rfl) ?_;intro f hf fn e h he args;simp only[List.mem_cons,List.not_mem_nil,or_false]at hf;rcases hf with rfl | rfl | rfl | rfl | rfl | rfl | rfl | rfl | rfl | rfl | rfl | rfl | rfl | rfl | rfl | rfl | rfl | rfl | rfl | rfl | rfl | rfl | rfl | rfl | rfl | rfl | rfl | rfl | rfl | rfl | rfl | rfl | rfl | rfl
 · exact(xH h Tryz.func0 he (by kernel_rfl)).elim
 · exact(xH h Tryz.func1 he (by kernel_rfl)).elim
 · rw[jG (e':=Extern.AbiNoEscape.same) h Tryz.func144 he (by kernel_rfl)];exact bVA args
 · rw[jG (e':=Extern.BytealgIndexByte.indexByte) h Tryz.func194 he (by kernel_rfl)];exact rDA args
 · rw[jG (e':=Extern.RuntimeError.boundsError) h Tryz.func209 he (by kernel_rfl)];exact l9 args
 · rw[jG (e':=Extern.RuntimeError.nothing) h Tryz.func210 he (by kernel_rfl)];exact bI args
 · rw [jG (e' := (Extern.RuntimeError.rows.getD 0 ("", Extern.RuntimeError.nothing)).2) h Tryz.func211 he (by kernel_rfl)]; exact sUA args
 · rw[jG (e':=Extern.RuntimeError.nothing) h Tryz.func212 he (by kernel_rfl)];exact bI args
 · rw [jG (e' := (Extern.RuntimeError.rows.getD 1 ("", Extern.RuntimeError.nothing)).2) h Tryz.func213 he (by kernel_rfl)]; exact gXA args
 · rw[jG (e':=Extern.RuntimeError.nothing) h Tryz.func214 he (by kernel_rfl)];exact bI args
 · rw [jG (e' := (Extern.RuntimeError.rows.getD 2 ("", Extern.RuntimeError.nothing)).2) h Tryz.func215 he (by kernel_rfl)]; exact yXA args
 · rw[jG (e':=Extern.RuntimeError.nothing) h Tryz.func216 he (by kernel_rfl)];exact bI args
 · rw[jG (e':=Extern.RuntimeError.typeAssertionError) h Tryz.func217 he (by kernel_rfl)];exact dQ args
 · rw[jG (e':=Extern.RuntimeError.nothing) h Tryz.func218 he (by kernel_rfl)];exact bI args
 · rw [jG (e' := (Extern.RuntimeError.rows.getD 6 ("", Extern.RuntimeError.nothing)).2) h Tryz.func219 he (by kernel_rfl)]; exact kVA args
 · rw[jG (e':=Extern.RuntimeError.nothing) h Tryz.func220 he (by kernel_rfl)];exact bI args
 · exact(xH h Tryz.func221 he (by kernel_rfl)).elim
 · rw[jG (e':=Extern.RuntimeError.unhashableTypeError) h Tryz.func222 he (by kernel_rfl)];exact oAA args
 · rw[jG (e':=Extern.RuntimeError.nothing) h Tryz.func223 he (by kernel_rfl)];exact bI args
 · exact(xH h Tryz.func224 he (by kernel_rfl)).elim
 · exact(xH h Tryz.func225 he (by kernel_rfl)).elim
 · exact(xH h Tryz.func226 he (by kernel_rfl)).elim
 · exact(xH h Tryz.func227 he (by kernel_rfl)).elim
 · rw [jG (e' := (Extern.ReflectliteType.rows.getD 11 ("", Extern.RuntimeError.nothing)).2) h Tryz.func228 he (by kernel_rfl)]; exact nUA args
 · exact(xH h Tryz.func229 he (by kernel_rfl)).elim
 · exact(xH h Tryz.func230 he (by kernel_rfl)).elim
 · exact(xH h Tryz.func231 he (by kernel_rfl)).elim
 · exact(xH h Tryz.func232 he (by kernel_rfl)).elim
 · exact(xH h Tryz.func233 he (by kernel_rfl)).elim
 · exact(xH h Tryz.func234 he (by kernel_rfl)).elim
 · exact(xH h Tryz.func235 he (by kernel_rfl)).elim
 · exact(xH h Tryz.func236 he (by kernel_rfl)).elim
 · exact(xH h Tryz.func237 he (by kernel_rfl)).elim
 · exact(xH h Tryz.func238 he (by kernel_rfl)).elim
end Go.Proofs.YtggjbblgoddnjaaGreatDoor
namespace Go.Proofs.YtggjbblgoddnjaaGreatDoor
open Go.Conc Go.Lx
theorem mH{P:Program}{fn:Func}{t:Tmp}{Post:Value→World→Prop}{a:Act}{w:World}(h:fn.results=#[.tmp t])(hd:a.defers=[])(hp:Post (a.tmps.getD t undef) w):bP P fn Post .ret a w :=
 ⟨hd,_,fun _ _=>results_tmp h _ P _,hp⟩
structure Lexes (s:ByteArray) (all:List Tok):Prop where
 size:s.size≤20000
 scans:∃ acts,Scans s 0 acts∧sends acts=all.map vN
 len:all.length≤1000000
theorem Lexes.calls{s:ByteArray}{all:List Tok}(h:Lexes s all)(W:World):CallsG Tryz.prog 101 #[.string s] W (rGA W all):=by
 obtain⟨acts,h1,h2⟩:=h.scans;exact hSA lC s h.size acts h1 all h2 h.len W
def TrueU(W:World)(v:Value)(w:World):Prop:=v = .bool true∧Under W w
theorem TrueU.re{W:World}(v:Value)(w:World)(τ:Nat→Question→Nat)(d:Nat)(h:TrueU W v w):TrueU W v (re w τ d):=⟨h.1,h.2.re τ d⟩
theorem sF {P : Program} {a : Act} {o : Oper} {f : FuncId} {fn : Func} {args : Array Operand} {ats : Array TypeId} {vs : Array Value} (hop : o.op = .call { callee := .value (.func f), args, argTypes := ats }) (hf : P.funcs[f]? = some fn)
    (hname : (fn.name == "runtime.NumGoroutine") = false) (hb : fn.body.isNone = false) (hv : args.map a.eval = vs) (w : World) : (execOp a.eval o).run P w = .ok (.enter f vs) w := by
  have h1 : ¬ fn.name = "runtime.NumGoroutine" := by simpa using hname
  have h2:¬ fn.body=none:=by cases hx:fn.body<;>simp_all
  have e:a.eval (.func f) = .func (.func f) #[] #[]:=rfl;unfold execOp;simp[hop,resolve,Deferred.ofValue,invoke,callFunc,hf,h1,h2,e,hv]
end Go.Proofs.YtggjbblgoddnjaaGreatDoor
