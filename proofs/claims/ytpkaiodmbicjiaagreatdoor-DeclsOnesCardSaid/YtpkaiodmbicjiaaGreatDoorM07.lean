/- Part 7 of what the proof rests on. -/
import Derived.WalkKit
import Derived.RegionTactic
import Derived.LoopTactic
import Derived.Conc.LoneCalls
import Derived.Test.YtpkaiodmbicjiaaGreatDoorM04
import Derived.Test.YtpkaiodmbicjiaaGreatDoorM06
import Derived.Test.YtpkaiodmbicjiaaGreatDoorM00
set_option linter.unusedSimpArgs false
set_option linter.unusedVariables false
set_option maxRecDepth 100000
set_option maxHeartbeats 4000000
namespace Go.Proofs.YtpkaiodmbicjiaaGreatDoor
open Go.Proofs.Tryz
open Go.Conc Go.Lx
noncomputable def xG:Code:=jA uF
noncomputable def opsOf:Code->Array Oper
  | .region _ ops _=>ops
  | _=>#[]
noncomputable def bT:Array Oper:=opsOf (aB uF)
noncomputable def qI:Code:=jA xG
noncomputable def vQ:Code:=aB (jA qI)
noncomputable def nG:Code:=jA (jA qI)
noncomputable def lQ:Array Oper:=opsOf (aB (jA (aB nG)))
def rG(s:ByteArray)(c q b0 k:Nat)(J:Nat->Value):Array Value :=
 #[.string s, .chan (some c), .chan (some q), J 3, J 4, J 5, .slice (some ⟨b0, 0, none⟩) 5 5, .int .i64 (k : Int), J 8, J 9, J 10, J 11, J 12, J 13, J 14, J 15, J 16, J 17, J 18, J 19, J 20, J 21, J 22, J 23, J 24, J 25, J 26, J 27, J 28, J 29, J 30, J 31, J 32, J 33, J 34, J 35, J 36, J 37, J 38, J 39, J 40, J 41, J 42, J 43, J 44, J 45, J 46, J 47, J 48, J 49, J 50, J 51, J 52, J 53, J 54, J 55, J 56, J 57, J 58, J 59, J 60, J 61, J 62, J 63, J 64, J 65, J 66, J 67, J 68, J 69, J 70, J 71, J 72, J 73, J 74, J 75]
def yQ(s:ByteArray)(c q b0 k:Nat)(J:Nat->Value):Array Value :=
 #[.string s, .chan (some c), .chan (some q), J 3, J 4, J 5, .slice (some ⟨b0, 0, none⟩) 5 5, .int .i64 (k : Int), J 8, J 9, J 10, J 11, J 12, J 13, J 14, J 15, J 16, J 17, J 18, J 19, .agg #[.int .i64 0, .int .i64 (k : Int), .string ⟨#[]⟩, .int .i64 60], J 21, J 22, J 23, J 24, J 25, J 26, J 27, J 28, J 29, J 30, J 31, J 32, J 33, J 34, J 35, J 36, J 37, J 38, J 39, J 40, J 41, J 42, J 43, J 44, J 45, J 46, J 47, J 48, J 49, J 50, J 51, J 52, J 53, J 54, J 55, J 56, J 57, J 58, J 59, J 60, J 61, J 62, J 63, J 64, J 65, J 66, J 67, J 68, J 69, J 70, J 71, J 72, J 73, J 74, J 75]
theorem nY:iD = .seq (aB iD) (.block 1 (.seq (.region 4 bT false) xG)):=by
 rfl
section
variable {d : Deal} {T : TypeId -> Prop} {o : Option Nat} {L : List (Nat × Obj)} {b0 xb : Nat} {df : List Deferred}
theorem o4A(s:ByteArray)(c q k:Nat)(J:Nat->Value)(hk:k < s.size)(w:World)(hF:Holds d T o L w) :
 Code.wpC prog false (Rely d T o) (Lx.Does d T o) 55 (aB iD) 100
   (Exit.then (λa' w'=>∃ J',a'=⟨rG s c q b0 k J',df⟩/\Holds d T o L w') (λ_ _ _=>False)) ⟨rG s c q b0 k J,df⟩ w:=by
 have hin:(k:Int) < s.size:=by omega
 have hdk:decide ((k:Int) < s.size)=true:=by simp;omega
 unfold iD kD;simp only[f55,Qf,aB,jA,nC,rG];co_apply wpC_more
 . co_apply wpC_seq terms
   co_reg terms
   co_op Holds.rely hF (co_quiet terms);co_op Holds.rely hF (co_quiet terms)
   co_opw Holds.rely hF (skip) (rw[listed_nil (by simp[go_sem,iI _ _ _ underlying9])];exact Terms.idle terms _)
   co_op Holds.rely hF (co_quiet terms);co_apply opsC_nil terms;co_then;co_apply wpC_cond (t:=true) terms rfl;simp only[if_true];co_ctl terms;co_then;exact bB (by rfl) hF
 . decide
theorem eZA(s:ByteArray)(c q k:Nat)(J:Nat->Value)(hk:k=s.size)(w:World)(hF:Holds d T o L w) :
 Code.wpC prog false (Rely d T o) (Lx.Does d T o) 55 (aB iD) 100
   (Exit.then (λ_ _=>False) (λe a' w'=>e = .exit 0/\∃ J',a'=⟨rG s c q b0 k J',df⟩/\Holds d T o L w')) ⟨rG s c q b0 k J,df⟩ w:=by
 subst hk;unfold iD kD;simp only[f55,Qf,aB,jA,nC,rG];co_apply wpC_more
 . co_apply wpC_seq terms
   co_reg terms
   co_op Holds.rely hF (co_quiet terms);co_op Holds.rely hF (co_quiet terms)
   co_opw Holds.rely hF (skip) (rw[listed_nil (by simp[go_sem,iI _ _ _ underlying9])];exact Terms.idle terms _)
   co_op Holds.rely hF (co_quiet terms);co_apply opsC_nil terms;co_then;co_apply wpC_cond (t:=false) terms rfl;simp only[Qs,if_false];co_ctl terms;co_then;exact⟨trivial,bB (by rfl) hF⟩
 . decide
end
section
variable {d : Deal} {T : TypeId -> Prop} {o : Option Nat} {L : List (Nat × Obj)} {b0 xb : Nat} {df : List Deferred} {b : Frame} {kk : List Item} {cs : List Frame} {Stop : Goroutine -> World -> Prop}
theorem jHA{r:Result Next}{v:Value}{w:World}(h:∀ K:Result Next->Prop,K (.ok (.value v) w)->K r):r = .ok (.value v) w:=h (· = .ok (.value v) w) rfl
theorem oTA{A:Array Value}{F:(Nat->Value)->Array Value}{Pr:World->Prop}{k:List Item}{cs:List Frame}(hS:∀ J w₁,Pr w₁->Stop (G (b.at ⟨F J,df⟩ k) cs) w₁)(h:A=F λn=>A.getD n undef)(w₁:World)(hp:Pr w₁) :
 Stop (G (b.at ⟨A,df⟩ k) cs) w₁:=by
 have:=hS (λn=>A.getD n undef) w₁ hp;rw[<- h]at this;exact this
theorem n0A(s:ByteArray)(c q k:Nat)(J:Nat->Value)(hk:k < s.size)(hbf:b.fn=55)(hbk:b.kind≠.early)(w:World)(hF:Holds d T o L w)
    (hS:∀ J w₁,Holds d T o L w₁->Stop (G (b.at ⟨yQ s c q b0 k J,df⟩ (.inRegion bT [3,4] :: .code xG :: .inBlock 1::kk)) cs) w₁) :
    Goes prog false (Rely d T o) (Lx.Does d T o) Stop 120 (G (b.at ⟨rG s c q b0 k J,df⟩ (.code iD::kk)) cs) w:=by
  rw[nY];refine Goes.mono (mE terms (rE (m:=10) (o4A s c q k J hk w hF) hbf hbk ?_)) (by decide);rintro e a' w' h
  cases e with
  | normal =>
    clear hF;obtain⟨J',rfl,hF⟩:=h;refine Goes.mono (n:=3+1+1+1) (n':=10) (kS terms (mE terms (nK terms ?_))) (by decide);have he:bT=opsOf (aB uF):=rfl;rw[he]at hS ⊢;unfold uF iD kD at hS ⊢;simp only[f55,Qf,aB,jA,nC,opsOf,rG,List.size_toArray,Qk,List.length_nil,Nat.reduceAdd,Nat.zero_add,List.range,List.range.loop]at hS ⊢;co_apply mY rfl (by rfl) hbk;intro _ hR K hK;replace hF:=Holds.rely hF hR;clear hR;go_simp;refine hK _ _ ⟨?_,?_⟩
    . co_quiet terms
    clear hK K
    try walk_nrm
    co_apply mY rfl (by rfl) hbk;intro _ hR K hK;replace hF:=Holds.rely hF hR;clear hR;go_simp;refine hK _ _ ⟨?_,?_⟩
    . co_quiet terms
    clear hK K
    try walk_nrm
    co_apply mY rfl (by rfl) hbk;intro _ hR K hK;replace hF:=Holds.rely hF hR;clear hR;go_simp;refine hK _ _ ⟨?_,?_⟩
    . co_quiet terms
    clear hK K
    try walk_nrm
    exact gIA λw₁ hR=>oTA hS (by rfl) w₁ (Holds.rely hF hR)
  | _=>exact h.elim
theorem aMA(s:ByteArray)(c q k:Nat)(J:Nat->Value)(hbk:b.kind≠.early)(w:World) :
 ∃ es,stepG prog false (G (b.at ⟨yQ s c q b0 k J,df⟩ (.inRegion bT [3,4]::kk)) cs) w =
   .go (G (b.at ⟨(yQ s c q b0 k J).setIfInBounds 8 (.pointer (some ⟨w.heap.size,0,none⟩)),df⟩ (.inRegion bT [4]::kk)) cs) (w.alloc (.cells #[.int .i64 0,.int .i64 0,.string ⟨#[]⟩,.int .i64 0] 120 (0,0))) es/\∀ e∈es,iX d T (some w.heap.size) (w.alloc (.cells #[.int .i64 0,.int .i64 0,.string ⟨#[]⟩,.int .i64 0] 120 (0,0))) e:=by
 have ho : bT[3]? = some { dst := some 8, op := .alloc 120, type := 0, pos := "lexer.go:69", after := #[], guard := none } := by rfl
 refine⟨_,stepG_value ho (by rfl) hbk (v:=.pointer (some ⟨w.heap.size,0,none⟩)) ?_,?_⟩
 . refine jHA λK hK=>?_
   go_simp;exact hK
 . rw[listed_nil (by simp[go_sem])];simp
end
def uC(s:ByteArray)(c q b0 k xb:Nat)(J:Nat->Value):Array Value :=
 #[.string s, .chan (some c), .chan (some q), J 3, J 4, J 5, .slice (some ⟨b0, 0, none⟩) 5 5, .int .i64 (k : Int), .pointer (some ⟨xb, 0, none⟩), J 9, J 10, J 11, J 12, J 13, J 14, J 15, J 16, J 17, J 18, J 19, J 20, J 21, J 22, J 23, J 24, J 25, J 26, J 27, J 28, J 29, J 30, J 31, J 32, J 33, J 34, J 35, J 36, J 37, J 38, J 39, J 40, J 41, J 42, J 43, J 44, J 45, J 46, J 47, J 48, J 49, J 50, J 51, J 52, J 53, J 54, J 55, J 56, J 57, J 58, J 59, J 60, J 61, J 62, J 63, J 64, J 65, J 66, J 67, J 68, J 69, J 70, J 71, J 72, J 73, J 74, J 75]
def vB(kd:Int)(k:Nat)(x:ByteArray)(e:Int):Array Value:=#[.int .i64 kd,.int .i64 (k:Int),.string x,.int .i64 e]
section
variable {d : Deal} {T : TypeId -> Prop} {L : List (Nat × Obj)} {b0 xb : Nat} {df : List Deferred}
theorem vVA(s:ByteArray)(c q k:Nat)(J:Nat->Value)(hxL:∀ p∈L,p.1≠xb)(w:World)(hF:Holds d T (some xb) ((xb,Obj.cells (vB 0 0 ⟨#[]⟩ 0) 120 (0,0))::L) w) :
 OpsC prog false (Rely d T (some xb)) (Lx.Does d T (some xb)) 55 bT [4] 10
   (Exit.then (λa' w'=>∃ J',a'=⟨uC s c q b0 k xb J',df⟩/\Holds d T (some xb) ((xb,Obj.cells (vB 0 k ⟨#[]⟩ 60) 120 (0,0))::L) w') (λ_ _ _=>False))
   ⟨(yQ s c q b0 k J).setIfInBounds 8 (.pointer (some ⟨xb,0,none⟩)),df⟩ w:=by
 have hf:(yQ s c q b0 k J).setIfInBounds 8 (.pointer (some ⟨xb,0,none⟩))=#[.string s,.chan (some c),.chan (some q),J 3,J 4,J 5,.slice (some ⟨b0,0,none⟩) 5 5,.int .i64 (k:Int),.pointer (some ⟨xb,0,none⟩),J 9,J 10,J 11,J 12,J 13,J 14,J 15,J 16,J 17,J 18,J 19,.agg #[.int .i64 0,.int .i64 (k:Int),.string ⟨#[]⟩,.int .i64 60],J 21,J 22,J 23,J 24,J 25,J 26,J 27,J 28,J 29,J 30,J 31,J 32,J 33,J 34,J 35,J 36,J 37,J 38,J 39,J 40,J 41,J 42,J 43,J 44,J 45,J 46,J 47,J 48,J 49,J 50,J 51,J 52,J 53,J 54,J 55,J 56,J 57,J 58,J 59,J 60,J 61,J 62,J 63,J 64,J 65,J 66,J 67,J 68,J 69,J 70,J 71,J 72,J 73,J 74,J 75]:=rfl;rw[hf];clear hf;have he:bT=opsOf (aB uF):=rfl;rw[he];clear he;unfold uF iD kD;simp only[f55,Qf,aB,jA,nC,opsOf,uC];co_apply opsC_more
 . co_opw Holds.rely hF (have hm:(xb,Obj.cells (vB 0 0 ⟨#[]⟩ 0) 120 (0,0))∈(xb,Obj.cells (vB 0 0 ⟨#[]⟩ 0) 120 (0,0))::L:=Qn;have hc0:_=some _:=hF.cell hm 0;have hc1:_=some _:=hF.cell hm 1;have hc2:_=some _:=hF.cell hm 2;have hc3:_=some _:=hF.cell hm 3;have hf0:=hF.frozen hm 0;have hf1:=hF.frozen hm 1;have hf2:=hF.frozen hm 2;have hf3:=hF.frozen hm 3) (have ho:=hF.boxOwn;have ht:=Turn.set4 ho (hF.lt hm) hF.big (.int .i64 0) (.int .i64 (k:Int)) (.string ⟨#[]⟩) (.int .i64 60);refine⟨ht,?_⟩;have ho2:=ht.own_fwd (hF.lt hm) ho;clear ht ho;have es:=nS prog;intro e he;have hm:=mem_listed he;simp[go_sem, *]at hm;rcases hm with rfl|rfl|rfl|rfl<;>exact bR ho2 _ _ _)
   replace hF:=hF.set4 hxL (.int .i64 0) (.int .i64 (k:Int)) (.string ⟨#[]⟩) (.int .i64 60);co_apply opsC_nil terms;co_then;exact bB (by rfl) hF
 . decide
theorem yLA:xG = .seq (.seq (aB iR) (.block 2 (.loop zN))) (.seq (aB qI) (.seq vQ nG)):=by rfl
theorem yKA:nG = .seq (.seq (aB (aB nG)) (.seq (.region 17 lQ false) (jA (jA (aB nG))))) (jA nG):=by rfl
theorem wZA(s:ByteArray)(c q k:Nat)(J:Nat->Value)(w:World)(hF:Holds d T (some xb) L w) :
 Code.wpC prog false (Rely d T (some xb)) (Lx.Does d T (some xb)) 55 (aB iR) 100
   (Exit.then (λa' w'=>∃ J',a'=⟨qF s c q b0 k xb 0 J',df⟩/\Holds d T (some xb) L w') (λ_ _ _=>False)) ⟨uC s c q b0 k xb J,df⟩ w:=by
 unfold iR uF iD kD;simp only[f55,Qf,aB,jA,nC,uC,qF];co_apply wpC_more
 . co_reg terms
   repeat (first|co_reg terms|co_op Holds.rely hF (co_quiet terms)|(co_apply opsC_unwanted terms rfl (by rfl);try walk_nrm)|(co_ctl terms;try co_then))
   exact bB (by rfl) hF
 . decide
theorem bBB(s x:ByteArray)(c q k m:Nat)(kd e i:Int)(J:Nat->Value)(hx:RowKit.Hid (x.size=m))(hkm:k+m<=1000000)(w:World)(hF:Holds d T (some xb) ((xb,Obj.cells (vB kd k x e) 120 (0,0))::L) w) :
 Code.wpC prog false (Rely d T (some xb)) (Lx.Does d T (some xb)) 55 (aB qI) 100
   (Exit.then (λa' w'=>∃ J',a'=⟨uC s c q b0 (k+m) xb J',df⟩/\Holds d T (some xb) ((xb,Obj.cells (vB kd k x e) 120 (0,0))::L) w') (λ_ _ _=>False)) ⟨qF s c q b0 k xb i J,df⟩ w:=by
 have hm:(xb,Obj.cells (vB kd k x e) 120 (0,0))∈(xb,Obj.cells (vB kd k x e) 120 (0,0))::L:=Qn;unfold qI xG uF iD kD;simp only[f55,Qf,aB,jA,nC,uC,qF];co_apply wpC_more
 . co_reg terms
   co_op Holds.rely hF (co_quiet terms);co_op Holds.rely hF (co_quiet terms);co_op Holds.rely hF (co_quiet terms)
   co_opw Holds.rely hF (have hc:_=some (Value.string x):=hF.cell hm 2) (refine Does.reads ?_;co_evs (exact hF.read hm _ _))
   clear hc
   co_opw Holds.rely hF (skip) (rw[listed_nil (by simp[go_sem,iI _ _ _ underlying9])];exact Terms.idle terms _)
   co_op Holds.rely hF (co_quiet terms);co_op Holds.rely hF (co_quiet terms);co_apply opsC_nil terms;co_then;have hwr:IntKind.i64.wrap ((k:Int)+(x.size:Int))=((k+m:Nat):Int):=by rw[hx.out,IntWalk.i64_in _ (by omega)];omega
   rw[hwr];exact bB (by rfl) hF
 . decide
theorem vRA(s x:ByteArray)(c q k k1:Nat)(J:Nat->Value)(w:World)(hF:Holds d T (some xb) ((xb,Obj.cells (vB 0 k1 x 0) 120 (0,0))::L) w) :
 Code.wpC prog false (Rely d T (some xb)) (Lx.Does d T (some xb)) 55 vQ 100
   (Exit.then (λ_ _=>False) (λe a' w'=>e = .exit 1/\∃ J',a'=⟨uC s c q b0 k xb J',df⟩/\Holds d T (some xb) ((xb,Obj.cells (vB 0 k1 x 0) 120 (0,0))::L) w')) ⟨uC s c q b0 k xb J,df⟩ w:=by
 have hm:(xb,Obj.cells (vB 0 k1 x 0) 120 (0,0))∈(xb,Obj.cells (vB 0 k1 x 0) 120 (0,0))::L:=Qn;unfold vQ qI xG uF iD kD;simp only[f55,Qf,aB,jA,nC,uC];co_apply wpC_more
 . co_apply wpC_seq terms
   co_reg terms
   co_op Holds.rely hF (co_quiet terms);co_op Holds.rely hF (co_quiet terms)
   co_opw Holds.rely hF (have hc:_=some (Value.int .i64 0):=hF.cell hm 0) (refine Does.reads ?_;co_evs (exact hF.read hm _ _))
   clear hc;co_op Holds.rely hF (co_quiet terms);co_op Holds.rely hF (co_quiet terms);co_op Holds.rely hF (co_quiet terms)
   co_opw Holds.rely hF (have hc:_=some (Value.int .i64 0):=hF.cell hm 3) (refine Does.reads ?_;co_evs (exact hF.read hm _ _))
   clear hc;co_op Holds.rely hF (co_quiet terms);co_op Holds.rely hF (co_quiet terms);co_apply opsC_nil terms;co_then;co_apply wpC_cond (t:=true) terms rfl;simp only[if_true];co_ctl terms;co_then;exact⟨trivial,bB (by rfl) hF⟩
 . decide
theorem eRA(s x:ByteArray)(c q k k1:Nat)(kd:Int)(hkd:(kd==0)=false)(J:Nat->Value)(w:World)(hF:Holds d T (some xb) ((xb,Obj.cells (vB kd k1 x 0) 120 (0,0))::L) w) :
 Code.wpC prog false (Rely d T (some xb)) (Lx.Does d T (some xb)) 55 vQ 100
   (Exit.then (λa' w'=>∃ J',a'=⟨uC s c q b0 k xb J',df⟩/\Holds d T (some xb) ((xb,Obj.cells (vB kd k1 x 0) 120 (0,0))::L) w') (λ_ _ _=>False)) ⟨uC s c q b0 k xb J,df⟩ w:=by
 have hm:(xb,Obj.cells (vB kd k1 x 0) 120 (0,0))∈(xb,Obj.cells (vB kd k1 x 0) 120 (0,0))::L:=Qn;unfold vQ qI xG uF iD kD;simp only[f55,Qf,aB,jA,nC,uC];co_apply wpC_more
 . co_apply wpC_seq terms
   co_reg terms
   co_op Holds.rely hF (co_quiet terms);co_op Holds.rely hF (co_quiet terms)
   co_opw Holds.rely hF (have hc:_=some (Value.int .i64 kd):=hF.cell hm 0) (refine Does.reads ?_;co_evs (exact hF.read hm _ _))
   clear hc;co_op Holds.rely hF (co_quiet terms);co_op Holds.rely hF (co_quiet terms)
   (co_apply opsC_unwanted terms rfl (by rfl);try walk_nrm)
   (co_apply opsC_unwanted terms rfl (by rfl);try walk_nrm)
   (co_apply opsC_unwanted terms rfl (by rfl);try walk_nrm)
   co_op Holds.rely hF (co_quiet terms);co_apply opsC_nil terms;co_then;co_apply wpC_cond (t:=false) terms rfl;simp only[Qs,if_false];co_ctl terms;co_then;exact bB (by rfl) hF
 . decide
def wG(s:ByteArray)(c q b0 k xb:Nat)(v:Value)(J:Nat->Value):Array Value :=
 #[.string s, .chan (some c), .chan (some q), J 3, J 4, J 5, .slice (some ⟨b0, 0, none⟩) 5 5, .int .i64 (k : Int), .pointer (some ⟨xb, 0, none⟩), J 9, J 10, J 11, J 12, J 13, J 14, J 15, J 16, J 17, J 18, J 19, J 20, J 21, J 22, J 23, J 24, J 25, J 26, J 27, J 28, J 29, J 30, J 31, J 32, J 33, J 34, J 35, J 36, J 37, J 38, J 39, J 40, J 41, J 42, J 43, J 44, J 45, J 46, J 47, J 48, J 49, J 50, J 51, J 52, J 53, J 54, J 55, J 56, J 57, J 58, J 59, J 60, J 61, J 62, J 63, J 64, J 65, .chan (some c), v, .chan (some q), J 69, J 70, J 71, J 72, J 73, J 74, J 75]
theorem j4A(s x:ByteArray)(c q k k1:Nat)(kd e:Int)(J:Nat->Value)(w:World)(hF:Holds d T (some xb) ((xb,Obj.cells (vB kd k1 x e) 120 (0,0))::L) w) :
 Code.wpC prog false (Rely d T (some xb)) (Lx.Does d T (some xb)) 55 (aB (aB nG)) 100
   (Exit.then (λa' w'=>∃ J',a'=⟨wG s c q b0 k xb (.agg (vB kd k1 x e)) J',df⟩/\Holds d T (some xb) ((xb,Obj.cells (vB kd k1 x e) 120 (0,0))::L) w') (λ_ _ _=>False)) ⟨uC s c q b0 k xb J,df⟩ w:=by
 have hm:(xb,Obj.cells (vB kd k1 x e) 120 (0,0))∈(xb,Obj.cells (vB kd k1 x e) 120 (0,0))::L:=Qn;unfold nG qI xG uF iD kD;simp only[f55,Qf,aB,jA,nC,uC,wG];co_apply wpC_more
 . co_apply wpC_seq terms;co_apply wpC_seq terms
   co_reg terms
   co_op Holds.rely hF (co_quiet terms);co_apply opsC_nil terms;co_then
   co_reg terms
   co_opw Holds.rely hF (have hc0:_=some (Value.int .i64 kd):=hF.cell hm 0;have hc1:_=some (Value.int .i64 (k1:Int)):=hF.cell hm 1;have hc2:_=some (Value.string x):=hF.cell hm 2;have hc3:_=some (Value.int .i64 e):=hF.cell hm 3) (refine Does.reads ?_;intro e he;have hm:=mem_listed he;simp[go_sem, *]at hm;rcases hm with rfl|rfl|rfl|rfl<;>exact hF.read hm _ _)
   clear hc0 hc1 hc2 hc3;co_apply opsC_nil terms;co_then
   co_reg terms
   co_op Holds.rely hF (co_quiet terms);co_apply opsC_nil terms;co_then;exact bB (by rfl) hF
 . decide
end
def vM:Value:=.agg (vB 0 0 ⟨#[]⟩ 0)
def dW:Value:=.agg #[]
section
variable {d : Deal} {T : TypeId -> Prop} {L : List (Nat × Obj)} {b0 xb : Nat} {df : List Deferred} {b : Frame} {kk : List Item} {cs : List Frame}
theorem n2A(s:ByteArray)(c q k:Nat)(v:Value)(J:Nat->Value)(hbk:b.kind≠.early)(w:World) :
 stepG prog false (G (b.at ⟨wG s c q b0 k xb v J,df⟩ (.inRegion lQ [0,1,2,3]::kk)) cs) w =
   .comm (G (b.at ⟨wG s c q b0 k xb v J,df⟩ (.inRegion lQ [0,1,2,3]::kk)) cs) #[scase c v vM,rcase q dW] true .select w #[]:=by
 have ho : lQ[0]? = some { dst := some 69, op := .select #[{ chan := .tmp 66, send := some (.tmp 67), elem := 120 }, { chan := .tmp 68, send := none, elem := 153 }] true, type := 0, pos := "lexer.go:81", after := #[], guard := none } := by rfl
 have he1 : (⟨wG s c q b0 k xb v J, df⟩ : Act).eval (.tmp 66) = .chan (some c) := rfl; have he2 : (⟨wG s c q b0 k xb v J, df⟩ : Act).eval (.tmp 67) = v := rfl; have he3 : (⟨wG s c q b0 k xb v J, df⟩ : Act).eval (.tmp 68) = .chan (some q) := rfl; have hr : (execOp (⟨wG s c q b0 k xb v J, df⟩ : Act).eval { dst := some 69, op := .select #[{ chan := .tmp 66, send := some (.tmp 67), elem := 120 }, { chan := .tmp 68, send := none, elem := 153 }] true, type := 0, pos := "lexer.go:81", after := #[], guard := none }).run Tryz.prog w = .ok (.comm #[scase c v vM, rcase q dW] true .select) w := by
  unfold execOp;simp[scase,rcase,he1,he2,he3,vM,vB,dW]
 have hl : (execOp (⟨wG s c q b0 k xb v J, df⟩ : Act).eval { dst := some 69, op := .select #[{ chan := .tmp 66, send := some (.tmp 67), elem := 120 }, { chan := .tmp 68, send := none, elem := 153 }] true, type := 0, pos := "lexer.go:81", after := #[], guard := none }).events Tryz.prog w #[] = #[] := by
  unfold execOp;simp
 rw[stepG_comm ho (by rfl) hbk hr,listed_nil hl]
theorem i4A(s:ByteArray)(c q k:Nat)(v:Value)(J:Nat->Value) :
 (G (b.at ⟨wG s c q b0 k xb v J,df⟩ (.inRegion lQ [0,1,2,3]::kk)) cs).finishComm prog #[scase c v vM,rcase q dW] .select 0 undef false =
   G (b.at ⟨(wG s c q b0 k xb v J).setIfInBounds 69 (.tuple #[.int .i64 0,.bool false,dW]),df⟩ (.inRegion lQ [1,2,3]::kk)) cs:=by
 have ho : lQ[0]? = some { dst := some 69, op := .select #[{ chan := .tmp 66, send := some (.tmp 67), elem := 120 }, { chan := .tmp 68, send := none, elem := 153 }] true, type := 0, pos := "lexer.go:81", after := #[], guard := none } := by rfl
 have hr:commResult #[scase c v vM,rcase q dW] .select 0 undef false = .tuple #[.int .i64 0,.bool false,dW]:=by
  simp[commResult,scase,rcase,goInt,Array.zipIdx,Array.filter]
 simp only[Goroutine.finishComm,G,hr,Frame.finish_at,ho];rfl
theorem r0A(s:ByteArray)(c q k:Nat)(v:Value)(J:Nat->Value)(w:World)(hF:Holds d T (some xb) L w) :
 OpsC prog false (Rely d T (some xb)) (Lx.Does d T (some xb)) 55 lQ [1,2,3] 10
   (Exit.then (λa' w'=>∃ J',a'=⟨(uC s c q b0 k xb J').setIfInBounds 71 (.bool true),df⟩/\Holds d T (some xb) L w') (λ_ _ _=>False))
   ⟨(wG s c q b0 k xb v J).setIfInBounds 69 (.tuple #[.int .i64 0,.bool false,dW]),df⟩ w:=by
 have he:lQ=opsOf (aB (jA (aB nG))):=rfl;rw[he];clear he;unfold nG qI xG uF iD kD;simp only[f55,Qf,aB,jA,nC,opsOf,uC,wG,List.setIfInBounds_toArray,List.set_cons_succ,List.set_cons_zero];co_apply opsC_more
 . co_op Holds.rely hF (co_quiet terms);co_op Holds.rely hF (co_quiet terms);co_op Holds.rely hF (co_quiet terms);co_apply opsC_nil terms;co_then;exact bB (by rfl) hF
 . decide
theorem mXA(s:ByteArray)(c q k:Nat)(J:Nat->Value)(w:World)(hF:Holds d T (some xb) L w) :
 Code.wpC prog false (Rely d T (some xb)) (Lx.Does d T (some xb)) 55 (jA (jA (aB nG))) 100
   (Exit.then (λa' w'=>∃ J',a'=⟨uC s c q b0 k xb J',df⟩/\Holds d T (some xb) L w') (λ_ _ _=>False)) ⟨(uC s c q b0 k xb J).setIfInBounds 71 (.bool true),df⟩ w:=by
 unfold nG qI xG uF iD kD;simp only[f55,Qf,aB,jA,nC,uC,List.setIfInBounds_toArray,List.set_cons_succ,List.set_cons_zero];co_apply wpC_more
 . co_apply wpC_block terms;co_apply wpC_cond (t:=true) terms rfl;simp only[if_true];co_ctl terms;co_then;exact bB (by rfl) hF
 . decide
theorem nVA(s x:ByteArray)(c q k k1:Nat)(kd:Int)(J:Nat->Value)(w:World)(hF:Holds d T (some xb) ((xb,Obj.cells (vB kd k1 x 0) 120 (0,0))::L) w) :
 Code.wpC prog false (Rely d T (some xb)) (Lx.Does d T (some xb)) 55 (jA nG) 100
   (Exit.then (λa' w'=>∃ J',a'=⟨uC s c q b0 k xb J',df⟩/\Holds d T (some xb) ((xb,Obj.cells (vB kd k1 x 0) 120 (0,0))::L) w') (λ_ _ _=>False)) ⟨uC s c q b0 k xb J,df⟩ w:=by
 have hm:(xb,Obj.cells (vB kd k1 x 0) 120 (0,0))∈(xb,Obj.cells (vB kd k1 x 0) 120 (0,0))::L:=Qn;unfold nG qI xG uF iD kD;simp only[f55,Qf,jA,nC,uC];co_apply wpC_more
 . co_apply wpC_seq terms
   co_reg terms
   co_op Holds.rely hF (co_quiet terms)
   co_opw Holds.rely hF (have hc:_=some (Value.int .i64 0):=hF.cell hm 3) (refine Does.reads ?_;co_evs (exact hF.read hm _ _))
   clear hc;co_op Holds.rely hF (co_quiet terms);co_apply opsC_nil terms;co_then;co_apply wpC_cond (t:=false) terms rfl;simp only[Qs,if_false];co_ctl terms;co_then;exact bB (by rfl) hF
 . decide
theorem vHA(s:ByteArray)(c q k:Nat)(J:Nat->Value):uC s c q b0 k xb J=rG s c q b0 k (λn=>(uC s c q b0 k xb J).getD n undef):=by rfl
end
def T1(ty:TypeId):Prop:=ty=9∨ty=131∨ty=152
theorem aVA:T1 9:=.inl rfl
theorem y4A:T1 131:=.inr (.inl rfl)
theorem f7A:T1 152:=.inr (.inr rfl)
def T0(ty:TypeId):Prop:=ty=118
noncomputable def shared(B c q:Nat)(Fin:Goroutine->World->Prop):Shared :=
 { P:=prog,d:=⟨B,c⟩,q:=q,T0:=T0,T1:=T1,tb:=120,z:=vM,zc:=vM,zq:=dW,Fin:=Fin }
inductive Scans (s:ByteArray):Nat->List SAct->Prop
  | done:Scans s s.size []
  | blank {k i m:Nat} {acts:List SAct} (hk:k < s.size) (hf:First i (s[k]'hk)) (hkd:jDA i=0) (hm:goN i (s.data.toList.drop k)=m) (hmn:k+m<=s.size) (h:Scans s (k+m) acts):Scans s k (.box::acts)
  | token {k i m:Nat} {acts:List SAct} (hk:k < s.size) (hf:First i (s[k]'hk)) (hkd:(jDA i==0)=false) (hm:goN i (s.data.toList.drop k)=m) (hmn:k+m<=s.size) (h:Scans s (k+m) acts) :
      Scans s k (.box :: .send (.agg (vB (jDA i) k (s.extract k (k+m)) 0))::acts)
theorem extract_size(s:ByteArray){k m:Nat}(h:k+m<=s.size):(s.extract k (k+m)).size=m:=by
 simp only[ByteArray.size_extract];omega
def bScan:Frame:={ (default:Frame) with fn:=55,kind:=.deferred }
noncomputable def aL:Frame:={ (default:Frame) with fn:=prog.funcs.size,defers:=[],mode:=.panicking [goexitEntry] }
noncomputable def zT:List Item:=[.inLoop iD,.inBlock 0,.inScope (nC kD)]
def gK(c:Nat):List Deferred:=[bK c #[147] 0 #[false]]
section
variable {B c q : Nat} {Fin : Goroutine -> World -> Prop} {b0 b1 b2 b3 b4 b5 b6 b7 : Nat}
theorem qOA(tmps:Array Value)(w:World):AtClose (shared B c q Fin) (G { bScan.at ⟨tmps,gK c⟩ [] with mode:=.returning } [aL]) w:=by
 refine⟨rfl,rfl,λs r tm hc=>⟨_,2,nZ hc (by kernel_rfl),?_⟩⟩;refine .inr ⟨rfl,G aL [],#[],by simp,λw=>?_,?_⟩
 . simp[G,stepG,unwind,doReturn,results,Frame.at,bScan,aL,shared,func55,f55,seen,GStep.after,goexitEntry]
 refine .inr ⟨rfl,{ G aL [] with status:=.finished },#[],by simp,λw=>?_,rfl,rfl⟩;simp[G,stepG,unwind,aL,goexitEntry,Frame.catches,shared];rfl
theorem qTA{d:Deal}{T:TypeId->Prop}{df:List Deferred}{b:Frame}{kk:List Item}{cs:List Frame}{Stop:Goroutine->World->Prop}{xb:Nat}(s:ByteArray)(k i m n:Nat)(J:Nat->Value)(hk:k < s.size)(hs:s.size<=100000)(hT:T 152)
    (hf:First i (s[k]'hk)) (hm:goN i (s.data.toList.drop k)=m) (hmn:k+m<=s.size) (hxL:∀ p∈dE b0 b1 b2 b3 b4 b5 b6 b7 [],p.1≠xb) (hbf:b.fn=55) (hbk:b.kind≠.early) (w:World)
    (hF:Holds d T (some xb) ((xb,Obj.cells (vB 0 0 ⟨#[]⟩ 0) 120 (0,0))::dE b0 b1 b2 b3 b4 b5 b6 b7 []) w)
    (hc:∀ J w,Holds d T (some xb) ((xb,Obj.cells (vB (jDA i) k (s.extract k (k+m)) 0) 120 (0,0))::dE b0 b1 b2 b3 b4 b5 b6 b7 []) w ->
      Goes prog false (Rely d T (some xb)) (Lx.Does d T (some xb)) Stop n (G (b.at ⟨uC s c q b0 (k+m) xb J,df⟩ (.code vQ :: .code nG :: .inBlock 1::kk)) cs) w) :
    Goes prog false (Rely d T (some xb)) (Lx.Does d T (some xb)) Stop (n+10000000001000) (G (b.at ⟨(yQ s c q b0 k J).setIfInBounds 8 (.pointer (some ⟨xb,0,none⟩)),df⟩ (.inRegion bT [4] :: .code xG :: .inBlock 1::kk)) cs) w:=by
  refine Goes.mono (zQ (m:=n+10000000000500) (vVA s c q k J hxL w hF) hbf hbk ?_) (by omega);rintro e a' w' h
  cases e with
  | normal =>
    obtain⟨J',rfl,hF'⟩:=h;rw[yLA];refine Goes.mono (mE terms (mE terms (rE (m:=n+10000000000200) (wZA s c q k J' w' hF') hbf hbk ?_))) (by omega);rintro e a' w' h
    cases e with
    | normal =>
      obtain⟨J',rfl,hF'⟩:=h;refine Goes.mono (rE (m:=n+150) (aYA s c q k i m J' hk (by omega) hT rfl hf hm hmn hxL w' hF') hbf hbk ?_) (by omega);rintro e a' w' h
      cases e with
      | normal =>
        obtain⟨J',rfl,hF'⟩:=h;refine Goes.mono (mE terms (rE (m:=n+1) (bBB s (s.extract k (k+m)) c q k m (jDA i) 0 i J' (aA (extract_size s hmn)) (by omega) w' hF') hbf hbk ?_)) (by omega);rintro e a' w' h
        cases e with
        | normal =>
          obtain⟨J',rfl,hF'⟩:=h;exact mE terms (hc J' w' hF')
        | _=>exact h.elim
      | _=>exact h.elim
    | _=>exact h.elim
  | _=>exact h.elim
abbrev LR(b0 b1 b2 b3 b4 b5 b6 b7:Nat):List (Nat×Obj):=dE b0 b1 b2 b3 b4 b5 b6 b7 []
theorem jWA(s:ByteArray)(hs:s.size<=100000)(k:Nat)(acts:List SAct)(h:Scans s k acts) :
 ∃ m,∀ b0 b1 b2 b3 b4 b5 b6 b7 o J w,(∀ p∈LR b0 b1 b2 b3 b4 b5 b6 b7,xPA ⟨B,c⟩ T1 none p.1 p.2)->Holds ⟨B,c⟩ T1 o (LR b0 b1 b2 b3 b4 b5 b6 b7) w ->
  GoS (shared B c q Fin) acts o m (G (bScan.at ⟨rG s c q b0 k J,gK c⟩ (.code iD::zT)) [aL]) w:=by
 induction h with
 | done =>
   refine⟨200,λb0 b1 b2 b3 b4 b5 b6 b7 o J w hlow hF=>?_⟩;rw[nY];refine Goes.mono (mE terms (rE (m:=10) (eZA s c q s.size J rfl w hF) rfl (by decide) ?_)) (by decide);rintro e a' w' h
   cases e with
   | exit id =>
     obtain⟨he,J',rfl,hF'⟩:=h
     cases he;refine⟨[.inScope (nC kD)],by simp[exitTo,zT],?_⟩;refine Goes.mono (n:=2) (aJA terms (g3A terms ?_)) (by decide);exact λw₁ _=>qOA _ w₁
   | normal=>exact h.elim
   | _=>cases h.1
 | @blank k i m acts hk hf hkd hm hmn h ih =>
   obtain⟨m',ih⟩:=ih;refine⟨120,λb0 b1 b2 b3 b4 b5 b6 b7 o J w hlow hF=>n0A s c q k J hk rfl (by decide) w hF ?_⟩;intro J w₁ hF;obtain⟨es,hst,hes⟩:=aMA (d:=⟨B,c⟩) (T:=T1) (b:=bScan) (b0:=b0) (df:=gK c) (kk:=.code xG :: .inBlock 1::zT) (cs:=[aL]) s c q k J (by decide) w₁;refine⟨rfl,_,_,es,hst,⟨rfl,rfl,rfl,_,_,bE _ _⟩,hes,_,qTA s k i m (m'+110) J hk hs (.inr (.inr rfl)) hf hm hmn (λp hp=>Nat.ne_of_lt (hF.lt hp)) rfl (by decide) _
     (hF.boxed λp hp=>?_) λJ w hF=>?_⟩
   . rcases List.mem_cons.1 hp with rfl|hp
     . exact .inl rfl
     . exact .inr ⟨hp,hlow p hp⟩
   . rw[hkd]at hF;refine Goes.mono (rE (m:=m'+1) (vRA s _ c q _ _ J w hF) rfl (by decide) ?_) (by omega);rintro e a' w' h
     cases e with
     | exit id =>
       obtain⟨he,J',rfl,hF'⟩:=h
       cases he;refine⟨zT,by simp[exitTo],?_⟩;refine uU terms ?_;rw[vHA];exact ih _ _ _ _ _ _ _ _ _ _ _ hlow (hF'.weak λp hp=>Qh _ hp)
     | normal=>exact h.elim
     | _=>cases h.1
 | @token k i m acts hk hf hkd hm hmn h ih =>
   obtain⟨m',ih⟩:=ih;refine⟨120,λb0 b1 b2 b3 b4 b5 b6 b7 o J w hlow hF=>n0A s c q k J hk rfl (by decide) w hF ?_⟩;intro J w₁ hF;obtain⟨es,hst,hes⟩:=aMA (d:=⟨B,c⟩) (T:=T1) (b:=bScan) (b0:=b0) (df:=gK c) (kk:=.code xG :: .inBlock 1::zT) (cs:=[aL]) s c q k J (by decide) w₁;refine⟨rfl,_,_,es,hst,⟨rfl,rfl,rfl,_,_,bE _ _⟩,hes,_,qTA s k i m 500 J hk hs (.inr (.inr rfl)) hf hm hmn (λp hp=>Nat.ne_of_lt (hF.lt hp)) rfl (by decide) _
     (hF.boxed λp hp=>?_) λJ w hF=>?_⟩
   . rcases List.mem_cons.1 hp with rfl|hp
     . exact .inl rfl
     . exact .inr ⟨hp,hlow p hp⟩
   . refine Goes.mono (rE (m:=300) (eRA s _ c q _ _ _ hkd J w hF) rfl (by decide) ?_) (by omega);rintro e a' w' h
     cases e with
     | normal =>
       obtain⟨J',rfl,hF'⟩:=h;rw[yKA];refine Goes.mono (mE terms (mE terms (rE (m:=10) (j4A s _ c q _ _ _ _ J' w' hF') rfl (by decide) ?_))) (by decide);rintro e a' w' h
       cases e with
       | normal =>
         obtain⟨J',rfl,hF'⟩:=h;refine Goes.mono (n:=2) (mE terms (nK terms ?_)) (by decide);intro w₂ hR;have hF2:=hF'.rely hR;refine⟨rfl,n2A (b:=bScan) s c q _ _ J' (by decide) w₂,m'+400,?_⟩
         show Goes _ _ _ _ _ _ ((G (bScan.at ⟨wG s c q b0 _ _ _ J',_⟩ (.inRegion lQ [0,1,2,3]::_)) [aL]).finishComm prog #[scase c _ vM,rcase q dW] .select 0 undef false) _
         rw[i4A];refine Goes.mono (zQ (m:=m'+300) (r0A s c q _ _ J' w₂ hF2) rfl (by decide) ?_) (by omega);rintro e a' w' h
         cases e with
         | normal =>
           obtain⟨J',rfl,hF'⟩:=h;refine Goes.mono (rE (m:=m'+110) (mXA s c q _ J' w' hF') rfl (by decide) ?_) (by omega);rintro e a' w' h
           cases e with
           | normal =>
             obtain⟨J',rfl,hF'⟩:=h;refine Goes.mono (rE (m:=m'+2) (nVA s _ c q _ _ _ J' w' hF') rfl (by decide) ?_) (by omega);rintro e a' w' h
             cases e with
             | normal =>
               obtain⟨J',rfl,hF'⟩:=h;refine qY terms (uU terms ?_);rw[vHA];exact ih _ _ _ _ _ _ _ _ _ _ _ hlow (hF'.weak λp hp=>Qh _ hp)
             | _=>exact h.elim
           | _=>exact h.elim
         | _=>exact h.elim
       | _=>exact h.elim
     | _=>exact h.elim
noncomputable def xYA:Array Oper:=opsOf (aB (nC kD))
theorem rKA:kD = .scope (.seq (.region 0 xYA false) (.seq (aB (jA (nC kD))) (.seq (.label 0) (.seq (aB (jA (jA (jA (nC kD))))) (.block 0 (.loop iD)))))):=by rfl
def xH(s:ByteArray)(c q:Nat)(J:Nat->Value):Array Value:=#[.string s,.chan (some c),.chan (some q),J 3,J 4,J 5,J 6,J 7,J 8,J 9,J 10,J 11,J 12,J 13,J 14,J 15,J 16,J 17,J 18,J 19,J 20,J 21,J 22,J 23,J 24,J 25,J 26,J 27,J 28,J 29,J 30,J 31,J 32,J 33,J 34,J 35,J 36,J 37,J 38,J 39,J 40,J 41,J 42,J 43,J 44,J 45,J 46,J 47,J 48,J 49,J 50,J 51,J 52,J 53,J 54,J 55,J 56,J 57,J 58,J 59,J 60,J 61,J 62,J 63,J 64,J 65,J 66,J 67,J 68,J 69,J 70,J 71,J 72,J 73,J 74,J 75]
def dR(s:ByteArray)(c q b0:Nat)(J:Nat->Value):Array Value:=#[.string s,.chan (some c),.chan (some q),J 3,J 4,J 5,.slice (some ⟨b0,0,none⟩) 5 5,J 7,J 8,J 9,J 10,J 11,J 12,J 13,J 14,J 15,J 16,J 17,J 18,J 19,J 20,J 21,J 22,J 23,J 24,J 25,J 26,J 27,J 28,J 29,J 30,J 31,J 32,J 33,J 34,J 35,J 36,J 37,J 38,J 39,J 40,J 41,J 42,J 43,J 44,J 45,J 46,J 47,J 48,J 49,J 50,J 51,J 52,J 53,J 54,J 55,J 56,J 57,J 58,J 59,J 60,J 61,J 62,J 63,J 64,J 65,J 66,J 67,J 68,J 69,J 70,J 71,J 72,J 73,J 74,J 75]
theorem jOA{d:Deal}{o:Option Nat}{df:List Deferred}(s:ByteArray)(J:Nat->Value)(w:World)(hF:Holds d T1 o [] w) :
 Code.wpC prog false (Rely d T1 o) (Lx.Does d T1 o) 55 (aB (jA (nC kD))) 2000
   (Exit.then (λa' w'=>∃ b0 b1 b2 b3 b4 b5 b6 b7,∃ J',a'=⟨dR s c q b0 J',df⟩/\Holds d T1 o (LR b0 b1 b2 b3 b4 b5 b6 b7) w') (λ_ _ _=>False))
   ⟨xH s c q J,df⟩ w:=by
 unfold kD;simp only[f55,Qf,aB,jA,nC,xH,dR];co_apply wpC_more
 . co_reg terms
   co_apply gH terms rfl (by rfl) rfl (n5A aVA y4A f7A _ hF) (by simp);rintro v w ⟨b0,b1,b2,b3,b4,b5,b6,b7,rfl,hF⟩
   try walk_nrm
   co_op Holds.rely hF (co_quiet terms);co_apply opsC_nil terms;co_then;exact⟨b0,b1,b2,b3,b4,b5,b6,b7,bB (by rfl) hF⟩
 . decide
theorem zMA{d:Deal}{o:Option Nat}{df:List Deferred}{L:List (Nat×Obj)}(s:ByteArray)(J:Nat->Value)(w:World)(hF:Holds d T1 o L w) :
 Code.wpC prog false (Rely d T1 o) (Lx.Does d T1 o) 55 (aB (jA (jA (jA (nC kD))))) 20
   (Exit.then (λa' w'=>∃ J',a'=⟨rG s c q b0 (0:Nat) J',df⟩/\Holds d T1 o L w') (λ_ _ _=>False))
   ⟨dR s c q b0 J,df⟩ w:=by
 unfold kD;simp only[f55,Qf,aB,jA,nC,rG,dR];co_apply wpC_more
 . co_reg terms
   co_op Holds.rely hF (co_quiet terms);co_apply opsC_nil terms;co_then;exact bB (by rfl) hF
 . decide
def kR(s:ByteArray)(c q:Nat):Deferred:={ target:=.fn (.func 55) #[],args:=#[.string s,.chan (some c),.chan (some q)] }
theorem uVA(s:ByteArray)(w:World):stepG prog false (born prog (kR s c q)) w = .go (G (bScan.at ⟨xH s c q (λ_=>undef),[]⟩ [.code kD]) [aL]) w #[]:=by
 simp[born,kR,stepG,unwind,callDeferred,invoke,callFunc,func55,f55,seen,GStep.after,G,Frame.enter,Frame.at,bScan,aL,kD,xH]
theorem hWA(s:ByteArray)(hs:s.size<=100000)(acts:List SAct)(h:Scans s 0 acts)(w:World)(hF:Holds ⟨B,c⟩ T1 none [] w) :
 ∃ m,GoS (shared B c q Fin) acts none m (born prog (kR s c q)) w:=by
 obtain⟨m,hm⟩:=jWA (B:=B) (c:=c) (q:=q) (Fin:=Fin) s hs 0 acts h;refine⟨m+3000,Goes.mono (n:=m+2500+1) (Goes.step rfl λw₁ h₁=>?_) (by omega)⟩
 show GStep.goes (stepG prog false (born prog (kR s c q)) w₁) _
 rw [uVA]; refine ⟨Does.idle _, ?_⟩; replace hF := hF.rely h₁; rw [rKA]; refine Goes.mono (n := m + 2300 + 1 + 1 + 1 + 1 + 1) (yOA terms (mE terms (nK terms ?_))) (by omega); have ho0 : xYA[0]? = some { dst := some 12, op := .move (.tmp 1), type := 147, pos := "lexer.go:65", after := #[], guard := none } := by rfl
 have ho1 : xYA[1]? = some { dst := none, op := .defer { callee := .builtin .close, args := #[.tmp 12], argTypes := #[147] }, type := 0, pos := "lexer.go:65", after := #[{ on := 0, ground := .data }], guard := none } := by rfl
 show Goes _ _ _ _ _ _ (G (bScan.at _ (.inRegion xYA [0,1]::_)) _) _
 refine mY ho0 (by rfl) (by decide) λw₂ h₂ K hK=>?_
 replace hF := hF.rely h₂; have hl0 : listed Tryz.prog bScan.fn ⟨xH s c q (fun _ => undef), []⟩ { dst := some 12, op := .move (.tmp 1), type := 147, pos := "lexer.go:65", after := #[], guard := none } w₂ = #[] := listed_nil rfl
 change uponK _ _ K (Result.ok (Next.value (.chan (some c))) w₂)
 refine hK _ _ ⟨by show Lx.Does _ _ _ _ _ (listed prog bScan.fn _ _ _);rw[hl0];exact Does.idle _,?_⟩;have he12:(Act.put ⟨xH s c q (λ_=>undef),[]⟩ (some 12) (.chan (some c))).eval (.tmp 12) = .chan (some c):=rfl;refine tOA terms ho1 (by rfl) (by decide) (dd:=bK c #[147] 0 #[false]) (λ_=>by unfold execOp;simp[resolve,bK,he12]) (λ_=>by unfold execOp;simp[resolve]) ?_;have hfr:Act.put ⟨(Act.put ⟨xH s c q (λ_=>undef),[]⟩ (some 12) (.chan (some c))).tmps,bK c #[147] 0 #[false]::[]⟩ none undef=⟨xH s c q (λn=>((xH s c q (λ_=>undef)).setIfInBounds 12 (.chan (some c))).getD n undef),gK c⟩:=by rfl
 change Goes prog false _ _ _ _ (G (bScan.at (Act.put ⟨(Act.put ⟨xH s c q (λ_=>undef),[]⟩ (some 12) (.chan (some c))).tmps,bK c #[147] 0 #[false]::[]⟩ none undef) (.inRegion xYA []::_)) _) _
 rw[hfr];refine Goes.mono (zQ (m:=m+2200) (fn:=55) (Q:=Exit.then (λa' w'=>a'=⟨xH s c q (λn=>((xH s c q (λ_=>undef)).setIfInBounds 12 (.chan (some c))).getD n undef),gK c⟩/\Holds ⟨B,c⟩ T1 none [] w') (λ_ _ _=>False)) (opsC_nil terms ⟨rfl,hF⟩) rfl (by decide) ?_) (by omega);rintro e a' w' h
 cases e with
 | normal =>
   obtain⟨rfl,hF⟩:=h;refine Goes.mono (mE terms (rE (m:=m+100) (jOA s _ w' hF) rfl (by decide) ?_)) (by omega);rintro e a' w' h
   cases e with
   | normal =>
     obtain⟨b0,b1,b2,b3,b4,b5,b6,b7,J',rfl,hF⟩:=h;have hlow:=hF.safe;refine Goes.mono (mE terms (rE (m:=m+50) (Q:=Exit.then (λa' w'=>a'=⟨dR s c q b0 J',gK c⟩/\Holds ⟨B,c⟩ T1 none (LR b0 b1 b2 b3 b4 b5 b6 b7) w') (λ_ _ _=>False)) (wpC_label terms ⟨rfl,hF⟩) rfl (by decide) ?_)) (by omega);rintro e a' w' h
     cases e with
     | normal =>
       obtain⟨rfl,hF⟩:=h;refine Goes.mono (mE terms (rE (m:=m+3) (zMA s J' w' hF) rfl (by decide) ?_)) (by omega);rintro e a' w' h
       cases e with
       | normal =>
         obtain⟨J',rfl,hF⟩:=h;exact Goes.mono (kS terms (gHA terms (hm _ _ _ _ _ _ _ _ _ _ _ hlow hF))) (by omega)
       | _=>exact h.elim
     | _=>exact h.elim
   | _=>exact h.elim
 | _=>exact h.elim
end
noncomputable def aF:Code:=f41.body.getD .skip
noncomputable def iF:Code:=jA (jA aF)
noncomputable def fHA:Array Oper:=opsOf (aB (jA (jA iF)))
noncomputable def uE:Code:=jA (jA (jA iF))
noncomputable def yJ:Code:=aB (jA uE)
noncomputable def lexEnd:Code:=jA (jA uE)
noncomputable def nE:Code:=nC (nC (jA yJ))
noncomputable def zK:Array Oper:=opsOf (aB nE)
noncomputable def eF:Code:=nC (jA (jA nE))
noncomputable def tCA:Array Oper:=opsOf (aB eF)
theorem gBA:nE = .seq (.region 8 zK false) (.seq (aB (jA nE)) (.block 1 (.seq (.region 9 tCA false) (.seq (aB (jA eF)) (jA (jA eF)))))):=by rfl
theorem aNA:uE = .seq (aB uE) (.seq (.seq (aB yJ) (.block 0 (.loop nE))) lexEnd):=by rfl
def zD(s:ByteArray)(c q:Nat)(v:Value)(J:Nat->Value):Array Value :=
 #[.string s, J 1, J 2, J 3, J 4, .chan (some c), .chan (some q), v, J 8, J 9, J 10, J 11, J 12, J 13, J 14, J 15, J 16, J 17, .chan (some c), J 19, J 20, J 21, J 22, J 23, J 24, J 25, J 26, J 27, J 28, J 29, J 30, J 31, J 32, J 33, J 34, J 35]
def iT(s:ByteArray)(c q:Nat)(v x:Value)(J:Nat->Value):Array Value :=
 #[.string s, J 1, J 2, J 3, J 4, .chan (some c), .chan (some q), v, J 8, J 9, J 10, J 11, J 12, J 13, J 14, J 15, J 16, J 17, .chan (some c), J 19, J 20, x, J 22, J 23, J 24, J 25, J 26, J 27, J 28, J 29, J 30, J 31, J 32, J 33, J 34, J 35]
def wX(s:ByteArray)(c q:Nat)(v:Value)(xb:Nat)(J:Nat->Value):Array Value :=
 #[.string s, J 1, J 2, J 3, J 4, .chan (some c), .chan (some q), v, .pointer (some ⟨xb, 0, none⟩), J 9, J 10, J 11, J 12, J 13, J 14, J 15, J 16, J 17, .chan (some c), J 19, J 20, J 21, J 22, J 23, J 24, J 25, J 26, J 27, J 28, J 29, J 30, J 31, J 32, J 33, J 34, J 35]
section
variable {d : Deal} {o : Option Nat} {L : List (Nat × Obj)} {w0 : World} {v : Value} {n : Nat} {xs : List Value} {df : List Deferred} {b : Frame} {kk : List Item} {cs : List Frame} {Stop : Goroutine -> World -> Prop}
abbrev MX(d:Deal)(L:List (Nat×Obj))(w0:World)(v:Value)(n:Nat)(xs:List Value)(o:Option Nat)(w:World):Prop:=MH d T0 118 3 L w0 v n xs o w
theorem wNA(s:ByteArray)(c q:Nat)(J:Nat->Value)(hbk:b.kind≠.early)(w:World) :
 stepG prog true (G (b.at ⟨zD s c q v J,df⟩ (.inRegion zK [0,1]::kk)) cs) w =
   .comm (G (b.at ⟨zD s c q v J,df⟩ (.inRegion zK [0,1]::kk)) cs) #[rcase c vM] true (.recv true) w #[]:=by
 have ho : zK[0]? = some { dst := some 19, op := .recv 114 (.tmp 18) true, type := 0, pos := "lexer.go:101", after := #[], guard := none } := by rfl
 have he1 : (⟨zD s c q v J, df⟩ : Act).eval (.tmp 18) = .chan (some c) := rfl; have hr : (execOp (⟨zD s c q v J, df⟩ : Act).eval { dst := some 19, op := .recv 114 (.tmp 18) true, type := 0, pos := "lexer.go:101", after := #[], guard := none }).run Tryz.prog w = .ok (.comm #[rcase c vM] true (.recv true)) w := by
  unfold execOp;simp[rcase,he1,vM,vB]
 have hl : (execOp (⟨zD s c q v J, df⟩ : Act).eval { dst := some 19, op := .recv 114 (.tmp 18) true, type := 0, pos := "lexer.go:101", after := #[], guard := none }).events Tryz.prog w #[] = #[] := by
  unfold execOp;simp
 rw[stepG_comm ho (by rfl) hbk hr,listed_nil hl]
theorem pNA(s:ByteArray)(c q:Nat)(x:Value)(ok:Bool)(J:Nat->Value) :
 (G (b.at ⟨zD s c q v J,df⟩ (.inRegion zK [0,1]::kk)) cs).finishComm prog #[rcase c vM] (.recv true) 0 x ok =
   G (b.at ⟨(zD s c q v J).setIfInBounds 19 (.tuple #[x,.bool ok]),df⟩ (.inRegion zK [1]::kk)) cs:=by
 have ho:(zK[0]?).bind (·.dst)=some 19:=by rfl
 have hr:commResult #[rcase c vM] (.recv true) 0 x ok = .tuple #[x,.bool ok]:=by rfl
 simp only[Goroutine.finishComm,G,hr,Frame.finish_at,ho];rfl
theorem r3A(s:ByteArray)(c q:Nat)(x:Value)(J:Nat->Value)(w:World)(hF:MX d L w0 v n xs o w) :
 OpsC prog true (Rely d T0 o) (Lx.Does d T0 o) 41 zK [1] 10
   (Exit.then (λa' w'=>∃ J',a'=⟨((zD s c q v J').setIfInBounds 19 (.tuple #[x,.bool true])).setIfInBounds 20 (.bool true),df⟩/\MX d L w0 v n xs o w') (λ_ _ _=>False))
   ⟨(zD s c q v J).setIfInBounds 19 (.tuple #[x,.bool true]),df⟩ w:=by
 have he:zK=opsOf (aB nE):=rfl;rw[he];clear he;unfold nE yJ uE iF aF;simp only[f41,Qf,aB,jA,nC,opsOf,zD,List.setIfInBounds_toArray,List.set_cons_succ,List.set_cons_zero];co_apply opsC_more
 . co_op MH.rely hF (co_quiet terms);co_apply opsC_nil terms;co_then;exact bB (by rfl) hF
 . decide
theorem k0A(s:ByteArray)(c q:Nat)(x:Value)(J:Nat->Value)(w:World)(hF:MX d L w0 v n xs o w) :
 Code.wpC prog true (Rely d T0 o) (Lx.Does d T0 o) 41 (aB (jA nE)) 100
   (Exit.then (λa' w'=>∃ J',a'=⟨(zD s c q v J').setIfInBounds 19 (.tuple #[x,.bool true]),df⟩/\MX d L w0 v n xs o w') (λ_ _ _=>False))
   ⟨((zD s c q v J).setIfInBounds 19 (.tuple #[x,.bool true])).setIfInBounds 20 (.bool true),df⟩ w:=by
 unfold nE yJ uE iF aF;simp only[f41,Qf,aB,jA,nC,zD,List.setIfInBounds_toArray,List.set_cons_succ,List.set_cons_zero];co_apply wpC_more
 . skip
   co_apply wpC_cond (t:=true) terms rfl;simp only[if_true];co_ctl terms;co_then;exact bB (by rfl) hF
 . decide
theorem lDB(s:ByteArray)(c q:Nat)(x:Value)(J:Nat->Value)(hbf:b.fn=41)(hbk:b.kind≠.early)(w:World)(hF:MX d L w0 v n xs o w)
    (hS:∀ J w₁,MX d L w0 v n xs o w₁->Stop (G (b.at ⟨iT s c q v x J,df⟩ (.inRegion tCA [1,2] :: .code (.seq (aB (jA eF)) (jA (jA eF))) :: .inBlock 1::kk)) cs) w₁) :
    Goes prog true (Rely d T0 o) (Lx.Does d T0 o) Stop 200 (G (b.at ⟨(zD s c q v J).setIfInBounds 19 (.tuple #[x,.bool true]),df⟩ (.inRegion zK [1] :: .code (.seq (aB (jA nE)) (.block 1 (.seq (.region 9 tCA false) (.seq (aB (jA eF)) (jA (jA eF))))))::kk)) cs) w:=by
  refine Goes.mono (zQ (m:=150) (r3A s c q x J w hF) hbf hbk ?_) (by decide);rintro e a' w' h
  cases e with
  | normal =>
    clear hF;obtain⟨J',rfl,hF⟩:=h;refine Goes.mono (mE terms (rE (m:=10) (k0A s c q x J' w' hF) hbf hbk ?_)) (by decide);rintro e a' w' h
    cases e with
    | normal =>
      clear hF;obtain⟨J',rfl,hF⟩:=h;refine Goes.mono (n:=1+1+1+1) (n':=10) (kS terms (mE terms (nK terms ?_))) (by decide);have he:tCA=opsOf (aB eF):=rfl;rw[he]at hS ⊢;generalize hg:Code.seq (aB (jA eF)) (jA (jA eF))=rest at hS ⊢;clear hg he;unfold eF nE yJ uE iF aF at hS ⊢;simp only[f41,Qf,aB,jA,nC,opsOf,zD,List.setIfInBounds_toArray,List.set_cons_succ,List.set_cons_zero,List.size_toArray,Qk,List.length_nil,Nat.reduceAdd,Nat.zero_add,List.range,List.range.loop]at hS ⊢;co_apply mY rfl (by rfl) hbk;intro _ hR K hK;replace hF:=MH.rely hF hR;clear hR;go_simp;refine hK _ _ ⟨?_,?_⟩
      . co_quiet terms
      clear hK K
      try walk_nrm
      exact gIA λw₁ hR=>oTA hS (by rfl) w₁ (MH.rely hF hR)
    | _=>exact h.elim
  | _=>exact h.elim
theorem sAB(s:ByteArray)(c q:Nat)(x:Value)(J:Nat->Value)(hbk:b.kind≠.early)(w:World) :
 ∃ es,stepG prog true (G (b.at ⟨iT s c q v x J,df⟩ (.inRegion tCA [1,2]::kk)) cs) w =
   .go (G (b.at ⟨(iT s c q v x J).setIfInBounds 8 (.pointer (some ⟨w.heap.size,0,none⟩)),df⟩ (.inRegion tCA [2]::kk)) cs) (w.alloc (.cells (vB 0 0 ⟨#[]⟩ 0) 120 (0,0))) es/\∀ e∈es,iX d T0 (some w.heap.size) (w.alloc (.cells (vB 0 0 ⟨#[]⟩ 0) 120 (0,0))) e:=by
 have ho : tCA[1]? = some { dst := some 8, op := .alloc 120, type := 0, pos := "lexer.go:101", after := #[], guard := none } := by rfl
 refine⟨_,stepG_value ho (by rfl) hbk (v:=.pointer (some ⟨w.heap.size,0,none⟩)) ?_,?_⟩
 . refine jHA λK hK=>?_
   go_simp;exact hK
 . rw[listed_nil (by simp[go_sem])];simp
end
theorem wO:T0 118:=rfl
theorem Tryz.info118:(Tryz.prog.info? 118).map (λi=>(i.zero,i.size,i.bytes))=some (some (.agg #[.int .i64 0,.int .i64 0,.string ⟨#[]⟩]),3,32):=by kernel_rfl
section
variable {d : Deal} {o : Option Nat} {L : List (Nat × Obj)} {w0 : World} {v : Value} {n xb : Nat} {xs : List Value} {df : List Deferred}
theorem k4A(s x:ByteArray)(c q k:Nat)(kd e:Int)(J:Nat->Value)(hv:v.ownBlock≠some xb)(w:World)(hF:MX d [(xb,Obj.cells (vB 0 0 ⟨#[]⟩ 0) 120 (0,0))] w0 v n xs (some xb) w) :
 OpsC prog true (Rely d T0 (some xb)) (Lx.Does d T0 (some xb)) 41 tCA [2] 10
   (Exit.then (λa' w'=>∃ J',a'=⟨wX s c q v xb J',df⟩/\MX d [(xb,Obj.cells (vB kd k x e) 120 (0,0))] w0 v n xs (some xb) w') (λ_ _ _=>False))
   ⟨(iT s c q v (.agg (vB kd k x e)) J).setIfInBounds 8 (.pointer (some ⟨xb,0,none⟩)),df⟩ w:=by
 have he:tCA=opsOf (aB eF):=rfl;rw[he];clear he;unfold eF nE yJ uE iF aF;simp only[f41,Qf,aB,jA,nC,opsOf,iT,wX,vB,List.setIfInBounds_toArray,List.set_cons_succ,List.set_cons_zero]at hF ⊢;co_apply opsC_more
 . co_opw MH.rely hF (have hm:(xb,Obj.cells #[.int .i64 0,.int .i64 ((0:Nat):Int),.string ⟨#[]⟩,.int .i64 0] 120 (0,0))∈[(xb,Obj.cells #[.int .i64 0,.int .i64 ((0:Nat):Int),.string ⟨#[]⟩,.int .i64 0] 120 (0,0))]:=Qn;have hc0:_=some _:=hF.holds.cell hm 0;have hc1:_=some _:=hF.holds.cell hm 1;have hc2:_=some _:=hF.holds.cell hm 2;have hc3:_=some _:=hF.holds.cell hm 3;have hf0:=hF.holds.frozen hm 0;have hf1:=hF.holds.frozen hm 1;have hf2:=hF.holds.frozen hm 2;have hf3:=hF.holds.frozen hm 3) (have ho:=hF.holds.boxOwn;have ht:=Turn.set4 ho (hF.holds.lt hm) hF.holds.big (.int .i64 kd) (.int .i64 (k:Int)) (.string x) (.int .i64 e);refine⟨ht,?_⟩;have ho2:=ht.own_fwd (hF.holds.lt hm) ho;clear ht ho;have es:=nS prog;intro e he;have hm:=mem_listed he;simp[go_sem, *]at hm;rcases hm with rfl|rfl|rfl|rfl<;>exact bR ho2 _ _ _)
   replace hF:=hF.set4 hv (.int .i64 kd) (.int .i64 (k:Int)) (.string x) (.int .i64 e);co_apply opsC_nil terms;co_then;exact bB (by rfl) hF
 . decide
theorem yAB(s x:ByteArray)(c q k:Nat)(kd:Int)(J:Nat->Value)(w:World)(hF:MX d [(xb,Obj.cells (vB kd k x 0) 120 (0,0))] w0 v n xs (some xb) w) :
 Code.wpC prog true (Rely d T0 (some xb)) (Lx.Does d T0 (some xb)) 41 (aB (jA eF)) 100
   (Exit.then (λa' w'=>∃ J',a'=⟨wX s c q v xb J',df⟩/\MX d [(xb,Obj.cells (vB kd k x 0) 120 (0,0))] w0 v n xs (some xb) w') (λ_ _ _=>False))
   ⟨wX s c q v xb J,df⟩ w:=by
 have hm:(xb,Obj.cells (vB kd k x 0) 120 (0,0))∈[(xb,Obj.cells (vB kd k x 0) 120 (0,0))]:=Qn;unfold eF nE yJ uE iF aF;simp only[f41,Qf,aB,jA,nC,wX];co_apply wpC_more
 . co_apply wpC_seq terms
   co_reg terms
   co_op MH.rely hF (co_quiet terms)
   co_opw MH.rely hF (have hc:_=some (Value.int .i64 0):=hF.holds.cell hm 3) (refine Does.reads ?_;co_evs (exact hF.holds.read hm _ _))
   clear hc;co_op MH.rely hF (co_quiet terms);co_apply opsC_nil terms;co_then;co_apply wpC_cond (t:=false) terms rfl;simp only[Qs,if_false];co_ctl terms;co_then;exact bB (by rfl) hF
 . decide
theorem r2A(s x:ByteArray)(c q k:Nat)(kd:Int)(J:Nat->Value)(hn:n<=1000000)(w:World)(hF:MX d [(xb,Obj.cells (vB kd k x 0) 120 (0,0))] w0 v n xs (some xb) w) :
 Code.wpC prog true (Rely d T0 (some xb)) (Lx.Does d T0 (some xb)) 41 (jA (jA eF)) 100
   (Exit.then (λa' w'=>∃ v',(∃ J',a'=⟨zD s c q v' J',df⟩/\MX d [] w0 v' (n+1) (xs++[.int .i64 kd,.int .i64 (k:Int),.string x]) (some xb) w')) (λ_ _ _=>False))
   ⟨wX s c q v xb J,df⟩ w:=by
 have hm:(xb,Obj.cells (vB kd k x 0) 120 (0,0))∈[(xb,Obj.cells (vB kd k x 0) 120 (0,0))]:=Qn;obtain⟨i0,hi,hz⟩:=Option.map_eq_some_iff.1 Tryz.info118;simp only[Prod.mk.injEq]at hz;obtain⟨hz0,hz1,hz2⟩:=hz;have HI:=aA hi;have HZ0:=aA hz0;have HZ1:=aA hz1;have HZ2:=aA hz2;clear hi hz0 hz1 hz2;unfold eF nE yJ uE iF aF;simp only[f41,Qf,aB,jA,nC,wX,zD];co_apply wpC_more
 . co_reg terms
   co_op MH.rely hF (co_quiet terms);co_op MH.rely hF (co_quiet terms)
   co_opw MH.rely hF (have hc0:_=some (Value.int .i64 kd):=hF.holds.cell hm 0;have hc1:_=some (Value.int .i64 (k:Int)):=hF.holds.cell hm 1;have hc2:_=some (Value.string x):=hF.holds.cell hm 2) (refine Does.reads ?_;intro e he;have hm:=mem_listed he;simp[go_sem, *]at hm;rcases hm with rfl|rfl|rfl<;>exact hF.holds.read hm _ _)
   clear hc0 hc1 hc2
   co_opw MH.rely hF (skip) (refine⟨Turn.alloc wO hF.holds.box,?_⟩;co_evs (skip))
   have hBn:=hF.holds.big;replace hF:=hF.cons #[.int .i64 kd,.int .i64 (k:Int),.string x] wO
   revert hBn hF
   generalize Array.size (World.heap _)=nb;intro hBn hF;co_apply opsC_cons_k rfl (by rfl);intro w1 hR K hK;replace hF:=MH.rely hF hR;clear hR;have hmn:(nb,Obj.cells #[.int .i64 kd,.int .i64 (k:Int),.string x] 118 (0,0))∈(nb,Obj.cells #[.int .i64 kd,.int .i64 (k:Int),.string x] 118 (0,0))::[(xb,Obj.cells (vB kd k x 0) 120 (0,0))]:=Qn;have hnews:∀ j u,[Value.int .i64 kd,.int .i64 (k:Int),.string x][j]? = some u->w1.cell? ((⟨nb,0,none⟩:Addr).add j)=some u:=by
    intro j u hu;rw[y0A,hF.holds.cell hmn j]
    simpa using hu
   have h1:∀ u∈[Value.int .i64 kd,.int .i64 (k:Int),.string x],u.oneCell'=true:=by
    intro u hu;simp only[List.mem_cons,List.not_mem_nil,or_false]at hu;rcases hu with rfl|rfl|rfl<;>rfl
   have hmx:n+1<=maxLen:=by simp only[maxLen];omega
   have hby:(n+1) * 32<=140737488355328:=by omega
   obtain⟨v',w',hr,hown',hg,ht⟩:=rNA (P:=prog) (d:=d) (T:=T0) (o:=some xb) w1 97 97 118 i0 _ 3 32 underlying97 HI.out HZ0.out HZ1.out HZ2.out rfl (by decide) v n xs hF.own ⟨nb,0,none⟩ 1 1 [.int .i64 kd,.int .i64 (k:Int),.string x] (by decide) rfl hnews h1 hmx hby wO hF.holds.big hF.holds.box;have hev:=events_append_where (P:=prog) w1 d.B 97 97 118 i0 _ 3 32 underlying97 HI.out HZ0.out HZ1.out HZ2.out v n xs hF.own ⟨nb,0,none⟩ 1 1 [.int .i64 kd,.int .i64 (k:Int),.string x] rfl hnews h1 hmx hby;refine uponK_append (.tmp 30) (.tmp 33) 97 rfl rfl rfl hr (hK _ _ ⟨⟨ht,?_⟩,?_⟩)
   . intro e he;have hm:=mem_listed he;rw[events_append_op (.tmp 30) (.tmp 33) 97 rfl rfl rfl]at hm;rcases hev e hm with⟨ad,hl,hcase⟩|⟨m,rfl,hneu⟩
     . rcases hcase with⟨_,hb⟩|hb
       . have hb:ad.block=nb:=hb;exact lMA hl (hb▸ht.own_fwd (hF.holds.lt hmn) (hF.holds.mine hmn hBn wO))
       . obtain⟨h1,h2⟩:=xRA (o:=some xb) wO hF.own hb.symm;exact lMA hl (ht.own_fwd h2 h1)
     . exact iVA hneu
   replace hF:MX d [] w0 v' (n+1) (xs++[.int .i64 kd,.int .i64 (k:Int),.string x]) (some xb) w' :=
    ⟨⟨by simp,by simp,Ql hF.holds.big ht.size,λb hb=>Qb (hF.holds.box b hb) ht.size⟩,hown',hF.low.turn ht hF.holds.big hF.boxB,wO,hF.boxB⟩
   clear hK K hnews h1 hr hown' hg ht hev hmn hBn
   try walk_nrm
   co_op MH.rely hF (co_quiet terms);co_apply opsC_nil terms;co_then;exact⟨v',bB (by rfl) hF⟩
 . decide
end
structure Tok where
 kind:Int
 at_:Nat
 text:ByteArray
def rP(t:Tok):Value:=.agg (vB t.kind t.at_ t.text 0)
def aI:List Tok->List Value
  | []=>[]
  | t::l=>.int .i64 t.kind :: .int .i64 (t.at_:Int) :: .string t.text::aI l
theorem lGA(l:List Tok)(t:Tok):aI (l++[t])=aI l++[.int .i64 t.kind,.int .i64 (t.at_:Int),.string t.text]:=by
 induction l with
 | nil=>rfl
 | cons x l ih=>simp[aI,ih]
def kEA:List Tok->List MAct
  | []=>[]
  | t::l=>.recv (rP t) :: .box::kEA l
theorem nNA(l:List Tok):recvs (kEA l)=l.map rP:=by
 induction l with
 | nil=>rfl
 | cons x l ih=>simp[kEA,recvs,ih]
def bLex:Frame:=base 41
noncomputable def dV:List Item:=[.inLoop nE,.inBlock 0,.code lexEnd]
def aD(q:Nat):List Deferred:=[bK q #[115] 0 #[false]]
def kFA(s:ByteArray)(B c q:Nat)(cs:List Frame)(w0:World)(all:List Tok)(g:Goroutine)(w:World):Prop :=
 ∃ o v J,g=G (bLex.at ⟨(zD s c q v J).setIfInBounds 19 (.tuple #[vM,.bool false]),aD q⟩ (.inRegion zK [1] :: .code (.seq (aB (jA nE)) (.block 1 (.seq (.region 9 tCA false) (.seq (aB (jA eF)) (jA (jA eF))))))::dV)) cs/\MX ⟨B,c⟩ [] w0 v all.length (aI all) o w
section
variable {s : ByteArray} {B c q : Nat} {cs : List Frame} {w0 : World} {all : List Tok}
theorem uMA:∀(l done:List Tok),done++l=all->all.length<=1000000 ->
 ∃ m,∀ o J v w,MX ⟨B,c⟩ [] w0 v done.length (aI done) o w ->
  GoM (shared B c q (kFA s B c q cs w0 all)) (kEA l) o m (G (bLex.at ⟨zD s c q v J,aD q⟩ (.code nE::dV)) cs) w
 | [], done, hall, hlen => by
   refine⟨2,λo J v w hF=>?_⟩;rw[gBA];refine mE terms (nK terms ?_);intro w₁ hR;have hF1:=MH.rely hF hR;refine⟨rfl,wNA (b:=bLex) s c q J (by decide) w₁,o,v,J,pNA s c q vM false J,?_⟩;have hall:done=all:=by simpa using hall
   rw[<- hall];exact hF1
 | t :: l, done, hall, hlen => by
   obtain⟨m',ih⟩:=uMA l (done++[t]) (by simpa using hall) hlen;have hdl:done.length<=1000000:=by
    have:done.length<=all.length:=by rw[<- hall];simp
    omega
   refine⟨2,λo J v w hF=>?_⟩;rw[gBA];refine mE terms (nK terms ?_);intro w₁ hR;have hF1:=MH.rely hF hR;refine⟨rfl,wNA (b:=bLex) s c q J (by decide) w₁,200,?_⟩
   show Goes prog true (Rely ⟨B,c⟩ T0 o) (Lx.Does ⟨B,c⟩ T0 o) _ 200 ((G (bLex.at ⟨zD s c q v J,aD q⟩ (.inRegion zK [0,1]::_)) cs).finishComm prog #[rcase c vM] (.recv true) 0 (rP t) true) w₁
   rw[pNA];refine lDB s c q (rP t) J rfl (by decide) w₁ hF1 λJ w₂ hF2=>?_
   obtain⟨es,hst,hes⟩:=sAB (d:=⟨B,c⟩) (b:=bLex) (v:=v) (df:=aD q) (kk:=.code (.seq (aB (jA eF)) (jA (jA eF))) :: .inBlock 1::dV) (cs:=cs) s c q (rP t) J (by decide) w₂;have hb:=hF2.boxed (tb:=120) (vB 0 0 ⟨#[]⟩ 0);have hv:v.ownBlock≠some w₂.heap.size:=λh=>by
    have:=(hF2.own.lt _ h).2;omega
   refine⟨rfl,_,_,es,hst,⟨rfl,rfl,rfl,_,_,bE _ _⟩,hes,m'+300,?_⟩;refine Goes.mono (zQ (m:=m'+250) (k4A s t.text c q t.at_ t.kind 0 J hv _ hb) rfl (by decide) ?_) (by omega);rintro e a' w' h
   cases e with
   | normal =>
     obtain⟨J',rfl,hF'⟩:=h;refine Goes.mono (mE terms (rE (m:=m'+120) (yAB s t.text c q t.at_ t.kind J' w' hF') rfl (by decide) ?_)) (by omega);rintro e a' w' h
     cases e with
     | normal =>
       obtain⟨J',rfl,hF'⟩:=h;refine Goes.mono (rE (m:=m'+2) (r2A s t.text c q t.at_ t.kind J' hdl w' hF') rfl (by decide) ?_) (by omega);rintro e a' w' h
       cases e with
       | normal =>
         obtain⟨v',J',rfl,hF'⟩:=h;refine qY terms (uU terms (ih _ J' v' w' ?_));rw[lGA,Qc];exact hF'
       | _=>exact h.elim
     | _=>exact h.elim
   | _=>exact h.elim
def xJ(s:ByteArray)(c q:Nat)(J:Nat->Value):Array Value :=
 #[.string s, J 1, J 2, J 3, J 4, .chan (some c), .chan (some q), J 7, J 8, J 9, J 10, J 11, J 12, J 13, J 14, .string s, .chan (some c), .chan (some q), J 18, J 19, J 20, J 21, J 22, J 23, J 24, J 25, J 26, J 27, J 28, J 29, J 30, J 31, J 32, J 33, J 34, J 35]
def xZ(s:ByteArray)(c q:Nat)(J:Nat->Value):Array Value :=
 #[.string s, J 1, J 2, J 3, J 4, .chan (some c), .chan (some q), .slice none 0 0, J 8, J 9, J 10, J 11, J 12, J 13, J 14, J 15, J 16, J 17, J 18, J 19, J 20, J 21, J 22, J 23, J 24, J 25, J 26, J 27, J 28, J 29, J 30, J 31, J 32, J 33, J 34, J 35]
theorem sXA{d:Deal}{df:List Deferred}{o:Option Nat}(J:Nat->Value)(w:World)(hF:MX d [] w0 (.slice none 0 0) 0 [] o w) :
 Code.wpC prog true (Rely d T0 o) (Lx.Does d T0 o) 41 (aB uE) 100
   (Exit.then (λa' w'=>∃ J',a'=⟨xZ s c q J',df⟩/\MX d [] w0 (.slice none 0 0) 0 [] o w') (λ_ _ _=>False)) ⟨xJ s c q J,df⟩ w:=by
 unfold uE iF aF;simp only[f41,Qf,aB,jA,xJ,xZ];co_apply wpC_more
 . co_reg terms
   co_op MH.rely hF (co_quiet terms);co_apply opsC_nil terms;co_then;exact bB (by rfl) hF
 . decide
theorem jSA{d:Deal}{df:List Deferred}{o:Option Nat}(J:Nat->Value)(w:World)(hF:MX d [] w0 (.slice none 0 0) 0 [] o w) :
 Code.wpC prog true (Rely d T0 o) (Lx.Does d T0 o) 41 (aB yJ) 100
   (Exit.then (λa' w'=>∃ J',a'=⟨zD s c q (.slice none 0 0) J',df⟩/\MX d [] w0 (.slice none 0 0) 0 [] o w') (λ_ _ _=>False)) ⟨xZ s c q J,df⟩ w:=by
 unfold yJ uE iF aF;simp only[f41,Qf,aB,jA,xZ,zD];co_apply wpC_more
 . co_reg terms
   co_op MH.rely hF (co_quiet terms);co_apply opsC_nil terms;co_then;exact bB (by rfl) hF
 . decide
theorem nZA(hlen:all.length<=1000000)(J:Nat->Value)(w:World)(hF:MX ⟨B,c⟩ [] w0 (.slice none 0 0) 0 [] none w) :
 ∃ m,GoM (shared B c q (kFA s B c q cs w0 all)) (kEA all) none m (G (bLex.at ⟨xJ s c q J,aD q⟩ (.inRegion fHA [] :: .code uE::[])) cs) w:=by
 obtain⟨m,hm⟩:=uMA (s:=s) (B:=B) (c:=c) (q:=q) (cs:=cs) (w0:=w0) (all:=all) all [] rfl hlen;refine⟨m+500,?_⟩;refine Goes.mono (zQ (m:=m+400) (fn:=41) (Q:=Exit.then (λa' w'=>a'=⟨xJ s c q J,aD q⟩/\MX ⟨B,c⟩ [] w0 (.slice none 0 0) 0 [] none w') (λ_ _ _=>False)) (opsC_nil terms ⟨rfl,hF⟩) rfl (by decide) ?_) (by omega);rintro e a' w' h
 cases e with
 | normal =>
   obtain⟨rfl,hF⟩:=h;rw[aNA];refine Goes.mono (mE terms (rE (m:=m+200) (sXA J w' hF) rfl (by decide) ?_)) (by omega);rintro e a' w' h
   cases e with
   | normal =>
     obtain⟨J',rfl,hF⟩:=h;refine Goes.mono (mE terms (mE terms (rE (m:=m+2) (jSA J' w' hF) rfl (by decide) ?_))) (by omega);rintro e a' w' h
     cases e with
     | normal =>
       obtain⟨J',rfl,hF⟩:=h;exact kS terms (gHA terms (hm none J' _ w' hF))
     | _=>exact h.elim
   | _=>exact h.elim
 | _=>exact h.elim
theorem dSA(Fin:Goroutine->World->Prop)(hc:c < B)(hq:q < B)(hcq:c≠q):(shared B c q Fin).Fit:=by
 refine⟨?_,?_,?_,hc,hq,hcq⟩
 . intro ty h0 h1;have h0:ty=118:=h0;subst h0;rcases h1 with h|h|h<;>exact absurd h (by decide)
 . intro h;exact absurd (show 120=118 from h) (by decide)
 . intro h;have h:120=9∨120=131∨120=152:=h;exact absurd h (by decide)
theorem kZA(hs:s.size<=100000)(acts:List SAct)(h:Scans s 0 acts)(hsame:sends acts=all.map rP)(hlen:all.length<=1000000)(hcq:c≠q)(J:Nat->Value)(w:World)(h0:Low ⟨B,c⟩ w0 w)
    (hB:B=w.heap.size) (hc:∃ s r tm,w.heap[c]? = some (.chan 0 #[] false s r tm)) (hq:∃ s r tm,w.heap[q]? = some (.chan 0 #[] false s r tm)) :
    AtGo (shared B c q (kFA s B c q cs w0 all)) (kEA all) acts (G (bLex.at ⟨xJ s c q J,aD q⟩ (.inRegion fHA [3] :: .code uE::[])) cs) w:=by
  have hcl:c < B:=by obtain⟨_,_,_,h⟩:=hc;rw[hB];exact(Qe.1 h).1
  have hql:q < B:=by obtain⟨_,_,_,h⟩:=hq;rw[hB];exact(Qe.1 h).1
  refine ⟨dSA _ hcl hql hcq, rfl, hB, hq, hc, by rw [nNA, hsame], fun e => ?_⟩; have ho : fHA[3]? = some { dst := none, op := .go { callee := .value (.func 55), args := #[.tmp 15, .tmp 16, .tmp 17], argTypes := #[9, 147, 148] }, type := 0, pos := "lexer.go:99", after := #[{ on := 0, ground := .data }, { on := 1, ground := .data }, { on := 2, ground := .data }], guard := none } := by rfl
  have e1:(⟨xJ s c q J,aD q⟩:Act).eval (.tmp 15) = .string s:=rfl;have e2:(⟨xJ s c q J,aD q⟩:Act).eval (.tmp 16) = .chan (some c):=rfl;have e3:(⟨xJ s c q J,aD q⟩:Act).eval (.tmp 17) = .chan (some q):=rfl;have e4:(⟨xJ s c q J,aD q⟩:Act).eval (.func 55) = .func (.func 55) #[] #[]:=rfl;refine⟨_,_,?_,nZA hlen J (w.at e) ⟨⟨by simp,by simp,by rw[hB];exact Qd _,by simp⟩,World.ownsRow_nil _ _ _ _,⟨h0.os,h0.output,h0.size,h0.block⟩,wO,by simp⟩,
    hWA s hs acts h (w.at e) ⟨by simp,by simp,by rw[hB];exact Qd _,by simp⟩⟩
  refine(stepG_spawn (P:=prog) (d:=kR s c q) (w':=w.at e) ho (by rfl) (by decide) ?_ rfl).trans ?_
  . unfold execOp;simp[resolve,Deferred.ofValue,e1,e2,e3,e4,kR]
  . rw[listed_nil]
    . rfl
    . unfold execOp;simp[resolve,Deferred.ofValue,e4]
end
def qH(s:ByteArray)(J:Nat->Value):Array Value:=#[.string s,J 1,J 2,J 3,J 4,J 5,J 6,J 7,J 8,J 9,J 10,J 11,J 12,J 13,J 14,J 15,J 16,J 17,J 18,J 19,J 20,J 21,J 22,J 23,J 24,J 25,J 26,J 27,J 28,J 29,J 30,J 31,J 32,J 33,J 34,J 35]
def vL(s:ByteArray)(c q:Nat)(J:Nat->Value):Array Value:=#[.string s,J 1,J 2,J 3,J 4,.chan (some c),.chan (some q),J 7,J 8,J 9,J 10,J 11,J 12,J 13,J 14,J 15,J 16,J 17,J 18,J 19,J 20,J 21,J 22,J 23,J 24,J 25,J 26,J 27,J 28,J 29,J 30,J 31,J 32,J 33,J 34,J 35]
theorem kOA:aF = .seq (aB aF) (.seq (aB (jA aF)) iF):=by rfl
theorem dPA:iF = .seq (aB iF) (.seq (aB (jA iF)) (.seq (.region 5 fHA false) uE)):=by rfl
def IsF(F:(Nat->Value)->Array Value)(df:List Deferred)(Pw:World->Prop)(a:Act)(w:World):Prop:=(∃ J,a=⟨F J,df⟩)/\Pw w
theorem isF{F:(Nat->Value)->Array Value}{df:List Deferred}{Pw:World->Prop}{A:Array Value}{w:World}(h:A=F λn=>A.getD n undef)(hp:Pw w):IsF F df Pw ⟨A,df⟩ w:=⟨⟨_,by rw[<- h]⟩,hp⟩
theorem gQA{F:(Nat->Value)->Array Value}{df:List Deferred}{Pw:World->Prop}{a:Act}{w:World}(h:a=⟨F λn=>a.tmps.getD n undef,df⟩)(hp:Pw w):IsF F df Pw a w:=⟨⟨_,h⟩,hp⟩
theorem nXA(s:ByteArray)(J:Nat->Value)(w:World) :
 (aB aF).wp prog (Exit.then (IsF (qH s) [] (w = ·)) (λ_ _ _=>False)) ⟨qH s J,[]⟩ w:=by
 unfold aF;simp only[f41,Qf,aB];unfold qH;go_wp2;exact isF (F:=qH s) (by rfl) rfl
theorem b3A(s:ByteArray)(hs:s.size<=20000)(J:Nat->Value)(w:World) :
 (aB (jA aF)).wp prog (Exit.then (IsF (qH s) [] (w = ·)) (λ_ _ _=>False)) ⟨qH s J,[]⟩ w:=by
 unfold aF;simp only[f41,Qf,aB,jA];unfold qH;have h1:¬(20000:Int) < s.size:=by omega
 go_wp2;exact isF (F:=qH s) (by rfl) rfl
structure Chans (w0:World) (c q:Nat) (w:World):Prop where
 os:w.os=w0.os
 output:w.output=w0.output
 size:w.heap.size=w0.heap.size+2
 low:∀ b,b < w0.heap.size->w.heap[b]? = w0.heap[b]?
 ne:c≠q
 cl:w0.heap.size<=c
 ql:w0.heap.size<=q
 chan:∃ s r tm,w.heap[c]? = some (.chan 0 #[] false s r tm)
 quit:∃ s r tm,w.heap[q]? = some (.chan 0 #[] false s r tm)
def IsC(s:ByteArray)(df:Nat->List Deferred)(w0:World)(a:Act)(w:World):Prop:=∃ c q,IsF (vL s c q) (df q) (Chans w0 c q) a w
theorem uKA(w:World){c q:Nat}(h:(c=w.heap.size/\q=w.heap.size+1)∨(c=w.heap.size+1/\q=w.heap.size)):Chans w c q ((w.alloc (.chan 0 #[] false 0 0 false)).alloc (.chan 0 #[] false 0 0 false)).drew:=by
 have e0:∀ b,b < w.heap.size->((w.alloc (.chan 0 #[] false 0 0 false)).alloc (.chan 0 #[] false 0 0 false)).drew.heap[b]? = w.heap[b]? := λb hb=>by
  show((w.alloc (.chan 0 #[] false 0 0 false)).alloc (.chan 0 #[] false 0 0 false)).heap[b]? = _
  rw[bE,bE,Array.getElem?_push_lt (by simp;omega),<- Array.getElem?_eq_getElem,Array.getElem?_push_lt hb,<- Array.getElem?_eq_getElem]
 have e1:((w.alloc (.chan 0 #[] false 0 0 false)).alloc (.chan 0 #[] false 0 0 false)).drew.heap[w.heap.size]? = some (.chan 0 #[] false 0 0 false):=by
  show((w.alloc (.chan 0 #[] false 0 0 false)).alloc (.chan 0 #[] false 0 0 false)).heap[w.heap.size]? = _
  rw[bE,bE,Array.getElem?_push_lt (by simp),<- Array.getElem?_eq_getElem,Array.getElem?_push_size]
 have e2:((w.alloc (.chan 0 #[] false 0 0 false)).alloc (.chan 0 #[] false 0 0 false)).drew.heap[w.heap.size+1]? = some (.chan 0 #[] false 0 0 false):=by
  show((w.alloc (.chan 0 #[] false 0 0 false)).alloc (.chan 0 #[] false 0 0 false)).heap[w.heap.size+1]? = _
  have:w.heap.size+1=(w.heap.push (.chan 0 #[] false 0 0 false)).size:=by simp
  rw[bE,bE,this,Array.getElem?_push_size]
 have e3:((w.alloc (.chan 0 #[] false 0 0 false)).alloc (.chan 0 #[] false 0 0 false)).drew.heap.size=w.heap.size+2:=by
  show((w.alloc (.chan 0 #[] false 0 0 false)).alloc (.chan 0 #[] false 0 0 false)).heap.size=_
  rw[bE,bE];simp
 rcases h with⟨rfl,rfl⟩|⟨rfl,rfl⟩
 . exact⟨rfl,rfl,e3,e0,by omega,by omega,by omega,⟨_,_,_,e1⟩,⟨_,_,_,e2⟩⟩
 . exact⟨rfl,rfl,e3,e0,by omega,by omega,by omega,⟨_,_,_,e2⟩,⟨_,_,_,e1⟩⟩
theorem z6A(w:World):(Instr.makeChan 114 (.int .i64 0)).run prog w = .ok (.chan (some w.heap.size)) (w.alloc (.chan 0 #[] false 0 0 false)):=by kernel_rfl
theorem b5A(w:World):(Instr.makeChan 115 (.int .i64 0)).run prog w = .ok (.chan (some w.heap.size)) (w.alloc (.chan 0 #[] false 0 0 false)):=by kernel_rfl
theorem yVA(s:ByteArray)(J:Nat->Value)(w:World) :
 (aB iF).wp prog (Exit.then (IsC s (λ_=>[]) w) (λ_ _ _=>False)) ⟨qH s J,[]⟩ w:=by
 unfold iF aF;simp only[f41,Qf,aB,jA];unfold qH;have h1:=z6A;have h2:=b5A
 go_region
 all_goals
  first
  | exact⟨w.heap.size,w.heap.size+1,gQA (by rfl) (uKA w (.inl ⟨rfl,rfl⟩))⟩
  | exact⟨w.heap.size+1,w.heap.size,gQA (by rfl) (uKA w (.inr ⟨rfl,rfl⟩))⟩
theorem jXA(s:ByteArray)(c q:Nat)(J:Nat->Value)(w:World) :
 (aB (jA iF)).wp prog (Exit.then (IsF (vL s c q) (aD q) (w = ·)) (λ_ _ _=>False)) ⟨vL s c q J,[]⟩ w:=by
 unfold iF aF;simp only[f41,Qf,aB,jA];unfold vL;go_wp2;exact gQA (F:=vL s c q) (df:=aD q) (by rfl) rfl
theorem qZA(s:ByteArray)(c q:Nat)(J:Nat->Value)(w:World) :
 wpOps prog fHA (Exit.then (IsF (xJ s c q) (aD q) (w = ·)) (λ_ _ _=>False)) [0,1,2] ⟨vL s c q J,aD q⟩ w:=by
 have he:fHA=opsOf (aB (jA (jA iF))):=rfl;rw[he];unfold iF aF;simp only[f41,Qf,aB,jA,opsOf];refine .inl ?_;refine .inl ?_;refine .inl ?_;exact gQA (F:=xJ s c q) (df:=aD q) (by rfl) rfl
def hKA(W:World)(all:List Tok)(r:Value)(w:World):Prop :=
 ∃ v,r = .tuple #[v,.int .i64 0,.int .i64 0]/\w.ownsRow W.heap.size 118 3 v all.length (aI all)/\Under W w
def rQ(v:Value)(J:Nat->Value):Array Value:=#[J 0,J 1,v,.int .i64 0,.int .i64 0,J 5,J 6,J 7,J 8,J 9,J 10,J 11,J 12,J 13,J 14,J 15,J 16,J 17,J 18,J 19,J 20,J 21,J 22,J 23,J 24,J 25,J 26,J 27,J 28,J 29,J 30,J 31,J 32,J 33,J 34,J 35]
def gI(s:ByteArray)(c q:Nat)(v:Value)(J:Nat->Value):Array Value:=#[.string s,J 1,J 2,J 3,J 4,.chan (some c),.chan (some q),v,J 8,J 9,J 10,J 11,J 12,J 13,J 14,J 15,J 16,J 17,J 18,J 19,.bool false,J 21,J 22,J 23,J 24,J 25,J 26,J 27,J 28,J 29,J 30,J 31,J 32,J 33,J 34,J 35]
section
variable {s : ByteArray} {c q : Nat} {v : Value}
theorem mNA{df:List Deferred}(J:Nat->Value)(w:World) :
 wpOps prog zK (Exit.then (IsF (gI s c q v) df (w = ·)) (λ_ _ _=>False)) [1] ⟨(zD s c q v J).setIfInBounds 19 (.tuple #[vM,.bool false]),df⟩ w:=by
 have he:zK=opsOf (aB nE):=rfl;rw[he];unfold nE yJ uE iF aF;simp only[f41,Qf,aB,jA,nC,opsOf];refine .inl ?_;exact gQA (F:=gI s c q v) (df:=df) (by rfl) rfl
theorem o1A{df:List Deferred}(J:Nat->Value)(w:World) :
 (aB (jA nE)).wp prog (λe a' w'=>e = .exit 0/\IsF (gI s c q v) df (w = ·) a' w') ⟨gI s c q v J,df⟩ w:=by
 unfold nE yJ uE iF aF;simp only[f41,Qf,aB,jA,nC];unfold gI;go_wp2;exact gQA (F:=gI s c q v) (by rfl) rfl
theorem y6A{df:List Deferred}(J:Nat->Value)(w:World) :
 lexEnd.wp prog (λe a' w'=>e = .ret/\IsF (rQ v) df (w = ·) a' w') ⟨gI s c q v J,df⟩ w:=by
 unfold lexEnd uE iF aF;simp only[f41,Qf,jA];unfold gI;go_wp2;exact gQA (F:=rQ v) (by rfl) rfl
end
theorem dCA{c:Code}{Q:Exit->Act->World->Prop}{a:Act}{W w:World}(hw:w.Alike W)(h:∀ w',w'.Alike W->c.wp prog Q a w')(τ:Nat->Question->Nat)(d:Nat):c.wp prog Q a (re w τ d):=h _ ⟨hw.1,hw.2.1,hw.2.2⟩
theorem p9{F:(Nat->Value)->Array Value}{df:List Deferred}{W w:World}(hw:w.Alike W):∀ e a w',Exit.then (IsF F df (w = ·)) (λ_ _ _=>False) e a w'->Exit.then (IsF F df (·.Alike W)) (λ_ _ _=>False) e a w':=by
 intro e a w' h
 cases e with
 | normal=>obtain⟨h1,rfl⟩:=h;exact⟨h1,hw⟩
 | _=>exact h
theorem lZ{w:World}{b b':Nat}{e:TypeId}{size n:Nat}{v:Value}{xs:List Value}(h:w.ownsRow b e size v n xs)(hb:b'<=b):w.ownsRow b' e size v n xs:=by
 refine⟨h.1,?_⟩;rcases h.2 with hn|⟨g,cap,cur,rfl,hg,rest⟩
 . exact .inl hn
 . exact .inr ⟨g,cap,cur,rfl,Ql hb hg,rest⟩
theorem bZA(T:Tame prog){s:ByteArray}{W w0:World}{c q:Nat}{all:List Tok}(hC:Chans W c q w0)(cs:List Frame)(g:Goroutine)(w:World)(h:kFA s w0.heap.size c q cs w0 all g w) :
 RunG prog (λg' w'=>∃ r fr,g'=G fr cs/\fr.fn=41/\(∀ τ d,fr.leaving prog (re w' τ d) (.returned r))/\hKA W all r w') g w:=by
 obtain⟨o,v,J,rfl,hM⟩:=h;have hsz:=hC.size;have hqlt:q < w0.heap.size:=by obtain⟨_,_,_,hq⟩:=hC.quit;exact(Qe.1 hq).1
 have hq:∃ s r tm,w.heap[q]? = some (.chan 0 #[] false s r tm):=by
  obtain⟨s,r,tm,hq⟩:=hC.quit;exact⟨s,r,tm,by rw[hM.low.block q hqlt (Ne.symm hC.ne)];exact hq⟩
 refine RunG.lone T λτ d=>?_
 obtain⟨a1,w1,⟨⟨J1,rfl⟩,rfl⟩,hs1⟩:=oCA (K:=IsF (gI s c q v) (aD q) (re w τ d = ·)) [1] [] _ _ (mNA (s:=s) (c:=c) (q:=q) (v:=v) (df:=aD q) J (re w τ d)) bLex (.code (.seq (aB (jA nE)) (.block 1 (.seq (.region 9 tCA false) (.seq (aB (jA eF)) (jA (jA eF))))))::dV) cs (by decide);refine⟨_,_,hs1,rfl,RunG.re ?_ τ d⟩;refine RunG.step T (λw=>step_region_end) (RunG.step T (λw=>step_seq) ?_);refine vD T (Q:=λe a' w'=>e = .exit 0/\IsF (gI s c q v) (aD q) (·.Alike w) a' w') (λτ d=>wp_mono (o1A (s:=s) (c:=c) (q:=q) (v:=v) (df:=aD q) J1 (re w τ d)) ?_) bLex _ cs _ (by decide) ?_
 . rintro e a' w' ⟨rfl,h1,rfl⟩;exact⟨rfl,h1,rfl,rfl,rfl⟩
 rintro e a' w2 ⟨rfl,⟨J2,rfl⟩,hA2⟩;refine⟨[.code lexEnd],by simp[exitTo,dV],?_⟩;refine vD T (Q:=λe a' w'=>e = .ret/\IsF (rQ v) (aD q) (·.Alike w) a' w') (λτ d=>wp_mono (y6A (s:=s) (c:=c) (q:=q) (v:=v) (df:=aD q) J2 (re w2 τ d)) ?_) bLex _ cs _ (by decide) ?_
 . rintro e a' w' ⟨rfl,h1,rfl⟩;exact⟨rfl,h1,hA2.1,hA2.2.1,hA2.2.2⟩
 rintro e a' w3 ⟨rfl,⟨J3,rfl⟩,hA3⟩;intro todo;obtain⟨s',r',tm',hq3⟩:=hq;rw[<- hA3.1]at hq3;refine RunG.lone T λτ d=>⟨G { bLex.at ⟨rQ v J3,[]⟩ todo with mode:=.returning } cs,(re w3 τ d).setChan q 0 #[] true s' r' tm',.one ?_,rfl,?_⟩
 . exact step_solo_go rfl (nZ (b:=bLex) (w:=re w3 τ d) (ats:=#[115]) (ty:=0) (bs:=#[false]) hq3 (by kernel_rfl))
 . refine RunG.stop λτ' d'=>⟨.tuple #[v,.int .i64 0,.int .i64 0],_,rfl,rfl,λτ'' d''=>⟨rfl,rfl,rfl,_,func41,?_⟩,v,rfl,?_,?_⟩
   . show(results f41 (rQ v J3)).run prog _=_
     simp[results,f41,rQ]
   . have ho:w3.ownsRow W.heap.size 118 3 v all.length (aI all):=by
       have:=lZ hM.own (b':=W.heap.size) (by show W.heap.size<=w0.heap.size;omega);unfold World.ownsRow at this ⊢;rw[hA3.1];exact this
     refine⟨ho.1,?_⟩;rcases ho.2 with hn|⟨gg,cap,cur,rfl,hb,hg,rest⟩
     . exact .inl hn
     . refine .inr ⟨gg,cap,cur,rfl,hb,?_,rest⟩;have hne:q≠gg:=by rintro rfl;rw[hq3]at hg;cases hg
       show(w3.setChan q 0 #[] true s' r' tm').heap[gg]? = _
       simp only[World.setChan];rw[Qg hne];exact hg
   . refine⟨?_,?_,?_,λb hb=>?_⟩
     . show w3.os=W.os
       rw[hA3.2.1,hM.low.os,hC.os]
     . show w3.output=W.output
       rw[hA3.2.2,hM.low.output,hC.output]
     . show W.heap.size<=(w3.heap.setIfInBounds q _).size
       have:=hM.low.size;rw[Array.size_setIfInBounds,hA3.1];omega
     . show(w3.heap.setIfInBounds q _)[b]? = _
       have h1:=hC.ql;have h2:=hC.cl;rw[Qg (by omega),hA3.1,hM.low.block b (by show b < w0.heap.size;omega) (by show b≠c;omega),hC.low b hb]
theorem wXA(s:ByteArray):Frame.enter prog 41 #[.string s] .normal=bLex.at ⟨qH s (λ_=>undef),[]⟩ [.code aF]:=by
 have hb:f41.body=some aF:=rfl;rw[enter_at _ func41 hb];simp only[ntmps41,List.size_toArray,Qk,List.length_nil,Nat.reduceAdd,Nat.reduceSub,Array.replicate_succ,Array.replicate_zero,List.push_toArray,List.append_toArray,List.nil_append,List.cons_append];rfl
theorem kUA(T:Tame prog)(s:ByteArray)(hs:s.size<=20000)(acts:List SAct)(h:Scans s 0 acts)(all:List Tok)(hsame:sends acts=all.map rP)(hlen:all.length<=1000000)(W:World) :
 CallsG prog 41 #[.string s] W (hKA W all):=by
 intro cs;rw[wXA,kOA];refine RunG.step T (λw=>step_seq) ?_;refine vD T (Q:=Exit.then (IsF (qH s) [] (·.Alike W)) (λ_ _ _=>False)) (dCA ⟨rfl,rfl,rfl⟩ λw' hw'=>wp_mono (nXA s _ w') (p9 hw')) bLex _ cs _ (by decide) ?_;rintro e a' w1 h1
 cases e with
 | normal =>
   obtain⟨⟨J1,rfl⟩,hA1⟩:=h1;refine RunG.step T (λw=>step_seq) ?_;refine vD T (Q:=Exit.then (IsF (qH s) [] (·.Alike W)) (λ_ _ _=>False)) (dCA hA1 λw' hw'=>wp_mono (b3A s hs _ w') (p9 hw')) bLex _ cs _ (by decide) ?_;rintro e a' w2 h2
   cases e with
   | normal =>
     obtain⟨⟨J2,rfl⟩,hA2⟩:=h2;rw[dPA];refine RunG.step T (λw=>step_seq) ?_;refine vD T (Q:=Exit.then (IsC s (λ_=>[]) W) (λ_ _ _=>False)) (dCA hA2 λw' hw'=>wp_mono (yVA s _ w') ?_) bLex _ cs _ (by decide) ?_
     . intro e a w'' hh
       cases e with
       | normal =>
         obtain⟨c,q,hF,hC⟩:=hh;have hz:w'.heap.size=W.heap.size:=by rw[hw'.1]
         exact⟨c,q,hF,hC.os.trans hw'.2.1,hC.output.trans hw'.2.2,by rw[hC.size,hz],λb hb=>by rw[hC.low b (by omega),hw'.1],hC.ne,by have:=hC.cl;omega,by have:=hC.ql;omega,hC.chan,hC.quit⟩
       | _=>exact hh
     rintro e a' w3 h3
     cases e with
     | normal =>
       obtain⟨c,q,⟨J3,rfl⟩,hC⟩:=h3;refine RunG.step T (λw=>step_seq) ?_;refine vD T (Q:=Exit.then (IsF (vL s c q) (aD q) (·.Alike w3)) (λ_ _ _=>False)) (dCA ⟨rfl,rfl,rfl⟩ λw' hw'=>wp_mono (jXA s c q _ w') (p9 hw')) bLex _ cs _ (by decide) ?_;rintro e a' w4 h4
       cases e with
       | normal =>
         obtain⟨⟨J4,rfl⟩,hA4⟩:=h4;refine RunG.step T (λw=>step_seq) (RunG.step T (λw=>step_region) ?_);refine RunG.lone T λτ d=>?_
         obtain⟨a5,w5,⟨⟨J5,rfl⟩,rfl⟩,hs5⟩:=oCA (K:=IsF (xJ s c q) (aD q) (re w4 τ d = ·)) [0,1,2] [3] _ _ (qZA s c q J4 (re w4 τ d)) bLex [.code uE] cs (by decide);refine⟨_,_,hs5,rfl,RunG.re ?_ τ d⟩;refine RunG.trans (RunG.phase (X:=shared w3.heap.size c q (kFA s w3.heap.size c q cs w3 all)) (ms:=kEA all) (ss:=acts) (λτ d=>kZA (by omega) acts h hsame hlen hC.ne J5 (re w4 τ d) ⟨hA4.2.1,hA4.2.2,by show w3.heap.size<=w4.heap.size;rw[hA4.1];exact Qd _,λb _ _=>by show w4.heap[b]? = _;rw[hA4.1]⟩ (by show _=w4.heap.size;rw[hA4.1]) (by show ∃ s r tm,w4.heap[c]? = _;rw[hA4.1];exact hC.chan) (by show ∃ s r tm,w4.heap[q]? = _;rw[hA4.1];exact hC.quit)) ?_) λg' w' hf=>bZA T hC cs g' w' hf
         intro hg g' w' hf;obtain⟨o,v,J,rfl,_⟩:=hf;refine⟨⟨λi hi=>?_,hg.below,.inl rfl⟩,rfl⟩;simp only[G,Frame.at,dV,List.mem_cons,List.not_mem_nil,or_false]at hi;rcases hi with rfl|rfl|rfl|rfl|rfl<;>trivial
       | _=>exact h4.elim
     | _=>exact h3.elim
   | _=>exact h2.elim
 | _=>exact h1.elim
end Go.Proofs.YtpkaiodmbicjiaaGreatDoor
