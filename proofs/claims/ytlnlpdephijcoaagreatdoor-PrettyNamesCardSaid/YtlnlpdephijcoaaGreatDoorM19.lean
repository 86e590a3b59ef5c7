/- Part 19 of what the proof rests on. -/
import Derived.Test.YtlnlpdephijcoaaGreatDoorM10
import Derived.Test.YtlnlpdephijcoaaGreatDoorM18
set_option linter.unusedSimpArgs false
set_option linter.unusedVariables false
set_option maxRecDepth 100000
set_option maxHeartbeats 4000000
namespace Go.Proofs.YtlnlpdephijcoaaGreatDoor
open Go.Conc Go.Lx
noncomputable def rG:Code:=fA uF
noncomputable def opsOf : Code → Array Oper
  | .region _ ops _=>ops
  | _=>#[]
noncomputable def aT:Array Oper:=opsOf (xA uF)
noncomputable def yI:Code:=fA rG
noncomputable def dR:Code:=xA (fA yI)
noncomputable def jG:Code:=fA (fA yI)
noncomputable def zQ:Array Oper:=opsOf (xA (fA (xA jG)))
def oG(s:ByteArray)(c q b0 k:Nat)(J:Nat→Value):Array Value :=
 #[.string s, .chan (some c), .chan (some q), J 3, J 4, J 5, .slice (some ⟨b0, 0, none⟩) 5 5, .int .i64 (k : Int), J 8, J 9, J 10, J 11, J 12, J 13, J 14, J 15, J 16, J 17, J 18, J 19, J 20, J 21, J 22, J 23, J 24, J 25, J 26, J 27, J 28, J 29, J 30, J 31, J 32, J 33, J 34, J 35, J 36, J 37, J 38, J 39, J 40, J 41, J 42, J 43, J 44, J 45, J 46, J 47, J 48, J 49, J 50, J 51, J 52, J 53, J 54, J 55, J 56, J 57, J 58, J 59, J 60, J 61, J 62, J 63, J 64, J 65, J 66, J 67, J 68, J 69, J 70, J 71, J 72, J 73, J 74, J 75]
def bR(s:ByteArray)(c q b0 k:Nat)(J:Nat→Value):Array Value :=
 #[.string s, .chan (some c), .chan (some q), J 3, J 4, J 5, .slice (some ⟨b0, 0, none⟩) 5 5, .int .i64 (k : Int), J 8, J 9, J 10, J 11, J 12, J 13, J 14, J 15, J 16, J 17, J 18, J 19, .agg #[.int .i64 0, .int .i64 (k : Int), .string ⟨#[]⟩, .int .i64 60], J 21, J 22, J 23, J 24, J 25, J 26, J 27, J 28, J 29, J 30, J 31, J 32, J 33, J 34, J 35, J 36, J 37, J 38, J 39, J 40, J 41, J 42, J 43, J 44, J 45, J 46, J 47, J 48, J 49, J 50, J 51, J 52, J 53, J 54, J 55, J 56, J 57, J 58, J 59, J 60, J 61, J 62, J 63, J 64, J 65, J 66, J 67, J 68, J 69, J 70, J 71, J 72, J 73, J 74, J 75]
theorem j6:mD = .seq (xA mD) (.block 1 (.seq (.region 4 aT false) rG)):=by
 rfl
section
variable {d : Deal} {T : TypeId → Prop} {o : Option Nat} {L : List (Nat × Obj)} {b0 xb : Nat} {df : List Deferred}
theorem z7A(s:ByteArray)(c q k:Nat)(J:Nat→Value)(hk:k < s.size)(w:World)(hF:Holds d T o L w) :
 Code.wpC Tryz.prog false (Rely d T o) (Lx.Does d T o) 104 (xA mD) 100
   (Exit.then (fun a' w'=>∃ J',a'=⟨oG s c q b0 k J',df⟩∧Holds d T o L w') (fun _ _ _=>False)) ⟨oG s c q b0 k J,df⟩ w:=by
 have hin:(k:Int) < s.size:=by omega
 have hdk:decide ((k:Int) < s.size)=true:=by simp;omega
 unfold mD jD;simp only[Tryz.f104,Option.getD_some,xA,fA,oC,oG];co_apply wpC_more
 · co_apply wpC_seq terms
   co_reg terms
   co_op Holds.rely hF (co_quiet terms);co_op Holds.rely hF (co_quiet terms)
   co_opw Holds.rely hF (skip) (rw[listed_nil (by simp[go_sem,fI _ _ _ Tryz.underlying9])];exact Terms.idle terms _)
   co_op Holds.rely hF (co_quiet terms);co_apply opsC_nil terms;co_then;co_apply wpC_cond (t:=true) terms rfl;simp only[if_true];co_ctl terms;co_then;exact rA (by rfl) hF
 · decide
theorem g4A(s:ByteArray)(c q k:Nat)(J:Nat→Value)(hk:k=s.size)(w:World)(hF:Holds d T o L w) :
 Code.wpC Tryz.prog false (Rely d T o) (Lx.Does d T o) 104 (xA mD) 100
   (Exit.then (fun _ _=>False) (fun e a' w'=>e = .exit 0∧∃ J',a'=⟨oG s c q b0 k J',df⟩∧Holds d T o L w')) ⟨oG s c q b0 k J,df⟩ w:=by
 subst hk;unfold mD jD;simp only[Tryz.f104,Option.getD_some,xA,fA,oC,oG];co_apply wpC_more
 · co_apply wpC_seq terms
   co_reg terms
   co_op Holds.rely hF (co_quiet terms);co_op Holds.rely hF (co_quiet terms)
   co_opw Holds.rely hF (skip) (rw[listed_nil (by simp[go_sem,fI _ _ _ Tryz.underlying9])];exact Terms.idle terms _)
   co_op Holds.rely hF (co_quiet terms);co_apply opsC_nil terms;co_then;co_apply wpC_cond (t:=false) terms rfl;simp only[Bool.false_eq_true,if_false];co_ctl terms;co_then;exact⟨trivial,rA (by rfl) hF⟩
 · decide
end
section
variable {d : Deal} {T : TypeId → Prop} {o : Option Nat} {L : List (Nat × Obj)} {b0 xb : Nat} {df : List Deferred} {b : Frame} {kk : List Item} {cs : List Frame} {Stop : Goroutine → World → Prop}
theorem pJA{r:Result Next}{v:Value}{w:World}(h:∀ K:Result Next→Prop,K (.ok (.value v) w)→K r):r = .ok (.value v) w:=h (· = .ok (.value v) w) rfl
theorem bVA{A:Array Value}{F:(Nat→Value)→Array Value}{Pr:World→Prop}{k:List Item}{cs:List Frame}(hS:∀ J w₁,Pr w₁→Stop (G (b.at ⟨F J,df⟩ k) cs) w₁)(h:A=F fun n=>A.getD n undef)(w₁:World)(hp:Pr w₁) :
 Stop (G (b.at ⟨A,df⟩ k) cs) w₁:=by
 have:=hS (fun n=>A.getD n undef) w₁ hp;rw[← h]at this;exact this
theorem z5A (s : ByteArray) (c q k : Nat) (J : Nat → Value) (hk : k < s.size) (hbf : b.fn = 104) (hbk : b.kind ≠ .early) (w : World) (hF : Holds d T o L w)
    (hS:∀ J w₁,Holds d T o L w₁→Stop (G (b.at ⟨bR s c q b0 k J,df⟩ (.inRegion aT [3,4] :: .code rG :: .inBlock 1::kk)) cs) w₁) :
    Goes Tryz.prog false (Rely d T o) (Lx.Does d T o) Stop 120 (G (b.at ⟨oG s c q b0 k J,df⟩ (.code mD::kk)) cs) w:=by
  rw[j6];refine Goes.mono (mE terms (rE (m:=10) (z7A s c q k J hk w hF) hbf hbk ?_)) (by decide);rintro e a' w' h
  cases e with
  | normal =>
    clear hF;obtain⟨J',rfl,hF⟩:=h;refine Goes.mono (n:=3+1+1+1) (n':=10) (iT terms (mE terms (sK terms ?_))) (by decide);have he:aT=opsOf (xA uF):=rfl;rw[he]at hS ⊢;unfold uF mD jD at hS ⊢;simp only[Tryz.f104,Option.getD_some,xA,fA,oC,opsOf,oG,List.size_toArray,List.length_cons,List.length_nil,Nat.reduceAdd,Nat.zero_add,List.range,List.range.loop]at hS ⊢;co_apply zZ rfl (by rfl) hbk;intro _ hR K hK;replace hF:=Holds.rely hF hR;clear hR;go_simp;refine hK _ _ ⟨?_,?_⟩
    · co_quiet terms
    clear hK K
    try walk_nrm
    co_apply zZ rfl (by rfl) hbk;intro _ hR K hK;replace hF:=Holds.rely hF hR;clear hR;go_simp;refine hK _ _ ⟨?_,?_⟩
    · co_quiet terms
    clear hK K
    try walk_nrm
    co_apply zZ rfl (by rfl) hbk;intro _ hR K hK;replace hF:=Holds.rely hF hR;clear hR;go_simp;refine hK _ _ ⟨?_,?_⟩
    · co_quiet terms
    clear hK K
    try walk_nrm
    exact cKA fun w₁ hR=>bVA hS (by rfl) w₁ (Holds.rely hF hR)
  | _=>exact h.elim
theorem fNA(s:ByteArray)(c q k:Nat)(J:Nat→Value)(hbk:b.kind≠.early)(w:World) :
 ∃ es, stepG Tryz.prog false (G (b.at ⟨bR s c q b0 k J, df⟩ (.inRegion aT [3, 4] :: kk)) cs) w =
   .go (G (b.at ⟨(bR s c q b0 k J).setIfInBounds 8 (.pointer (some ⟨w.heap.size,0,none⟩)),df⟩ (.inRegion aT [4]::kk)) cs) (w.alloc (.cells #[.int .i64 0,.int .i64 0,.string ⟨#[]⟩,.int .i64 0] 176 (0,0))) es∧∀ e∈es,uX d T (some w.heap.size) (w.alloc (.cells #[.int .i64 0,.int .i64 0,.string ⟨#[]⟩,.int .i64 0] 176 (0,0))) e:=by
 have ho : aT[3]? = some { dst := some 8, op := .alloc 176, type := 0, pos := "lexer.go:69", after := #[], guard := none } := by rfl
 refine⟨_,stepG_value ho (by rfl) hbk (v:=.pointer (some ⟨w.heap.size,0,none⟩)) ?_,?_⟩
 · refine pJA fun K hK => ?_
   go_simp;exact hK
 · rw[listed_nil (by simp[go_sem])];simp
end
def vC(s:ByteArray)(c q b0 k xb:Nat)(J:Nat→Value):Array Value :=
 #[.string s, .chan (some c), .chan (some q), J 3, J 4, J 5, .slice (some ⟨b0, 0, none⟩) 5 5, .int .i64 (k : Int), .pointer (some ⟨xb, 0, none⟩), J 9, J 10, J 11, J 12, J 13, J 14, J 15, J 16, J 17, J 18, J 19, J 20, J 21, J 22, J 23, J 24, J 25, J 26, J 27, J 28, J 29, J 30, J 31, J 32, J 33, J 34, J 35, J 36, J 37, J 38, J 39, J 40, J 41, J 42, J 43, J 44, J 45, J 46, J 47, J 48, J 49, J 50, J 51, J 52, J 53, J 54, J 55, J 56, J 57, J 58, J 59, J 60, J 61, J 62, J 63, J 64, J 65, J 66, J 67, J 68, J 69, J 70, J 71, J 72, J 73, J 74, J 75]
def fB(kd:Int)(k:Nat)(x:ByteArray)(e:Int):Array Value:=#[.int .i64 kd,.int .i64 (k:Int),.string x,.int .i64 e]
section
variable {d : Deal} {T : TypeId → Prop} {L : List (Nat × Obj)} {b0 xb : Nat} {df : List Deferred}
theorem iYA(s:ByteArray)(c q k:Nat)(J:Nat→Value)(hxL:∀ p∈L,p.1≠xb)(w:World)(hF:Holds d T (some xb) ((xb,Obj.cells (fB 0 0 ⟨#[]⟩ 0) 176 (0,0))::L) w) :
 OpsC Tryz.prog false (Rely d T (some xb)) (Lx.Does d T (some xb)) 104 aT [4] 10
   (Exit.then (fun a' w'=>∃ J',a'=⟨vC s c q b0 k xb J',df⟩∧Holds d T (some xb) ((xb,Obj.cells (fB 0 k ⟨#[]⟩ 60) 176 (0,0))::L) w') (fun _ _ _=>False))
   ⟨(bR s c q b0 k J).setIfInBounds 8 (.pointer (some ⟨xb,0,none⟩)),df⟩ w:=by
 have hf:(bR s c q b0 k J).setIfInBounds 8 (.pointer (some ⟨xb,0,none⟩))=#[.string s,.chan (some c),.chan (some q),J 3,J 4,J 5,.slice (some ⟨b0,0,none⟩) 5 5,.int .i64 (k:Int),.pointer (some ⟨xb,0,none⟩),J 9,J 10,J 11,J 12,J 13,J 14,J 15,J 16,J 17,J 18,J 19,.agg #[.int .i64 0,.int .i64 (k:Int),.string ⟨#[]⟩,.int .i64 60],J 21,J 22,J 23,J 24,J 25,J 26,J 27,J 28,J 29,J 30,J 31,J 32,J 33,J 34,J 35,J 36,J 37,J 38,J 39,J 40,J 41,J 42,J 43,J 44,J 45,J 46,J 47,J 48,J 49,J 50,J 51,J 52,J 53,J 54,J 55,J 56,J 57,J 58,J 59,J 60,J 61,J 62,J 63,J 64,J 65,J 66,J 67,J 68,J 69,J 70,J 71,J 72,J 73,J 74,J 75]:=rfl;rw[hf];clear hf;have he:aT=opsOf (xA uF):=rfl;rw[he];clear he;unfold uF mD jD;simp only[Tryz.f104,Option.getD_some,xA,fA,oC,opsOf,vC];co_apply opsC_more
 · co_opw Holds.rely hF (have hm : (xb, Obj.cells (fB 0 0 ⟨#[]⟩ 0) 176 (0, 0)) ∈ (xb, Obj.cells (fB 0 0 ⟨#[]⟩ 0) 176 (0, 0)) :: L := List.mem_cons_self; have hc0 : _ = some _ := hF.cell hm 0; have hc1 : _ = some _ := hF.cell hm 1; have hc2 : _ = some _ := hF.cell hm 2; have hc3 : _ = some _ := hF.cell hm 3; have hf0 := hF.frozen hm 0; have hf1 := hF.frozen hm 1; have hf2 := hF.frozen hm 2; have hf3 := hF.frozen hm 3) (have ho := hF.boxOwn; have ht := Turn.set4 ho (hF.lt hm) hF.big (.int .i64 0) (.int .i64 (k : Int)) (.string ⟨#[]⟩) (.int .i64 60); refine ⟨ht, ?_⟩; have ho2 := ht.own_fwd (hF.lt hm) ho; clear ht ho; have es := xS Tryz.prog; intro e he; have hm := mem_listed he; simp [go_sem, *] at hm; rcases hm with rfl | rfl | rfl | rfl <;> exact kS ho2 _ _ _)
   replace hF:=hF.set4 hxL (.int .i64 0) (.int .i64 (k:Int)) (.string ⟨#[]⟩) (.int .i64 60);co_apply opsC_nil terms;co_then;exact rA (by rfl) hF
 · decide
theorem tNA:rG = .seq (.seq (xA yR) (.block 2 (.loop wO))) (.seq (xA yI) (.seq dR jG)):=by rfl
theorem bPA:jG = .seq (.seq (xA (xA jG)) (.seq (.region 17 zQ false) (fA (fA (xA jG))))) (fA jG):=by rfl
theorem p2A(s:ByteArray)(c q k:Nat)(J:Nat→Value)(w:World)(hF:Holds d T (some xb) L w) :
 Code.wpC Tryz.prog false (Rely d T (some xb)) (Lx.Does d T (some xb)) 104 (xA yR) 100
   (Exit.then (fun a' w'=>∃ J',a'=⟨mF s c q b0 k xb 0 J',df⟩∧Holds d T (some xb) L w') (fun _ _ _=>False)) ⟨vC s c q b0 k xb J,df⟩ w:=by
 unfold yR uF mD jD;simp only[Tryz.f104,Option.getD_some,xA,fA,oC,vC,mF];co_apply wpC_more
 · co_reg terms
   repeat (first | co_reg terms | co_op Holds.rely hF (co_quiet terms) | (co_apply opsC_unwanted terms rfl (by rfl);try walk_nrm) | (co_ctl terms;try co_then))
   exact rA (by rfl) hF
 · decide
theorem jCB(s x:ByteArray)(c q k m:Nat)(kd e i:Int)(J:Nat→Value)(hx:RowKit.Hid (x.size=m))(hkm:k+m≤1000000)(w:World)(hF:Holds d T (some xb) ((xb,Obj.cells (fB kd k x e) 176 (0,0))::L) w) :
 Code.wpC Tryz.prog false (Rely d T (some xb)) (Lx.Does d T (some xb)) 104 (xA yI) 100
   (Exit.then (fun a' w'=>∃ J',a'=⟨vC s c q b0 (k+m) xb J',df⟩∧Holds d T (some xb) ((xb,Obj.cells (fB kd k x e) 176 (0,0))::L) w') (fun _ _ _=>False)) ⟨mF s c q b0 k xb i J,df⟩ w:=by
 have hm:(xb,Obj.cells (fB kd k x e) 176 (0,0))∈(xb,Obj.cells (fB kd k x e) 176 (0,0))::L:=List.mem_cons_self;unfold yI rG uF mD jD;simp only[Tryz.f104,Option.getD_some,xA,fA,oC,vC,mF];co_apply wpC_more
 · co_reg terms
   co_op Holds.rely hF (co_quiet terms);co_op Holds.rely hF (co_quiet terms);co_op Holds.rely hF (co_quiet terms)
   co_opw Holds.rely hF (have hc:_=some (Value.string x):=hF.cell hm 2) (refine Does.reads ?_;co_evs (exact hF.read hm _ _))
   clear hc
   co_opw Holds.rely hF (skip) (rw[listed_nil (by simp[go_sem,fI _ _ _ Tryz.underlying9])];exact Terms.idle terms _)
   co_op Holds.rely hF (co_quiet terms);co_op Holds.rely hF (co_quiet terms);co_apply opsC_nil terms;co_then;have hwr:IntKind.i64.wrap ((k:Int)+(x.size:Int))=((k+m:Nat):Int):=by rw[hx.out,IntWalk.i64_in _ (by omega)];omega
   rw[hwr];exact rA (by rfl) hF
 · decide
theorem fSA(s x:ByteArray)(c q k k1:Nat)(J:Nat→Value)(w:World)(hF:Holds d T (some xb) ((xb,Obj.cells (fB 0 k1 x 0) 176 (0,0))::L) w) :
 Code.wpC Tryz.prog false (Rely d T (some xb)) (Lx.Does d T (some xb)) 104 dR 100
   (Exit.then (fun _ _=>False) (fun e a' w'=>e = .exit 1∧∃ J',a'=⟨vC s c q b0 k xb J',df⟩∧Holds d T (some xb) ((xb,Obj.cells (fB 0 k1 x 0) 176 (0,0))::L) w')) ⟨vC s c q b0 k xb J,df⟩ w:=by
 have hm:(xb,Obj.cells (fB 0 k1 x 0) 176 (0,0))∈(xb,Obj.cells (fB 0 k1 x 0) 176 (0,0))::L:=List.mem_cons_self;unfold dR yI rG uF mD jD;simp only[Tryz.f104,Option.getD_some,xA,fA,oC,vC];co_apply wpC_more
 · co_apply wpC_seq terms
   co_reg terms
   co_op Holds.rely hF (co_quiet terms);co_op Holds.rely hF (co_quiet terms)
   co_opw Holds.rely hF (have hc:_=some (Value.int .i64 0):=hF.cell hm 0) (refine Does.reads ?_;co_evs (exact hF.read hm _ _))
   clear hc;co_op Holds.rely hF (co_quiet terms);co_op Holds.rely hF (co_quiet terms);co_op Holds.rely hF (co_quiet terms)
   co_opw Holds.rely hF (have hc:_=some (Value.int .i64 0):=hF.cell hm 3) (refine Does.reads ?_;co_evs (exact hF.read hm _ _))
   clear hc;co_op Holds.rely hF (co_quiet terms);co_op Holds.rely hF (co_quiet terms);co_apply opsC_nil terms;co_then;co_apply wpC_cond (t:=true) terms rfl;simp only[if_true];co_ctl terms;co_then;exact⟨trivial,rA (by rfl) hF⟩
 · decide
theorem kQA(s x:ByteArray)(c q k k1:Nat)(kd:Int)(hkd:(kd==0)=false)(J:Nat→Value)(w:World)(hF:Holds d T (some xb) ((xb,Obj.cells (fB kd k1 x 0) 176 (0,0))::L) w) :
 Code.wpC Tryz.prog false (Rely d T (some xb)) (Lx.Does d T (some xb)) 104 dR 100
   (Exit.then (fun a' w'=>∃ J',a'=⟨vC s c q b0 k xb J',df⟩∧Holds d T (some xb) ((xb,Obj.cells (fB kd k1 x 0) 176 (0,0))::L) w') (fun _ _ _=>False)) ⟨vC s c q b0 k xb J,df⟩ w:=by
 have hm:(xb,Obj.cells (fB kd k1 x 0) 176 (0,0))∈(xb,Obj.cells (fB kd k1 x 0) 176 (0,0))::L:=List.mem_cons_self;unfold dR yI rG uF mD jD;simp only[Tryz.f104,Option.getD_some,xA,fA,oC,vC];co_apply wpC_more
 · co_apply wpC_seq terms
   co_reg terms
   co_op Holds.rely hF (co_quiet terms);co_op Holds.rely hF (co_quiet terms)
   co_opw Holds.rely hF (have hc:_=some (Value.int .i64 kd):=hF.cell hm 0) (refine Does.reads ?_;co_evs (exact hF.read hm _ _))
   clear hc;co_op Holds.rely hF (co_quiet terms);co_op Holds.rely hF (co_quiet terms)
   (co_apply opsC_unwanted terms rfl (by rfl);try walk_nrm)
   (co_apply opsC_unwanted terms rfl (by rfl);try walk_nrm)
   (co_apply opsC_unwanted terms rfl (by rfl);try walk_nrm)
   co_op Holds.rely hF (co_quiet terms);co_apply opsC_nil terms;co_then;co_apply wpC_cond (t:=false) terms rfl;simp only[Bool.false_eq_true,if_false];co_ctl terms;co_then;exact rA (by rfl) hF
 · decide
def aH(s:ByteArray)(c q b0 k xb:Nat)(v:Value)(J:Nat→Value):Array Value :=
 #[.string s, .chan (some c), .chan (some q), J 3, J 4, J 5, .slice (some ⟨b0, 0, none⟩) 5 5, .int .i64 (k : Int), .pointer (some ⟨xb, 0, none⟩), J 9, J 10, J 11, J 12, J 13, J 14, J 15, J 16, J 17, J 18, J 19, J 20, J 21, J 22, J 23, J 24, J 25, J 26, J 27, J 28, J 29, J 30, J 31, J 32, J 33, J 34, J 35, J 36, J 37, J 38, J 39, J 40, J 41, J 42, J 43, J 44, J 45, J 46, J 47, J 48, J 49, J 50, J 51, J 52, J 53, J 54, J 55, J 56, J 57, J 58, J 59, J 60, J 61, J 62, J 63, J 64, J 65, .chan (some c), v, .chan (some q), J 69, J 70, J 71, J 72, J 73, J 74, J 75]
theorem i8A(s x:ByteArray)(c q k k1:Nat)(kd e:Int)(J:Nat→Value)(w:World)(hF:Holds d T (some xb) ((xb,Obj.cells (fB kd k1 x e) 176 (0,0))::L) w) :
 Code.wpC Tryz.prog false (Rely d T (some xb)) (Lx.Does d T (some xb)) 104 (xA (xA jG)) 100
   (Exit.then (fun a' w'=>∃ J',a'=⟨aH s c q b0 k xb (.agg (fB kd k1 x e)) J',df⟩∧Holds d T (some xb) ((xb,Obj.cells (fB kd k1 x e) 176 (0,0))::L) w') (fun _ _ _=>False)) ⟨vC s c q b0 k xb J,df⟩ w:=by
 have hm:(xb,Obj.cells (fB kd k1 x e) 176 (0,0))∈(xb,Obj.cells (fB kd k1 x e) 176 (0,0))::L:=List.mem_cons_self;unfold jG yI rG uF mD jD;simp only[Tryz.f104,Option.getD_some,xA,fA,oC,vC,aH];co_apply wpC_more
 · co_apply wpC_seq terms; co_apply wpC_seq terms
   co_reg terms
   co_op Holds.rely hF (co_quiet terms);co_apply opsC_nil terms;co_then
   co_reg terms
   co_opw Holds.rely hF (have hc0:_=some (Value.int .i64 kd):=hF.cell hm 0;have hc1:_=some (Value.int .i64 (k1:Int)):=hF.cell hm 1;have hc2:_=some (Value.string x):=hF.cell hm 2;have hc3:_=some (Value.int .i64 e):=hF.cell hm 3) (refine Does.reads ?_;intro e he;have hm:=mem_listed he;simp[go_sem, *]at hm;rcases hm with rfl | rfl | rfl | rfl<;>exact hF.read hm _ _)
   clear hc0 hc1 hc2 hc3;co_apply opsC_nil terms;co_then
   co_reg terms
   co_op Holds.rely hF (co_quiet terms);co_apply opsC_nil terms;co_then;exact rA (by rfl) hF
 · decide
end
def jN:Value:=.agg (fB 0 0 ⟨#[]⟩ 0)
def eX:Value:=.agg #[]
section
variable {d : Deal} {T : TypeId → Prop} {L : List (Nat × Obj)} {b0 xb : Nat} {df : List Deferred} {b : Frame} {kk : List Item} {cs : List Frame}
theorem j5A(s:ByteArray)(c q k:Nat)(v:Value)(J:Nat→Value)(hbk:b.kind≠.early)(w:World) :
 stepG Tryz.prog false (G (b.at ⟨aH s c q b0 k xb v J, df⟩ (.inRegion zQ [0, 1, 2, 3] :: kk)) cs) w =
   .comm (G (b.at ⟨aH s c q b0 k xb v J,df⟩ (.inRegion zQ [0,1,2,3]::kk)) cs) #[scase c v jN,rcase q eX] true .select w #[]:=by
 have ho : zQ[0]? = some { dst := some 69, op := .select #[{ chan := .tmp 66, send := some (.tmp 67), elem := 176 }, { chan := .tmp 68, send := none, elem := 211 }] true, type := 0, pos := "lexer.go:81", after := #[], guard := none } := by rfl
 have he1 : (⟨aH s c q b0 k xb v J, df⟩ : Act).eval (.tmp 66) = .chan (some c) := rfl; have he2 : (⟨aH s c q b0 k xb v J, df⟩ : Act).eval (.tmp 67) = v := rfl; have he3 : (⟨aH s c q b0 k xb v J, df⟩ : Act).eval (.tmp 68) = .chan (some q) := rfl; have hr : (execOp (⟨aH s c q b0 k xb v J, df⟩ : Act).eval { dst := some 69, op := .select #[{ chan := .tmp 66, send := some (.tmp 67), elem := 176 }, { chan := .tmp 68, send := none, elem := 211 }] true, type := 0, pos := "lexer.go:81", after := #[], guard := none }).run Tryz.prog w = .ok (.comm #[scase c v jN, rcase q eX] true .select) w := by
  unfold execOp;simp[scase,rcase,he1,he2,he3,jN,fB,eX]
 have hl : (execOp (⟨aH s c q b0 k xb v J, df⟩ : Act).eval { dst := some 69, op := .select #[{ chan := .tmp 66, send := some (.tmp 67), elem := 176 }, { chan := .tmp 68, send := none, elem := 211 }] true, type := 0, pos := "lexer.go:81", after := #[], guard := none }).events Tryz.prog w #[] = #[] := by
  unfold execOp;simp
 rw[stepG_comm ho (by rfl) hbk hr,listed_nil hl]
theorem d5A(s:ByteArray)(c q k:Nat)(v:Value)(J:Nat→Value) :
 (G (b.at ⟨aH s c q b0 k xb v J, df⟩ (.inRegion zQ [0, 1, 2, 3] :: kk)) cs).finishComm Tryz.prog #[scase c v jN, rcase q eX] .select 0 undef false =
   G (b.at ⟨(aH s c q b0 k xb v J).setIfInBounds 69 (.tuple #[.int .i64 0,.bool false,eX]),df⟩ (.inRegion zQ [1,2,3]::kk)) cs:=by
 have ho : zQ[0]? = some { dst := some 69, op := .select #[{ chan := .tmp 66, send := some (.tmp 67), elem := 176 }, { chan := .tmp 68, send := none, elem := 211 }] true, type := 0, pos := "lexer.go:81", after := #[], guard := none } := by rfl
 have hr:commResult #[scase c v jN,rcase q eX] .select 0 undef false = .tuple #[.int .i64 0,.bool false,eX]:=by
  simp[commResult,scase,rcase,goInt,Array.zipIdx,Array.filter]
 simp only[Goroutine.finishComm,G,hr,Frame.finish_at,ho];rfl
theorem o5A(s:ByteArray)(c q k:Nat)(v:Value)(J:Nat→Value)(w:World)(hF:Holds d T (some xb) L w) :
 OpsC Tryz.prog false (Rely d T (some xb)) (Lx.Does d T (some xb)) 104 zQ [1, 2, 3] 10
   (Exit.then (fun a' w'=>∃ J',a'=⟨(vC s c q b0 k xb J').setIfInBounds 71 (.bool true),df⟩∧Holds d T (some xb) L w') (fun _ _ _=>False))
   ⟨(aH s c q b0 k xb v J).setIfInBounds 69 (.tuple #[.int .i64 0,.bool false,eX]),df⟩ w:=by
 have he:zQ=opsOf (xA (fA (xA jG))):=rfl;rw[he];clear he;unfold jG yI rG uF mD jD;simp only[Tryz.f104,Option.getD_some,xA,fA,oC,opsOf,vC,aH,List.setIfInBounds_toArray,List.set_cons_succ,List.set_cons_zero];co_apply opsC_more
 · co_op Holds.rely hF (co_quiet terms);co_op Holds.rely hF (co_quiet terms);co_op Holds.rely hF (co_quiet terms);co_apply opsC_nil terms;co_then;exact rA (by rfl) hF
 · decide
theorem oYA(s:ByteArray)(c q k:Nat)(J:Nat→Value)(w:World)(hF:Holds d T (some xb) L w) :
 Code.wpC Tryz.prog false (Rely d T (some xb)) (Lx.Does d T (some xb)) 104 (fA (fA (xA jG))) 100
   (Exit.then (fun a' w'=>∃ J',a'=⟨vC s c q b0 k xb J',df⟩∧Holds d T (some xb) L w') (fun _ _ _=>False)) ⟨(vC s c q b0 k xb J).setIfInBounds 71 (.bool true),df⟩ w:=by
 unfold jG yI rG uF mD jD;simp only[Tryz.f104,Option.getD_some,xA,fA,oC,vC,List.setIfInBounds_toArray,List.set_cons_succ,List.set_cons_zero];co_apply wpC_more
 · co_apply wpC_block terms;co_apply wpC_cond (t:=true) terms rfl;simp only[if_true];co_ctl terms;co_then;exact rA (by rfl) hF
 · decide
theorem iXA(s x:ByteArray)(c q k k1:Nat)(kd:Int)(J:Nat→Value)(w:World)(hF:Holds d T (some xb) ((xb,Obj.cells (fB kd k1 x 0) 176 (0,0))::L) w) :
 Code.wpC Tryz.prog false (Rely d T (some xb)) (Lx.Does d T (some xb)) 104 (fA jG) 100
   (Exit.then (fun a' w'=>∃ J',a'=⟨vC s c q b0 k xb J',df⟩∧Holds d T (some xb) ((xb,Obj.cells (fB kd k1 x 0) 176 (0,0))::L) w') (fun _ _ _=>False)) ⟨vC s c q b0 k xb J,df⟩ w:=by
 have hm:(xb,Obj.cells (fB kd k1 x 0) 176 (0,0))∈(xb,Obj.cells (fB kd k1 x 0) 176 (0,0))::L:=List.mem_cons_self;unfold jG yI rG uF mD jD;simp only[Tryz.f104,Option.getD_some,fA,oC,vC];co_apply wpC_more
 · co_apply wpC_seq terms
   co_reg terms
   co_op Holds.rely hF (co_quiet terms)
   co_opw Holds.rely hF (have hc:_=some (Value.int .i64 0):=hF.cell hm 3) (refine Does.reads ?_;co_evs (exact hF.read hm _ _))
   clear hc;co_op Holds.rely hF (co_quiet terms);co_apply opsC_nil terms;co_then;co_apply wpC_cond (t:=false) terms rfl;simp only[Bool.false_eq_true,if_false];co_ctl terms;co_then;exact rA (by rfl) hF
 · decide
theorem gKA(s:ByteArray)(c q k:Nat)(J:Nat→Value):vC s c q b0 k xb J=oG s c q b0 k (fun n=>(vC s c q b0 k xb J).getD n undef):=by rfl
end
end Go.Proofs.YtlnlpdephijcoaaGreatDoor
