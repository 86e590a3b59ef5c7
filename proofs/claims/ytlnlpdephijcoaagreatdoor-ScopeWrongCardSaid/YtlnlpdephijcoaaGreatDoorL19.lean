/- Part 19 of what the proof rests on. -/
import Derived.Test.YtlnlpdephijcoaaGreatDoorL12
import Derived.Test.YtlnlpdephijcoaaGreatDoorL18
set_option linter.unusedSimpArgs false
set_option linter.unusedVariables false
set_option maxRecDepth 100000
set_option maxHeartbeats 4000000
namespace Go.Proofs.YtlnlpdephijcoaaGreatDoor
open Go.Conc Go.Lx
noncomputable def qG:Code:=dA rF
noncomputable def opsOf : Code → Array Oper
  | .region _ ops _=>ops
  | _=>#[]
noncomputable def bS:Array Oper:=opsOf (rA rF)
noncomputable def vI:Code:=dA qG
noncomputable def nQ:Code:=rA (dA vI)
noncomputable def iG:Code:=dA (dA vI)
noncomputable def xP:Array Oper:=opsOf (rA (dA (rA iG)))
def oG(s:ByteArray)(c q b0 k:Nat)(J:Nat→Value):Array Value :=
 #[.string s, .chan (some c), .chan (some q), J 3, J 4, J 5, .slice (some ⟨b0, 0, none⟩) 5 5, .int .i64 (k : Int), J 8, J 9, J 10, J 11, J 12, J 13, J 14, J 15, J 16, J 17, J 18, J 19, J 20, J 21, J 22, J 23, J 24, J 25, J 26, J 27, J 28, J 29, J 30, J 31, J 32, J 33, J 34, J 35, J 36, J 37, J 38, J 39, J 40, J 41, J 42, J 43, J 44, J 45, J 46, J 47, J 48, J 49, J 50, J 51, J 52, J 53, J 54, J 55, J 56, J 57, J 58, J 59, J 60, J 61, J 62, J 63, J 64, J 65, J 66, J 67, J 68, J 69, J 70, J 71, J 72, J 73, J 74, J 75]
def mQ(s:ByteArray)(c q b0 k:Nat)(J:Nat→Value):Array Value :=
 #[.string s, .chan (some c), .chan (some q), J 3, J 4, J 5, .slice (some ⟨b0, 0, none⟩) 5 5, .int .i64 (k : Int), J 8, J 9, J 10, J 11, J 12, J 13, J 14, J 15, J 16, J 17, J 18, J 19, .agg #[.int .i64 0, .int .i64 (k : Int), .string ⟨#[]⟩, .int .i64 60], J 21, J 22, J 23, J 24, J 25, J 26, J 27, J 28, J 29, J 30, J 31, J 32, J 33, J 34, J 35, J 36, J 37, J 38, J 39, J 40, J 41, J 42, J 43, J 44, J 45, J 46, J 47, J 48, J 49, J 50, J 51, J 52, J 53, J 54, J 55, J 56, J 57, J 58, J 59, J 60, J 61, J 62, J 63, J 64, J 65, J 66, J 67, J 68, J 69, J 70, J 71, J 72, J 73, J 74, J 75]
theorem rX:eD = .seq (rA eD) (.block 1 (.seq (.region 4 bS false) qG)):=by
 rfl
section
variable {d : Deal} {T : TypeId → Prop} {o : Option Nat} {L : List (Nat × Obj)} {b0 xb : Nat} {df : List Deferred}
theorem n3A(s:ByteArray)(c q k:Nat)(J:Nat→Value)(hk:k < s.size)(w:World)(hF:Holds d T o L w) :
 Code.wpC Tryz.prog false (Rely d T o) (Lx.Does d T o) 104 (rA eD) 100
   (Exit.then (fun a' w'=>∃ J',a'=⟨oG s c q b0 k J',df⟩∧Holds d T o L w') (fun _ _ _=>False)) ⟨oG s c q b0 k J,df⟩ w:=by
 have hin:(k:Int) < s.size:=by omega
 have hdk:decide ((k:Int) < s.size)=true:=by simp;omega
 unfold eD gD;simp only[Tryz.f104,Option.getD_some,rA,dA,bC,oG];co_apply wpC_more
 · co_apply wpC_seq terms
   co_reg terms
   co_op Holds.rely hF (co_quiet terms);co_op Holds.rely hF (co_quiet terms)
   co_opw Holds.rely hF (skip) (rw[listed_nil (by simp[go_sem,lI _ _ _ Tryz.underlying9])];exact Terms.idle terms _)
   co_op Holds.rely hF (co_quiet terms);co_apply opsC_nil terms;co_then;co_apply wpC_cond (t:=true) terms rfl;simp only[if_true];co_ctl terms;co_then;exact nA (by rfl) hF
 · decide
theorem uZA(s:ByteArray)(c q k:Nat)(J:Nat→Value)(hk:k=s.size)(w:World)(hF:Holds d T o L w) :
 Code.wpC Tryz.prog false (Rely d T o) (Lx.Does d T o) 104 (rA eD) 100
   (Exit.then (fun _ _=>False) (fun e a' w'=>e = .exit 0∧∃ J',a'=⟨oG s c q b0 k J',df⟩∧Holds d T o L w')) ⟨oG s c q b0 k J,df⟩ w:=by
 subst hk;unfold eD gD;simp only[Tryz.f104,Option.getD_some,rA,dA,bC,oG];co_apply wpC_more
 · co_apply wpC_seq terms
   co_reg terms
   co_op Holds.rely hF (co_quiet terms);co_op Holds.rely hF (co_quiet terms)
   co_opw Holds.rely hF (skip) (rw[listed_nil (by simp[go_sem,lI _ _ _ Tryz.underlying9])];exact Terms.idle terms _)
   co_op Holds.rely hF (co_quiet terms);co_apply opsC_nil terms;co_then;co_apply wpC_cond (t:=false) terms rfl;simp only[Bool.false_eq_true,if_false];co_ctl terms;co_then;exact⟨trivial,nA (by rfl) hF⟩
 · decide
end
section
variable {d : Deal} {T : TypeId → Prop} {o : Option Nat} {L : List (Nat × Obj)} {b0 xb : Nat} {df : List Deferred} {b : Frame} {kk : List Item} {cs : List Frame} {Stop : Goroutine → World → Prop}
theorem yGA{r:Result Next}{v:Value}{w:World}(h:∀ K:Result Next→Prop,K (.ok (.value v) w)→K r):r = .ok (.value v) w:=h (· = .ok (.value v) w) rfl
theorem dSA{A:Array Value}{F:(Nat→Value)→Array Value}{Pr:World→Prop}{k:List Item}{cs:List Frame}(hS:∀ J w₁,Pr w₁→Stop (G (b.at ⟨F J,df⟩ k) cs) w₁)(h:A=F fun n=>A.getD n undef)(w₁:World)(hp:Pr w₁) :
 Stop (G (b.at ⟨A,df⟩ k) cs) w₁:=by
 have:=hS (fun n=>A.getD n undef) w₁ hp;rw[← h]at this;exact this
theorem iZA (s : ByteArray) (c q k : Nat) (J : Nat → Value) (hk : k < s.size) (hbf : b.fn = 104) (hbk : b.kind ≠ .early) (w : World) (hF : Holds d T o L w)
    (hS:∀ J w₁,Holds d T o L w₁→Stop (G (b.at ⟨mQ s c q b0 k J,df⟩ (.inRegion bS [3,4] :: .code qG :: .inBlock 1::kk)) cs) w₁) :
    Goes Tryz.prog false (Rely d T o) (Lx.Does d T o) Stop 120 (G (b.at ⟨oG s c q b0 k J,df⟩ (.code eD::kk)) cs) w:=by
  rw[rX];refine Goes.mono (vD terms (fE (m:=10) (n3A s c q k J hk w hF) hbf hbk ?_)) (by decide);rintro e a' w' h
  cases e with
  | normal =>
    clear hF;obtain⟨J',rfl,hF⟩:=h;refine Goes.mono (n:=3+1+1+1) (n':=10) (qR terms (vD terms (gK terms ?_))) (by decide);have he:bS=opsOf (rA rF):=rfl;rw[he]at hS ⊢;unfold rF eD gD at hS ⊢;simp only[Tryz.f104,Option.getD_some,rA,dA,bC,opsOf,oG,List.size_toArray,List.length_cons,List.length_nil,Nat.reduceAdd,Nat.zero_add,List.range,List.range.loop]at hS ⊢;co_apply wY rfl (by rfl) hbk;intro _ hR K hK;replace hF:=Holds.rely hF hR;clear hR;go_simp;refine hK _ _ ⟨?_,?_⟩
    · co_quiet terms
    clear hK K
    try walk_nrm
    co_apply wY rfl (by rfl) hbk;intro _ hR K hK;replace hF:=Holds.rely hF hR;clear hR;go_simp;refine hK _ _ ⟨?_,?_⟩
    · co_quiet terms
    clear hK K
    try walk_nrm
    co_apply wY rfl (by rfl) hbk;intro _ hR K hK;replace hF:=Holds.rely hF hR;clear hR;go_simp;refine hK _ _ ⟨?_,?_⟩
    · co_quiet terms
    clear hK K
    try walk_nrm
    exact lGA fun w₁ hR=>dSA hS (by rfl) w₁ (Holds.rely hF hR)
  | _=>exact h.elim
theorem sKA(s:ByteArray)(c q k:Nat)(J:Nat→Value)(hbk:b.kind≠.early)(w:World) :
 ∃ es, stepG Tryz.prog false (G (b.at ⟨mQ s c q b0 k J, df⟩ (.inRegion bS [3, 4] :: kk)) cs) w =
   .go (G (b.at ⟨(mQ s c q b0 k J).setIfInBounds 8 (.pointer (some ⟨w.heap.size,0,none⟩)),df⟩ (.inRegion bS [4]::kk)) cs) (w.alloc (.cells #[.int .i64 0,.int .i64 0,.string ⟨#[]⟩,.int .i64 0] 176 (0,0))) es∧∀ e∈es,uW d T (some w.heap.size) (w.alloc (.cells #[.int .i64 0,.int .i64 0,.string ⟨#[]⟩,.int .i64 0] 176 (0,0))) e:=by
 have ho : bS[3]? = some { dst := some 8, op := .alloc 176, type := 0, pos := "lexer.go:69", after := #[], guard := none } := by rfl
 refine⟨_,stepG_value ho (by rfl) hbk (v:=.pointer (some ⟨w.heap.size,0,none⟩)) ?_,?_⟩
 · refine yGA fun K hK => ?_
   go_simp;exact hK
 · rw[listed_nil (by simp[go_sem])];simp
end
def rC(s:ByteArray)(c q b0 k xb:Nat)(J:Nat→Value):Array Value :=
 #[.string s, .chan (some c), .chan (some q), J 3, J 4, J 5, .slice (some ⟨b0, 0, none⟩) 5 5, .int .i64 (k : Int), .pointer (some ⟨xb, 0, none⟩), J 9, J 10, J 11, J 12, J 13, J 14, J 15, J 16, J 17, J 18, J 19, J 20, J 21, J 22, J 23, J 24, J 25, J 26, J 27, J 28, J 29, J 30, J 31, J 32, J 33, J 34, J 35, J 36, J 37, J 38, J 39, J 40, J 41, J 42, J 43, J 44, J 45, J 46, J 47, J 48, J 49, J 50, J 51, J 52, J 53, J 54, J 55, J 56, J 57, J 58, J 59, J 60, J 61, J 62, J 63, J 64, J 65, J 66, J 67, J 68, J 69, J 70, J 71, J 72, J 73, J 74, J 75]
def gB(kd:Int)(k:Nat)(x:ByteArray)(e:Int):Array Value:=#[.int .i64 kd,.int .i64 (k:Int),.string x,.int .i64 e]
section
variable {d : Deal} {T : TypeId → Prop} {L : List (Nat × Obj)} {b0 xb : Nat} {df : List Deferred}
theorem vTA(s:ByteArray)(c q k:Nat)(J:Nat→Value)(hxL:∀ p∈L,p.1≠xb)(w:World)(hF:Holds d T (some xb) ((xb,Obj.cells (gB 0 0 ⟨#[]⟩ 0) 176 (0,0))::L) w) :
 OpsC Tryz.prog false (Rely d T (some xb)) (Lx.Does d T (some xb)) 104 bS [4] 10
   (Exit.then (fun a' w'=>∃ J',a'=⟨rC s c q b0 k xb J',df⟩∧Holds d T (some xb) ((xb,Obj.cells (gB 0 k ⟨#[]⟩ 60) 176 (0,0))::L) w') (fun _ _ _=>False))
   ⟨(mQ s c q b0 k J).setIfInBounds 8 (.pointer (some ⟨xb,0,none⟩)),df⟩ w:=by
 have hf:(mQ s c q b0 k J).setIfInBounds 8 (.pointer (some ⟨xb,0,none⟩))=#[.string s,.chan (some c),.chan (some q),J 3,J 4,J 5,.slice (some ⟨b0,0,none⟩) 5 5,.int .i64 (k:Int),.pointer (some ⟨xb,0,none⟩),J 9,J 10,J 11,J 12,J 13,J 14,J 15,J 16,J 17,J 18,J 19,.agg #[.int .i64 0,.int .i64 (k:Int),.string ⟨#[]⟩,.int .i64 60],J 21,J 22,J 23,J 24,J 25,J 26,J 27,J 28,J 29,J 30,J 31,J 32,J 33,J 34,J 35,J 36,J 37,J 38,J 39,J 40,J 41,J 42,J 43,J 44,J 45,J 46,J 47,J 48,J 49,J 50,J 51,J 52,J 53,J 54,J 55,J 56,J 57,J 58,J 59,J 60,J 61,J 62,J 63,J 64,J 65,J 66,J 67,J 68,J 69,J 70,J 71,J 72,J 73,J 74,J 75]:=rfl;rw[hf];clear hf;have he:bS=opsOf (rA rF):=rfl;rw[he];clear he;unfold rF eD gD;simp only[Tryz.f104,Option.getD_some,rA,dA,bC,opsOf,rC];co_apply opsC_more
 · co_opw Holds.rely hF (have hm : (xb, Obj.cells (gB 0 0 ⟨#[]⟩ 0) 176 (0, 0)) ∈ (xb, Obj.cells (gB 0 0 ⟨#[]⟩ 0) 176 (0, 0)) :: L := List.mem_cons_self; have hc0 : _ = some _ := hF.cell hm 0; have hc1 : _ = some _ := hF.cell hm 1; have hc2 : _ = some _ := hF.cell hm 2; have hc3 : _ = some _ := hF.cell hm 3; have hf0 := hF.frozen hm 0; have hf1 := hF.frozen hm 1; have hf2 := hF.frozen hm 2; have hf3 := hF.frozen hm 3) (have ho := hF.boxOwn; have ht := Turn.set4 ho (hF.lt hm) hF.big (.int .i64 0) (.int .i64 (k : Int)) (.string ⟨#[]⟩) (.int .i64 60); refine ⟨ht, ?_⟩; have ho2 := ht.own_fwd (hF.lt hm) ho; clear ht ho; have es := mR Tryz.prog; intro e he; have hm := mem_listed he; simp [go_sem, *] at hm; rcases hm with rfl | rfl | rfl | rfl <;> exact rQ ho2 _ _ _)
   replace hF:=hF.set4 hxL (.int .i64 0) (.int .i64 (k:Int)) (.string ⟨#[]⟩) (.int .i64 60);co_apply opsC_nil terms;co_then;exact nA (by rfl) hF
 · decide
theorem aLA:qG = .seq (.seq (rA lQ) (.block 2 (.loop aO))) (.seq (rA vI) (.seq nQ iG)):=by rfl
theorem qLA:iG = .seq (.seq (rA (rA iG)) (.seq (.region 17 xP false) (dA (dA (rA iG))))) (dA iG):=by rfl
theorem d0A(s:ByteArray)(c q k:Nat)(J:Nat→Value)(w:World)(hF:Holds d T (some xb) L w) :
 Code.wpC Tryz.prog false (Rely d T (some xb)) (Lx.Does d T (some xb)) 104 (rA lQ) 100
   (Exit.then (fun a' w'=>∃ J',a'=⟨lF s c q b0 k xb 0 J',df⟩∧Holds d T (some xb) L w') (fun _ _ _=>False)) ⟨rC s c q b0 k xb J,df⟩ w:=by
 unfold lQ rF eD gD;simp only[Tryz.f104,Option.getD_some,rA,dA,bC,rC,lF];co_apply wpC_more
 · co_reg terms
   repeat (first | co_reg terms | co_op Holds.rely hF (co_quiet terms) | (co_apply opsC_unwanted terms rfl (by rfl);try walk_nrm) | (co_ctl terms;try co_then))
   exact nA (by rfl) hF
 · decide
theorem y9A(s x:ByteArray)(c q k m:Nat)(kd e i:Int)(J:Nat→Value)(hx:RowKit.Hid (x.size=m))(hkm:k+m≤1000000)(w:World)(hF:Holds d T (some xb) ((xb,Obj.cells (gB kd k x e) 176 (0,0))::L) w) :
 Code.wpC Tryz.prog false (Rely d T (some xb)) (Lx.Does d T (some xb)) 104 (rA vI) 100
   (Exit.then (fun a' w'=>∃ J',a'=⟨rC s c q b0 (k+m) xb J',df⟩∧Holds d T (some xb) ((xb,Obj.cells (gB kd k x e) 176 (0,0))::L) w') (fun _ _ _=>False)) ⟨lF s c q b0 k xb i J,df⟩ w:=by
 have hm:(xb,Obj.cells (gB kd k x e) 176 (0,0))∈(xb,Obj.cells (gB kd k x e) 176 (0,0))::L:=List.mem_cons_self;unfold vI qG rF eD gD;simp only[Tryz.f104,Option.getD_some,rA,dA,bC,rC,lF];co_apply wpC_more
 · co_reg terms
   co_op Holds.rely hF (co_quiet terms);co_op Holds.rely hF (co_quiet terms);co_op Holds.rely hF (co_quiet terms)
   co_opw Holds.rely hF (have hc:_=some (Value.string x):=hF.cell hm 2) (refine Does.reads ?_;co_evs (exact hF.read hm _ _))
   clear hc
   co_opw Holds.rely hF (skip) (rw[listed_nil (by simp[go_sem,lI _ _ _ Tryz.underlying9])];exact Terms.idle terms _)
   co_op Holds.rely hF (co_quiet terms);co_op Holds.rely hF (co_quiet terms);co_apply opsC_nil terms;co_then;have hwr:IntKind.i64.wrap ((k:Int)+(x.size:Int))=((k+m:Nat):Int):=by rw[hx.out,IntWalk.i64_in _ (by omega)];omega
   rw[hwr];exact nA (by rfl) hF
 · decide
theorem xNA(s x:ByteArray)(c q k k1:Nat)(J:Nat→Value)(w:World)(hF:Holds d T (some xb) ((xb,Obj.cells (gB 0 k1 x 0) 176 (0,0))::L) w) :
 Code.wpC Tryz.prog false (Rely d T (some xb)) (Lx.Does d T (some xb)) 104 nQ 100
   (Exit.then (fun _ _=>False) (fun e a' w'=>e = .exit 1∧∃ J',a'=⟨rC s c q b0 k xb J',df⟩∧Holds d T (some xb) ((xb,Obj.cells (gB 0 k1 x 0) 176 (0,0))::L) w')) ⟨rC s c q b0 k xb J,df⟩ w:=by
 have hm:(xb,Obj.cells (gB 0 k1 x 0) 176 (0,0))∈(xb,Obj.cells (gB 0 k1 x 0) 176 (0,0))::L:=List.mem_cons_self;unfold nQ vI qG rF eD gD;simp only[Tryz.f104,Option.getD_some,rA,dA,bC,rC];co_apply wpC_more
 · co_apply wpC_seq terms
   co_reg terms
   co_op Holds.rely hF (co_quiet terms);co_op Holds.rely hF (co_quiet terms)
   co_opw Holds.rely hF (have hc:_=some (Value.int .i64 0):=hF.cell hm 0) (refine Does.reads ?_;co_evs (exact hF.read hm _ _))
   clear hc;co_op Holds.rely hF (co_quiet terms);co_op Holds.rely hF (co_quiet terms);co_op Holds.rely hF (co_quiet terms)
   co_opw Holds.rely hF (have hc:_=some (Value.int .i64 0):=hF.cell hm 3) (refine Does.reads ?_;co_evs (exact hF.read hm _ _))
   clear hc;co_op Holds.rely hF (co_quiet terms);co_op Holds.rely hF (co_quiet terms);co_apply opsC_nil terms;co_then;co_apply wpC_cond (t:=true) terms rfl;simp only[if_true];co_ctl terms;co_then;exact⟨trivial,nA (by rfl) hF⟩
 · decide
theorem rPA(s x:ByteArray)(c q k k1:Nat)(kd:Int)(hkd:(kd==0)=false)(J:Nat→Value)(w:World)(hF:Holds d T (some xb) ((xb,Obj.cells (gB kd k1 x 0) 176 (0,0))::L) w) :
 Code.wpC Tryz.prog false (Rely d T (some xb)) (Lx.Does d T (some xb)) 104 nQ 100
   (Exit.then (fun a' w'=>∃ J',a'=⟨rC s c q b0 k xb J',df⟩∧Holds d T (some xb) ((xb,Obj.cells (gB kd k1 x 0) 176 (0,0))::L) w') (fun _ _ _=>False)) ⟨rC s c q b0 k xb J,df⟩ w:=by
 have hm:(xb,Obj.cells (gB kd k1 x 0) 176 (0,0))∈(xb,Obj.cells (gB kd k1 x 0) 176 (0,0))::L:=List.mem_cons_self;unfold nQ vI qG rF eD gD;simp only[Tryz.f104,Option.getD_some,rA,dA,bC,rC];co_apply wpC_more
 · co_apply wpC_seq terms
   co_reg terms
   co_op Holds.rely hF (co_quiet terms);co_op Holds.rely hF (co_quiet terms)
   co_opw Holds.rely hF (have hc:_=some (Value.int .i64 kd):=hF.cell hm 0) (refine Does.reads ?_;co_evs (exact hF.read hm _ _))
   clear hc;co_op Holds.rely hF (co_quiet terms);co_op Holds.rely hF (co_quiet terms)
   (co_apply opsC_unwanted terms rfl (by rfl);try walk_nrm)
   (co_apply opsC_unwanted terms rfl (by rfl);try walk_nrm)
   (co_apply opsC_unwanted terms rfl (by rfl);try walk_nrm)
   co_op Holds.rely hF (co_quiet terms);co_apply opsC_nil terms;co_then;co_apply wpC_cond (t:=false) terms rfl;simp only[Bool.false_eq_true,if_false];co_ctl terms;co_then;exact nA (by rfl) hF
 · decide
def xG(s:ByteArray)(c q b0 k xb:Nat)(v:Value)(J:Nat→Value):Array Value :=
 #[.string s, .chan (some c), .chan (some q), J 3, J 4, J 5, .slice (some ⟨b0, 0, none⟩) 5 5, .int .i64 (k : Int), .pointer (some ⟨xb, 0, none⟩), J 9, J 10, J 11, J 12, J 13, J 14, J 15, J 16, J 17, J 18, J 19, J 20, J 21, J 22, J 23, J 24, J 25, J 26, J 27, J 28, J 29, J 30, J 31, J 32, J 33, J 34, J 35, J 36, J 37, J 38, J 39, J 40, J 41, J 42, J 43, J 44, J 45, J 46, J 47, J 48, J 49, J 50, J 51, J 52, J 53, J 54, J 55, J 56, J 57, J 58, J 59, J 60, J 61, J 62, J 63, J 64, J 65, .chan (some c), v, .chan (some q), J 69, J 70, J 71, J 72, J 73, J 74, J 75]
theorem q4A(s x:ByteArray)(c q k k1:Nat)(kd e:Int)(J:Nat→Value)(w:World)(hF:Holds d T (some xb) ((xb,Obj.cells (gB kd k1 x e) 176 (0,0))::L) w) :
 Code.wpC Tryz.prog false (Rely d T (some xb)) (Lx.Does d T (some xb)) 104 (rA (rA iG)) 100
   (Exit.then (fun a' w'=>∃ J',a'=⟨xG s c q b0 k xb (.agg (gB kd k1 x e)) J',df⟩∧Holds d T (some xb) ((xb,Obj.cells (gB kd k1 x e) 176 (0,0))::L) w') (fun _ _ _=>False)) ⟨rC s c q b0 k xb J,df⟩ w:=by
 have hm:(xb,Obj.cells (gB kd k1 x e) 176 (0,0))∈(xb,Obj.cells (gB kd k1 x e) 176 (0,0))::L:=List.mem_cons_self;unfold iG vI qG rF eD gD;simp only[Tryz.f104,Option.getD_some,rA,dA,bC,rC,xG];co_apply wpC_more
 · co_apply wpC_seq terms; co_apply wpC_seq terms
   co_reg terms
   co_op Holds.rely hF (co_quiet terms);co_apply opsC_nil terms;co_then
   co_reg terms
   co_opw Holds.rely hF (have hc0:_=some (Value.int .i64 kd):=hF.cell hm 0;have hc1:_=some (Value.int .i64 (k1:Int)):=hF.cell hm 1;have hc2:_=some (Value.string x):=hF.cell hm 2;have hc3:_=some (Value.int .i64 e):=hF.cell hm 3) (refine Does.reads ?_;intro e he;have hm:=mem_listed he;simp[go_sem, *]at hm;rcases hm with rfl | rfl | rfl | rfl<;>exact hF.read hm _ _)
   clear hc0 hc1 hc2 hc3;co_apply opsC_nil terms;co_then
   co_reg terms
   co_op Holds.rely hF (co_quiet terms);co_apply opsC_nil terms;co_then;exact nA (by rfl) hF
 · decide
end
def vM:Value:=.agg (gB 0 0 ⟨#[]⟩ 0)
def kV:Value:=.agg #[]
section
variable {d : Deal} {T : TypeId → Prop} {L : List (Nat × Obj)} {b0 xb : Nat} {df : List Deferred} {b : Frame} {kk : List Item} {cs : List Frame}
theorem e0A(s:ByteArray)(c q k:Nat)(v:Value)(J:Nat→Value)(hbk:b.kind≠.early)(w:World) :
 stepG Tryz.prog false (G (b.at ⟨xG s c q b0 k xb v J, df⟩ (.inRegion xP [0, 1, 2, 3] :: kk)) cs) w =
   .comm (G (b.at ⟨xG s c q b0 k xb v J,df⟩ (.inRegion xP [0,1,2,3]::kk)) cs) #[scase c v vM,rcase q kV] true .select w #[]:=by
 have ho : xP[0]? = some { dst := some 69, op := .select #[{ chan := .tmp 66, send := some (.tmp 67), elem := 176 }, { chan := .tmp 68, send := none, elem := 211 }] true, type := 0, pos := "lexer.go:81", after := #[], guard := none } := by rfl
 have he1 : (⟨xG s c q b0 k xb v J, df⟩ : Act).eval (.tmp 66) = .chan (some c) := rfl; have he2 : (⟨xG s c q b0 k xb v J, df⟩ : Act).eval (.tmp 67) = v := rfl; have he3 : (⟨xG s c q b0 k xb v J, df⟩ : Act).eval (.tmp 68) = .chan (some q) := rfl; have hr : (execOp (⟨xG s c q b0 k xb v J, df⟩ : Act).eval { dst := some 69, op := .select #[{ chan := .tmp 66, send := some (.tmp 67), elem := 176 }, { chan := .tmp 68, send := none, elem := 211 }] true, type := 0, pos := "lexer.go:81", after := #[], guard := none }).run Tryz.prog w = .ok (.comm #[scase c v vM, rcase q kV] true .select) w := by
  unfold execOp;simp[scase,rcase,he1,he2,he3,vM,gB,kV]
 have hl : (execOp (⟨xG s c q b0 k xb v J, df⟩ : Act).eval { dst := some 69, op := .select #[{ chan := .tmp 66, send := some (.tmp 67), elem := 176 }, { chan := .tmp 68, send := none, elem := 211 }] true, type := 0, pos := "lexer.go:81", after := #[], guard := none }).events Tryz.prog w #[] = #[] := by
  unfold execOp;simp
 rw[stepG_comm ho (by rfl) hbk hr,listed_nil hl]
theorem jYA(s:ByteArray)(c q k:Nat)(v:Value)(J:Nat→Value) :
 (G (b.at ⟨xG s c q b0 k xb v J, df⟩ (.inRegion xP [0, 1, 2, 3] :: kk)) cs).finishComm Tryz.prog #[scase c v vM, rcase q kV] .select 0 undef false =
   G (b.at ⟨(xG s c q b0 k xb v J).setIfInBounds 69 (.tuple #[.int .i64 0,.bool false,kV]),df⟩ (.inRegion xP [1,2,3]::kk)) cs:=by
 have ho : xP[0]? = some { dst := some 69, op := .select #[{ chan := .tmp 66, send := some (.tmp 67), elem := 176 }, { chan := .tmp 68, send := none, elem := 211 }] true, type := 0, pos := "lexer.go:81", after := #[], guard := none } := by rfl
 have hr:commResult #[scase c v vM,rcase q kV] .select 0 undef false = .tuple #[.int .i64 0,.bool false,kV]:=by
  simp[commResult,scase,rcase,goInt,Array.zipIdx,Array.filter]
 simp only[Goroutine.finishComm,G,hr,Frame.finish_at,ho];rfl
theorem bXA(s:ByteArray)(c q k:Nat)(v:Value)(J:Nat→Value)(w:World)(hF:Holds d T (some xb) L w) :
 OpsC Tryz.prog false (Rely d T (some xb)) (Lx.Does d T (some xb)) 104 xP [1, 2, 3] 10
   (Exit.then (fun a' w'=>∃ J',a'=⟨(rC s c q b0 k xb J').setIfInBounds 71 (.bool true),df⟩∧Holds d T (some xb) L w') (fun _ _ _=>False))
   ⟨(xG s c q b0 k xb v J).setIfInBounds 69 (.tuple #[.int .i64 0,.bool false,kV]),df⟩ w:=by
 have he:xP=opsOf (rA (dA (rA iG))):=rfl;rw[he];clear he;unfold iG vI qG rF eD gD;simp only[Tryz.f104,Option.getD_some,rA,dA,bC,opsOf,rC,xG,List.setIfInBounds_toArray,List.set_cons_succ,List.set_cons_zero];co_apply opsC_more
 · co_op Holds.rely hF (co_quiet terms);co_op Holds.rely hF (co_quiet terms);co_op Holds.rely hF (co_quiet terms);co_apply opsC_nil terms;co_then;exact nA (by rfl) hF
 · decide
theorem qTA(s:ByteArray)(c q k:Nat)(J:Nat→Value)(w:World)(hF:Holds d T (some xb) L w) :
 Code.wpC Tryz.prog false (Rely d T (some xb)) (Lx.Does d T (some xb)) 104 (dA (dA (rA iG))) 100
   (Exit.then (fun a' w'=>∃ J',a'=⟨rC s c q b0 k xb J',df⟩∧Holds d T (some xb) L w') (fun _ _ _=>False)) ⟨(rC s c q b0 k xb J).setIfInBounds 71 (.bool true),df⟩ w:=by
 unfold iG vI qG rF eD gD;simp only[Tryz.f104,Option.getD_some,rA,dA,bC,rC,List.setIfInBounds_toArray,List.set_cons_succ,List.set_cons_zero];co_apply wpC_more
 · co_apply wpC_block terms;co_apply wpC_cond (t:=true) terms rfl;simp only[if_true];co_ctl terms;co_then;exact nA (by rfl) hF
 · decide
theorem iTA(s x:ByteArray)(c q k k1:Nat)(kd:Int)(J:Nat→Value)(w:World)(hF:Holds d T (some xb) ((xb,Obj.cells (gB kd k1 x 0) 176 (0,0))::L) w) :
 Code.wpC Tryz.prog false (Rely d T (some xb)) (Lx.Does d T (some xb)) 104 (dA iG) 100
   (Exit.then (fun a' w'=>∃ J',a'=⟨rC s c q b0 k xb J',df⟩∧Holds d T (some xb) ((xb,Obj.cells (gB kd k1 x 0) 176 (0,0))::L) w') (fun _ _ _=>False)) ⟨rC s c q b0 k xb J,df⟩ w:=by
 have hm:(xb,Obj.cells (gB kd k1 x 0) 176 (0,0))∈(xb,Obj.cells (gB kd k1 x 0) 176 (0,0))::L:=List.mem_cons_self;unfold iG vI qG rF eD gD;simp only[Tryz.f104,Option.getD_some,dA,bC,rC];co_apply wpC_more
 · co_apply wpC_seq terms
   co_reg terms
   co_op Holds.rely hF (co_quiet terms)
   co_opw Holds.rely hF (have hc:_=some (Value.int .i64 0):=hF.cell hm 3) (refine Does.reads ?_;co_evs (exact hF.read hm _ _))
   clear hc;co_op Holds.rely hF (co_quiet terms);co_apply opsC_nil terms;co_then;co_apply wpC_cond (t:=false) terms rfl;simp only[Bool.false_eq_true,if_false];co_ctl terms;co_then;exact nA (by rfl) hF
 · decide
theorem fGA(s:ByteArray)(c q k:Nat)(J:Nat→Value):rC s c q b0 k xb J=oG s c q b0 k (fun n=>(rC s c q b0 k xb J).getD n undef):=by rfl
end
end Go.Proofs.YtlnlpdephijcoaaGreatDoor
