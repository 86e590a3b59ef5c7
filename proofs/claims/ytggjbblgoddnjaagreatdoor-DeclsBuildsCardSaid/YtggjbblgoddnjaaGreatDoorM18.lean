/- Part 18 of what the proof rests on. -/
import Derived.Test.YtggjbblgoddnjaaGreatDoorM11
import Derived.Test.YtggjbblgoddnjaaGreatDoorM17
set_option linter.unusedSimpArgs false
set_option linter.unusedVariables false
set_option maxRecDepth 100000
set_option maxHeartbeats 4000000
namespace Go.Proofs.YtggjbblgoddnjaaGreatDoor
open Go.Conc Go.Lx
noncomputable def dG:Code:=jA lF
noncomputable def opsOf : Code → Array Oper
  | .region _ ops _=>ops
  | _=>#[]
noncomputable def fQ:Array Oper:=opsOf (xA lF)
noncomputable def wH:Code:=jA dG
noncomputable def kP:Code:=xA (jA wH)
noncomputable def uF:Code:=jA (jA wH)
noncomputable def xN:Array Oper:=opsOf (xA (jA (xA uF)))
def zF(s:ByteArray)(c q b0 k:Nat)(J:Nat→Value):Array Value :=
 #[.string s, .chan (some c), .chan (some q), J 3, J 4, J 5, .slice (some ⟨b0, 0, none⟩) 5 5, .int .i64 (k : Int), J 8, J 9, J 10, J 11, J 12, J 13, J 14, J 15, J 16, J 17, J 18, J 19, J 20, J 21, J 22, J 23, J 24, J 25, J 26, J 27, J 28, J 29, J 30, J 31, J 32, J 33, J 34, J 35, J 36, J 37, J 38, J 39, J 40, J 41, J 42, J 43, J 44, J 45, J 46, J 47, J 48, J 49, J 50, J 51, J 52, J 53, J 54, J 55, J 56, J 57, J 58, J 59, J 60, J 61, J 62, J 63, J 64, J 65, J 66, J 67, J 68, J 69, J 70, J 71, J 72, J 73, J 74, J 75]
def aP(s:ByteArray)(c q b0 k:Nat)(J:Nat→Value):Array Value :=
 #[.string s, .chan (some c), .chan (some q), J 3, J 4, J 5, .slice (some ⟨b0, 0, none⟩) 5 5, .int .i64 (k : Int), J 8, J 9, J 10, J 11, J 12, J 13, J 14, J 15, J 16, J 17, J 18, J 19, .agg #[.int .i64 0, .int .i64 (k : Int), .string ⟨#[]⟩, .int .i64 60], J 21, J 22, J 23, J 24, J 25, J 26, J 27, J 28, J 29, J 30, J 31, J 32, J 33, J 34, J 35, J 36, J 37, J 38, J 39, J 40, J 41, J 42, J 43, J 44, J 45, J 46, J 47, J 48, J 49, J 50, J 51, J 52, J 53, J 54, J 55, J 56, J 57, J 58, J 59, J 60, J 61, J 62, J 63, J 64, J 65, J 66, J 67, J 68, J 69, J 70, J 71, J 72, J 73, J 74, J 75]
theorem dX:iD = .seq (xA iD) (.block 1 (.seq (.region 4 fQ false) dG)):=by
 rfl
section
variable {d : Deal} {T : TypeId → Prop} {o : Option Nat} {L : List (Nat × Obj)} {b0 xb : Nat} {df : List Deferred}
theorem cZA(s:ByteArray)(c q k:Nat)(J:Nat→Value)(hk:k < s.size)(w:World)(hF:Holds d T o L w) :
 Code.wpC Tryz.prog false (Rely d T o) (Lx.Does d T o) 125 (xA iD) 100
   (Exit.then (fun a' w'=>∃ J',a'=⟨zF s c q b0 k J',df⟩∧Holds d T o L w') (fun _ _ _=>False)) ⟨zF s c q b0 k J,df⟩ w:=by
 have hin:(k:Int) < s.size:=by omega
 have hdk:decide ((k:Int) < s.size)=true:=by simp;omega
 unfold iD fD;simp only[Tryz.f125,Option.getD_some,xA,jA,aD,zF];co_apply wpC_more
 · co_apply wpC_seq terms
   co_reg terms
   co_op Holds.rely hF (co_quiet terms);co_op Holds.rely hF (co_quiet terms)
   co_opw Holds.rely hF (skip) (rw[listed_nil (by simp[go_sem,tH _ _ _ Tryz.underlying9])];exact Terms.idle terms _)
   co_op Holds.rely hF (co_quiet terms);co_apply opsC_nil terms;co_then;co_apply wpC_cond (t:=true) terms rfl;simp only[if_true];co_ctl terms;co_then;exact bB (by rfl) hF
 · decide
theorem pUA(s:ByteArray)(c q k:Nat)(J:Nat→Value)(hk:k=s.size)(w:World)(hF:Holds d T o L w) :
 Code.wpC Tryz.prog false (Rely d T o) (Lx.Does d T o) 125 (xA iD) 100
   (Exit.then (fun _ _=>False) (fun e a' w'=>e = .exit 0∧∃ J',a'=⟨zF s c q b0 k J',df⟩∧Holds d T o L w')) ⟨zF s c q b0 k J,df⟩ w:=by
 subst hk;unfold iD fD;simp only[Tryz.f125,Option.getD_some,xA,jA,aD,zF];co_apply wpC_more
 · co_apply wpC_seq terms
   co_reg terms
   co_op Holds.rely hF (co_quiet terms);co_op Holds.rely hF (co_quiet terms)
   co_opw Holds.rely hF (skip) (rw[listed_nil (by simp[go_sem,tH _ _ _ Tryz.underlying9])];exact Terms.idle terms _)
   co_op Holds.rely hF (co_quiet terms);co_apply opsC_nil terms;co_then;co_apply wpC_cond (t:=false) terms rfl;simp only[Bool.false_eq_true,if_false];co_ctl terms;co_then;exact⟨trivial,bB (by rfl) hF⟩
 · decide
end
section
variable {d : Deal} {T : TypeId → Prop} {o : Option Nat} {L : List (Nat × Obj)} {b0 xb : Nat} {df : List Deferred} {b : Frame} {kk : List Item} {cs : List Frame} {Stop : Goroutine → World → Prop}
theorem tEA{r:Result Next}{v:Value}{w:World}(h:∀ K:Result Next→Prop,K (.ok (.value v) w)→K r):r = .ok (.value v) w:=h (· = .ok (.value v) w) rfl
theorem aQA{A:Array Value}{F:(Nat→Value)→Array Value}{Pr:World→Prop}{k:List Item}{cs:List Frame}(hS:∀ J w₁,Pr w₁→Stop (G (b.at ⟨F J,df⟩ k) cs) w₁)(h:A=F fun n=>A.getD n undef)(w₁:World)(hp:Pr w₁) :
 Stop (G (b.at ⟨A,df⟩ k) cs) w₁:=by
 have:=hS (fun n=>A.getD n undef) w₁ hp;rw[← h]at this;exact this
theorem cWA (s : ByteArray) (c q k : Nat) (J : Nat → Value) (hk : k < s.size) (hbf : b.fn = 125) (hbk : b.kind ≠ .early) (w : World) (hF : Holds d T o L w)
    (hS:∀ J w₁,Holds d T o L w₁→Stop (G (b.at ⟨aP s c q b0 k J,df⟩ (.inRegion fQ [3,4] :: .code dG :: .inBlock 1::kk)) cs) w₁) :
    Goes Tryz.prog false (Rely d T o) (Lx.Does d T o) Stop 120 (G (b.at ⟨zF s c q b0 k J,df⟩ (.code iD::kk)) cs) w:=by
  rw[dX];refine Goes.mono (fE terms (iE (m:=10) (cZA s c q k J hk w hF) hbf hbk ?_)) (by decide);rintro e a' w' h
  cases e with
  | normal =>
    clear hF;obtain⟨J',rfl,hF⟩:=h;refine Goes.mono (n:=3+1+1+1) (n':=10) (kQ terms (fE terms (aJ terms ?_))) (by decide);have he:fQ=opsOf (xA lF):=rfl;rw[he]at hS ⊢;unfold lF iD fD at hS ⊢;simp only[Tryz.f125,Option.getD_some,xA,jA,aD,opsOf,zF,List.size_toArray,List.length_cons,List.length_nil,Nat.reduceAdd,Nat.zero_add,List.range,List.range.loop]at hS ⊢;co_apply bW rfl (by rfl) hbk;intro _ hR K hK;replace hF:=Holds.rely hF hR;clear hR;go_simp;refine hK _ _ ⟨?_,?_⟩
    · co_quiet terms
    clear hK K
    try walk_nrm
    co_apply bW rfl (by rfl) hbk;intro _ hR K hK;replace hF:=Holds.rely hF hR;clear hR;go_simp;refine hK _ _ ⟨?_,?_⟩
    · co_quiet terms
    clear hK K
    try walk_nrm
    co_apply bW rfl (by rfl) hbk;intro _ hR K hK;replace hF:=Holds.rely hF hR;clear hR;go_simp;refine hK _ _ ⟨?_,?_⟩
    · co_quiet terms
    clear hK K
    try walk_nrm
    exact sFA fun w₁ hR=>aQA hS (by rfl) w₁ (Holds.rely hF hR)
  | _=>exact h.elim
theorem cLA(s:ByteArray)(c q k:Nat)(J:Nat→Value)(hbk:b.kind≠.early)(w:World) :
 ∃ es, stepG Tryz.prog false (G (b.at ⟨aP s c q b0 k J, df⟩ (.inRegion fQ [3, 4] :: kk)) cs) w =
   .go (G (b.at ⟨(aP s c q b0 k J).setIfInBounds 8 (.pointer (some ⟨w.heap.size,0,none⟩)),df⟩ (.inRegion fQ [4]::kk)) cs) (w.alloc (.cells #[.int .i64 0,.int .i64 0,.string ⟨#[]⟩,.int .i64 0] 199 (0,0))) es∧∀ e∈es,jU d T (some w.heap.size) (w.alloc (.cells #[.int .i64 0,.int .i64 0,.string ⟨#[]⟩,.int .i64 0] 199 (0,0))) e:=by
 have ho : fQ[3]? = some { dst := some 8, op := .alloc 199, type := 0, pos := "lexer.go:69", after := #[], guard := none } := by rfl
 refine⟨_,stepG_value ho (by rfl) hbk (v:=.pointer (some ⟨w.heap.size,0,none⟩)) ?_,?_⟩
 · refine tEA fun K hK => ?_
   go_simp;exact hK
 · rw[listed_nil (by simp[go_sem])];simp
end
def tC(s:ByteArray)(c q b0 k xb:Nat)(J:Nat→Value):Array Value :=
 #[.string s, .chan (some c), .chan (some q), J 3, J 4, J 5, .slice (some ⟨b0, 0, none⟩) 5 5, .int .i64 (k : Int), .pointer (some ⟨xb, 0, none⟩), J 9, J 10, J 11, J 12, J 13, J 14, J 15, J 16, J 17, J 18, J 19, J 20, J 21, J 22, J 23, J 24, J 25, J 26, J 27, J 28, J 29, J 30, J 31, J 32, J 33, J 34, J 35, J 36, J 37, J 38, J 39, J 40, J 41, J 42, J 43, J 44, J 45, J 46, J 47, J 48, J 49, J 50, J 51, J 52, J 53, J 54, J 55, J 56, J 57, J 58, J 59, J 60, J 61, J 62, J 63, J 64, J 65, J 66, J 67, J 68, J 69, J 70, J 71, J 72, J 73, J 74, J 75]
def eB(kd:Int)(k:Nat)(x:ByteArray)(e:Int):Array Value:=#[.int .i64 kd,.int .i64 (k:Int),.string x,.int .i64 e]
section
variable {d : Deal} {T : TypeId → Prop} {L : List (Nat × Obj)} {b0 xb : Nat} {df : List Deferred}
theorem jSA(s:ByteArray)(c q k:Nat)(J:Nat→Value)(hxL:∀ p∈L,p.1≠xb)(w:World)(hF:Holds d T (some xb) ((xb,Obj.cells (eB 0 0 ⟨#[]⟩ 0) 199 (0,0))::L) w) :
 OpsC Tryz.prog false (Rely d T (some xb)) (Lx.Does d T (some xb)) 125 fQ [4] 10
   (Exit.then (fun a' w'=>∃ J',a'=⟨tC s c q b0 k xb J',df⟩∧Holds d T (some xb) ((xb,Obj.cells (eB 0 k ⟨#[]⟩ 60) 199 (0,0))::L) w') (fun _ _ _=>False))
   ⟨(aP s c q b0 k J).setIfInBounds 8 (.pointer (some ⟨xb,0,none⟩)),df⟩ w:=by
 have hf:(aP s c q b0 k J).setIfInBounds 8 (.pointer (some ⟨xb,0,none⟩))=#[.string s,.chan (some c),.chan (some q),J 3,J 4,J 5,.slice (some ⟨b0,0,none⟩) 5 5,.int .i64 (k:Int),.pointer (some ⟨xb,0,none⟩),J 9,J 10,J 11,J 12,J 13,J 14,J 15,J 16,J 17,J 18,J 19,.agg #[.int .i64 0,.int .i64 (k:Int),.string ⟨#[]⟩,.int .i64 60],J 21,J 22,J 23,J 24,J 25,J 26,J 27,J 28,J 29,J 30,J 31,J 32,J 33,J 34,J 35,J 36,J 37,J 38,J 39,J 40,J 41,J 42,J 43,J 44,J 45,J 46,J 47,J 48,J 49,J 50,J 51,J 52,J 53,J 54,J 55,J 56,J 57,J 58,J 59,J 60,J 61,J 62,J 63,J 64,J 65,J 66,J 67,J 68,J 69,J 70,J 71,J 72,J 73,J 74,J 75]:=rfl;rw[hf];clear hf;have he:fQ=opsOf (xA lF):=rfl;rw[he];clear he;unfold lF iD fD;simp only[Tryz.f125,Option.getD_some,xA,jA,aD,opsOf,tC];co_apply opsC_more
 · co_opw Holds.rely hF (have hm : (xb, Obj.cells (eB 0 0 ⟨#[]⟩ 0) 199 (0, 0)) ∈ (xb, Obj.cells (eB 0 0 ⟨#[]⟩ 0) 199 (0, 0)) :: L := List.mem_cons_self; have hc0 : _ = some _ := hF.cell hm 0; have hc1 : _ = some _ := hF.cell hm 1; have hc2 : _ = some _ := hF.cell hm 2; have hc3 : _ = some _ := hF.cell hm 3; have hf0 := hF.frozen hm 0; have hf1 := hF.frozen hm 1; have hf2 := hF.frozen hm 2; have hf3 := hF.frozen hm 3) (have ho := hF.boxOwn; have ht := Turn.set4 ho (hF.lt hm) hF.big (.int .i64 0) (.int .i64 (k : Int)) (.string ⟨#[]⟩) (.int .i64 60); refine ⟨ht, ?_⟩; have ho2 := ht.own_fwd (hF.lt hm) ho; clear ht ho; have es := yP Tryz.prog; intro e he; have hm := mem_listed he; simp [go_sem, *] at hm; rcases hm with rfl | rfl | rfl | rfl <;> exact wO ho2 _ _ _)
   replace hF:=hF.set4 hxL (.int .i64 0) (.int .i64 (k:Int)) (.string ⟨#[]⟩) (.int .i64 60);co_apply opsC_nil terms;co_then;exact bB (by rfl) hF
 · decide
theorem bIA:dG = .seq (.seq (xA xO) (.block 2 (.loop tL))) (.seq (xA wH) (.seq kP uF)):=by rfl
theorem tIA:uF = .seq (.seq (xA (xA uF)) (.seq (.region 17 xN false) (jA (jA (xA uF))))) (jA uF):=by rfl
theorem gYA(s:ByteArray)(c q k:Nat)(J:Nat→Value)(w:World)(hF:Holds d T (some xb) L w) :
 Code.wpC Tryz.prog false (Rely d T (some xb)) (Lx.Does d T (some xb)) 125 (xA xO) 100
   (Exit.then (fun a' w'=>∃ J',a'=⟨dF s c q b0 k xb 0 J',df⟩∧Holds d T (some xb) L w') (fun _ _ _=>False)) ⟨tC s c q b0 k xb J,df⟩ w:=by
 unfold xO lF iD fD;simp only[Tryz.f125,Option.getD_some,xA,jA,aD,tC,dF];co_apply wpC_more
 · co_reg terms
   repeat (first | co_reg terms | co_op Holds.rely hF (co_quiet terms) | (co_apply opsC_unwanted terms rfl (by rfl);try walk_nrm) | (co_ctl terms;try co_then))
   exact bB (by rfl) hF
 · decide
theorem d5A(s x:ByteArray)(c q k m:Nat)(kd e i:Int)(J:Nat→Value)(hx:RowKit.Hid (x.size=m))(hkm:k+m≤1000000)(w:World)(hF:Holds d T (some xb) ((xb,Obj.cells (eB kd k x e) 199 (0,0))::L) w) :
 Code.wpC Tryz.prog false (Rely d T (some xb)) (Lx.Does d T (some xb)) 125 (xA wH) 100
   (Exit.then (fun a' w'=>∃ J',a'=⟨tC s c q b0 (k+m) xb J',df⟩∧Holds d T (some xb) ((xb,Obj.cells (eB kd k x e) 199 (0,0))::L) w') (fun _ _ _=>False)) ⟨dF s c q b0 k xb i J,df⟩ w:=by
 have hm:(xb,Obj.cells (eB kd k x e) 199 (0,0))∈(xb,Obj.cells (eB kd k x e) 199 (0,0))::L:=List.mem_cons_self;unfold wH dG lF iD fD;simp only[Tryz.f125,Option.getD_some,xA,jA,aD,tC,dF];co_apply wpC_more
 · co_reg terms
   co_op Holds.rely hF (co_quiet terms);co_op Holds.rely hF (co_quiet terms);co_op Holds.rely hF (co_quiet terms)
   co_opw Holds.rely hF (have hc:_=some (Value.string x):=hF.cell hm 2) (refine Does.reads ?_;co_evs (exact hF.read hm _ _))
   clear hc
   co_opw Holds.rely hF (skip) (rw[listed_nil (by simp[go_sem,tH _ _ _ Tryz.underlying9])];exact Terms.idle terms _)
   co_op Holds.rely hF (co_quiet terms);co_op Holds.rely hF (co_quiet terms);co_apply opsC_nil terms;co_then;have hwr:IntKind.i64.wrap ((k:Int)+(x.size:Int))=((k+m:Nat):Int):=by rw[hx.out,IntWalk.i64_in _ (by omega)];omega
   rw[hwr];exact bB (by rfl) hF
 · decide
theorem nNA(s x:ByteArray)(c q k k1:Nat)(J:Nat→Value)(w:World)(hF:Holds d T (some xb) ((xb,Obj.cells (eB 0 k1 x 0) 199 (0,0))::L) w) :
 Code.wpC Tryz.prog false (Rely d T (some xb)) (Lx.Does d T (some xb)) 125 kP 100
   (Exit.then (fun _ _=>False) (fun e a' w'=>e = .exit 1∧∃ J',a'=⟨tC s c q b0 k xb J',df⟩∧Holds d T (some xb) ((xb,Obj.cells (eB 0 k1 x 0) 199 (0,0))::L) w')) ⟨tC s c q b0 k xb J,df⟩ w:=by
 have hm:(xb,Obj.cells (eB 0 k1 x 0) 199 (0,0))∈(xb,Obj.cells (eB 0 k1 x 0) 199 (0,0))::L:=List.mem_cons_self;unfold kP wH dG lF iD fD;simp only[Tryz.f125,Option.getD_some,xA,jA,aD,tC];co_apply wpC_more
 · co_apply wpC_seq terms
   co_reg terms
   co_op Holds.rely hF (co_quiet terms);co_op Holds.rely hF (co_quiet terms)
   co_opw Holds.rely hF (have hc:_=some (Value.int .i64 0):=hF.cell hm 0) (refine Does.reads ?_;co_evs (exact hF.read hm _ _))
   clear hc;co_op Holds.rely hF (co_quiet terms);co_op Holds.rely hF (co_quiet terms);co_op Holds.rely hF (co_quiet terms)
   co_opw Holds.rely hF (have hc:_=some (Value.int .i64 0):=hF.cell hm 3) (refine Does.reads ?_;co_evs (exact hF.read hm _ _))
   clear hc;co_op Holds.rely hF (co_quiet terms);co_op Holds.rely hF (co_quiet terms);co_apply opsC_nil terms;co_then;co_apply wpC_cond (t:=true) terms rfl;simp only[if_true];co_ctl terms;co_then;exact⟨trivial,bB (by rfl) hF⟩
 · decide
theorem kLA(s x:ByteArray)(c q k k1:Nat)(kd:Int)(hkd:(kd==0)=false)(J:Nat→Value)(w:World)(hF:Holds d T (some xb) ((xb,Obj.cells (eB kd k1 x 0) 199 (0,0))::L) w) :
 Code.wpC Tryz.prog false (Rely d T (some xb)) (Lx.Does d T (some xb)) 125 kP 100
   (Exit.then (fun a' w'=>∃ J',a'=⟨tC s c q b0 k xb J',df⟩∧Holds d T (some xb) ((xb,Obj.cells (eB kd k1 x 0) 199 (0,0))::L) w') (fun _ _ _=>False)) ⟨tC s c q b0 k xb J,df⟩ w:=by
 have hm:(xb,Obj.cells (eB kd k1 x 0) 199 (0,0))∈(xb,Obj.cells (eB kd k1 x 0) 199 (0,0))::L:=List.mem_cons_self;unfold kP wH dG lF iD fD;simp only[Tryz.f125,Option.getD_some,xA,jA,aD,tC];co_apply wpC_more
 · co_apply wpC_seq terms
   co_reg terms
   co_op Holds.rely hF (co_quiet terms);co_op Holds.rely hF (co_quiet terms)
   co_opw Holds.rely hF (have hc:_=some (Value.int .i64 kd):=hF.cell hm 0) (refine Does.reads ?_;co_evs (exact hF.read hm _ _))
   clear hc;co_op Holds.rely hF (co_quiet terms);co_op Holds.rely hF (co_quiet terms)
   (co_apply opsC_unwanted terms rfl (by rfl);try walk_nrm)
   (co_apply opsC_unwanted terms rfl (by rfl);try walk_nrm)
   (co_apply opsC_unwanted terms rfl (by rfl);try walk_nrm)
   co_op Holds.rely hF (co_quiet terms);co_apply opsC_nil terms;co_then;co_apply wpC_cond (t:=false) terms rfl;simp only[Bool.false_eq_true,if_false];co_ctl terms;co_then;exact bB (by rfl) hF
 · decide
def iG(s:ByteArray)(c q b0 k xb:Nat)(v:Value)(J:Nat→Value):Array Value :=
 #[.string s, .chan (some c), .chan (some q), J 3, J 4, J 5, .slice (some ⟨b0, 0, none⟩) 5 5, .int .i64 (k : Int), .pointer (some ⟨xb, 0, none⟩), J 9, J 10, J 11, J 12, J 13, J 14, J 15, J 16, J 17, J 18, J 19, J 20, J 21, J 22, J 23, J 24, J 25, J 26, J 27, J 28, J 29, J 30, J 31, J 32, J 33, J 34, J 35, J 36, J 37, J 38, J 39, J 40, J 41, J 42, J 43, J 44, J 45, J 46, J 47, J 48, J 49, J 50, J 51, J 52, J 53, J 54, J 55, J 56, J 57, J 58, J 59, J 60, J 61, J 62, J 63, J 64, J 65, .chan (some c), v, .chan (some q), J 69, J 70, J 71, J 72, J 73, J 74, J 75]
theorem n0A(s x:ByteArray)(c q k k1:Nat)(kd e:Int)(J:Nat→Value)(w:World)(hF:Holds d T (some xb) ((xb,Obj.cells (eB kd k1 x e) 199 (0,0))::L) w) :
 Code.wpC Tryz.prog false (Rely d T (some xb)) (Lx.Does d T (some xb)) 125 (xA (xA uF)) 100
   (Exit.then (fun a' w'=>∃ J',a'=⟨iG s c q b0 k xb (.agg (eB kd k1 x e)) J',df⟩∧Holds d T (some xb) ((xb,Obj.cells (eB kd k1 x e) 199 (0,0))::L) w') (fun _ _ _=>False)) ⟨tC s c q b0 k xb J,df⟩ w:=by
 have hm:(xb,Obj.cells (eB kd k1 x e) 199 (0,0))∈(xb,Obj.cells (eB kd k1 x e) 199 (0,0))::L:=List.mem_cons_self;unfold uF wH dG lF iD fD;simp only[Tryz.f125,Option.getD_some,xA,jA,aD,tC,iG];co_apply wpC_more
 · co_apply wpC_seq terms; co_apply wpC_seq terms
   co_reg terms
   co_op Holds.rely hF (co_quiet terms);co_apply opsC_nil terms;co_then
   co_reg terms
   co_opw Holds.rely hF (have hc0:_=some (Value.int .i64 kd):=hF.cell hm 0;have hc1:_=some (Value.int .i64 (k1:Int)):=hF.cell hm 1;have hc2:_=some (Value.string x):=hF.cell hm 2;have hc3:_=some (Value.int .i64 e):=hF.cell hm 3) (refine Does.reads ?_;intro e he;have hm:=mem_listed he;simp[go_sem, *]at hm;rcases hm with rfl | rfl | rfl | rfl<;>exact hF.read hm _ _)
   clear hc0 hc1 hc2 hc3;co_apply opsC_nil terms;co_then
   co_reg terms
   co_op Holds.rely hF (co_quiet terms);co_apply opsC_nil terms;co_then;exact bB (by rfl) hF
 · decide
end
def qK:Value:=.agg (eB 0 0 ⟨#[]⟩ 0)
def bU:Value:=.agg #[]
section
variable {d : Deal} {T : TypeId → Prop} {L : List (Nat × Obj)} {b0 xb : Nat} {df : List Deferred} {b : Frame} {kk : List Item} {cs : List Frame}
theorem wWA(s:ByteArray)(c q k:Nat)(v:Value)(J:Nat→Value)(hbk:b.kind≠.early)(w:World) :
 stepG Tryz.prog false (G (b.at ⟨iG s c q b0 k xb v J, df⟩ (.inRegion xN [0, 1, 2, 3] :: kk)) cs) w =
   .comm (G (b.at ⟨iG s c q b0 k xb v J,df⟩ (.inRegion xN [0,1,2,3]::kk)) cs) #[scase c v qK,rcase q bU] true .select w #[]:=by
 have ho : xN[0]? = some { dst := some 69, op := .select #[{ chan := .tmp 66, send := some (.tmp 67), elem := 199 }, { chan := .tmp 68, send := none, elem := 236 }] true, type := 0, pos := "lexer.go:81", after := #[], guard := none } := by rfl
 have he1 : (⟨iG s c q b0 k xb v J, df⟩ : Act).eval (.tmp 66) = .chan (some c) := rfl; have he2 : (⟨iG s c q b0 k xb v J, df⟩ : Act).eval (.tmp 67) = v := rfl; have he3 : (⟨iG s c q b0 k xb v J, df⟩ : Act).eval (.tmp 68) = .chan (some q) := rfl; have hr : (execOp (⟨iG s c q b0 k xb v J, df⟩ : Act).eval { dst := some 69, op := .select #[{ chan := .tmp 66, send := some (.tmp 67), elem := 199 }, { chan := .tmp 68, send := none, elem := 236 }] true, type := 0, pos := "lexer.go:81", after := #[], guard := none }).run Tryz.prog w = .ok (.comm #[scase c v qK, rcase q bU] true .select) w := by
  unfold execOp;simp[scase,rcase,he1,he2,he3,qK,eB,bU]
 have hl : (execOp (⟨iG s c q b0 k xb v J, df⟩ : Act).eval { dst := some 69, op := .select #[{ chan := .tmp 66, send := some (.tmp 67), elem := 199 }, { chan := .tmp 68, send := none, elem := 236 }] true, type := 0, pos := "lexer.go:81", after := #[], guard := none }).events Tryz.prog w #[] = #[] := by
  unfold execOp;simp
 rw[stepG_comm ho (by rfl) hbk hr,listed_nil hl]
theorem bXA(s:ByteArray)(c q k:Nat)(v:Value)(J:Nat→Value) :
 (G (b.at ⟨iG s c q b0 k xb v J, df⟩ (.inRegion xN [0, 1, 2, 3] :: kk)) cs).finishComm Tryz.prog #[scase c v qK, rcase q bU] .select 0 undef false =
   G (b.at ⟨(iG s c q b0 k xb v J).setIfInBounds 69 (.tuple #[.int .i64 0,.bool false,bU]),df⟩ (.inRegion xN [1,2,3]::kk)) cs:=by
 have ho : xN[0]? = some { dst := some 69, op := .select #[{ chan := .tmp 66, send := some (.tmp 67), elem := 199 }, { chan := .tmp 68, send := none, elem := 236 }] true, type := 0, pos := "lexer.go:81", after := #[], guard := none } := by rfl
 have hr:commResult #[scase c v qK,rcase q bU] .select 0 undef false = .tuple #[.int .i64 0,.bool false,bU]:=by
  simp[commResult,scase,rcase,goInt,Array.zipIdx,Array.filter]
 simp only[Goroutine.finishComm,G,hr,Frame.finish_at,ho];rfl
theorem xXA(s:ByteArray)(c q k:Nat)(v:Value)(J:Nat→Value)(w:World)(hF:Holds d T (some xb) L w) :
 OpsC Tryz.prog false (Rely d T (some xb)) (Lx.Does d T (some xb)) 125 xN [1, 2, 3] 10
   (Exit.then (fun a' w'=>∃ J',a'=⟨(tC s c q b0 k xb J').setIfInBounds 71 (.bool true),df⟩∧Holds d T (some xb) L w') (fun _ _ _=>False))
   ⟨(iG s c q b0 k xb v J).setIfInBounds 69 (.tuple #[.int .i64 0,.bool false,bU]),df⟩ w:=by
 have he:xN=opsOf (xA (jA (xA uF))):=rfl;rw[he];clear he;unfold uF wH dG lF iD fD;simp only[Tryz.f125,Option.getD_some,xA,jA,aD,opsOf,tC,iG,List.setIfInBounds_toArray,List.set_cons_succ,List.set_cons_zero];co_apply opsC_more
 · co_op Holds.rely hF (co_quiet terms);co_op Holds.rely hF (co_quiet terms);co_op Holds.rely hF (co_quiet terms);co_apply opsC_nil terms;co_then;exact bB (by rfl) hF
 · decide
theorem iUA(s:ByteArray)(c q k:Nat)(J:Nat→Value)(w:World)(hF:Holds d T (some xb) L w) :
 Code.wpC Tryz.prog false (Rely d T (some xb)) (Lx.Does d T (some xb)) 125 (jA (jA (xA uF))) 100
   (Exit.then (fun a' w'=>∃ J',a'=⟨tC s c q b0 k xb J',df⟩∧Holds d T (some xb) L w') (fun _ _ _=>False)) ⟨(tC s c q b0 k xb J).setIfInBounds 71 (.bool true),df⟩ w:=by
 unfold uF wH dG lF iD fD;simp only[Tryz.f125,Option.getD_some,xA,jA,aD,tC,List.setIfInBounds_toArray,List.set_cons_succ,List.set_cons_zero];co_apply wpC_more
 · co_apply wpC_block terms;co_apply wpC_cond (t:=true) terms rfl;simp only[if_true];co_ctl terms;co_then;exact bB (by rfl) hF
 · decide
theorem ySA(s x:ByteArray)(c q k k1:Nat)(kd:Int)(J:Nat→Value)(w:World)(hF:Holds d T (some xb) ((xb,Obj.cells (eB kd k1 x 0) 199 (0,0))::L) w) :
 Code.wpC Tryz.prog false (Rely d T (some xb)) (Lx.Does d T (some xb)) 125 (jA uF) 100
   (Exit.then (fun a' w'=>∃ J',a'=⟨tC s c q b0 k xb J',df⟩∧Holds d T (some xb) ((xb,Obj.cells (eB kd k1 x 0) 199 (0,0))::L) w') (fun _ _ _=>False)) ⟨tC s c q b0 k xb J,df⟩ w:=by
 have hm:(xb,Obj.cells (eB kd k1 x 0) 199 (0,0))∈(xb,Obj.cells (eB kd k1 x 0) 199 (0,0))::L:=List.mem_cons_self;unfold uF wH dG lF iD fD;simp only[Tryz.f125,Option.getD_some,jA,aD,tC];co_apply wpC_more
 · co_apply wpC_seq terms
   co_reg terms
   co_op Holds.rely hF (co_quiet terms)
   co_opw Holds.rely hF (have hc:_=some (Value.int .i64 0):=hF.cell hm 3) (refine Does.reads ?_;co_evs (exact hF.read hm _ _))
   clear hc;co_op Holds.rely hF (co_quiet terms);co_apply opsC_nil terms;co_then;co_apply wpC_cond (t:=false) terms rfl;simp only[Bool.false_eq_true,if_false];co_ctl terms;co_then;exact bB (by rfl) hF
 · decide
theorem wFA(s:ByteArray)(c q k:Nat)(J:Nat→Value):tC s c q b0 k xb J=zF s c q b0 k (fun n=>(tC s c q b0 k xb J).getD n undef):=by rfl
end
end Go.Proofs.YtggjbblgoddnjaaGreatDoor
