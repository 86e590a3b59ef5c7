/- Part 7 of what the proof rests on. -/
import Derived.WalkKit
import Derived.RegionTactic
import Derived.LoopTactic
import Derived.Conc.LoneCalls
import Derived.Test.YtggjbblgoddnjaaGreatDoorChecked
import Derived.KernelRfl
import Derived.Tactics
import Derived.Test.YtggjbblgoddnjaaGreatDoorM04
import Derived.Test.YtggjbblgoddnjaaGreatDoorM06
import Derived.Test.YtggjbblgoddnjaaGreatDoorM00
set_option linter.unusedSimpArgs false
set_option linter.unusedVariables false
set_option maxRecDepth 100000
set_option maxHeartbeats 4000000
namespace Go.Proofs.YtggjbblgoddnjaaGreatDoor
open Go.Conc Go.Lx
def vC(s:ByteArray)(c q b0 k xb:Nat)(J:Nat→Value):Array Value :=
 #[.string s, .chan (some c), .chan (some q), J 3, J 4, J 5, .slice (some ⟨b0, 0, none⟩) 5 5, .int .i64 (k : Int), .pointer (some ⟨xb, 0, none⟩), J 9, J 10, J 11, J 12, J 13, J 14, J 15, J 16, J 17, J 18, J 19, J 20, J 21, J 22, J 23, J 24, J 25, J 26, J 27, J 28, J 29, J 30, J 31, J 32, J 33, J 34, J 35, J 36, J 37, J 38, J 39, J 40, J 41, J 42, J 43, J 44, J 45, J 46, J 47, J 48, J 49, J 50, J 51, J 52, J 53, J 54, J 55, J 56, J 57, J 58, J 59, J 60, J 61, J 62, J 63, J 64, J 65, J 66, J 67, J 68, J 69, J 70, J 71, J 72, J 73, J 74, J 75]
def vB(kd:Int)(k:Nat)(x:ByteArray)(e:Int):Array Value:=#[.int .i64 kd,.int .i64 (k:Int),.string x,.int .i64 e]
section
variable {d : Deal} {T : TypeId → Prop} {L : List (Nat × Obj)} {b0 xb : Nat} {df : List Deferred}
theorem jXA(s:ByteArray)(c q k:Nat)(J:Nat→Value)(hxL:∀ p∈L,p.1≠xb)(w:World)(hF:Holds d T (some xb) ((xb,Obj.cells (vB 0 0 ⟨#[]⟩ 0) 199 (0,0))::L) w) :
 OpsC Tryz.prog false (Rely d T (some xb)) (Lx.Does d T (some xb)) 125 iU [4] 10
   (Exit.then (fun a' w'=>∃ J',a'=⟨vC s c q b0 k xb J',df⟩∧Holds d T (some xb) ((xb,Obj.cells (vB 0 k ⟨#[]⟩ 60) 199 (0,0))::L) w') (fun _ _ _=>False))
   ⟨(aS s c q b0 k J).setIfInBounds 8 (.pointer (some ⟨xb,0,none⟩)),df⟩ w:=by
 have hf:(aS s c q b0 k J).setIfInBounds 8 (.pointer (some ⟨xb,0,none⟩))=#[.string s,.chan (some c),.chan (some q),J 3,J 4,J 5,.slice (some ⟨b0,0,none⟩) 5 5,.int .i64 (k:Int),.pointer (some ⟨xb,0,none⟩),J 9,J 10,J 11,J 12,J 13,J 14,J 15,J 16,J 17,J 18,J 19,.agg #[.int .i64 0,.int .i64 (k:Int),.string ⟨#[]⟩,.int .i64 60],J 21,J 22,J 23,J 24,J 25,J 26,J 27,J 28,J 29,J 30,J 31,J 32,J 33,J 34,J 35,J 36,J 37,J 38,J 39,J 40,J 41,J 42,J 43,J 44,J 45,J 46,J 47,J 48,J 49,J 50,J 51,J 52,J 53,J 54,J 55,J 56,J 57,J 58,J 59,J 60,J 61,J 62,J 63,J 64,J 65,J 66,J 67,J 68,J 69,J 70,J 71,J 72,J 73,J 74,J 75]:=rfl;rw[hf];clear hf;have he:iU=opsOf (dB iG):=rfl;rw[he];clear he;unfold iG lD kD;simp only[Tryz.f125,Option.getD_some,dB,qA,fD,opsOf,vC];co_apply opsC_more
 · co_opw Holds.rely hF (have hm : (xb, Obj.cells (vB 0 0 ⟨#[]⟩ 0) 199 (0, 0)) ∈ (xb, Obj.cells (vB 0 0 ⟨#[]⟩ 0) 199 (0, 0)) :: L := List.mem_cons_self; have hc0 : _ = some _ := hF.cell hm 0; have hc1 : _ = some _ := hF.cell hm 1; have hc2 : _ = some _ := hF.cell hm 2; have hc3 : _ = some _ := hF.cell hm 3; have hf0 := hF.frozen hm 0; have hf1 := hF.frozen hm 1; have hf2 := hF.frozen hm 2; have hf3 := hF.frozen hm 3) (have ho := hF.boxOwn; have ht := Turn.set4 ho (hF.lt hm) hF.big (.int .i64 0) (.int .i64 (k : Int)) (.string ⟨#[]⟩) (.int .i64 60); refine ⟨ht, ?_⟩; have ho2 := ht.own_fwd (hF.lt hm) ho; clear ht ho; have es := yT Tryz.prog; intro e he; have hm := mem_listed he; simp [go_sem, *] at hm; rcases hm with rfl | rfl | rfl | rfl <;> exact sS ho2 _ _ _)
   replace hF:=hF.set4 hxL (.int .i64 0) (.int .i64 (k:Int)) (.string ⟨#[]⟩) (.int .i64 60);co_apply opsC_nil terms;co_then;exact eB (by rfl) hF
 · decide
theorem vNA:eH = .seq (.seq (dB wS) (.block 2 (.loop vO))) (.seq (dB iJ) (.seq mR sG)):=by rfl
theorem wQA:sG = .seq (.seq (dB (dB sG)) (.seq (.region 17 xQ false) (qA (qA (dB sG))))) (qA sG):=by rfl
theorem m2A(s:ByteArray)(c q k:Nat)(J:Nat→Value)(w:World)(hF:Holds d T (some xb) L w) :
 Code.wpC Tryz.prog false (Rely d T (some xb)) (Lx.Does d T (some xb)) 125 (dB wS) 100
   (Exit.then (fun a' w'=>∃ J',a'=⟨yF s c q b0 k xb 0 J',df⟩∧Holds d T (some xb) L w') (fun _ _ _=>False)) ⟨vC s c q b0 k xb J,df⟩ w:=by
 unfold wS iG lD kD;simp only[Tryz.f125,Option.getD_some,dB,qA,fD,vC,yF];co_apply wpC_more
 · co_reg terms
   repeat (first | co_reg terms | co_op Holds.rely hF (co_quiet terms) | (co_apply opsC_unwanted terms rfl (by rfl);try walk_nrm) | (co_ctl terms;try co_then))
   exact eB (by rfl) hF
 · decide
theorem pEB(s x:ByteArray)(c q k m:Nat)(kd e i:Int)(J:Nat→Value)(hx:RowKit.Hid (x.size=m))(hkm:k+m≤1000000)(w:World)(hF:Holds d T (some xb) ((xb,Obj.cells (vB kd k x e) 199 (0,0))::L) w) :
 Code.wpC Tryz.prog false (Rely d T (some xb)) (Lx.Does d T (some xb)) 125 (dB iJ) 100
   (Exit.then (fun a' w'=>∃ J',a'=⟨vC s c q b0 (k+m) xb J',df⟩∧Holds d T (some xb) ((xb,Obj.cells (vB kd k x e) 199 (0,0))::L) w') (fun _ _ _=>False)) ⟨yF s c q b0 k xb i J,df⟩ w:=by
 have hm:(xb,Obj.cells (vB kd k x e) 199 (0,0))∈(xb,Obj.cells (vB kd k x e) 199 (0,0))::L:=List.mem_cons_self;unfold iJ eH iG lD kD;simp only[Tryz.f125,Option.getD_some,dB,qA,fD,vC,yF];co_apply wpC_more
 · co_reg terms
   co_op Holds.rely hF (co_quiet terms);co_op Holds.rely hF (co_quiet terms);co_op Holds.rely hF (co_quiet terms)
   co_opw Holds.rely hF (have hc:_=some (Value.string x):=hF.cell hm 2) (refine Does.reads ?_;co_evs (exact hF.read hm _ _))
   clear hc
   co_opw Holds.rely hF (skip) (rw[listed_nil (by simp[go_sem,dJ _ _ _ Tryz.underlying9])];exact Terms.idle terms _)
   co_op Holds.rely hF (co_quiet terms);co_op Holds.rely hF (co_quiet terms);co_apply opsC_nil terms;co_then;have hwr:IntKind.i64.wrap ((k:Int)+(x.size:Int))=((k+m:Nat):Int):=by rw[hx.out,IntWalk.i64_in _ (by omega)];omega
   rw[hwr];exact eB (by rfl) hF
 · decide
theorem bUA(s x:ByteArray)(c q k k1:Nat)(J:Nat→Value)(w:World)(hF:Holds d T (some xb) ((xb,Obj.cells (vB 0 k1 x 0) 199 (0,0))::L) w) :
 Code.wpC Tryz.prog false (Rely d T (some xb)) (Lx.Does d T (some xb)) 125 mR 100
   (Exit.then (fun _ _=>False) (fun e a' w'=>e = .exit 1∧∃ J',a'=⟨vC s c q b0 k xb J',df⟩∧Holds d T (some xb) ((xb,Obj.cells (vB 0 k1 x 0) 199 (0,0))::L) w')) ⟨vC s c q b0 k xb J,df⟩ w:=by
 have hm:(xb,Obj.cells (vB 0 k1 x 0) 199 (0,0))∈(xb,Obj.cells (vB 0 k1 x 0) 199 (0,0))::L:=List.mem_cons_self;unfold mR iJ eH iG lD kD;simp only[Tryz.f125,Option.getD_some,dB,qA,fD,vC];co_apply wpC_more
 · co_apply wpC_seq terms
   co_reg terms
   co_op Holds.rely hF (co_quiet terms);co_op Holds.rely hF (co_quiet terms)
   co_opw Holds.rely hF (have hc:_=some (Value.int .i64 0):=hF.cell hm 0) (refine Does.reads ?_;co_evs (exact hF.read hm _ _))
   clear hc;co_op Holds.rely hF (co_quiet terms);co_op Holds.rely hF (co_quiet terms);co_op Holds.rely hF (co_quiet terms)
   co_opw Holds.rely hF (have hc:_=some (Value.int .i64 0):=hF.cell hm 3) (refine Does.reads ?_;co_evs (exact hF.read hm _ _))
   clear hc;co_op Holds.rely hF (co_quiet terms);co_op Holds.rely hF (co_quiet terms);co_apply opsC_nil terms;co_then;co_apply wpC_cond (t:=true) terms rfl;simp only[if_true];co_ctl terms;co_then;exact⟨trivial,eB (by rfl) hF⟩
 · decide
theorem sTA(s x:ByteArray)(c q k k1:Nat)(kd:Int)(hkd:(kd==0)=false)(J:Nat→Value)(w:World)(hF:Holds d T (some xb) ((xb,Obj.cells (vB kd k1 x 0) 199 (0,0))::L) w) :
 Code.wpC Tryz.prog false (Rely d T (some xb)) (Lx.Does d T (some xb)) 125 mR 100
   (Exit.then (fun a' w'=>∃ J',a'=⟨vC s c q b0 k xb J',df⟩∧Holds d T (some xb) ((xb,Obj.cells (vB kd k1 x 0) 199 (0,0))::L) w') (fun _ _ _=>False)) ⟨vC s c q b0 k xb J,df⟩ w:=by
 have hm:(xb,Obj.cells (vB kd k1 x 0) 199 (0,0))∈(xb,Obj.cells (vB kd k1 x 0) 199 (0,0))::L:=List.mem_cons_self;unfold mR iJ eH iG lD kD;simp only[Tryz.f125,Option.getD_some,dB,qA,fD,vC];co_apply wpC_more
 · co_apply wpC_seq terms
   co_reg terms
   co_op Holds.rely hF (co_quiet terms);co_op Holds.rely hF (co_quiet terms)
   co_opw Holds.rely hF (have hc:_=some (Value.int .i64 kd):=hF.cell hm 0) (refine Does.reads ?_;co_evs (exact hF.read hm _ _))
   clear hc;co_op Holds.rely hF (co_quiet terms);co_op Holds.rely hF (co_quiet terms)
   (co_apply opsC_unwanted terms rfl (by rfl);try walk_nrm)
   (co_apply opsC_unwanted terms rfl (by rfl);try walk_nrm)
   (co_apply opsC_unwanted terms rfl (by rfl);try walk_nrm)
   co_op Holds.rely hF (co_quiet terms);co_apply opsC_nil terms;co_then;co_apply wpC_cond (t:=false) terms rfl;simp only[Bool.false_eq_true,if_false];co_ctl terms;co_then;exact eB (by rfl) hF
 · decide
def iH(s:ByteArray)(c q b0 k xb:Nat)(v:Value)(J:Nat→Value):Array Value :=
 #[.string s, .chan (some c), .chan (some q), J 3, J 4, J 5, .slice (some ⟨b0, 0, none⟩) 5 5, .int .i64 (k : Int), .pointer (some ⟨xb, 0, none⟩), J 9, J 10, J 11, J 12, J 13, J 14, J 15, J 16, J 17, J 18, J 19, J 20, J 21, J 22, J 23, J 24, J 25, J 26, J 27, J 28, J 29, J 30, J 31, J 32, J 33, J 34, J 35, J 36, J 37, J 38, J 39, J 40, J 41, J 42, J 43, J 44, J 45, J 46, J 47, J 48, J 49, J 50, J 51, J 52, J 53, J 54, J 55, J 56, J 57, J 58, J 59, J 60, J 61, J 62, J 63, J 64, J 65, .chan (some c), v, .chan (some q), J 69, J 70, J 71, J 72, J 73, J 74, J 75]
theorem bAB(s x:ByteArray)(c q k k1:Nat)(kd e:Int)(J:Nat→Value)(w:World)(hF:Holds d T (some xb) ((xb,Obj.cells (vB kd k1 x e) 199 (0,0))::L) w) :
 Code.wpC Tryz.prog false (Rely d T (some xb)) (Lx.Does d T (some xb)) 125 (dB (dB sG)) 100
   (Exit.then (fun a' w'=>∃ J',a'=⟨iH s c q b0 k xb (.agg (vB kd k1 x e)) J',df⟩∧Holds d T (some xb) ((xb,Obj.cells (vB kd k1 x e) 199 (0,0))::L) w') (fun _ _ _=>False)) ⟨vC s c q b0 k xb J,df⟩ w:=by
 have hm:(xb,Obj.cells (vB kd k1 x e) 199 (0,0))∈(xb,Obj.cells (vB kd k1 x e) 199 (0,0))::L:=List.mem_cons_self;unfold sG iJ eH iG lD kD;simp only[Tryz.f125,Option.getD_some,dB,qA,fD,vC,iH];co_apply wpC_more
 · co_apply wpC_seq terms; co_apply wpC_seq terms
   co_reg terms
   co_op Holds.rely hF (co_quiet terms);co_apply opsC_nil terms;co_then
   co_reg terms
   co_opw Holds.rely hF (have hc0:_=some (Value.int .i64 kd):=hF.cell hm 0;have hc1:_=some (Value.int .i64 (k1:Int)):=hF.cell hm 1;have hc2:_=some (Value.string x):=hF.cell hm 2;have hc3:_=some (Value.int .i64 e):=hF.cell hm 3) (refine Does.reads ?_;intro e he;have hm:=mem_listed he;simp[go_sem, *]at hm;rcases hm with rfl | rfl | rfl | rfl<;>exact hF.read hm _ _)
   clear hc0 hc1 hc2 hc3;co_apply opsC_nil terms;co_then
   co_reg terms
   co_op Holds.rely hF (co_quiet terms);co_apply opsC_nil terms;co_then;exact eB (by rfl) hF
 · decide
end
def lN:Value:=.agg (vB 0 0 ⟨#[]⟩ 0)
def qX:Value:=.agg #[]
section
variable {d : Deal} {T : TypeId → Prop} {L : List (Nat × Obj)} {b0 xb : Nat} {df : List Deferred} {b : Frame} {kk : List Item} {cs : List Frame}
theorem i2A(s:ByteArray)(c q k:Nat)(v:Value)(J:Nat→Value)(hbk:b.kind≠.early)(w:World) :
 stepG Tryz.prog false (G (b.at ⟨iH s c q b0 k xb v J, df⟩ (.inRegion xQ [0, 1, 2, 3] :: kk)) cs) w =
   .comm (G (b.at ⟨iH s c q b0 k xb v J,df⟩ (.inRegion xQ [0,1,2,3]::kk)) cs) #[scase c v lN,rcase q qX] true .select w #[]:=by
 have ho : xQ[0]? = some { dst := some 69, op := .select #[{ chan := .tmp 66, send := some (.tmp 67), elem := 199 }, { chan := .tmp 68, send := none, elem := 236 }] true, type := 0, pos := "lexer.go:81", after := #[], guard := none } := by rfl
 have he1 : (⟨iH s c q b0 k xb v J, df⟩ : Act).eval (.tmp 66) = .chan (some c) := rfl; have he2 : (⟨iH s c q b0 k xb v J, df⟩ : Act).eval (.tmp 67) = v := rfl; have he3 : (⟨iH s c q b0 k xb v J, df⟩ : Act).eval (.tmp 68) = .chan (some q) := rfl; have hr : (execOp (⟨iH s c q b0 k xb v J, df⟩ : Act).eval { dst := some 69, op := .select #[{ chan := .tmp 66, send := some (.tmp 67), elem := 199 }, { chan := .tmp 68, send := none, elem := 236 }] true, type := 0, pos := "lexer.go:81", after := #[], guard := none }).run Tryz.prog w = .ok (.comm #[scase c v lN, rcase q qX] true .select) w := by
  unfold execOp;simp[scase,rcase,he1,he2,he3,lN,vB,qX]
 have hl : (execOp (⟨iH s c q b0 k xb v J, df⟩ : Act).eval { dst := some 69, op := .select #[{ chan := .tmp 66, send := some (.tmp 67), elem := 199 }, { chan := .tmp 68, send := none, elem := 236 }] true, type := 0, pos := "lexer.go:81", after := #[], guard := none }).events Tryz.prog w #[] = #[] := by
  unfold execOp;simp
 rw[stepG_comm ho (by rfl) hbk hr,listed_nil hl]
theorem p6A(s:ByteArray)(c q k:Nat)(v:Value)(J:Nat→Value) :
 (G (b.at ⟨iH s c q b0 k xb v J, df⟩ (.inRegion xQ [0, 1, 2, 3] :: kk)) cs).finishComm Tryz.prog #[scase c v lN, rcase q qX] .select 0 undef false =
   G (b.at ⟨(iH s c q b0 k xb v J).setIfInBounds 69 (.tuple #[.int .i64 0,.bool false,qX]),df⟩ (.inRegion xQ [1,2,3]::kk)) cs:=by
 have ho : xQ[0]? = some { dst := some 69, op := .select #[{ chan := .tmp 66, send := some (.tmp 67), elem := 199 }, { chan := .tmp 68, send := none, elem := 236 }] true, type := 0, pos := "lexer.go:81", after := #[], guard := none } := by rfl
 have hr:commResult #[scase c v lN,rcase q qX] .select 0 undef false = .tuple #[.int .i64 0,.bool false,qX]:=by
  simp[commResult,scase,rcase,goInt,Array.zipIdx,Array.filter]
 simp only[Goroutine.finishComm,G,hr,Frame.finish_at,ho];rfl
theorem a4A(s:ByteArray)(c q k:Nat)(v:Value)(J:Nat→Value)(w:World)(hF:Holds d T (some xb) L w) :
 OpsC Tryz.prog false (Rely d T (some xb)) (Lx.Does d T (some xb)) 125 xQ [1, 2, 3] 10
   (Exit.then (fun a' w'=>∃ J',a'=⟨(vC s c q b0 k xb J').setIfInBounds 71 (.bool true),df⟩∧Holds d T (some xb) L w') (fun _ _ _=>False))
   ⟨(iH s c q b0 k xb v J).setIfInBounds 69 (.tuple #[.int .i64 0,.bool false,qX]),df⟩ w:=by
 have he:xQ=opsOf (dB (qA (dB sG))):=rfl;rw[he];clear he;unfold sG iJ eH iG lD kD;simp only[Tryz.f125,Option.getD_some,dB,qA,fD,opsOf,vC,iH,List.setIfInBounds_toArray,List.set_cons_succ,List.set_cons_zero];co_apply opsC_more
 · co_op Holds.rely hF (co_quiet terms);co_op Holds.rely hF (co_quiet terms);co_op Holds.rely hF (co_quiet terms);co_apply opsC_nil terms;co_then;exact eB (by rfl) hF
 · decide
theorem e1A(s:ByteArray)(c q k:Nat)(J:Nat→Value)(w:World)(hF:Holds d T (some xb) L w) :
 Code.wpC Tryz.prog false (Rely d T (some xb)) (Lx.Does d T (some xb)) 125 (qA (qA (dB sG))) 100
   (Exit.then (fun a' w'=>∃ J',a'=⟨vC s c q b0 k xb J',df⟩∧Holds d T (some xb) L w') (fun _ _ _=>False)) ⟨(vC s c q b0 k xb J).setIfInBounds 71 (.bool true),df⟩ w:=by
 unfold sG iJ eH iG lD kD;simp only[Tryz.f125,Option.getD_some,dB,qA,fD,vC,List.setIfInBounds_toArray,List.set_cons_succ,List.set_cons_zero];co_apply wpC_more
 · co_apply wpC_block terms;co_apply wpC_cond (t:=true) terms rfl;simp only[if_true];co_ctl terms;co_then;exact eB (by rfl) hF
 · decide
theorem j0A(s x:ByteArray)(c q k k1:Nat)(kd:Int)(J:Nat→Value)(w:World)(hF:Holds d T (some xb) ((xb,Obj.cells (vB kd k1 x 0) 199 (0,0))::L) w) :
 Code.wpC Tryz.prog false (Rely d T (some xb)) (Lx.Does d T (some xb)) 125 (qA sG) 100
   (Exit.then (fun a' w'=>∃ J',a'=⟨vC s c q b0 k xb J',df⟩∧Holds d T (some xb) ((xb,Obj.cells (vB kd k1 x 0) 199 (0,0))::L) w') (fun _ _ _=>False)) ⟨vC s c q b0 k xb J,df⟩ w:=by
 have hm:(xb,Obj.cells (vB kd k1 x 0) 199 (0,0))∈(xb,Obj.cells (vB kd k1 x 0) 199 (0,0))::L:=List.mem_cons_self;unfold sG iJ eH iG lD kD;simp only[Tryz.f125,Option.getD_some,qA,fD,vC];co_apply wpC_more
 · co_apply wpC_seq terms
   co_reg terms
   co_op Holds.rely hF (co_quiet terms)
   co_opw Holds.rely hF (have hc:_=some (Value.int .i64 0):=hF.cell hm 3) (refine Does.reads ?_;co_evs (exact hF.read hm _ _))
   clear hc;co_op Holds.rely hF (co_quiet terms);co_apply opsC_nil terms;co_then;co_apply wpC_cond (t:=false) terms rfl;simp only[Bool.false_eq_true,if_false];co_ctl terms;co_then;exact eB (by rfl) hF
 · decide
theorem yJA(s:ByteArray)(c q k:Nat)(J:Nat→Value):vC s c q b0 k xb J=zG s c q b0 k (fun n=>(vC s c q b0 k xb J).getD n undef):=by rfl
end
def T1(ty:TypeId):Prop:=ty=9∨ty=175∨ty=235
theorem wYA:T1 9:=.inl rfl
theorem g8A:T1 175:=.inr (.inl rfl)
theorem pAB:T1 235:=.inr (.inr rfl)
def T0(ty:TypeId):Prop:=ty=197
noncomputable def shared(B c q:Nat)(Fin:Goroutine→World→Prop):Shared :=
 { P:=Tryz.prog,d:=⟨B,c⟩,q:=q,T0:=T0,T1:=T1,tb:=199,z:=lN,zc:=lN,zq:=qX,Fin:=Fin }
inductive Scans (s : ByteArray) : Nat → List SAct → Prop
  | done:Scans s s.size []
  | blank {k i m:Nat} {acts:List SAct} (hk:k < s.size) (hf:First i (s[k]'hk)) (hkd:yGA i=0) (hm:goN i (s.data.toList.drop k)=m) (hmn:k+m≤s.size) (h:Scans s (k+m) acts):Scans s k (.box::acts)
  | token {k i m : Nat} {acts : List SAct} (hk : k < s.size) (hf : First i (s[k]'hk)) (hkd : (yGA i == 0) = false) (hm : goN i (s.data.toList.drop k) = m) (hmn : k + m ≤ s.size) (h : Scans s (k + m) acts) :
      Scans s k (.box :: .send (.agg (vB (yGA i) k (s.extract k (k+m)) 0))::acts)
theorem extract_size(s:ByteArray){k m:Nat}(h:k+m≤s.size):(s.extract k (k+m)).size=m:=by
 simp only[ByteArray.size_extract];omega
def bScan:Frame:={ (default:Frame) with fn:=125,kind:=.deferred }
noncomputable def bL:Frame:={ (default:Frame) with fn:=Tryz.prog.funcs.size,defers:=[],mode:=.panicking [goexitEntry] }
noncomputable def yV:List Item:=[.inLoop lD,.inBlock 0,.inScope (fD kD)]
def sK(c:Nat):List Deferred:=[oK c #[230] 0 #[false]]
section
variable {B c q : Nat} {Fin : Goroutine → World → Prop} {b0 b1 b2 b3 b4 b5 b6 b7 : Nat}
theorem uVA(tmps:Array Value)(w:World):AtClose (shared B c q Fin) (G { bScan.at ⟨tmps,sK c⟩ [] with mode:=.returning } [bL]) w:=by
 refine⟨rfl,rfl,fun s r tm hc=>⟨_,2,dAA hc (by kernel_rfl),?_⟩⟩;refine .inr ⟨rfl,G bL [],#[],by simp,fun w=>?_,?_⟩
 · simp[G,stepG,unwind,doReturn,results,Frame.at,bScan,bL,shared,Tryz.func125,Tryz.f125,seen,GStep.after,goexitEntry]
 refine .inr ⟨rfl,{ G bL [] with status:=.finished },#[],by simp,fun w=>?_,rfl,rfl⟩;simp[G,stepG,unwind,bL,goexitEntry,Frame.catches,shared];rfl
theorem bXA {d : Deal} {T : TypeId → Prop} {df : List Deferred} {b : Frame} {kk : List Item} {cs : List Frame} {Stop : Goroutine → World → Prop} {xb : Nat} (s : ByteArray) (k i m n : Nat) (J : Nat → Value) (hk : k < s.size) (hs : s.size ≤ 100000) (hT : T 235)
    (hf:First i (s[k]'hk)) (hm:goN i (s.data.toList.drop k)=m) (hmn:k+m≤s.size) (hxL:∀ p∈rE b0 b1 b2 b3 b4 b5 b6 b7 [],p.1≠xb) (hbf:b.fn=125) (hbk:b.kind≠.early) (w:World)
    (hF:Holds d T (some xb) ((xb,Obj.cells (vB 0 0 ⟨#[]⟩ 0) 199 (0,0))::rE b0 b1 b2 b3 b4 b5 b6 b7 []) w)
    (hc : ∀ J w, Holds d T (some xb) ((xb, Obj.cells (vB (yGA i) k (s.extract k (k + m)) 0) 199 (0, 0)) :: rE b0 b1 b2 b3 b4 b5 b6 b7 []) w →
      Goes Tryz.prog false (Rely d T (some xb)) (Lx.Does d T (some xb)) Stop n (G (b.at ⟨vC s c q b0 (k+m) xb J,df⟩ (.code mR :: .code sG :: .inBlock 1::kk)) cs) w) :
    Goes Tryz.prog false (Rely d T (some xb)) (Lx.Does d T (some xb)) Stop (n+10000000001000) (G (b.at ⟨(aS s c q b0 k J).setIfInBounds 8 (.pointer (some ⟨xb,0,none⟩)),df⟩ (.inRegion iU [4] :: .code eH :: .inBlock 1::kk)) cs) w:=by
  refine Goes.mono (xR (m:=n+10000000000500) (jXA s c q k J hxL w hF) hbf hbk ?_) (by omega);rintro e a' w' h
  cases e with
  | normal =>
    obtain⟨J',rfl,hF'⟩:=h;rw[vNA];refine Goes.mono (wE terms (wE terms (yE (m:=n+10000000000200) (m2A s c q k J' w' hF') hbf hbk ?_))) (by omega);rintro e a' w' h
    cases e with
    | normal =>
      obtain⟨J',rfl,hF'⟩:=h;refine Goes.mono (yE (m:=n+150) (kZA s c q k i m J' hk (by omega) hT rfl hf hm hmn hxL w' hF') hbf hbk ?_) (by omega);rintro e a' w' h
      cases e with
      | normal =>
        obtain⟨J',rfl,hF'⟩:=h;refine Goes.mono (wE terms (yE (m:=n+1) (pEB s (s.extract k (k+m)) c q k m (yGA i) 0 i J' (aA (extract_size s hmn)) (by omega) w' hF') hbf hbk ?_)) (by omega);rintro e a' w' h
        cases e with
        | normal =>
          obtain⟨J',rfl,hF'⟩:=h;exact wE terms (hc J' w' hF')
        | _=>exact h.elim
      | _=>exact h.elim
    | _=>exact h.elim
  | _=>exact h.elim
abbrev LR(b0 b1 b2 b3 b4 b5 b6 b7:Nat):List (Nat×Obj):=rE b0 b1 b2 b3 b4 b5 b6 b7 []
theorem wZA(s:ByteArray)(hs:s.size≤100000)(k:Nat)(acts:List SAct)(h:Scans s k acts) :
 ∃ m,∀ b0 b1 b2 b3 b4 b5 b6 b7 o J w,(∀ p∈LR b0 b1 b2 b3 b4 b5 b6 b7,hRA ⟨B,c⟩ T1 none p.1 p.2)→Holds ⟨B,c⟩ T1 o (LR b0 b1 b2 b3 b4 b5 b6 b7) w →
  GoS (shared B c q Fin) acts o m (G (bScan.at ⟨zG s c q b0 k J,sK c⟩ (.code lD::yV)) [bL]) w:=by
 induction h with
 | done =>
   refine⟨200,fun b0 b1 b2 b3 b4 b5 b6 b7 o J w hlow hF=>?_⟩;rw[sZ];refine Goes.mono (wE terms (yE (m:=10) (r5A s c q s.size J rfl w hF) rfl (by decide) ?_)) (by decide);rintro e a' w' h
   cases e with
   | exit id =>
     obtain⟨he,J',rfl,hF'⟩:=h
     cases he;refine⟨[.inScope (fD kD)],by simp[exitTo,yV],?_⟩;refine Goes.mono (n:=2) (hLA terms (y3A terms ?_)) (by decide);exact fun w₁ _=>uVA _ w₁
   | normal=>exact h.elim
   | _=>cases h.1
 | @blank k i m acts hk hf hkd hm hmn h ih =>
   obtain ⟨m', ih⟩ := ih; refine ⟨120, fun b0 b1 b2 b3 b4 b5 b6 b7 o J w hlow hF => n6A s c q k J hk rfl (by decide) w hF ?_⟩; intro J w₁ hF; obtain ⟨es, hst, hes⟩ := xNA (d := ⟨B, c⟩) (T := T1) (b := bScan) (b0 := b0) (df := sK c) (kk := .code eH :: .inBlock 1 :: yV) (cs := [bL]) s c q k J (by decide) w₁; refine ⟨rfl, _, _, es, hst, ⟨rfl, rfl, rfl, _, _, uC _ _⟩, hes, _, bXA s k i m (m' + 110) J hk hs (.inr (.inr rfl)) hf hm hmn (fun p hp => Nat.ne_of_lt (hF.lt hp)) rfl (by decide) _
     (hF.boxed fun p hp=>?_) fun J w hF=>?_⟩
   · rcases List.mem_cons.1 hp with rfl | hp
     · exact .inl rfl
     · exact .inr ⟨hp,hlow p hp⟩
   · rw [hkd] at hF; refine Goes.mono (yE (m := m' + 1) (bUA s _ c q _ _ J w hF) rfl (by decide) ?_) (by omega); rintro e a' w' h
     cases e with
     | exit id =>
       obtain⟨he,J',rfl,hF'⟩:=h
       cases he;refine⟨yV,by simp[exitTo],?_⟩;refine kW terms ?_;rw[yJA];exact ih _ _ _ _ _ _ _ _ _ _ _ hlow (hF'.weak fun p hp=>List.mem_cons_of_mem _ hp)
     | normal=>exact h.elim
     | _=>cases h.1
 | @token k i m acts hk hf hkd hm hmn h ih =>
   obtain ⟨m', ih⟩ := ih; refine ⟨120, fun b0 b1 b2 b3 b4 b5 b6 b7 o J w hlow hF => n6A s c q k J hk rfl (by decide) w hF ?_⟩; intro J w₁ hF; obtain ⟨es, hst, hes⟩ := xNA (d := ⟨B, c⟩) (T := T1) (b := bScan) (b0 := b0) (df := sK c) (kk := .code eH :: .inBlock 1 :: yV) (cs := [bL]) s c q k J (by decide) w₁; refine ⟨rfl, _, _, es, hst, ⟨rfl, rfl, rfl, _, _, uC _ _⟩, hes, _, bXA s k i m 500 J hk hs (.inr (.inr rfl)) hf hm hmn (fun p hp => Nat.ne_of_lt (hF.lt hp)) rfl (by decide) _
     (hF.boxed fun p hp=>?_) fun J w hF=>?_⟩
   · rcases List.mem_cons.1 hp with rfl | hp
     · exact .inl rfl
     · exact .inr ⟨hp,hlow p hp⟩
   · refine Goes.mono (yE (m := 300) (sTA s _ c q _ _ _ hkd J w hF) rfl (by decide) ?_) (by omega); rintro e a' w' h
     cases e with
     | normal =>
       obtain⟨J',rfl,hF'⟩:=h;rw[wQA];refine Goes.mono (wE terms (wE terms (yE (m:=10) (bAB s _ c q _ _ _ _ J' w' hF') rfl (by decide) ?_))) (by decide);rintro e a' w' h
       cases e with
       | normal =>
         obtain⟨J',rfl,hF'⟩:=h;refine Goes.mono (n:=2) (wE terms (zK terms ?_)) (by decide);intro w₂ hR;have hF2:=hF'.rely hR;refine⟨rfl,i2A (b:=bScan) s c q _ _ J' (by decide) w₂,m'+400,?_⟩
         show Goes _ _ _ _ _ _ ((G (bScan.at ⟨iH s c q b0 _ _ _ J',_⟩ (.inRegion xQ [0,1,2,3]::_)) [bL]).finishComm Tryz.prog #[scase c _ lN,rcase q qX] .select 0 undef false) _
         rw[p6A];refine Goes.mono (xR (m:=m'+300) (a4A s c q _ _ J' w₂ hF2) rfl (by decide) ?_) (by omega);rintro e a' w' h
         cases e with
         | normal =>
           obtain⟨J',rfl,hF'⟩:=h;refine Goes.mono (yE (m:=m'+110) (e1A s c q _ J' w' hF') rfl (by decide) ?_) (by omega);rintro e a' w' h
           cases e with
           | normal =>
             obtain⟨J',rfl,hF'⟩:=h;refine Goes.mono (yE (m:=m'+2) (j0A s _ c q _ _ _ J' w' hF') rfl (by decide) ?_) (by omega);rintro e a' w' h
             cases e with
             | normal =>
               obtain⟨J',rfl,hF'⟩:=h;refine gAA terms (kW terms ?_);rw[yJA];exact ih _ _ _ _ _ _ _ _ _ _ _ hlow (hF'.weak fun p hp=>List.mem_cons_of_mem _ hp)
             | _=>exact h.elim
           | _=>exact h.elim
         | _=>exact h.elim
       | _=>exact h.elim
     | _=>exact h.elim
noncomputable def m3A:Array Oper:=opsOf (dB (fD kD))
theorem uNA:kD = .scope (.seq (.region 0 m3A false) (.seq (dB (qA (fD kD))) (.seq (.label 0) (.seq (dB (qA (qA (qA (fD kD))))) (.block 0 (.loop lD)))))):=by rfl
def kI(s:ByteArray)(c q:Nat)(J:Nat→Value):Array Value:=#[.string s,.chan (some c),.chan (some q),J 3,J 4,J 5,J 6,J 7,J 8,J 9,J 10,J 11,J 12,J 13,J 14,J 15,J 16,J 17,J 18,J 19,J 20,J 21,J 22,J 23,J 24,J 25,J 26,J 27,J 28,J 29,J 30,J 31,J 32,J 33,J 34,J 35,J 36,J 37,J 38,J 39,J 40,J 41,J 42,J 43,J 44,J 45,J 46,J 47,J 48,J 49,J 50,J 51,J 52,J 53,J 54,J 55,J 56,J 57,J 58,J 59,J 60,J 61,J 62,J 63,J 64,J 65,J 66,J 67,J 68,J 69,J 70,J 71,J 72,J 73,J 74,J 75]
def rR(s:ByteArray)(c q b0:Nat)(J:Nat→Value):Array Value:=#[.string s,.chan (some c),.chan (some q),J 3,J 4,J 5,.slice (some ⟨b0,0,none⟩) 5 5,J 7,J 8,J 9,J 10,J 11,J 12,J 13,J 14,J 15,J 16,J 17,J 18,J 19,J 20,J 21,J 22,J 23,J 24,J 25,J 26,J 27,J 28,J 29,J 30,J 31,J 32,J 33,J 34,J 35,J 36,J 37,J 38,J 39,J 40,J 41,J 42,J 43,J 44,J 45,J 46,J 47,J 48,J 49,J 50,J 51,J 52,J 53,J 54,J 55,J 56,J 57,J 58,J 59,J 60,J 61,J 62,J 63,J 64,J 65,J 66,J 67,J 68,J 69,J 70,J 71,J 72,J 73,J 74,J 75]
theorem xQA{d:Deal}{o:Option Nat}{df:List Deferred}(s:ByteArray)(J:Nat→Value)(w:World)(hF:Holds d T1 o [] w) :
 Code.wpC Tryz.prog false (Rely d T1 o) (Lx.Does d T1 o) 125 (dB (qA (fD kD))) 2000
   (Exit.then (fun a' w'=>∃ b0 b1 b2 b3 b4 b5 b6 b7,∃ J',a'=⟨rR s c q b0 J',df⟩∧Holds d T1 o (LR b0 b1 b2 b3 b4 b5 b6 b7) w') (fun _ _ _=>False))
   ⟨kI s c q J,df⟩ w:=by
 unfold kD;simp only[Tryz.f125,Option.getD_some,dB,qA,fD,kI,rR];co_apply wpC_more
 · co_reg terms
   co_apply nH terms rfl (by rfl) rfl (eAB wYA g8A pAB _ hF) (by simp);rintro v w ⟨b0,b1,b2,b3,b4,b5,b6,b7,rfl,hF⟩
   try walk_nrm
   co_op Holds.rely hF (co_quiet terms);co_apply opsC_nil terms;co_then;exact⟨b0,b1,b2,b3,b4,b5,b6,b7,eB (by rfl) hF⟩
 · decide
theorem zQA{d:Deal}{o:Option Nat}{df:List Deferred}{L:List (Nat×Obj)}(s:ByteArray)(J:Nat→Value)(w:World)(hF:Holds d T1 o L w) :
 Code.wpC Tryz.prog false (Rely d T1 o) (Lx.Does d T1 o) 125 (dB (qA (qA (qA (fD kD))))) 20
   (Exit.then (fun a' w'=>∃ J',a'=⟨zG s c q b0 (0:Nat) J',df⟩∧Holds d T1 o L w') (fun _ _ _=>False))
   ⟨rR s c q b0 J,df⟩ w:=by
 unfold kD;simp only[Tryz.f125,Option.getD_some,dB,qA,fD,zG,rR];co_apply wpC_more
 · co_reg terms
   co_op Holds.rely hF (co_quiet terms);co_apply opsC_nil terms;co_then;exact eB (by rfl) hF
 · decide
def nR(s:ByteArray)(c q:Nat):Deferred:={ target:=.fn (.func 125) #[],args:=#[.string s,.chan (some c),.chan (some q)] }
theorem iYA(s:ByteArray)(w:World):stepG Tryz.prog false (born Tryz.prog (nR s c q)) w = .go (G (bScan.at ⟨kI s c q (fun _=>undef),[]⟩ [.code kD]) [bL]) w #[]:=by
 simp[born,nR,stepG,unwind,callDeferred,invoke,callFunc,Tryz.func125,Tryz.f125,seen,GStep.after,G,Frame.enter,Frame.at,bScan,bL,kD,kI]
theorem z0A(s:ByteArray)(hs:s.size≤100000)(acts:List SAct)(h:Scans s 0 acts)(w:World)(hF:Holds ⟨B,c⟩ T1 none [] w) :
 ∃ m,GoS (shared B c q Fin) acts none m (born Tryz.prog (nR s c q)) w:=by
 obtain⟨m,hm⟩:=wZA (B:=B) (c:=c) (q:=q) (Fin:=Fin) s hs 0 acts h;refine⟨m+3000,Goes.mono (n:=m+2500+1) (Goes.step rfl fun w₁ h₁=>?_) (by omega)⟩
 show GStep.goes (stepG Tryz.prog false (born Tryz.prog (nR s c q)) w₁) _
 rw [iYA]; refine ⟨Does.idle _, ?_⟩; replace hF := hF.rely h₁; rw [uNA]; refine Goes.mono (n := m + 2300 + 1 + 1 + 1 + 1 + 1) (vTA terms (wE terms (zK terms ?_))) (by omega); have ho0 : m3A[0]? = some { dst := some 12, op := .move (.tmp 1), type := 230, pos := "lexer.go:65", after := #[], guard := none } := by rfl
 have ho1 : m3A[1]? = some { dst := none, op := .defer { callee := .builtin .close, args := #[.tmp 12], argTypes := #[230] }, type := 0, pos := "lexer.go:65", after := #[{ on := 0, ground := .data }], guard := none } := by rfl
 show Goes _ _ _ _ _ _ (G (bScan.at _ (.inRegion m3A [0,1]::_)) _) _
 refine fAA ho0 (by rfl) (by decide) fun w₂ h₂ K hK=>?_
 replace hF := hF.rely h₂; have hl0 : listed Tryz.prog bScan.fn ⟨kI s c q (fun _ => undef), []⟩ { dst := some 12, op := .move (.tmp 1), type := 230, pos := "lexer.go:65", after := #[], guard := none } w₂ = #[] := listed_nil rfl
 change uponK _ _ K (Result.ok (Next.value (.chan (some c))) w₂)
 refine hK _ _ ⟨by show Lx.Does _ _ _ _ _ (listed Tryz.prog bScan.fn _ _ _);rw[hl0];exact Does.idle _,?_⟩;have he12:(Act.put ⟨kI s c q (fun _=>undef),[]⟩ (some 12) (.chan (some c))).eval (.tmp 12) = .chan (some c):=rfl;refine hVA terms ho1 (by rfl) (by decide) (dd:=oK c #[230] 0 #[false]) (fun _=>by unfold execOp;simp[resolve,oK,he12]) (fun _=>by unfold execOp;simp[resolve]) ?_;have hfr:Act.put ⟨(Act.put ⟨kI s c q (fun _=>undef),[]⟩ (some 12) (.chan (some c))).tmps,oK c #[230] 0 #[false]::[]⟩ none undef=⟨kI s c q (fun n=>((kI s c q (fun _=>undef)).setIfInBounds 12 (.chan (some c))).getD n undef),sK c⟩:=by rfl
 change Goes Tryz.prog false _ _ _ _ (G (bScan.at (Act.put ⟨(Act.put ⟨kI s c q (fun _=>undef),[]⟩ (some 12) (.chan (some c))).tmps,oK c #[230] 0 #[false]::[]⟩ none undef) (.inRegion m3A []::_)) _) _
 rw[hfr];refine Goes.mono (xR (m:=m+2200) (fn:=125) (Q:=Exit.then (fun a' w'=>a'=⟨kI s c q (fun n=>((kI s c q (fun _=>undef)).setIfInBounds 12 (.chan (some c))).getD n undef),sK c⟩∧Holds ⟨B,c⟩ T1 none [] w') (fun _ _ _=>False)) (opsC_nil terms ⟨rfl,hF⟩) rfl (by decide) ?_) (by omega);rintro e a' w' h
 cases e with
 | normal =>
   obtain⟨rfl,hF⟩:=h;refine Goes.mono (wE terms (yE (m:=m+100) (xQA s _ w' hF) rfl (by decide) ?_)) (by omega);rintro e a' w' h
   cases e with
   | normal =>
     obtain⟨b0,b1,b2,b3,b4,b5,b6,b7,J',rfl,hF⟩:=h;have hlow:=hF.safe;refine Goes.mono (wE terms (yE (m:=m+50) (Q:=Exit.then (fun a' w'=>a'=⟨rR s c q b0 J',sK c⟩∧Holds ⟨B,c⟩ T1 none (LR b0 b1 b2 b3 b4 b5 b6 b7) w') (fun _ _ _=>False)) (wpC_label terms ⟨rfl,hF⟩) rfl (by decide) ?_)) (by omega);rintro e a' w' h
     cases e with
     | normal =>
       obtain⟨rfl,hF⟩:=h;refine Goes.mono (wE terms (yE (m:=m+3) (zQA s J' w' hF) rfl (by decide) ?_)) (by omega);rintro e a' w' h
       cases e with
       | normal =>
         obtain⟨J',rfl,hF⟩:=h;exact Goes.mono (eT terms (vKA terms (hm _ _ _ _ _ _ _ _ _ _ _ hlow hF))) (by omega)
       | _=>exact h.elim
     | _=>exact h.elim
   | _=>exact h.elim
 | _=>exact h.elim
end
noncomputable def jF:Code:=Tryz.f101.body.getD .skip
noncomputable def oF:Code:=qA (qA jF)
noncomputable def uJA:Array Oper:=opsOf (dB (qA (qA oF)))
noncomputable def eF:Code:=qA (qA (qA oF))
noncomputable def jK:Code:=dB (qA eF)
noncomputable def lexEnd:Code:=qA (qA eF)
noncomputable def xE:Code:=fD (fD (qA jK))
noncomputable def nL:Array Oper:=opsOf (dB xE)
noncomputable def pF:Code:=fD (qA (qA xE))
noncomputable def rFA:Array Oper:=opsOf (dB pF)
theorem bDA:xE = .seq (.region 8 nL false) (.seq (dB (qA xE)) (.block 1 (.seq (.region 9 rFA false) (.seq (dB (qA pF)) (qA (qA pF)))))):=by rfl
theorem mOA:eF = .seq (dB eF) (.seq (.seq (dB jK) (.block 0 (.loop xE))) lexEnd):=by rfl
def mE(s:ByteArray)(c q:Nat)(v:Value)(J:Nat→Value):Array Value :=
 #[.string s, J 1, J 2, J 3, J 4, .chan (some c), .chan (some q), v, J 8, J 9, J 10, J 11, J 12, J 13, J 14, J 15, J 16, J 17, .chan (some c), J 19, J 20, J 21, J 22, J 23, J 24, J 25, J 26, J 27, J 28, J 29, J 30, J 31, J 32, J 33, J 34, J 35]
def bW(s:ByteArray)(c q:Nat)(v x:Value)(J:Nat→Value):Array Value :=
 #[.string s, J 1, J 2, J 3, J 4, .chan (some c), .chan (some q), v, J 8, J 9, J 10, J 11, J 12, J 13, J 14, J 15, J 16, J 17, .chan (some c), J 19, J 20, x, J 22, J 23, J 24, J 25, J 26, J 27, J 28, J 29, J 30, J 31, J 32, J 33, J 34, J 35]
def vY(s:ByteArray)(c q:Nat)(v:Value)(xb:Nat)(J:Nat→Value):Array Value :=
 #[.string s, J 1, J 2, J 3, J 4, .chan (some c), .chan (some q), v, .pointer (some ⟨xb, 0, none⟩), J 9, J 10, J 11, J 12, J 13, J 14, J 15, J 16, J 17, .chan (some c), J 19, J 20, J 21, J 22, J 23, J 24, J 25, J 26, J 27, J 28, J 29, J 30, J 31, J 32, J 33, J 34, J 35]
section
variable {d : Deal} {o : Option Nat} {L : List (Nat × Obj)} {w0 : World} {v : Value} {n : Nat} {xs : List Value} {df : List Deferred} {b : Frame} {kk : List Item} {cs : List Frame} {Stop : Goroutine → World → Prop}
abbrev MX(d:Deal)(L:List (Nat×Obj))(w0:World)(v:Value)(n:Nat)(xs:List Value)(o:Option Nat)(w:World):Prop:=MH d T0 197 3 L w0 v n xs o w
theorem eNA(s:ByteArray)(c q:Nat)(J:Nat→Value)(hbk:b.kind≠.early)(w:World) :
 stepG Tryz.prog true (G (b.at ⟨mE s c q v J, df⟩ (.inRegion nL [0, 1] :: kk)) cs) w =
   .comm (G (b.at ⟨mE s c q v J,df⟩ (.inRegion nL [0,1]::kk)) cs) #[rcase c lN] true (.recv true) w #[]:=by
 have ho : nL[0]? = some { dst := some 19, op := .recv 193 (.tmp 18) true, type := 0, pos := "lexer.go:101", after := #[], guard := none } := by rfl
 have he1 : (⟨mE s c q v J, df⟩ : Act).eval (.tmp 18) = .chan (some c) := rfl; have hr : (execOp (⟨mE s c q v J, df⟩ : Act).eval { dst := some 19, op := .recv 193 (.tmp 18) true, type := 0, pos := "lexer.go:101", after := #[], guard := none }).run Tryz.prog w = .ok (.comm #[rcase c lN] true (.recv true)) w := by
  unfold execOp;simp[rcase,he1,lN,vB]
 have hl : (execOp (⟨mE s c q v J, df⟩ : Act).eval { dst := some 19, op := .recv 193 (.tmp 18) true, type := 0, pos := "lexer.go:101", after := #[], guard := none }).events Tryz.prog w #[] = #[] := by
  unfold execOp;simp
 rw[stepG_comm ho (by rfl) hbk hr,listed_nil hl]
theorem xPA(s:ByteArray)(c q:Nat)(x:Value)(ok:Bool)(J:Nat→Value) :
 (G (b.at ⟨mE s c q v J, df⟩ (.inRegion nL [0, 1] :: kk)) cs).finishComm Tryz.prog #[rcase c lN] (.recv true) 0 x ok =
   G (b.at ⟨(mE s c q v J).setIfInBounds 19 (.tuple #[x,.bool ok]),df⟩ (.inRegion nL [1]::kk)) cs:=by
 have ho:(nL[0]?).bind (·.dst)=some 19:=by rfl
 have hr:commResult #[rcase c lN] (.recv true) 0 x ok = .tuple #[x,.bool ok]:=by rfl
 simp only[Goroutine.finishComm,G,hr,Frame.finish_at,ho];rfl
theorem y5A(s:ByteArray)(c q:Nat)(x:Value)(J:Nat→Value)(w:World)(hF:MX d L w0 v n xs o w) :
 OpsC Tryz.prog true (Rely d T0 o) (Lx.Does d T0 o) 101 nL [1] 10
   (Exit.then (fun a' w'=>∃ J',a'=⟨((mE s c q v J').setIfInBounds 19 (.tuple #[x,.bool true])).setIfInBounds 20 (.bool true),df⟩∧MX d L w0 v n xs o w') (fun _ _ _=>False))
   ⟨(mE s c q v J).setIfInBounds 19 (.tuple #[x,.bool true]),df⟩ w:=by
 have he:nL=opsOf (dB xE):=rfl;rw[he];clear he;unfold xE jK eF oF jF;simp only[Tryz.f101,Option.getD_some,dB,qA,fD,opsOf,mE,List.setIfInBounds_toArray,List.set_cons_succ,List.set_cons_zero];co_apply opsC_more
 · co_op MH.rely hF (co_quiet terms);co_apply opsC_nil terms;co_then;exact eB (by rfl) hF
 · decide
theorem i3A(s:ByteArray)(c q:Nat)(x:Value)(J:Nat→Value)(w:World)(hF:MX d L w0 v n xs o w) :
 Code.wpC Tryz.prog true (Rely d T0 o) (Lx.Does d T0 o) 101 (dB (qA xE)) 100
   (Exit.then (fun a' w'=>∃ J',a'=⟨(mE s c q v J').setIfInBounds 19 (.tuple #[x,.bool true]),df⟩∧MX d L w0 v n xs o w') (fun _ _ _=>False))
   ⟨((mE s c q v J).setIfInBounds 19 (.tuple #[x,.bool true])).setIfInBounds 20 (.bool true),df⟩ w:=by
 unfold xE jK eF oF jF;simp only[Tryz.f101,Option.getD_some,dB,qA,fD,mE,List.setIfInBounds_toArray,List.set_cons_succ,List.set_cons_zero];co_apply wpC_more
 · skip
   co_apply wpC_cond (t:=true) terms rfl;simp only[if_true];co_ctl terms;co_then;exact eB (by rfl) hF
 · decide
theorem yEB (s : ByteArray) (c q : Nat) (x : Value) (J : Nat → Value) (hbf : b.fn = 101) (hbk : b.kind ≠ .early) (w : World) (hF : MX d L w0 v n xs o w)
    (hS:∀ J w₁,MX d L w0 v n xs o w₁→Stop (G (b.at ⟨bW s c q v x J,df⟩ (.inRegion rFA [1,2] :: .code (.seq (dB (qA pF)) (qA (qA pF))) :: .inBlock 1::kk)) cs) w₁) :
    Goes Tryz.prog true (Rely d T0 o) (Lx.Does d T0 o) Stop 200 (G (b.at ⟨(mE s c q v J).setIfInBounds 19 (.tuple #[x,.bool true]),df⟩ (.inRegion nL [1] :: .code (.seq (dB (qA xE)) (.block 1 (.seq (.region 9 rFA false) (.seq (dB (qA pF)) (qA (qA pF))))))::kk)) cs) w:=by
  refine Goes.mono (xR (m:=150) (y5A s c q x J w hF) hbf hbk ?_) (by decide);rintro e a' w' h
  cases e with
  | normal =>
    clear hF;obtain⟨J',rfl,hF⟩:=h;refine Goes.mono (wE terms (yE (m:=10) (i3A s c q x J' w' hF) hbf hbk ?_)) (by decide);rintro e a' w' h
    cases e with
    | normal =>
      clear hF;obtain⟨J',rfl,hF⟩:=h;refine Goes.mono (n:=1+1+1+1) (n':=10) (eT terms (wE terms (zK terms ?_))) (by decide);have he:rFA=opsOf (dB pF):=rfl;rw[he]at hS ⊢;generalize hg:Code.seq (dB (qA pF)) (qA (qA pF))=rest at hS ⊢;clear hg he;unfold pF xE jK eF oF jF at hS ⊢;simp only[Tryz.f101,Option.getD_some,dB,qA,fD,opsOf,mE,List.setIfInBounds_toArray,List.set_cons_succ,List.set_cons_zero,List.size_toArray,List.length_cons,List.length_nil,Nat.reduceAdd,Nat.zero_add,List.range,List.range.loop]at hS ⊢;co_apply fAA rfl (by rfl) hbk;intro _ hR K hK;replace hF:=MH.rely hF hR;clear hR;go_simp;refine hK _ _ ⟨?_,?_⟩
      · co_quiet terms
      clear hK K
      try walk_nrm
      exact pKA fun w₁ hR=>rWA hS (by rfl) w₁ (MH.rely hF hR)
    | _=>exact h.elim
  | _=>exact h.elim
theorem zBB(s:ByteArray)(c q:Nat)(x:Value)(J:Nat→Value)(hbk:b.kind≠.early)(w:World) :
 ∃ es, stepG Tryz.prog true (G (b.at ⟨bW s c q v x J, df⟩ (.inRegion rFA [1, 2] :: kk)) cs) w =
   .go (G (b.at ⟨(bW s c q v x J).setIfInBounds 8 (.pointer (some ⟨w.heap.size,0,none⟩)),df⟩ (.inRegion rFA [2]::kk)) cs) (w.alloc (.cells (vB 0 0 ⟨#[]⟩ 0) 199 (0,0))) es∧∀ e∈es,wY d T0 (some w.heap.size) (w.alloc (.cells (vB 0 0 ⟨#[]⟩ 0) 199 (0,0))) e:=by
 have ho : rFA[1]? = some { dst := some 8, op := .alloc 199, type := 0, pos := "lexer.go:101", after := #[], guard := none } := by rfl
 refine⟨_,stepG_value ho (by rfl) hbk (v:=.pointer (some ⟨w.heap.size,0,none⟩)) ?_,?_⟩
 · refine nKA fun K hK => ?_
   go_simp;exact hK
 · rw[listed_nil (by simp[go_sem])];simp
end
theorem eP:T0 197:=rfl
theorem Tryz.info197:(Tryz.prog.info? 197).map (fun i=>(i.zero,i.size,i.bytes))=some (some (.agg #[.int .i64 0,.int .i64 0,.string ⟨#[]⟩]),3,32):=by kernel_rfl
section
variable {d : Deal} {o : Option Nat} {L : List (Nat × Obj)} {w0 : World} {v : Value} {n xb : Nat} {xs : List Value} {df : List Deferred}
theorem q8A(s x:ByteArray)(c q k:Nat)(kd e:Int)(J:Nat→Value)(hv:v.ownBlock≠some xb)(w:World)(hF:MX d [(xb,Obj.cells (vB 0 0 ⟨#[]⟩ 0) 199 (0,0))] w0 v n xs (some xb) w) :
 OpsC Tryz.prog true (Rely d T0 (some xb)) (Lx.Does d T0 (some xb)) 101 rFA [2] 10
   (Exit.then (fun a' w'=>∃ J',a'=⟨vY s c q v xb J',df⟩∧MX d [(xb,Obj.cells (vB kd k x e) 199 (0,0))] w0 v n xs (some xb) w') (fun _ _ _=>False))
   ⟨(bW s c q v (.agg (vB kd k x e)) J).setIfInBounds 8 (.pointer (some ⟨xb,0,none⟩)),df⟩ w:=by
 have he:rFA=opsOf (dB pF):=rfl;rw[he];clear he;unfold pF xE jK eF oF jF;simp only[Tryz.f101,Option.getD_some,dB,qA,fD,opsOf,bW,vY,vB,List.setIfInBounds_toArray,List.set_cons_succ,List.set_cons_zero]at hF ⊢;co_apply opsC_more
 · co_opw MH.rely hF (have hm : (xb, Obj.cells #[.int .i64 0, .int .i64 ((0 : Nat) : Int), .string ⟨#[]⟩, .int .i64 0] 199 (0, 0)) ∈ [(xb, Obj.cells #[.int .i64 0, .int .i64 ((0 : Nat) : Int), .string ⟨#[]⟩, .int .i64 0] 199 (0, 0))] := List.mem_cons_self; have hc0 : _ = some _ := hF.holds.cell hm 0; have hc1 : _ = some _ := hF.holds.cell hm 1; have hc2 : _ = some _ := hF.holds.cell hm 2; have hc3 : _ = some _ := hF.holds.cell hm 3; have hf0 := hF.holds.frozen hm 0; have hf1 := hF.holds.frozen hm 1; have hf2 := hF.holds.frozen hm 2; have hf3 := hF.holds.frozen hm 3) (have ho := hF.holds.boxOwn; have ht := Turn.set4 ho (hF.holds.lt hm) hF.holds.big (.int .i64 kd) (.int .i64 (k : Int)) (.string x) (.int .i64 e); refine ⟨ht, ?_⟩; have ho2 := ht.own_fwd (hF.holds.lt hm) ho; clear ht ho; have es := yT Tryz.prog; intro e he; have hm := mem_listed he; simp [go_sem, *] at hm; rcases hm with rfl | rfl | rfl | rfl <;> exact sS ho2 _ _ _)
   replace hF:=hF.set4 hv (.int .i64 kd) (.int .i64 (k:Int)) (.string x) (.int .i64 e);co_apply opsC_nil terms;co_then;exact eB (by rfl) hF
 · decide
theorem qCB(s x:ByteArray)(c q k:Nat)(kd:Int)(J:Nat→Value)(w:World)(hF:MX d [(xb,Obj.cells (vB kd k x 0) 199 (0,0))] w0 v n xs (some xb) w) :
 Code.wpC Tryz.prog true (Rely d T0 (some xb)) (Lx.Does d T0 (some xb)) 101 (dB (qA pF)) 100
   (Exit.then (fun a' w'=>∃ J',a'=⟨vY s c q v xb J',df⟩∧MX d [(xb,Obj.cells (vB kd k x 0) 199 (0,0))] w0 v n xs (some xb) w') (fun _ _ _=>False))
   ⟨vY s c q v xb J,df⟩ w:=by
 have hm:(xb,Obj.cells (vB kd k x 0) 199 (0,0))∈[(xb,Obj.cells (vB kd k x 0) 199 (0,0))]:=List.mem_cons_self;unfold pF xE jK eF oF jF;simp only[Tryz.f101,Option.getD_some,dB,qA,fD,vY];co_apply wpC_more
 · co_apply wpC_seq terms
   co_reg terms
   co_op MH.rely hF (co_quiet terms)
   co_opw MH.rely hF (have hc:_=some (Value.int .i64 0):=hF.holds.cell hm 3) (refine Does.reads ?_;co_evs (exact hF.holds.read hm _ _))
   clear hc;co_op MH.rely hF (co_quiet terms);co_apply opsC_nil terms;co_then;co_apply wpC_cond (t:=false) terms rfl;simp only[Bool.false_eq_true,if_false];co_ctl terms;co_then;exact eB (by rfl) hF
 · decide
theorem o3A(s x:ByteArray)(c q k:Nat)(kd:Int)(J:Nat→Value)(hn:n≤1000000)(w:World)(hF:MX d [(xb,Obj.cells (vB kd k x 0) 199 (0,0))] w0 v n xs (some xb) w) :
 Code.wpC Tryz.prog true (Rely d T0 (some xb)) (Lx.Does d T0 (some xb)) 101 (qA (qA pF)) 100
   (Exit.then (fun a' w'=>∃ v',(∃ J',a'=⟨mE s c q v' J',df⟩∧MX d [] w0 v' (n+1) (xs++[.int .i64 kd,.int .i64 (k:Int),.string x]) (some xb) w')) (fun _ _ _=>False))
   ⟨vY s c q v xb J,df⟩ w:=by
 have hm:(xb,Obj.cells (vB kd k x 0) 199 (0,0))∈[(xb,Obj.cells (vB kd k x 0) 199 (0,0))]:=List.mem_cons_self;obtain⟨i0,hi,hz⟩:=Option.map_eq_some_iff.1 Tryz.info197;simp only[Prod.mk.injEq]at hz;obtain⟨hz0,hz1,hz2⟩:=hz;have HI:=aA hi;have HZ0:=aA hz0;have HZ1:=aA hz1;have HZ2:=aA hz2;clear hi hz0 hz1 hz2;unfold pF xE jK eF oF jF;simp only[Tryz.f101,Option.getD_some,dB,qA,fD,vY,mE];co_apply wpC_more
 · co_reg terms
   co_op MH.rely hF (co_quiet terms);co_op MH.rely hF (co_quiet terms)
   co_opw MH.rely hF (have hc0:_=some (Value.int .i64 kd):=hF.holds.cell hm 0;have hc1:_=some (Value.int .i64 (k:Int)):=hF.holds.cell hm 1;have hc2:_=some (Value.string x):=hF.holds.cell hm 2) (refine Does.reads ?_;intro e he;have hm:=mem_listed he;simp[go_sem, *]at hm;rcases hm with rfl | rfl | rfl<;>exact hF.holds.read hm _ _)
   clear hc0 hc1 hc2
   co_opw MH.rely hF (skip) (refine⟨Turn.alloc eP hF.holds.box,?_⟩;co_evs (skip))
   have hBn:=hF.holds.big;replace hF:=hF.cons #[.int .i64 kd,.int .i64 (k:Int),.string x] eP
   revert hBn hF
   generalize Array.size (World.heap _)=nb;intro hBn hF;co_apply opsC_cons_k rfl (by rfl);intro w1 hR K hK;replace hF:=MH.rely hF hR;clear hR;have hmn:(nb,Obj.cells #[.int .i64 kd,.int .i64 (k:Int),.string x] 197 (0,0))∈(nb,Obj.cells #[.int .i64 kd,.int .i64 (k:Int),.string x] 197 (0,0))::[(xb,Obj.cells (vB kd k x 0) 199 (0,0))]:=List.mem_cons_self;have hnews:∀ j u,[Value.int .i64 kd,.int .i64 (k:Int),.string x][j]? = some u→w1.cell? ((⟨nb,0,none⟩:Addr).add j)=some u:=by
    intro j u hu;rw[g6A,hF.holds.cell hmn j]
    simpa using hu
   have h1:∀ u∈[Value.int .i64 kd,.int .i64 (k:Int),.string x],u.oneCell'=true:=by
    intro u hu;simp only[List.mem_cons,List.not_mem_nil,or_false]at hu;rcases hu with rfl | rfl | rfl<;>rfl
   have hmx:n+1≤maxLen:=by simp only[maxLen];omega
   have hby:(n+1) * 32≤140737488355328:=by omega
   obtain⟨v',w',hr,hown',hg,ht⟩:=yNA (P:=Tryz.prog) (d:=d) (T:=T0) (o:=some xb) w1 162 162 197 i0 _ 3 32 Tryz.underlying162 HI.out HZ0.out HZ1.out HZ2.out rfl (by decide) v n xs hF.own ⟨nb,0,none⟩ 1 1 [.int .i64 kd,.int .i64 (k:Int),.string x] (by decide) rfl hnews h1 hmx hby eP hF.holds.big hF.holds.box;have hev:=events_append_where (P:=Tryz.prog) w1 d.B 162 162 197 i0 _ 3 32 Tryz.underlying162 HI.out HZ0.out HZ1.out HZ2.out v n xs hF.own ⟨nb,0,none⟩ 1 1 [.int .i64 kd,.int .i64 (k:Int),.string x] rfl hnews h1 hmx hby;refine uponK_append (.tmp 30) (.tmp 33) 162 rfl rfl rfl hr (hK _ _ ⟨⟨ht,?_⟩,?_⟩)
   · intro e he; have hm := mem_listed he; rw [events_append_op (.tmp 30) (.tmp 33) 162 rfl rfl rfl] at hm; rcases hev e hm with ⟨ad, hl, hcase⟩ | ⟨m, rfl, hneu⟩
     · rcases hcase with ⟨_, hb⟩ | hb
       · have hb:ad.block=nb:=hb;exact sOA hl (hb▸ht.own_fwd (hF.holds.lt hmn) (hF.holds.mine hmn hBn eP))
       · obtain⟨h1,h2⟩:=qRA (o:=some xb) eP hF.own hb.symm;exact sOA hl (ht.own_fwd h2 h1)
     · exact xXA hneu
   replace hF:MX d [] w0 v' (n+1) (xs++[.int .i64 kd,.int .i64 (k:Int),.string x]) (some xb) w' :=
    ⟨⟨by simp,by simp,Nat.le_trans hF.holds.big ht.size,fun b hb=>Nat.lt_of_lt_of_le (hF.holds.box b hb) ht.size⟩,hown',hF.low.turn ht hF.holds.big hF.boxB,eP,hF.boxB⟩
   clear hK K hnews h1 hr hown' hg ht hev hmn hBn
   try walk_nrm
   co_op MH.rely hF (co_quiet terms);co_apply opsC_nil terms;co_then;exact⟨v',eB (by rfl) hF⟩
 · decide
end
structure Tok where
 kind:Int
 at_:Nat
 text:ByteArray
def iQ(t:Tok):Value:=.agg (vB t.kind t.at_ t.text 0)
def oI : List Tok → List Value
  | []=>[]
  | t::l=>.int .i64 t.kind :: .int .i64 (t.at_:Int) :: .string t.text::oI l
theorem fJA(l:List Tok)(t:Tok):oI (l++[t])=oI l++[.int .i64 t.kind,.int .i64 (t.at_:Int),.string t.text]:=by
 induction l with
 | nil=>rfl
 | cons x l ih=>simp[oI,ih]
def kGA : List Tok → List MAct
  | []=>[]
  | t::l=>.recv (iQ t) :: .box::kGA l
theorem iNA(l:List Tok):recvs (kGA l)=l.map iQ:=by
 induction l with
 | nil=>rfl
 | cons x l ih=>simp[kGA,recvs,ih]
def bLex:Frame:=base 101
noncomputable def nW:List Item:=[.inLoop xE,.inBlock 0,.code lexEnd]
def dD(q:Nat):List Deferred:=[oK q #[194] 0 #[false]]
def zHA(s:ByteArray)(B c q:Nat)(cs:List Frame)(w0:World)(all:List Tok)(g:Goroutine)(w:World):Prop :=
 ∃ o v J,g=G (bLex.at ⟨(mE s c q v J).setIfInBounds 19 (.tuple #[lN,.bool false]),dD q⟩ (.inRegion nL [1] :: .code (.seq (dB (qA xE)) (.block 1 (.seq (.region 9 rFA false) (.seq (dB (qA pF)) (qA (qA pF))))))::nW)) cs∧MX ⟨B,c⟩ [] w0 v all.length (oI all) o w
section
variable {s : ByteArray} {B c q : Nat} {cs : List Frame} {w0 : World} {all : List Tok}
theorem hNA:∀(l done:List Tok),done++l=all→all.length≤1000000 →
 ∃ m,∀ o J v w,MX ⟨B,c⟩ [] w0 v done.length (oI done) o w →
  GoM (shared B c q (zHA s B c q cs w0 all)) (kGA l) o m (G (bLex.at ⟨mE s c q v J,dD q⟩ (.code xE::nW)) cs) w
 | [], done, hall, hlen => by
   refine⟨2,fun o J v w hF=>?_⟩;rw[bDA];refine wE terms (zK terms ?_);intro w₁ hR;have hF1:=MH.rely hF hR;refine⟨rfl,eNA (b:=bLex) s c q J (by decide) w₁,o,v,J,xPA s c q lN false J,?_⟩;have hall:done=all:=by simpa using hall
   rw[← hall];exact hF1
 | t :: l, done, hall, hlen => by
   obtain⟨m',ih⟩:=hNA l (done++[t]) (by simpa using hall) hlen;have hdl:done.length≤1000000:=by
    have:done.length≤all.length:=by rw[← hall];simp
    omega
   refine⟨2,fun o J v w hF=>?_⟩;rw[bDA];refine wE terms (zK terms ?_);intro w₁ hR;have hF1:=MH.rely hF hR;refine⟨rfl,eNA (b:=bLex) s c q J (by decide) w₁,200,?_⟩
   show Goes Tryz.prog true (Rely ⟨B,c⟩ T0 o) (Lx.Does ⟨B,c⟩ T0 o) _ 200 ((G (bLex.at ⟨mE s c q v J,dD q⟩ (.inRegion nL [0,1]::_)) cs).finishComm Tryz.prog #[rcase c lN] (.recv true) 0 (iQ t) true) w₁
   rw[xPA];refine yEB s c q (iQ t) J rfl (by decide) w₁ hF1 fun J w₂ hF2=>?_
   obtain⟨es,hst,hes⟩:=zBB (d:=⟨B,c⟩) (b:=bLex) (v:=v) (df:=dD q) (kk:=.code (.seq (dB (qA pF)) (qA (qA pF))) :: .inBlock 1::nW) (cs:=cs) s c q (iQ t) J (by decide) w₂;have hb:=hF2.boxed (tb:=199) (vB 0 0 ⟨#[]⟩ 0);have hv:v.ownBlock≠some w₂.heap.size:=fun h=>by
    have:=(hF2.own.lt _ h).2;omega
   refine⟨rfl,_,_,es,hst,⟨rfl,rfl,rfl,_,_,uC _ _⟩,hes,m'+300,?_⟩;refine Goes.mono (xR (m:=m'+250) (q8A s t.text c q t.at_ t.kind 0 J hv _ hb) rfl (by decide) ?_) (by omega);rintro e a' w' h
   cases e with
   | normal =>
     obtain⟨J',rfl,hF'⟩:=h;refine Goes.mono (wE terms (yE (m:=m'+120) (qCB s t.text c q t.at_ t.kind J' w' hF') rfl (by decide) ?_)) (by omega);rintro e a' w' h
     cases e with
     | normal =>
       obtain⟨J',rfl,hF'⟩:=h;refine Goes.mono (yE (m:=m'+2) (o3A s t.text c q t.at_ t.kind J' hdl w' hF') rfl (by decide) ?_) (by omega);rintro e a' w' h
       cases e with
       | normal =>
         obtain⟨v',J',rfl,hF'⟩:=h;refine gAA terms (kW terms (ih _ J' v' w' ?_));rw[fJA,List.length_append];exact hF'
       | _=>exact h.elim
     | _=>exact h.elim
   | _=>exact h.elim
def iK(s:ByteArray)(c q:Nat)(J:Nat→Value):Array Value :=
 #[.string s, J 1, J 2, J 3, J 4, .chan (some c), .chan (some q), J 7, J 8, J 9, J 10, J 11, J 12, J 13, J 14, .string s, .chan (some c), .chan (some q), J 18, J 19, J 20, J 21, J 22, J 23, J 24, J 25, J 26, J 27, J 28, J 29, J 30, J 31, J 32, J 33, J 34, J 35]
def wAA(s:ByteArray)(c q:Nat)(J:Nat→Value):Array Value :=
 #[.string s, J 1, J 2, J 3, J 4, .chan (some c), .chan (some q), .slice none 0 0, J 8, J 9, J 10, J 11, J 12, J 13, J 14, J 15, J 16, J 17, J 18, J 19, J 20, J 21, J 22, J 23, J 24, J 25, J 26, J 27, J 28, J 29, J 30, J 31, J 32, J 33, J 34, J 35]
theorem oYA{d:Deal}{df:List Deferred}{o:Option Nat}(J:Nat→Value)(w:World)(hF:MX d [] w0 (.slice none 0 0) 0 [] o w) :
 Code.wpC Tryz.prog true (Rely d T0 o) (Lx.Does d T0 o) 101 (dB eF) 100
   (Exit.then (fun a' w'=>∃ J',a'=⟨wAA s c q J',df⟩∧MX d [] w0 (.slice none 0 0) 0 [] o w') (fun _ _ _=>False)) ⟨iK s c q J,df⟩ w:=by
 unfold eF oF jF;simp only[Tryz.f101,Option.getD_some,dB,qA,iK,wAA];co_apply wpC_more
 · co_reg terms
   co_op MH.rely hF (co_quiet terms);co_apply opsC_nil terms;co_then;exact eB (by rfl) hF
 · decide
theorem tVA{d:Deal}{df:List Deferred}{o:Option Nat}(J:Nat→Value)(w:World)(hF:MX d [] w0 (.slice none 0 0) 0 [] o w) :
 Code.wpC Tryz.prog true (Rely d T0 o) (Lx.Does d T0 o) 101 (dB jK) 100
   (Exit.then (fun a' w'=>∃ J',a'=⟨mE s c q (.slice none 0 0) J',df⟩∧MX d [] w0 (.slice none 0 0) 0 [] o w') (fun _ _ _=>False)) ⟨wAA s c q J,df⟩ w:=by
 unfold jK eF oF jF;simp only[Tryz.f101,Option.getD_some,dB,qA,wAA,mE];co_apply wpC_more
 · co_reg terms
   co_op MH.rely hF (co_quiet terms);co_apply opsC_nil terms;co_then;exact eB (by rfl) hF
 · decide
theorem j5A(hlen:all.length≤1000000)(J:Nat→Value)(w:World)(hF:MX ⟨B,c⟩ [] w0 (.slice none 0 0) 0 [] none w) :
 ∃ m,GoM (shared B c q (zHA s B c q cs w0 all)) (kGA all) none m (G (bLex.at ⟨iK s c q J,dD q⟩ (.inRegion uJA [] :: .code eF::[])) cs) w:=by
 obtain⟨m,hm⟩:=hNA (s:=s) (B:=B) (c:=c) (q:=q) (cs:=cs) (w0:=w0) (all:=all) all [] rfl hlen;refine⟨m+500,?_⟩;refine Goes.mono (xR (m:=m+400) (fn:=101) (Q:=Exit.then (fun a' w'=>a'=⟨iK s c q J,dD q⟩∧MX ⟨B,c⟩ [] w0 (.slice none 0 0) 0 [] none w') (fun _ _ _=>False)) (opsC_nil terms ⟨rfl,hF⟩) rfl (by decide) ?_) (by omega);rintro e a' w' h
 cases e with
 | normal =>
   obtain⟨rfl,hF⟩:=h;rw[mOA];refine Goes.mono (wE terms (yE (m:=m+200) (oYA J w' hF) rfl (by decide) ?_)) (by omega);rintro e a' w' h
   cases e with
   | normal =>
     obtain⟨J',rfl,hF⟩:=h;refine Goes.mono (wE terms (wE terms (yE (m:=m+2) (tVA J' w' hF) rfl (by decide) ?_))) (by omega);rintro e a' w' h
     cases e with
     | normal =>
       obtain⟨J',rfl,hF⟩:=h;exact eT terms (vKA terms (hm none J' _ w' hF))
     | _=>exact h.elim
   | _=>exact h.elim
 | _=>exact h.elim
theorem yTA(Fin:Goroutine→World→Prop)(hc:c < B)(hq:q < B)(hcq:c≠q):(shared B c q Fin).Fit:=by
 refine⟨?_,?_,?_,hc,hq,hcq⟩
 · intro ty h0 h1;have h0:ty=197:=h0;subst h0;rcases h1 with h | h | h<;>exact absurd h (by decide)
 · intro h;exact absurd (show 199=197 from h) (by decide)
 · intro h;have h:199=9∨199=175∨199=235:=h;exact absurd h (by decide)
theorem v6A (hs : s.size ≤ 100000) (acts : List SAct) (h : Scans s 0 acts) (hsame : sends acts = all.map iQ) (hlen : all.length ≤ 1000000) (hcq : c ≠ q) (J : Nat → Value) (w : World) (h0 : Low ⟨B, c⟩ w0 w)
    (hB:B=w.heap.size) (hc:∃ s r tm,w.heap[c]? = some (.chan 0 #[] false s r tm)) (hq:∃ s r tm,w.heap[q]? = some (.chan 0 #[] false s r tm)) :
    AtGo (shared B c q (zHA s B c q cs w0 all)) (kGA all) acts (G (bLex.at ⟨iK s c q J,dD q⟩ (.inRegion uJA [3] :: .code eF::[])) cs) w:=by
  have hcl:c < B:=by obtain⟨_,_,_,h⟩:=hc;rw[hB];exact(Array.getElem?_eq_some_iff.1 h).1
  have hql:q < B:=by obtain⟨_,_,_,h⟩:=hq;rw[hB];exact(Array.getElem?_eq_some_iff.1 h).1
  refine ⟨yTA _ hcl hql hcq, rfl, hB, hq, hc, by rw [iNA, hsame], fun e => ?_⟩; have ho : uJA[3]? = some { dst := none, op := .go { callee := .value (.func 125), args := #[.tmp 15, .tmp 16, .tmp 17], argTypes := #[9, 230, 231] }, type := 0, pos := "lexer.go:99", after := #[{ on := 0, ground := .data }, { on := 1, ground := .data }, { on := 2, ground := .data }], guard := none } := by rfl
  have e1 : (⟨iK s c q J, dD q⟩ : Act).eval (.tmp 15) = .string s := rfl; have e2 : (⟨iK s c q J, dD q⟩ : Act).eval (.tmp 16) = .chan (some c) := rfl; have e3 : (⟨iK s c q J, dD q⟩ : Act).eval (.tmp 17) = .chan (some q) := rfl; have e4 : (⟨iK s c q J, dD q⟩ : Act).eval (.func 125) = .func (.func 125) #[] #[] := rfl; refine ⟨_, _, ?_, j5A hlen J (w.at e) ⟨⟨by simp, by simp, by rw [hB]; exact Nat.le_refl _, by simp⟩, World.ownsRow_nil _ _ _ _, ⟨h0.os, h0.output, h0.size, h0.block⟩, eP, by simp⟩,
    z0A s hs acts h (w.at e) ⟨by simp,by simp,by rw[hB];exact Nat.le_refl _,by simp⟩⟩
  refine(stepG_spawn (P:=Tryz.prog) (d:=nR s c q) (w':=w.at e) ho (by rfl) (by decide) ?_ rfl).trans ?_
  · unfold execOp;simp[resolve,Deferred.ofValue,e1,e2,e3,e4,nR]
  · rw [listed_nil]
    · rfl
    · unfold execOp;simp[resolve,Deferred.ofValue,e4]
end
def xH(s:ByteArray)(J:Nat→Value):Array Value:=#[.string s,J 1,J 2,J 3,J 4,J 5,J 6,J 7,J 8,J 9,J 10,J 11,J 12,J 13,J 14,J 15,J 16,J 17,J 18,J 19,J 20,J 21,J 22,J 23,J 24,J 25,J 26,J 27,J 28,J 29,J 30,J 31,J 32,J 33,J 34,J 35]
def jM(s:ByteArray)(c q:Nat)(J:Nat→Value):Array Value:=#[.string s,J 1,J 2,J 3,J 4,.chan (some c),.chan (some q),J 7,J 8,J 9,J 10,J 11,J 12,J 13,J 14,J 15,J 16,J 17,J 18,J 19,J 20,J 21,J 22,J 23,J 24,J 25,J 26,J 27,J 28,J 29,J 30,J 31,J 32,J 33,J 34,J 35]
theorem wTA:jF = .seq (dB jF) (.seq (dB (qA jF)) oF):=by rfl
theorem aTA:oF = .seq (dB oF) (.seq (dB (qA oF)) (.seq (.region 5 uJA false) eF)):=by rfl
def IsF(F:(Nat→Value)→Array Value)(df:List Deferred)(Pw:World→Prop)(a:Act)(w:World):Prop:=(∃ J,a=⟨F J,df⟩)∧Pw w
theorem isF{F:(Nat→Value)→Array Value}{df:List Deferred}{Pw:World→Prop}{A:Array Value}{w:World}(h:A=F fun n=>A.getD n undef)(hp:Pw w):IsF F df Pw ⟨A,df⟩ w:=⟨⟨_,by rw[← h]⟩,hp⟩
theorem mVA{F:(Nat→Value)→Array Value}{df:List Deferred}{Pw:World→Prop}{a:Act}{w:World}(h:a=⟨F fun n=>a.tmps.getD n undef,df⟩)(hp:Pw w):IsF F df Pw a w:=⟨⟨_,h⟩,hp⟩
theorem iXA(s:ByteArray)(J:Nat→Value)(w:World) :
 (dB jF).wp Tryz.prog (Exit.then (IsF (xH s) [] (w = ·)) (fun _ _ _=>False)) ⟨xH s J,[]⟩ w:=by
 unfold jF;simp only[Tryz.f101,Option.getD_some,dB];unfold xH;go_wp2;exact isF (F:=xH s) (by rfl) rfl
theorem n1A(s:ByteArray)(hs:s.size≤20000)(J:Nat→Value)(w:World) :
 (dB (qA jF)).wp Tryz.prog (Exit.then (IsF (xH s) [] (w = ·)) (fun _ _ _=>False)) ⟨xH s J,[]⟩ w:=by
 unfold jF;simp only[Tryz.f101,Option.getD_some,dB,qA];unfold xH;have h1:¬(20000:Int) < s.size:=by omega
 go_wp2;exact isF (F:=xH s) (by rfl) rfl
structure Chans (w0:World) (c q:Nat) (w:World):Prop where
 os:w.os=w0.os
 output:w.output=w0.output
 size:w.heap.size=w0.heap.size+2
 low:∀ b,b < w0.heap.size→w.heap[b]? = w0.heap[b]?
 ne:c≠q
 cl:w0.heap.size≤c
 ql:w0.heap.size≤q
 chan:∃ s r tm,w.heap[c]? = some (.chan 0 #[] false s r tm)
 quit:∃ s r tm,w.heap[q]? = some (.chan 0 #[] false s r tm)
def IsC(s:ByteArray)(df:Nat→List Deferred)(w0:World)(a:Act)(w:World):Prop:=∃ c q,IsF (jM s c q) (df q) (Chans w0 c q) a w
theorem oPA(w:World){c q:Nat}(h:(c=w.heap.size∧q=w.heap.size+1)∨(c=w.heap.size+1∧q=w.heap.size)):Chans w c q ((w.alloc (.chan 0 #[] false 0 0 false)).alloc (.chan 0 #[] false 0 0 false)).drew:=by
 have e0:∀ b,b < w.heap.size→((w.alloc (.chan 0 #[] false 0 0 false)).alloc (.chan 0 #[] false 0 0 false)).drew.heap[b]? = w.heap[b]? := fun b hb=>by
  show((w.alloc (.chan 0 #[] false 0 0 false)).alloc (.chan 0 #[] false 0 0 false)).heap[b]? = _
  rw[uC,uC,Array.getElem?_push_lt (by simp;omega),← Array.getElem?_eq_getElem,Array.getElem?_push_lt hb,← Array.getElem?_eq_getElem]
 have e1:((w.alloc (.chan 0 #[] false 0 0 false)).alloc (.chan 0 #[] false 0 0 false)).drew.heap[w.heap.size]? = some (.chan 0 #[] false 0 0 false):=by
  show((w.alloc (.chan 0 #[] false 0 0 false)).alloc (.chan 0 #[] false 0 0 false)).heap[w.heap.size]? = _
  rw[uC,uC,Array.getElem?_push_lt (by simp),← Array.getElem?_eq_getElem,Array.getElem?_push_size]
 have e2:((w.alloc (.chan 0 #[] false 0 0 false)).alloc (.chan 0 #[] false 0 0 false)).drew.heap[w.heap.size+1]? = some (.chan 0 #[] false 0 0 false):=by
  show((w.alloc (.chan 0 #[] false 0 0 false)).alloc (.chan 0 #[] false 0 0 false)).heap[w.heap.size+1]? = _
  have:w.heap.size+1=(w.heap.push (.chan 0 #[] false 0 0 false)).size:=by simp
  rw[uC,uC,this,Array.getElem?_push_size]
 have e3:((w.alloc (.chan 0 #[] false 0 0 false)).alloc (.chan 0 #[] false 0 0 false)).drew.heap.size=w.heap.size+2:=by
  show((w.alloc (.chan 0 #[] false 0 0 false)).alloc (.chan 0 #[] false 0 0 false)).heap.size=_
  rw[uC,uC];simp
 rcases h with⟨rfl,rfl⟩ | ⟨rfl,rfl⟩
 · exact⟨rfl,rfl,e3,e0,by omega,by omega,by omega,⟨_,_,_,e1⟩,⟨_,_,_,e2⟩⟩
 · exact⟨rfl,rfl,e3,e0,by omega,by omega,by omega,⟨_,_,_,e2⟩,⟨_,_,_,e1⟩⟩
theorem p7A(w:World):(Instr.makeChan 193 (.int .i64 0)).run Tryz.prog w = .ok (.chan (some w.heap.size)) (w.alloc (.chan 0 #[] false 0 0 false)):=by kernel_rfl
theorem fAB(w:World):(Instr.makeChan 194 (.int .i64 0)).run Tryz.prog w = .ok (.chan (some w.heap.size)) (w.alloc (.chan 0 #[] false 0 0 false)):=by kernel_rfl
theorem fYA(s:ByteArray)(J:Nat→Value)(w:World) :
 (dB oF).wp Tryz.prog (Exit.then (IsC s (fun _=>[]) w) (fun _ _ _=>False)) ⟨xH s J,[]⟩ w:=by
 unfold oF jF;simp only[Tryz.f101,Option.getD_some,dB,qA];unfold xH;have h1:=p7A;have h2:=fAB
 go_region
 all_goals
  first
  | exact⟨w.heap.size,w.heap.size+1,mVA (by rfl) (oPA w (.inl ⟨rfl,rfl⟩))⟩
  | exact⟨w.heap.size+1,w.heap.size,mVA (by rfl) (oPA w (.inr ⟨rfl,rfl⟩))⟩
theorem q0A(s:ByteArray)(c q:Nat)(J:Nat→Value)(w:World) :
 (dB (qA oF)).wp Tryz.prog (Exit.then (IsF (jM s c q) (dD q) (w = ·)) (fun _ _ _=>False)) ⟨jM s c q J,[]⟩ w:=by
 unfold oF jF;simp only[Tryz.f101,Option.getD_some,dB,qA];unfold jM;go_wp2;exact mVA (F:=jM s c q) (df:=dD q) (by rfl) rfl
theorem d5A(s:ByteArray)(c q:Nat)(J:Nat→Value)(w:World) :
 wpOps Tryz.prog uJA (Exit.then (IsF (iK s c q) (dD q) (w = ·)) (fun _ _ _=>False)) [0,1,2] ⟨jM s c q J,dD q⟩ w:=by
 have he:uJA=opsOf (dB (qA (qA oF))):=rfl;rw[he];unfold oF jF;simp only[Tryz.f101,Option.getD_some,dB,qA,opsOf];refine .inl ?_;refine .inl ?_;refine .inl ?_;exact mVA (F:=iK s c q) (df:=dD q) (by rfl) rfl
def aNA(W:World)(all:List Tok)(r:Value)(w:World):Prop :=
 ∃ v,r = .tuple #[v,.int .i64 0,.int .i64 0]∧w.ownsRow W.heap.size 197 3 v all.length (oI all)∧Under W w
def zR(v:Value)(J:Nat→Value):Array Value:=#[J 0,J 1,v,.int .i64 0,.int .i64 0,J 5,J 6,J 7,J 8,J 9,J 10,J 11,J 12,J 13,J 14,J 15,J 16,J 17,J 18,J 19,J 20,J 21,J 22,J 23,J 24,J 25,J 26,J 27,J 28,J 29,J 30,J 31,J 32,J 33,J 34,J 35]
def wI(s:ByteArray)(c q:Nat)(v:Value)(J:Nat→Value):Array Value:=#[.string s,J 1,J 2,J 3,J 4,.chan (some c),.chan (some q),v,J 8,J 9,J 10,J 11,J 12,J 13,J 14,J 15,J 16,J 17,J 18,J 19,.bool false,J 21,J 22,J 23,J 24,J 25,J 26,J 27,J 28,J 29,J 30,J 31,J 32,J 33,J 34,J 35]
section
variable {s : ByteArray} {c q : Nat} {v : Value}
theorem yQA{df:List Deferred}(J:Nat→Value)(w:World) :
 wpOps Tryz.prog nL (Exit.then (IsF (wI s c q v) df (w = ·)) (fun _ _ _=>False)) [1] ⟨(mE s c q v J).setIfInBounds 19 (.tuple #[lN,.bool false]),df⟩ w:=by
 have he:nL=opsOf (dB xE):=rfl;rw[he];unfold xE jK eF oF jF;simp only[Tryz.f101,Option.getD_some,dB,qA,fD,opsOf];refine .inl ?_;exact mVA (F:=wI s c q v) (df:=df) (by rfl) rfl
theorem r6A{df:List Deferred}(J:Nat→Value)(w:World) :
 (dB (qA xE)).wp Tryz.prog (fun e a' w'=>e = .exit 0∧IsF (wI s c q v) df (w = ·) a' w') ⟨wI s c q v J,df⟩ w:=by
 unfold xE jK eF oF jF;simp only[Tryz.f101,Option.getD_some,dB,qA,fD];unfold wI;go_wp2;exact mVA (F:=wI s c q v) (by rfl) rfl
theorem e8A{df:List Deferred}(J:Nat→Value)(w:World) :
 lexEnd.wp Tryz.prog (fun e a' w'=>e = .ret∧IsF (zR v) df (w = ·) a' w') ⟨wI s c q v J,df⟩ w:=by
 unfold lexEnd eF oF jF;simp only[Tryz.f101,Option.getD_some,qA];unfold wI;go_wp2;exact mVA (F:=zR v) (by rfl) rfl
end
theorem bEA{c:Code}{Q:Exit→Act→World→Prop}{a:Act}{W w:World}(hw:w.Alike W)(h:∀ w',w'.Alike W→c.wp Tryz.prog Q a w')(τ:Nat→Question→Nat)(d:Nat):c.wp Tryz.prog Q a (re w τ d):=h _ ⟨hw.1,hw.2.1,hw.2.2⟩
theorem tBA{F:(Nat→Value)→Array Value}{df:List Deferred}{W w:World}(hw:w.Alike W):∀ e a w',Exit.then (IsF F df (w = ·)) (fun _ _ _=>False) e a w'→Exit.then (IsF F df (·.Alike W)) (fun _ _ _=>False) e a w':=by
 intro e a w' h
 cases e with
 | normal=>obtain⟨h1,rfl⟩:=h;exact⟨h1,hw⟩
 | _=>exact h
theorem j3{w:World}{b b':Nat}{e:TypeId}{size n:Nat}{v:Value}{xs:List Value}(h:w.ownsRow b e size v n xs)(hb:b'≤b):w.ownsRow b' e size v n xs:=by
 refine⟨h.1,?_⟩;rcases h.2 with hn | ⟨g,cap,cur,rfl,hg,rest⟩
 · exact .inl hn
 · exact .inr ⟨g,cap,cur,rfl,Nat.le_trans hb hg,rest⟩
theorem a5A(T:Tame Tryz.prog){s:ByteArray}{W w0:World}{c q:Nat}{all:List Tok}(hC:Chans W c q w0)(cs:List Frame)(g:Goroutine)(w:World)(h:zHA s w0.heap.size c q cs w0 all g w) :
 RunG Tryz.prog (fun g' w'=>∃ r fr,g'=G fr cs∧fr.fn=101∧(∀ τ d,fr.leaving Tryz.prog (re w' τ d) (.returned r))∧aNA W all r w') g w:=by
 obtain⟨o,v,J,rfl,hM⟩:=h;have hsz:=hC.size;have hqlt:q < w0.heap.size:=by obtain⟨_,_,_,hq⟩:=hC.quit;exact(Array.getElem?_eq_some_iff.1 hq).1
 have hq:∃ s r tm,w.heap[q]? = some (.chan 0 #[] false s r tm):=by
  obtain⟨s,r,tm,hq⟩:=hC.quit;exact⟨s,r,tm,by rw[hM.low.block q hqlt (Ne.symm hC.ne)];exact hq⟩
 refine RunG.lone T fun τ d=>?_
 obtain⟨a1,w1,⟨⟨J1,rfl⟩,rfl⟩,hs1⟩:=tGA (K:=IsF (wI s c q v) (dD q) (re w τ d = ·)) [1] [] _ _ (yQA (s:=s) (c:=c) (q:=q) (v:=v) (df:=dD q) J (re w τ d)) bLex (.code (.seq (dB (qA xE)) (.block 1 (.seq (.region 9 rFA false) (.seq (dB (qA pF)) (qA (qA pF))))))::nW) cs (by decide);refine⟨_,_,hs1,rfl,RunG.re ?_ τ d⟩;refine RunG.step T (fun w=>step_region_end) (RunG.step T (fun w=>step_seq) ?_);refine jE T (Q:=fun e a' w'=>e = .exit 0∧IsF (wI s c q v) (dD q) (·.Alike w) a' w') (fun τ d=>wp_mono (r6A (s:=s) (c:=c) (q:=q) (v:=v) (df:=dD q) J1 (re w τ d)) ?_) bLex _ cs _ (by decide) ?_
 · rintro e a' w' ⟨rfl,h1,rfl⟩;exact⟨rfl,h1,rfl,rfl,rfl⟩
 rintro e a' w2 ⟨rfl,⟨J2,rfl⟩,hA2⟩;refine⟨[.code lexEnd],by simp[exitTo,nW],?_⟩;refine jE T (Q:=fun e a' w'=>e = .ret∧IsF (zR v) (dD q) (·.Alike w) a' w') (fun τ d=>wp_mono (e8A (s:=s) (c:=c) (q:=q) (v:=v) (df:=dD q) J2 (re w2 τ d)) ?_) bLex _ cs _ (by decide) ?_
 · rintro e a' w' ⟨rfl,h1,rfl⟩;exact⟨rfl,h1,hA2.1,hA2.2.1,hA2.2.2⟩
 rintro e a' w3 ⟨rfl,⟨J3,rfl⟩,hA3⟩;intro todo;obtain⟨s',r',tm',hq3⟩:=hq;rw[← hA3.1]at hq3;refine RunG.lone T fun τ d=>⟨G { bLex.at ⟨zR v J3,[]⟩ todo with mode:=.returning } cs,(re w3 τ d).setChan q 0 #[] true s' r' tm',.one ?_,rfl,?_⟩
 · exact step_solo_go rfl (dAA (b:=bLex) (w:=re w3 τ d) (ats:=#[194]) (ty:=0) (bs:=#[false]) hq3 (by kernel_rfl))
 · refine RunG.stop fun τ' d' => ⟨.tuple #[v, .int .i64 0, .int .i64 0], _, rfl, rfl, fun τ'' d'' => ⟨rfl, rfl, rfl, _, Tryz.func101, ?_⟩, v, rfl, ?_, ?_⟩
   · show (results Tryz.f101 (zR v J3)).run Tryz.prog _ = _
     simp[results,Tryz.f101,zR]
   · have ho : w3.ownsRow W.heap.size 197 3 v all.length (oI all) := by
       have:=j3 hM.own (b':=W.heap.size) (by show W.heap.size≤w0.heap.size;omega);unfold World.ownsRow at this ⊢;rw[hA3.1];exact this
     refine⟨ho.1,?_⟩;rcases ho.2 with hn | ⟨gg,cap,cur,rfl,hb,hg,rest⟩
     · exact .inl hn
     · refine .inr ⟨gg, cap, cur, rfl, hb, ?_, rest⟩; have hne : q ≠ gg := by rintro rfl; rw [hq3] at hg; cases hg
       show(w3.setChan q 0 #[] true s' r' tm').heap[gg]? = _
       simp only[World.setChan];rw[Array.getElem?_setIfInBounds_ne hne];exact hg
   · refine ⟨?_, ?_, ?_, fun b hb => ?_⟩
     · show w3.os = W.os
       rw[hA3.2.1,hM.low.os,hC.os]
     · show w3.output = W.output
       rw[hA3.2.2,hM.low.output,hC.output]
     · show W.heap.size ≤ (w3.heap.setIfInBounds q _).size
       have:=hM.low.size;rw[Array.size_setIfInBounds,hA3.1];omega
     · show (w3.heap.setIfInBounds q _)[b]? = _
       have h1:=hC.ql;have h2:=hC.cl;rw[Array.getElem?_setIfInBounds_ne (by omega),hA3.1,hM.low.block b (by show b < w0.heap.size;omega) (by show b≠c;omega),hC.low b hb]
theorem tYA(s:ByteArray):Frame.enter Tryz.prog 101 #[.string s] .normal=bLex.at ⟨xH s (fun _=>undef),[]⟩ [.code jF]:=by
 have hb:Tryz.f101.body=some jF:=rfl;rw[enter_at _ Tryz.func101 hb];simp only[Tryz.ntmps101,List.size_toArray,List.length_cons,List.length_nil,Nat.reduceAdd,Nat.reduceSub,Array.replicate_succ,Array.replicate_zero,List.push_toArray,List.append_toArray,List.nil_append,List.cons_append];rfl
theorem cZA(T:Tame Tryz.prog)(s:ByteArray)(hs:s.size≤20000)(acts:List SAct)(h:Scans s 0 acts)(all:List Tok)(hsame:sends acts=all.map iQ)(hlen:all.length≤1000000)(W:World) :
 CallsG Tryz.prog 101 #[.string s] W (aNA W all):=by
 intro cs;rw[tYA,wTA];refine RunG.step T (fun w=>step_seq) ?_;refine jE T (Q:=Exit.then (IsF (xH s) [] (·.Alike W)) (fun _ _ _=>False)) (bEA ⟨rfl,rfl,rfl⟩ fun w' hw'=>wp_mono (iXA s _ w') (tBA hw')) bLex _ cs _ (by decide) ?_;rintro e a' w1 h1
 cases e with
 | normal =>
   obtain⟨⟨J1,rfl⟩,hA1⟩:=h1;refine RunG.step T (fun w=>step_seq) ?_;refine jE T (Q:=Exit.then (IsF (xH s) [] (·.Alike W)) (fun _ _ _=>False)) (bEA hA1 fun w' hw'=>wp_mono (n1A s hs _ w') (tBA hw')) bLex _ cs _ (by decide) ?_;rintro e a' w2 h2
   cases e with
   | normal =>
     obtain⟨⟨J2,rfl⟩,hA2⟩:=h2;rw[aTA];refine RunG.step T (fun w=>step_seq) ?_;refine jE T (Q:=Exit.then (IsC s (fun _=>[]) W) (fun _ _ _=>False)) (bEA hA2 fun w' hw'=>wp_mono (fYA s _ w') ?_) bLex _ cs _ (by decide) ?_
     · intro e a w'' hh
       cases e with
       | normal =>
         obtain⟨c,q,hF,hC⟩:=hh;have hz:w'.heap.size=W.heap.size:=by rw[hw'.1]
         exact⟨c,q,hF,hC.os.trans hw'.2.1,hC.output.trans hw'.2.2,by rw[hC.size,hz],fun b hb=>by rw[hC.low b (by omega),hw'.1],hC.ne,by have:=hC.cl;omega,by have:=hC.ql;omega,hC.chan,hC.quit⟩
       | _=>exact hh
     rintro e a' w3 h3
     cases e with
     | normal =>
       obtain⟨c,q,⟨J3,rfl⟩,hC⟩:=h3;refine RunG.step T (fun w=>step_seq) ?_;refine jE T (Q:=Exit.then (IsF (jM s c q) (dD q) (·.Alike w3)) (fun _ _ _=>False)) (bEA ⟨rfl,rfl,rfl⟩ fun w' hw'=>wp_mono (q0A s c q _ w') (tBA hw')) bLex _ cs _ (by decide) ?_;rintro e a' w4 h4
       cases e with
       | normal =>
         obtain⟨⟨J4,rfl⟩,hA4⟩:=h4;refine RunG.step T (fun w=>step_seq) (RunG.step T (fun w=>step_region) ?_);refine RunG.lone T fun τ d=>?_
         obtain⟨a5,w5,⟨⟨J5,rfl⟩,rfl⟩,hs5⟩:=tGA (K:=IsF (iK s c q) (dD q) (re w4 τ d = ·)) [0,1,2] [3] _ _ (d5A s c q J4 (re w4 τ d)) bLex [.code eF] cs (by decide);refine⟨_,_,hs5,rfl,RunG.re ?_ τ d⟩;refine RunG.trans (RunG.phase (X:=shared w3.heap.size c q (zHA s w3.heap.size c q cs w3 all)) (ms:=kGA all) (ss:=acts) (fun τ d=>v6A (by omega) acts h hsame hlen hC.ne J5 (re w4 τ d) ⟨hA4.2.1,hA4.2.2,by show w3.heap.size≤w4.heap.size;rw[hA4.1];exact Nat.le_refl _,fun b _ _=>by show w4.heap[b]? = _;rw[hA4.1]⟩ (by show _=w4.heap.size;rw[hA4.1]) (by show ∃ s r tm,w4.heap[c]? = _;rw[hA4.1];exact hC.chan) (by show ∃ s r tm,w4.heap[q]? = _;rw[hA4.1];exact hC.quit)) ?_) fun g' w' hf=>a5A T hC cs g' w' hf
         intro hg g' w' hf;obtain⟨o,v,J,rfl,_⟩:=hf;refine⟨⟨fun i hi=>?_,hg.below,.inl rfl⟩,rfl⟩;simp only[G,Frame.at,nW,List.mem_cons,List.not_mem_nil,or_false]at hi;rcases hi with rfl | rfl | rfl | rfl | rfl<;>trivial
       | _=>exact h4.elim
     | _=>exact h3.elim
   | _=>exact h2.elim
 | _=>exact h1.elim
end Go.Proofs.YtggjbblgoddnjaaGreatDoor
namespace Go.Proofs.YtggjbblgoddnjaaGreatDoor
open Go.Lx
theorem p1A : ∀ args, Ok Tryz.prog ((Extern.ReflectliteType.rows.getD 11 ("", Extern.RuntimeError.nothing)).2 args) := by
 intro args;exact Ok.bind (fH _) fun _=>Ok.pure
theorem oJ{fn:Func}{e:Array Value→Sem Value}{f:FuncId}{g:Func}(h:Tryz.prog.funcs[f]? = some fn)(hg:Tryz.prog.funcs[f]? = some g)(he:Extern.find fn=some e)(hn:(Extern.find g).isNone=true):False:=by
 have:=Option.some.inj (hg.symm.trans h);subst this;rw[he]at hn
 cases hn
theorem kH{fn:Func}{e e':Array Value→Sem Value}{f:FuncId}{g:Func}(h:Tryz.prog.funcs[f]? = some fn)(hg:Tryz.prog.funcs[f]? = some g)(he:Extern.find fn=some e)(hn:Extern.find g=some e'):e=e':=by
 have:=Option.some.inj (hg.symm.trans h);subst this;exact Option.some.inj (he.symm.trans hn)
theorem rC:Tame Tryz.prog:=by
 refine j9A [0,1,144,194,209,210,211,212,213,214,215,216,217,218,219,220,221,222,223,224,225,226,227,228,229,230,231,232,233,234,235,236,237,238] (by kernel_rfl) (by kernel_rfl) (by kernel_rfl) ?_;intro f hf fn e h he args;simp only[List.mem_cons,List.not_mem_nil,or_false]at hf;rcases hf with rfl | rfl | rfl | rfl | rfl | rfl | rfl | rfl | rfl | rfl | rfl | rfl | rfl | rfl | rfl | rfl | rfl | rfl | rfl | rfl | rfl | rfl | rfl | rfl | rfl | rfl | rfl | rfl | rfl | rfl | rfl | rfl | rfl | rfl
 · exact(oJ h Tryz.func0 he (by kernel_rfl)).elim
 · exact(oJ h Tryz.func1 he (by kernel_rfl)).elim
 · rw[kH (e':=Extern.AbiNoEscape.same) h Tryz.func144 he (by kernel_rfl)];exact q2A args
 · rw[kH (e':=Extern.BytealgIndexByte.indexByte) h Tryz.func194 he (by kernel_rfl)];exact mIA args
 · rw[kH (e':=Extern.RuntimeError.boundsError) h Tryz.func209 he (by kernel_rfl)];exact sDA args
 · rw[kH (e':=Extern.RuntimeError.nothing) h Tryz.func210 he (by kernel_rfl)];exact jJ args
 · rw [kH (e' := (Extern.RuntimeError.rows.getD 0 ("", Extern.RuntimeError.nothing)).2) h Tryz.func211 he (by kernel_rfl)]; exact e5A args
 · rw[kH (e':=Extern.RuntimeError.nothing) h Tryz.func212 he (by kernel_rfl)];exact jJ args
 · rw [kH (e' := (Extern.RuntimeError.rows.getD 1 ("", Extern.RuntimeError.nothing)).2) h Tryz.func213 he (by kernel_rfl)]; exact b5A args
 · rw[kH (e':=Extern.RuntimeError.nothing) h Tryz.func214 he (by kernel_rfl)];exact jJ args
 · rw [kH (e' := (Extern.RuntimeError.rows.getD 2 ("", Extern.RuntimeError.nothing)).2) h Tryz.func215 he (by kernel_rfl)]; exact t2A args
 · rw[kH (e':=Extern.RuntimeError.nothing) h Tryz.func216 he (by kernel_rfl)];exact jJ args
 · rw[kH (e':=Extern.RuntimeError.typeAssertionError) h Tryz.func217 he (by kernel_rfl)];exact rT args
 · rw[kH (e':=Extern.RuntimeError.nothing) h Tryz.func218 he (by kernel_rfl)];exact jJ args
 · rw [kH (e' := (Extern.RuntimeError.rows.getD 6 ("", Extern.RuntimeError.nothing)).2) h Tryz.func219 he (by kernel_rfl)]; exact v5A args
 · rw[kH (e':=Extern.RuntimeError.nothing) h Tryz.func220 he (by kernel_rfl)];exact jJ args
 · exact(oJ h Tryz.func221 he (by kernel_rfl)).elim
 · rw[kH (e':=Extern.RuntimeError.unhashableTypeError) h Tryz.func222 he (by kernel_rfl)];exact iGA args
 · rw[kH (e':=Extern.RuntimeError.nothing) h Tryz.func223 he (by kernel_rfl)];exact jJ args
 · exact(oJ h Tryz.func224 he (by kernel_rfl)).elim
 · exact(oJ h Tryz.func225 he (by kernel_rfl)).elim
 · exact(oJ h Tryz.func226 he (by kernel_rfl)).elim
 · exact(oJ h Tryz.func227 he (by kernel_rfl)).elim
 · rw [kH (e' := (Extern.ReflectliteType.rows.getD 11 ("", Extern.RuntimeError.nothing)).2) h Tryz.func228 he (by kernel_rfl)]; exact p1A args
 · exact(oJ h Tryz.func229 he (by kernel_rfl)).elim
 · exact(oJ h Tryz.func230 he (by kernel_rfl)).elim
 · exact(oJ h Tryz.func231 he (by kernel_rfl)).elim
 · exact(oJ h Tryz.func232 he (by kernel_rfl)).elim
 · exact(oJ h Tryz.func233 he (by kernel_rfl)).elim
 · exact(oJ h Tryz.func234 he (by kernel_rfl)).elim
 · exact(oJ h Tryz.func235 he (by kernel_rfl)).elim
 · exact(oJ h Tryz.func236 he (by kernel_rfl)).elim
 · exact(oJ h Tryz.func237 he (by kernel_rfl)).elim
 · exact(oJ h Tryz.func238 he (by kernel_rfl)).elim
end Go.Proofs.YtggjbblgoddnjaaGreatDoor
namespace Go.Proofs.YtggjbblgoddnjaaGreatDoor
open Go.Conc Go.Lx
theorem uH{P:Program}{fn:Func}{t:Tmp}{Post:Value→World→Prop}{a:Act}{w:World}(h:fn.results=#[.tmp t])(hd:a.defers=[])(hp:Post (a.tmps.getD t undef) w):xS P fn Post .ret a w :=
 ⟨hd,_,fun _ _=>results_tmp h _ P _,hp⟩
structure Lexes (s:ByteArray) (all:List Tok):Prop where
 size:s.size≤20000
 scans:∃ acts,Scans s 0 acts∧sends acts=all.map iQ
 len:all.length≤1000000
theorem Lexes.calls{s:ByteArray}{all:List Tok}(h:Lexes s all)(W:World):CallsG Tryz.prog 101 #[.string s] W (aNA W all):=by
 obtain⟨acts,h1,h2⟩:=h.scans;exact cZA rC s h.size acts h1 all h2 h.len W
def TrueU(W:World)(v:Value)(w:World):Prop:=v = .bool true∧Under W w
theorem TrueU.re{W:World}(v:Value)(w:World)(τ:Nat→Question→Nat)(d:Nat)(h:TrueU W v w):TrueU W v (re w τ d):=⟨h.1,h.2.re τ d⟩
theorem qG {P : Program} {a : Act} {o : Oper} {f : FuncId} {fn : Func} {args : Array Operand} {ats : Array TypeId} {vs : Array Value} (hop : o.op = .call { callee := .value (.func f), args, argTypes := ats }) (hf : P.funcs[f]? = some fn)
    (hname : (fn.name == "runtime.NumGoroutine") = false) (hb : fn.body.isNone = false) (hv : args.map a.eval = vs) (w : World) : (execOp a.eval o).run P w = .ok (.enter f vs) w := by
  have h1 : ¬ fn.name = "runtime.NumGoroutine" := by simpa using hname
  have h2:¬ fn.body=none:=by cases hx:fn.body<;>simp_all
  have e:a.eval (.func f) = .func (.func f) #[] #[]:=rfl;unfold execOp;simp[hop,resolve,Deferred.ofValue,invoke,callFunc,hf,h1,h2,e,hv]
end Go.Proofs.YtggjbblgoddnjaaGreatDoor
