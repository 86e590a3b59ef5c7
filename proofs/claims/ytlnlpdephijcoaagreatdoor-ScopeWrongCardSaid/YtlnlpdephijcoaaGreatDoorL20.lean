/- Part 20 of what the proof rests on. -/
import Derived.Test.YtlnlpdephijcoaaGreatDoorL12
import Derived.Test.YtlnlpdephijcoaaGreatDoorL19
set_option linter.unusedSimpArgs false
set_option linter.unusedVariables false
set_option maxRecDepth 100000
set_option maxHeartbeats 4000000
namespace Go.Proofs.YtlnlpdephijcoaaGreatDoor
open Go.Conc Go.Lx
def T1(ty:TypeId):Prop:=ty=9∨ty=41∨ty=210
theorem fVA:T1 9:=.inl rfl
theorem p2A:T1 41:=.inr (.inl rfl)
theorem b2A:T1 210:=.inr (.inr rfl)
def T0(ty:TypeId):Prop:=ty=174
noncomputable def shared(B c q:Nat)(Fin:Goroutine→World→Prop):Shared :=
 { P:=Tryz.prog,d:=⟨B,c⟩,q:=q,T0:=T0,T1:=T1,tb:=176,z:=vM,zc:=vM,zq:=kV,Fin:=Fin }
inductive Scans (s : ByteArray) : Nat → List SAct → Prop
  | done:Scans s s.size []
  | blank {k i m:Nat} {acts:List SAct} (hk:k < s.size) (hf:First i (s[k]'hk)) (hkd:jCA i=0) (hm:goN i (s.data.toList.drop k)=m) (hmn:k+m≤s.size) (h:Scans s (k+m) acts):Scans s k (.box::acts)
  | token {k i m : Nat} {acts : List SAct} (hk : k < s.size) (hf : First i (s[k]'hk)) (hkd : (jCA i == 0) = false) (hm : goN i (s.data.toList.drop k) = m) (hmn : k + m ≤ s.size) (h : Scans s (k + m) acts) :
      Scans s k (.box :: .send (.agg (gB (jCA i) k (s.extract k (k+m)) 0))::acts)
theorem extract_size(s:ByteArray){k m:Nat}(h:k+m≤s.size):(s.extract k (k+m)).size=m:=by
 simp only[ByteArray.size_extract];omega
def bScan:Frame:={ (default:Frame) with fn:=104,kind:=.deferred }
noncomputable def bL:Frame:={ (default:Frame) with fn:=Tryz.prog.funcs.size,defers:=[],mode:=.panicking [goexitEntry] }
noncomputable def fU:List Item:=[.inLoop eD,.inBlock 0,.inScope (bC gD)]
def bK(c:Nat):List Deferred:=[cK c #[205] 0 #[false]]
section
variable {B c q : Nat} {Fin : Goroutine → World → Prop} {b0 b1 b2 b3 b4 b5 b6 b7 : Nat}
theorem aQA(tmps:Array Value)(w:World):AtClose (shared B c q Fin) (G { bScan.at ⟨tmps,bK c⟩ [] with mode:=.returning } [bL]) w:=by
 refine⟨rfl,rfl,fun s r tm hc=>⟨_,2,iY hc (by kernel_rfl),?_⟩⟩;refine .inr ⟨rfl,G bL [],#[],by simp,fun w=>?_,?_⟩
 · simp[G,stepG,unwind,doReturn,results,Frame.at,bScan,bL,shared,Tryz.func104,Tryz.f104,seen,GStep.after,goexitEntry]
 refine .inr ⟨rfl,{ G bL [] with status:=.finished },#[],by simp,fun w=>?_,rfl,rfl⟩;simp[G,stepG,unwind,bL,goexitEntry,Frame.catches,shared];rfl
theorem gSA {d : Deal} {T : TypeId → Prop} {df : List Deferred} {b : Frame} {kk : List Item} {cs : List Frame} {Stop : Goroutine → World → Prop} {xb : Nat} (s : ByteArray) (k i m n : Nat) (J : Nat → Value) (hk : k < s.size) (hs : s.size ≤ 100000) (hT : T 210)
    (hf:First i (s[k]'hk)) (hm:goN i (s.data.toList.drop k)=m) (hmn:k+m≤s.size) (hxL:∀ p∈sD b0 b1 b2 b3 b4 b5 b6 b7 [],p.1≠xb) (hbf:b.fn=104) (hbk:b.kind≠.early) (w:World)
    (hF:Holds d T (some xb) ((xb,Obj.cells (gB 0 0 ⟨#[]⟩ 0) 176 (0,0))::sD b0 b1 b2 b3 b4 b5 b6 b7 []) w)
    (hc : ∀ J w, Holds d T (some xb) ((xb, Obj.cells (gB (jCA i) k (s.extract k (k + m)) 0) 176 (0, 0)) :: sD b0 b1 b2 b3 b4 b5 b6 b7 []) w →
      Goes Tryz.prog false (Rely d T (some xb)) (Lx.Does d T (some xb)) Stop n (G (b.at ⟨rC s c q b0 (k+m) xb J,df⟩ (.code nQ :: .code iG :: .inBlock 1::kk)) cs) w) :
    Goes Tryz.prog false (Rely d T (some xb)) (Lx.Does d T (some xb)) Stop (n+10000000001000) (G (b.at ⟨(mQ s c q b0 k J).setIfInBounds 8 (.pointer (some ⟨xb,0,none⟩)),df⟩ (.inRegion bS [4] :: .code qG :: .inBlock 1::kk)) cs) w:=by
  refine Goes.mono (jQ (m:=n+10000000000500) (vTA s c q k J hxL w hF) hbf hbk ?_) (by omega);rintro e a' w' h
  cases e with
  | normal =>
    obtain⟨J',rfl,hF'⟩:=h;rw[aLA];refine Goes.mono (vD terms (vD terms (fE (m:=n+10000000000200) (d0A s c q k J' w' hF') hbf hbk ?_))) (by omega);rintro e a' w' h
    cases e with
    | normal =>
      obtain⟨J',rfl,hF'⟩:=h;refine Goes.mono (fE (m:=n+150) (uVA s c q k i m J' hk (by omega) hT rfl hf hm hmn hxL w' hF') hbf hbk ?_) (by omega);rintro e a' w' h
      cases e with
      | normal =>
        obtain⟨J',rfl,hF'⟩:=h;refine Goes.mono (vD terms (fE (m:=n+1) (y9A s (s.extract k (k+m)) c q k m (jCA i) 0 i J' (Lib.hid (extract_size s hmn)) (by omega) w' hF') hbf hbk ?_)) (by omega);rintro e a' w' h
        cases e with
        | normal =>
          obtain⟨J',rfl,hF'⟩:=h;exact vD terms (hc J' w' hF')
        | _=>exact h.elim
      | _=>exact h.elim
    | _=>exact h.elim
  | _=>exact h.elim
abbrev LR(b0 b1 b2 b3 b4 b5 b6 b7:Nat):List (Nat×Obj):=sD b0 b1 b2 b3 b4 b5 b6 b7 []
theorem rUA(s:ByteArray)(hs:s.size≤100000)(k:Nat)(acts:List SAct)(h:Scans s k acts) :
 ∃ m,∀ b0 b1 b2 b3 b4 b5 b6 b7 o J w,(∀ p∈LR b0 b1 b2 b3 b4 b5 b6 b7,uOA ⟨B,c⟩ T1 none p.1 p.2)→Holds ⟨B,c⟩ T1 o (LR b0 b1 b2 b3 b4 b5 b6 b7) w →
  GoS (shared B c q Fin) acts o m (G (bScan.at ⟨oG s c q b0 k J,bK c⟩ (.code eD::fU)) [bL]) w:=by
 induction h with
 | done =>
   refine⟨200,fun b0 b1 b2 b3 b4 b5 b6 b7 o J w hlow hF=>?_⟩;rw[rX];refine Goes.mono (vD terms (fE (m:=10) (uZA s c q s.size J rfl w hF) rfl (by decide) ?_)) (by decide);rintro e a' w' h
   cases e with
   | exit id =>
     obtain⟨he,J',rfl,hF'⟩:=h
     cases he;refine⟨[.inScope (bC gD)],by simp[exitTo,fU],?_⟩;refine Goes.mono (n:=2) (rHA terms (bZA terms ?_)) (by decide);exact fun w₁ _=>aQA _ w₁
   | normal=>exact h.elim
   | _=>cases h.1
 | @blank k i m acts hk hf hkd hm hmn h ih =>
   obtain ⟨m', ih⟩ := ih; refine ⟨120, fun b0 b1 b2 b3 b4 b5 b6 b7 o J w hlow hF => iZA s c q k J hk rfl (by decide) w hF ?_⟩; intro J w₁ hF; obtain ⟨es, hst, hes⟩ := sKA (d := ⟨B, c⟩) (T := T1) (b := bScan) (b0 := b0) (df := bK c) (kk := .code qG :: .inBlock 1 :: fU) (cs := [bL]) s c q k J (by decide) w₁; refine ⟨rfl, _, _, es, hst, ⟨rfl, rfl, rfl, _, _, qD _ _⟩, hes, _, gSA s k i m (m' + 110) J hk hs (.inr (.inr rfl)) hf hm hmn (fun p hp => Nat.ne_of_lt (hF.lt hp)) rfl (by decide) _
     (hF.boxed fun p hp=>?_) fun J w hF=>?_⟩
   · rcases List.mem_cons.1 hp with rfl | hp
     · exact .inl rfl
     · exact .inr ⟨hp,hlow p hp⟩
   · rw [hkd] at hF; refine Goes.mono (fE (m := m' + 1) (xNA s _ c q _ _ J w hF) rfl (by decide) ?_) (by omega); rintro e a' w' h
     cases e with
     | exit id =>
       obtain⟨he,J',rfl,hF'⟩:=h
       cases he;refine⟨fU,by simp[exitTo],?_⟩;refine yT terms ?_;rw[fGA];exact ih _ _ _ _ _ _ _ _ _ _ _ hlow (hF'.weak fun p hp=>List.mem_cons_of_mem _ hp)
     | normal=>exact h.elim
     | _=>cases h.1
 | @token k i m acts hk hf hkd hm hmn h ih =>
   obtain ⟨m', ih⟩ := ih; refine ⟨120, fun b0 b1 b2 b3 b4 b5 b6 b7 o J w hlow hF => iZA s c q k J hk rfl (by decide) w hF ?_⟩; intro J w₁ hF; obtain ⟨es, hst, hes⟩ := sKA (d := ⟨B, c⟩) (T := T1) (b := bScan) (b0 := b0) (df := bK c) (kk := .code qG :: .inBlock 1 :: fU) (cs := [bL]) s c q k J (by decide) w₁; refine ⟨rfl, _, _, es, hst, ⟨rfl, rfl, rfl, _, _, qD _ _⟩, hes, _, gSA s k i m 500 J hk hs (.inr (.inr rfl)) hf hm hmn (fun p hp => Nat.ne_of_lt (hF.lt hp)) rfl (by decide) _
     (hF.boxed fun p hp=>?_) fun J w hF=>?_⟩
   · rcases List.mem_cons.1 hp with rfl | hp
     · exact .inl rfl
     · exact .inr ⟨hp,hlow p hp⟩
   · refine Goes.mono (fE (m := 300) (rPA s _ c q _ _ _ hkd J w hF) rfl (by decide) ?_) (by omega); rintro e a' w' h
     cases e with
     | normal =>
       obtain⟨J',rfl,hF'⟩:=h;rw[qLA];refine Goes.mono (vD terms (vD terms (fE (m:=10) (q4A s _ c q _ _ _ _ J' w' hF') rfl (by decide) ?_))) (by decide);rintro e a' w' h
       cases e with
       | normal =>
         obtain⟨J',rfl,hF'⟩:=h;refine Goes.mono (n:=2) (vD terms (gK terms ?_)) (by decide);intro w₂ hR;have hF2:=hF'.rely hR;refine⟨rfl,e0A (b:=bScan) s c q _ _ J' (by decide) w₂,m'+400,?_⟩
         show Goes _ _ _ _ _ _ ((G (bScan.at ⟨xG s c q b0 _ _ _ J',_⟩ (.inRegion xP [0,1,2,3]::_)) [bL]).finishComm Tryz.prog #[scase c _ vM,rcase q kV] .select 0 undef false) _
         rw[jYA];refine Goes.mono (jQ (m:=m'+300) (bXA s c q _ _ J' w₂ hF2) rfl (by decide) ?_) (by omega);rintro e a' w' h
         cases e with
         | normal =>
           obtain⟨J',rfl,hF'⟩:=h;refine Goes.mono (fE (m:=m'+110) (qTA s c q _ J' w' hF') rfl (by decide) ?_) (by omega);rintro e a' w' h
           cases e with
           | normal =>
             obtain⟨J',rfl,hF'⟩:=h;refine Goes.mono (fE (m:=m'+2) (iTA s _ c q _ _ _ J' w' hF') rfl (by decide) ?_) (by omega);rintro e a' w' h
             cases e with
             | normal =>
               obtain⟨J',rfl,hF'⟩:=h;refine tY terms (yT terms ?_);rw[fGA];exact ih _ _ _ _ _ _ _ _ _ _ _ hlow (hF'.weak fun p hp=>List.mem_cons_of_mem _ hp)
             | _=>exact h.elim
           | _=>exact h.elim
         | _=>exact h.elim
       | _=>exact h.elim
     | _=>exact h.elim
noncomputable def pWA:Array Oper:=opsOf (rA (bC gD))
theorem gMA:gD = .scope (.seq (.region 0 pWA false) (.seq (rA (dA (bC gD))) (.seq (.label 0) (.seq (rA (dA (dA (dA (bC gD))))) (.block 0 (.loop eD)))))):=by rfl
def aI(s:ByteArray)(c q:Nat)(J:Nat→Value):Array Value:=#[.string s,.chan (some c),.chan (some q),J 3,J 4,J 5,J 6,J 7,J 8,J 9,J 10,J 11,J 12,J 13,J 14,J 15,J 16,J 17,J 18,J 19,J 20,J 21,J 22,J 23,J 24,J 25,J 26,J 27,J 28,J 29,J 30,J 31,J 32,J 33,J 34,J 35,J 36,J 37,J 38,J 39,J 40,J 41,J 42,J 43,J 44,J 45,J 46,J 47,J 48,J 49,J 50,J 51,J 52,J 53,J 54,J 55,J 56,J 57,J 58,J 59,J 60,J 61,J 62,J 63,J 64,J 65,J 66,J 67,J 68,J 69,J 70,J 71,J 72,J 73,J 74,J 75]
def wQ(s:ByteArray)(c q b0:Nat)(J:Nat→Value):Array Value:=#[.string s,.chan (some c),.chan (some q),J 3,J 4,J 5,.slice (some ⟨b0,0,none⟩) 5 5,J 7,J 8,J 9,J 10,J 11,J 12,J 13,J 14,J 15,J 16,J 17,J 18,J 19,J 20,J 21,J 22,J 23,J 24,J 25,J 26,J 27,J 28,J 29,J 30,J 31,J 32,J 33,J 34,J 35,J 36,J 37,J 38,J 39,J 40,J 41,J 42,J 43,J 44,J 45,J 46,J 47,J 48,J 49,J 50,J 51,J 52,J 53,J 54,J 55,J 56,J 57,J 58,J 59,J 60,J 61,J 62,J 63,J 64,J 65,J 66,J 67,J 68,J 69,J 70,J 71,J 72,J 73,J 74,J 75]
theorem aNA{d:Deal}{o:Option Nat}{df:List Deferred}(s:ByteArray)(J:Nat→Value)(w:World)(hF:Holds d T1 o [] w) :
 Code.wpC Tryz.prog false (Rely d T1 o) (Lx.Does d T1 o) 104 (rA (dA (bC gD))) 2000
   (Exit.then (fun a' w'=>∃ b0 b1 b2 b3 b4 b5 b6 b7,∃ J',a'=⟨wQ s c q b0 J',df⟩∧Holds d T1 o (LR b0 b1 b2 b3 b4 b5 b6 b7) w') (fun _ _ _=>False))
   ⟨aI s c q J,df⟩ w:=by
 unfold gD;simp only[Tryz.f104,Option.getD_some,rA,dA,bC,aI,wQ];co_apply wpC_more
 · co_reg terms
   co_apply dH terms rfl (by rfl) rfl (b3A fVA p2A b2A _ hF) (by simp);rintro v w ⟨b0,b1,b2,b3,b4,b5,b6,b7,rfl,hF⟩
   try walk_nrm
   co_op Holds.rely hF (co_quiet terms);co_apply opsC_nil terms;co_then;exact⟨b0,b1,b2,b3,b4,b5,b6,b7,nA (by rfl) hF⟩
 · decide
theorem fKA{d:Deal}{o:Option Nat}{df:List Deferred}{L:List (Nat×Obj)}(s:ByteArray)(J:Nat→Value)(w:World)(hF:Holds d T1 o L w) :
 Code.wpC Tryz.prog false (Rely d T1 o) (Lx.Does d T1 o) 104 (rA (dA (dA (dA (bC gD))))) 20
   (Exit.then (fun a' w'=>∃ J',a'=⟨oG s c q b0 (0:Nat) J',df⟩∧Holds d T1 o L w') (fun _ _ _=>False))
   ⟨wQ s c q b0 J,df⟩ w:=by
 unfold gD;simp only[Tryz.f104,Option.getD_some,rA,dA,bC,oG,wQ];co_apply wpC_more
 · co_reg terms
   co_op Holds.rely hF (co_quiet terms);co_apply opsC_nil terms;co_then;exact nA (by rfl) hF
 · decide
def tQ(s:ByteArray)(c q:Nat):Deferred:={ target:=.fn (.func 104) #[],args:=#[.string s,.chan (some c),.chan (some q)] }
theorem hUA(s:ByteArray)(w:World):stepG Tryz.prog false (born Tryz.prog (tQ s c q)) w = .go (G (bScan.at ⟨aI s c q (fun _=>undef),[]⟩ [.code gD]) [bL]) w #[]:=by
 simp[born,tQ,stepG,unwind,callDeferred,invoke,callFunc,Tryz.func104,Tryz.f104,seen,GStep.after,G,Frame.enter,Frame.at,bScan,bL,gD,aI]
theorem oTA(s:ByteArray)(hs:s.size≤100000)(acts:List SAct)(h:Scans s 0 acts)(w:World)(hF:Holds ⟨B,c⟩ T1 none [] w) :
 ∃ m,GoS (shared B c q Fin) acts none m (born Tryz.prog (tQ s c q)) w:=by
 obtain⟨m,hm⟩:=rUA (B:=B) (c:=c) (q:=q) (Fin:=Fin) s hs 0 acts h;refine⟨m+3000,Goes.mono (n:=m+2500+1) (Goes.step rfl fun w₁ h₁=>?_) (by omega)⟩
 show GStep.goes (stepG Tryz.prog false (born Tryz.prog (tQ s c q)) w₁) _
 rw [hUA]; refine ⟨Does.idle _, ?_⟩; replace hF := hF.rely h₁; rw [gMA]; refine Goes.mono (n := m + 2300 + 1 + 1 + 1 + 1 + 1) (yOA terms (vD terms (gK terms ?_))) (by omega); have ho0 : pWA[0]? = some { dst := some 12, op := .move (.tmp 1), type := 205, pos := "lexer.go:65", after := #[], guard := none } := by rfl
 have ho1 : pWA[1]? = some { dst := none, op := .defer { callee := .builtin .close, args := #[.tmp 12], argTypes := #[205] }, type := 0, pos := "lexer.go:65", after := #[{ on := 0, ground := .data }], guard := none } := by rfl
 show Goes _ _ _ _ _ _ (G (bScan.at _ (.inRegion pWA [0,1]::_)) _) _
 refine wY ho0 (by rfl) (by decide) fun w₂ h₂ K hK=>?_
 replace hF := hF.rely h₂; have hl0 : listed Tryz.prog bScan.fn ⟨aI s c q (fun _ => undef), []⟩ { dst := some 12, op := .move (.tmp 1), type := 205, pos := "lexer.go:65", after := #[], guard := none } w₂ = #[] := listed_nil rfl
 change uponK _ _ K (Result.ok (Next.value (.chan (some c))) w₂)
 refine hK _ _ ⟨by show Lx.Does _ _ _ _ _ (listed Tryz.prog bScan.fn _ _ _);rw[hl0];exact Does.idle _,?_⟩;have he12:(Act.put ⟨aI s c q (fun _=>undef),[]⟩ (some 12) (.chan (some c))).eval (.tmp 12) = .chan (some c):=rfl;refine aOA terms ho1 (by rfl) (by decide) (dd:=cK c #[205] 0 #[false]) (fun _=>by unfold execOp;simp[resolve,cK,he12]) (fun _=>by unfold execOp;simp[resolve]) ?_;have hfr:Act.put ⟨(Act.put ⟨aI s c q (fun _=>undef),[]⟩ (some 12) (.chan (some c))).tmps,cK c #[205] 0 #[false]::[]⟩ none undef=⟨aI s c q (fun n=>((aI s c q (fun _=>undef)).setIfInBounds 12 (.chan (some c))).getD n undef),bK c⟩:=by rfl
 change Goes Tryz.prog false _ _ _ _ (G (bScan.at (Act.put ⟨(Act.put ⟨aI s c q (fun _=>undef),[]⟩ (some 12) (.chan (some c))).tmps,cK c #[205] 0 #[false]::[]⟩ none undef) (.inRegion pWA []::_)) _) _
 rw[hfr];refine Goes.mono (jQ (m:=m+2200) (fn:=104) (Q:=Exit.then (fun a' w'=>a'=⟨aI s c q (fun n=>((aI s c q (fun _=>undef)).setIfInBounds 12 (.chan (some c))).getD n undef),bK c⟩∧Holds ⟨B,c⟩ T1 none [] w') (fun _ _ _=>False)) (opsC_nil terms ⟨rfl,hF⟩) rfl (by decide) ?_) (by omega);rintro e a' w' h
 cases e with
 | normal =>
   obtain⟨rfl,hF⟩:=h;refine Goes.mono (vD terms (fE (m:=m+100) (aNA s _ w' hF) rfl (by decide) ?_)) (by omega);rintro e a' w' h
   cases e with
   | normal =>
     obtain⟨b0,b1,b2,b3,b4,b5,b6,b7,J',rfl,hF⟩:=h;have hlow:=hF.safe;refine Goes.mono (vD terms (fE (m:=m+50) (Q:=Exit.then (fun a' w'=>a'=⟨wQ s c q b0 J',bK c⟩∧Holds ⟨B,c⟩ T1 none (LR b0 b1 b2 b3 b4 b5 b6 b7) w') (fun _ _ _=>False)) (wpC_label terms ⟨rfl,hF⟩) rfl (by decide) ?_)) (by omega);rintro e a' w' h
     cases e with
     | normal =>
       obtain⟨rfl,hF⟩:=h;refine Goes.mono (vD terms (fE (m:=m+3) (fKA s J' w' hF) rfl (by decide) ?_)) (by omega);rintro e a' w' h
       cases e with
       | normal =>
         obtain⟨J',rfl,hF⟩:=h;exact Goes.mono (qR terms (nHA terms (hm _ _ _ _ _ _ _ _ _ _ _ hlow hF))) (by omega)
       | _=>exact h.elim
     | _=>exact h.elim
   | _=>exact h.elim
 | _=>exact h.elim
end
noncomputable def pE:Code:=Tryz.f73.body.getD .skip
noncomputable def rE:Code:=dA (dA pE)
noncomputable def dHA:Array Oper:=opsOf (rA (dA (dA rE)))
noncomputable def nE:Code:=dA (dA (dA rE))
noncomputable def tJ:Code:=rA (dA nE)
noncomputable def lexEnd:Code:=dA (dA nE)
noncomputable def xD:Code:=bC (bC (dA tJ))
noncomputable def pK:Array Oper:=opsOf (rA xD)
noncomputable def vE:Code:=bC (dA (dA xD))
noncomputable def lCA:Array Oper:=opsOf (rA vE)
theorem gAA:xD = .seq (.region 8 pK false) (.seq (rA (dA xD)) (.block 1 (.seq (.region 9 lCA false) (.seq (rA (dA vE)) (dA (dA vE)))))):=by rfl
theorem iLA:nE = .seq (rA nE) (.seq (.seq (rA tJ) (.block 0 (.loop xD))) lexEnd):=by rfl
def rD(s:ByteArray)(c q:Nat)(v:Value)(J:Nat→Value):Array Value :=
 #[.string s, J 1, J 2, J 3, J 4, .chan (some c), .chan (some q), v, J 8, J 9, J 10, J 11, J 12, J 13, J 14, J 15, J 16, J 17, .chan (some c), J 19, J 20, J 21, J 22, J 23, J 24, J 25, J 26, J 27, J 28, J 29, J 30, J 31, J 32, J 33, J 34, J 35]
def eU(s:ByteArray)(c q:Nat)(v x:Value)(J:Nat→Value):Array Value :=
 #[.string s, J 1, J 2, J 3, J 4, .chan (some c), .chan (some q), v, J 8, J 9, J 10, J 11, J 12, J 13, J 14, J 15, J 16, J 17, .chan (some c), J 19, J 20, x, J 22, J 23, J 24, J 25, J 26, J 27, J 28, J 29, J 30, J 31, J 32, J 33, J 34, J 35]
def mW(s:ByteArray)(c q:Nat)(v:Value)(xb:Nat)(J:Nat→Value):Array Value :=
 #[.string s, J 1, J 2, J 3, J 4, .chan (some c), .chan (some q), v, .pointer (some ⟨xb, 0, none⟩), J 9, J 10, J 11, J 12, J 13, J 14, J 15, J 16, J 17, .chan (some c), J 19, J 20, J 21, J 22, J 23, J 24, J 25, J 26, J 27, J 28, J 29, J 30, J 31, J 32, J 33, J 34, J 35]
section
variable {d : Deal} {o : Option Nat} {L : List (Nat × Obj)} {w0 : World} {v : Value} {n : Nat} {xs : List Value} {df : List Deferred} {b : Frame} {kk : List Item} {cs : List Frame} {Stop : Goroutine → World → Prop}
abbrev MX(d:Deal)(L:List (Nat×Obj))(w0:World)(v:Value)(n:Nat)(xs:List Value)(o:Option Nat)(w:World):Prop:=MH d T0 174 3 L w0 v n xs o w
theorem kMA(s:ByteArray)(c q:Nat)(J:Nat→Value)(hbk:b.kind≠.early)(w:World) :
 stepG Tryz.prog true (G (b.at ⟨rD s c q v J, df⟩ (.inRegion pK [0, 1] :: kk)) cs) w =
   .comm (G (b.at ⟨rD s c q v J,df⟩ (.inRegion pK [0,1]::kk)) cs) #[rcase c vM] true (.recv true) w #[]:=by
 have ho : pK[0]? = some { dst := some 19, op := .recv 170 (.tmp 18) true, type := 0, pos := "lexer.go:101", after := #[], guard := none } := by rfl
 have he1 : (⟨rD s c q v J, df⟩ : Act).eval (.tmp 18) = .chan (some c) := rfl; have hr : (execOp (⟨rD s c q v J, df⟩ : Act).eval { dst := some 19, op := .recv 170 (.tmp 18) true, type := 0, pos := "lexer.go:101", after := #[], guard := none }).run Tryz.prog w = .ok (.comm #[rcase c vM] true (.recv true)) w := by
  unfold execOp;simp[rcase,he1,vM,gB]
 have hl : (execOp (⟨rD s c q v J, df⟩ : Act).eval { dst := some 19, op := .recv 170 (.tmp 18) true, type := 0, pos := "lexer.go:101", after := #[], guard := none }).events Tryz.prog w #[] = #[] := by
  unfold execOp;simp
 rw[stepG_comm ho (by rfl) hbk hr,listed_nil hl]
theorem xMA(s:ByteArray)(c q:Nat)(x:Value)(ok:Bool)(J:Nat→Value) :
 (G (b.at ⟨rD s c q v J, df⟩ (.inRegion pK [0, 1] :: kk)) cs).finishComm Tryz.prog #[rcase c vM] (.recv true) 0 x ok =
   G (b.at ⟨(rD s c q v J).setIfInBounds 19 (.tuple #[x,.bool ok]),df⟩ (.inRegion pK [1]::kk)) cs:=by
 have ho:(pK[0]?).bind (·.dst)=some 19:=by rfl
 have hr:commResult #[rcase c vM] (.recv true) 0 x ok = .tuple #[x,.bool ok]:=by rfl
 simp only[Goroutine.finishComm,G,hr,Frame.finish_at,ho];rfl
theorem i0A(s:ByteArray)(c q:Nat)(x:Value)(J:Nat→Value)(w:World)(hF:MX d L w0 v n xs o w) :
 OpsC Tryz.prog true (Rely d T0 o) (Lx.Does d T0 o) 73 pK [1] 10
   (Exit.then (fun a' w'=>∃ J',a'=⟨((rD s c q v J').setIfInBounds 19 (.tuple #[x,.bool true])).setIfInBounds 20 (.bool true),df⟩∧MX d L w0 v n xs o w') (fun _ _ _=>False))
   ⟨(rD s c q v J).setIfInBounds 19 (.tuple #[x,.bool true]),df⟩ w:=by
 have he:pK=opsOf (rA xD):=rfl;rw[he];clear he;unfold xD tJ nE rE pE;simp only[Tryz.f73,Option.getD_some,rA,dA,bC,opsOf,rD,List.setIfInBounds_toArray,List.set_cons_succ,List.set_cons_zero];co_apply opsC_more
 · co_op MH.rely hF (co_quiet terms);co_apply opsC_nil terms;co_then;exact nA (by rfl) hF
 · decide
theorem tWA(s:ByteArray)(c q:Nat)(x:Value)(J:Nat→Value)(w:World)(hF:MX d L w0 v n xs o w) :
 Code.wpC Tryz.prog true (Rely d T0 o) (Lx.Does d T0 o) 73 (rA (dA xD)) 100
   (Exit.then (fun a' w'=>∃ J',a'=⟨(rD s c q v J').setIfInBounds 19 (.tuple #[x,.bool true]),df⟩∧MX d L w0 v n xs o w') (fun _ _ _=>False))
   ⟨((rD s c q v J).setIfInBounds 19 (.tuple #[x,.bool true])).setIfInBounds 20 (.bool true),df⟩ w:=by
 unfold xD tJ nE rE pE;simp only[Tryz.f73,Option.getD_some,rA,dA,bC,rD,List.setIfInBounds_toArray,List.set_cons_succ,List.set_cons_zero];co_apply wpC_more
 · skip
   co_apply wpC_cond (t:=true) terms rfl;simp only[if_true];co_ctl terms;co_then;exact nA (by rfl) hF
 · decide
theorem iAB (s : ByteArray) (c q : Nat) (x : Value) (J : Nat → Value) (hbf : b.fn = 73) (hbk : b.kind ≠ .early) (w : World) (hF : MX d L w0 v n xs o w)
    (hS:∀ J w₁,MX d L w0 v n xs o w₁→Stop (G (b.at ⟨eU s c q v x J,df⟩ (.inRegion lCA [1,2] :: .code (.seq (rA (dA vE)) (dA (dA vE))) :: .inBlock 1::kk)) cs) w₁) :
    Goes Tryz.prog true (Rely d T0 o) (Lx.Does d T0 o) Stop 200 (G (b.at ⟨(rD s c q v J).setIfInBounds 19 (.tuple #[x,.bool true]),df⟩ (.inRegion pK [1] :: .code (.seq (rA (dA xD)) (.block 1 (.seq (.region 9 lCA false) (.seq (rA (dA vE)) (dA (dA vE))))))::kk)) cs) w:=by
  refine Goes.mono (jQ (m:=150) (i0A s c q x J w hF) hbf hbk ?_) (by decide);rintro e a' w' h
  cases e with
  | normal =>
    clear hF;obtain⟨J',rfl,hF⟩:=h;refine Goes.mono (vD terms (fE (m:=10) (tWA s c q x J' w' hF) hbf hbk ?_)) (by decide);rintro e a' w' h
    cases e with
    | normal =>
      clear hF;obtain⟨J',rfl,hF⟩:=h;refine Goes.mono (n:=1+1+1+1) (n':=10) (qR terms (vD terms (gK terms ?_))) (by decide);have he:lCA=opsOf (rA vE):=rfl;rw[he]at hS ⊢;generalize hg:Code.seq (rA (dA vE)) (dA (dA vE))=rest at hS ⊢;clear hg he;unfold vE xD tJ nE rE pE at hS ⊢;simp only[Tryz.f73,Option.getD_some,rA,dA,bC,opsOf,rD,List.setIfInBounds_toArray,List.set_cons_succ,List.set_cons_zero,List.size_toArray,List.length_cons,List.length_nil,Nat.reduceAdd,Nat.zero_add,List.range,List.range.loop]at hS ⊢;co_apply wY rfl (by rfl) hbk;intro _ hR K hK;replace hF:=MH.rely hF hR;clear hR;go_simp;refine hK _ _ ⟨?_,?_⟩
      · co_quiet terms
      clear hK K
      try walk_nrm
      exact lGA fun w₁ hR=>dSA hS (by rfl) w₁ (MH.rely hF hR)
    | _=>exact h.elim
  | _=>exact h.elim
theorem v7A(s:ByteArray)(c q:Nat)(x:Value)(J:Nat→Value)(hbk:b.kind≠.early)(w:World) :
 ∃ es, stepG Tryz.prog true (G (b.at ⟨eU s c q v x J, df⟩ (.inRegion lCA [1, 2] :: kk)) cs) w =
   .go (G (b.at ⟨(eU s c q v x J).setIfInBounds 8 (.pointer (some ⟨w.heap.size,0,none⟩)),df⟩ (.inRegion lCA [2]::kk)) cs) (w.alloc (.cells (gB 0 0 ⟨#[]⟩ 0) 176 (0,0))) es∧∀ e∈es,uW d T0 (some w.heap.size) (w.alloc (.cells (gB 0 0 ⟨#[]⟩ 0) 176 (0,0))) e:=by
 have ho : lCA[1]? = some { dst := some 8, op := .alloc 176, type := 0, pos := "lexer.go:101", after := #[], guard := none } := by rfl
 refine⟨_,stepG_value ho (by rfl) hbk (v:=.pointer (some ⟨w.heap.size,0,none⟩)) ?_,?_⟩
 · refine yGA fun K hK => ?_
   go_simp;exact hK
 · rw[listed_nil (by simp[go_sem])];simp
end
theorem rO:T0 174:=rfl
theorem Tryz.info174:(Tryz.prog.info? 174).map (fun i=>(i.zero,i.size,i.bytes))=some (some (.agg #[.int .i64 0,.int .i64 0,.string ⟨#[]⟩]),3,32):=by kernel_rfl
section
variable {d : Deal} {o : Option Nat} {L : List (Nat × Obj)} {w0 : World} {v : Value} {n xb : Nat} {xs : List Value} {df : List Deferred}
theorem k2A(s x:ByteArray)(c q k:Nat)(kd e:Int)(J:Nat→Value)(hv:v.ownBlock≠some xb)(w:World)(hF:MX d [(xb,Obj.cells (gB 0 0 ⟨#[]⟩ 0) 176 (0,0))] w0 v n xs (some xb) w) :
 OpsC Tryz.prog true (Rely d T0 (some xb)) (Lx.Does d T0 (some xb)) 73 lCA [2] 10
   (Exit.then (fun a' w'=>∃ J',a'=⟨mW s c q v xb J',df⟩∧MX d [(xb,Obj.cells (gB kd k x e) 176 (0,0))] w0 v n xs (some xb) w') (fun _ _ _=>False))
   ⟨(eU s c q v (.agg (gB kd k x e)) J).setIfInBounds 8 (.pointer (some ⟨xb,0,none⟩)),df⟩ w:=by
 have he:lCA=opsOf (rA vE):=rfl;rw[he];clear he;unfold vE xD tJ nE rE pE;simp only[Tryz.f73,Option.getD_some,rA,dA,bC,opsOf,eU,mW,gB,List.setIfInBounds_toArray,List.set_cons_succ,List.set_cons_zero]at hF ⊢;co_apply opsC_more
 · co_opw MH.rely hF (have hm : (xb, Obj.cells #[.int .i64 0, .int .i64 ((0 : Nat) : Int), .string ⟨#[]⟩, .int .i64 0] 176 (0, 0)) ∈ [(xb, Obj.cells #[.int .i64 0, .int .i64 ((0 : Nat) : Int), .string ⟨#[]⟩, .int .i64 0] 176 (0, 0))] := List.mem_cons_self; have hc0 : _ = some _ := hF.holds.cell hm 0; have hc1 : _ = some _ := hF.holds.cell hm 1; have hc2 : _ = some _ := hF.holds.cell hm 2; have hc3 : _ = some _ := hF.holds.cell hm 3; have hf0 := hF.holds.frozen hm 0; have hf1 := hF.holds.frozen hm 1; have hf2 := hF.holds.frozen hm 2; have hf3 := hF.holds.frozen hm 3) (have ho := hF.holds.boxOwn; have ht := Turn.set4 ho (hF.holds.lt hm) hF.holds.big (.int .i64 kd) (.int .i64 (k : Int)) (.string x) (.int .i64 e); refine ⟨ht, ?_⟩; have ho2 := ht.own_fwd (hF.holds.lt hm) ho; clear ht ho; have es := mR Tryz.prog; intro e he; have hm := mem_listed he; simp [go_sem, *] at hm; rcases hm with rfl | rfl | rfl | rfl <;> exact rQ ho2 _ _ _)
   replace hF:=hF.set4 hv (.int .i64 kd) (.int .i64 (k:Int)) (.string x) (.int .i64 e);co_apply opsC_nil terms;co_then;exact nA (by rfl) hF
 · decide
theorem j6A(s x:ByteArray)(c q k:Nat)(kd:Int)(J:Nat→Value)(w:World)(hF:MX d [(xb,Obj.cells (gB kd k x 0) 176 (0,0))] w0 v n xs (some xb) w) :
 Code.wpC Tryz.prog true (Rely d T0 (some xb)) (Lx.Does d T0 (some xb)) 73 (rA (dA vE)) 100
   (Exit.then (fun a' w'=>∃ J',a'=⟨mW s c q v xb J',df⟩∧MX d [(xb,Obj.cells (gB kd k x 0) 176 (0,0))] w0 v n xs (some xb) w') (fun _ _ _=>False))
   ⟨mW s c q v xb J,df⟩ w:=by
 have hm:(xb,Obj.cells (gB kd k x 0) 176 (0,0))∈[(xb,Obj.cells (gB kd k x 0) 176 (0,0))]:=List.mem_cons_self;unfold vE xD tJ nE rE pE;simp only[Tryz.f73,Option.getD_some,rA,dA,bC,mW];co_apply wpC_more
 · co_apply wpC_seq terms
   co_reg terms
   co_op MH.rely hF (co_quiet terms)
   co_opw MH.rely hF (have hc:_=some (Value.int .i64 0):=hF.holds.cell hm 3) (refine Does.reads ?_;co_evs (exact hF.holds.read hm _ _))
   clear hc;co_op MH.rely hF (co_quiet terms);co_apply opsC_nil terms;co_then;co_apply wpC_cond (t:=false) terms rfl;simp only[Bool.false_eq_true,if_false];co_ctl terms;co_then;exact nA (by rfl) hF
 · decide
theorem t0A(s x:ByteArray)(c q k:Nat)(kd:Int)(J:Nat→Value)(hn:n≤1000000)(w:World)(hF:MX d [(xb,Obj.cells (gB kd k x 0) 176 (0,0))] w0 v n xs (some xb) w) :
 Code.wpC Tryz.prog true (Rely d T0 (some xb)) (Lx.Does d T0 (some xb)) 73 (dA (dA vE)) 100
   (Exit.then (fun a' w'=>∃ v',(∃ J',a'=⟨rD s c q v' J',df⟩∧MX d [] w0 v' (n+1) (xs++[.int .i64 kd,.int .i64 (k:Int),.string x]) (some xb) w')) (fun _ _ _=>False))
   ⟨mW s c q v xb J,df⟩ w:=by
 have hm:(xb,Obj.cells (gB kd k x 0) 176 (0,0))∈[(xb,Obj.cells (gB kd k x 0) 176 (0,0))]:=List.mem_cons_self;obtain⟨i0,hi,hz⟩:=Option.map_eq_some_iff.1 Tryz.info174;simp only[Prod.mk.injEq]at hz;obtain⟨hz0,hz1,hz2⟩:=hz;have HI:=Lib.hid hi;have HZ0:=Lib.hid hz0;have HZ1:=Lib.hid hz1;have HZ2:=Lib.hid hz2;clear hi hz0 hz1 hz2;unfold vE xD tJ nE rE pE;simp only[Tryz.f73,Option.getD_some,rA,dA,bC,mW,rD];co_apply wpC_more
 · co_reg terms
   co_op MH.rely hF (co_quiet terms);co_op MH.rely hF (co_quiet terms)
   co_opw MH.rely hF (have hc0:_=some (Value.int .i64 kd):=hF.holds.cell hm 0;have hc1:_=some (Value.int .i64 (k:Int)):=hF.holds.cell hm 1;have hc2:_=some (Value.string x):=hF.holds.cell hm 2) (refine Does.reads ?_;intro e he;have hm:=mem_listed he;simp[go_sem, *]at hm;rcases hm with rfl | rfl | rfl<;>exact hF.holds.read hm _ _)
   clear hc0 hc1 hc2
   co_opw MH.rely hF (skip) (refine⟨Turn.alloc rO hF.holds.box,?_⟩;co_evs (skip))
   have hBn:=hF.holds.big;replace hF:=hF.cons #[.int .i64 kd,.int .i64 (k:Int),.string x] rO
   revert hBn hF
   generalize Array.size (World.heap _)=nb;intro hBn hF;co_apply opsC_cons_k rfl (by rfl);intro w1 hR K hK;replace hF:=MH.rely hF hR;clear hR;have hmn:(nb,Obj.cells #[.int .i64 kd,.int .i64 (k:Int),.string x] 174 (0,0))∈(nb,Obj.cells #[.int .i64 kd,.int .i64 (k:Int),.string x] 174 (0,0))::[(xb,Obj.cells (gB kd k x 0) 176 (0,0))]:=List.mem_cons_self;have hnews:∀ j u,[Value.int .i64 kd,.int .i64 (k:Int),.string x][j]? = some u→w1.cell? ((⟨nb,0,none⟩:Addr).add j)=some u:=by
    intro j u hu;rw[n0A,hF.holds.cell hmn j]
    simpa using hu
   have h1:∀ u∈[Value.int .i64 kd,.int .i64 (k:Int),.string x],u.oneCell'=true:=by
    intro u hu;simp only[List.mem_cons,List.not_mem_nil,or_false]at hu;rcases hu with rfl | rfl | rfl<;>rfl
   have hmx:n+1≤maxLen:=by simp only[maxLen];omega
   have hby:(n+1) * 32≤140737488355328:=by omega
   obtain⟨v',w',hr,hown',hg,ht⟩:=eKA (P:=Tryz.prog) (d:=d) (T:=T0) (o:=some xb) w1 133 133 174 i0 _ 3 32 Tryz.underlying133 HI.out HZ0.out HZ1.out HZ2.out rfl (by decide) v n xs hF.own ⟨nb,0,none⟩ 1 1 [.int .i64 kd,.int .i64 (k:Int),.string x] (by decide) rfl hnews h1 hmx hby rO hF.holds.big hF.holds.box;have hev:=events_append_where (P:=Tryz.prog) w1 d.B 133 133 174 i0 _ 3 32 Tryz.underlying133 HI.out HZ0.out HZ1.out HZ2.out v n xs hF.own ⟨nb,0,none⟩ 1 1 [.int .i64 kd,.int .i64 (k:Int),.string x] rfl hnews h1 hmx hby;refine uponK_append (.tmp 30) (.tmp 33) 133 rfl rfl rfl hr (hK _ _ ⟨⟨ht,?_⟩,?_⟩)
   · intro e he; have hm := mem_listed he; rw [events_append_op (.tmp 30) (.tmp 33) 133 rfl rfl rfl] at hm; rcases hev e hm with ⟨ad, hl, hcase⟩ | ⟨m, rfl, hneu⟩
     · rcases hcase with ⟨_, hb⟩ | hb
       · have hb:ad.block=nb:=hb;exact tMA hl (hb▸ht.own_fwd (hF.holds.lt hmn) (hF.holds.mine hmn hBn rO))
       · obtain⟨h1,h2⟩:=vPA (o:=some xb) rO hF.own hb.symm;exact tMA hl (ht.own_fwd h2 h1)
     · exact vVA hneu
   replace hF:MX d [] w0 v' (n+1) (xs++[.int .i64 kd,.int .i64 (k:Int),.string x]) (some xb) w' :=
    ⟨⟨by simp,by simp,Nat.le_trans hF.holds.big ht.size,fun b hb=>Nat.lt_of_lt_of_le (hF.holds.box b hb) ht.size⟩,hown',hF.low.turn ht hF.holds.big hF.boxB,rO,hF.boxB⟩
   clear hK K hnews h1 hr hown' hg ht hev hmn hBn
   try walk_nrm
   co_op MH.rely hF (co_quiet terms);co_apply opsC_nil terms;co_then;exact⟨v',nA (by rfl) hF⟩
 · decide
end
end Go.Proofs.YtlnlpdephijcoaaGreatDoor
