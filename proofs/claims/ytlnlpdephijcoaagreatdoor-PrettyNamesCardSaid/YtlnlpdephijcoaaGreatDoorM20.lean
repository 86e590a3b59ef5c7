/- Part 20 of what the proof rests on. -/
import Derived.Test.YtlnlpdephijcoaaGreatDoorM10
import Derived.Test.YtlnlpdephijcoaaGreatDoorM19
set_option linter.unusedSimpArgs false
set_option linter.unusedVariables false
set_option maxRecDepth 100000
set_option maxHeartbeats 4000000
namespace Go.Proofs.YtlnlpdephijcoaaGreatDoor
open Go.Conc Go.Lx
def T1(ty:TypeId):Prop:=ty=9∨ty=41∨ty=210
theorem l0A:T1 9:=.inl rfl
theorem k7A:T1 41:=.inr (.inl rfl)
theorem r7A:T1 210:=.inr (.inr rfl)
def T0(ty:TypeId):Prop:=ty=174
noncomputable def shared(B c q:Nat)(Fin:Goroutine→World→Prop):Shared :=
 { P:=Tryz.prog,d:=⟨B,c⟩,q:=q,T0:=T0,T1:=T1,tb:=176,z:=jN,zc:=jN,zq:=eX,Fin:=Fin }
inductive Scans (s : ByteArray) : Nat → List SAct → Prop
  | done:Scans s s.size []
  | blank {k i m:Nat} {acts:List SAct} (hk:k < s.size) (hf:First i (s[k]'hk)) (hkd:eEA i=0) (hm:goN i (s.data.toList.drop k)=m) (hmn:k+m≤s.size) (h:Scans s (k+m) acts):Scans s k (.box::acts)
  | token {k i m : Nat} {acts : List SAct} (hk : k < s.size) (hf : First i (s[k]'hk)) (hkd : (eEA i == 0) = false) (hm : goN i (s.data.toList.drop k) = m) (hmn : k + m ≤ s.size) (h : Scans s (k + m) acts) :
      Scans s k (.box :: .send (.agg (fB (eEA i) k (s.extract k (k+m)) 0))::acts)
theorem extract_size(s:ByteArray){k m:Nat}(h:k+m≤s.size):(s.extract k (k+m)).size=m:=by
 simp only[ByteArray.size_extract];omega
def bScan:Frame:={ (default:Frame) with fn:=104,kind:=.deferred }
noncomputable def dL:Frame:={ (default:Frame) with fn:=Tryz.prog.funcs.size,defers:=[],mode:=.panicking [goexitEntry] }
noncomputable def fU:List Item:=[.inLoop mD,.inBlock 0,.inScope (oC jD)]
def bK(c:Nat):List Deferred:=[cK c #[205] 0 #[false]]
section
variable {B c q : Nat} {Fin : Goroutine → World → Prop} {b0 b1 b2 b3 b4 b5 b6 b7 : Nat}
theorem rQA(tmps:Array Value)(w:World):AtClose (shared B c q Fin) (G { bScan.at ⟨tmps,bK c⟩ [] with mode:=.returning } [dL]) w:=by
 refine⟨rfl,rfl,fun s r tm hc=>⟨_,2,o8 hc (by kernel_rfl),?_⟩⟩;refine .inr ⟨rfl,G dL [],#[],by simp,fun w=>?_,?_⟩
 · simp[G,stepG,unwind,doReturn,results,Frame.at,bScan,dL,shared,Tryz.func104,Tryz.f104,seen,GStep.after,goexitEntry]
 refine .inr ⟨rfl,{ G dL [] with status:=.finished },#[],by simp,fun w=>?_,rfl,rfl⟩;simp[G,stepG,unwind,dL,goexitEntry,Frame.catches,shared];rfl
theorem nVA {d : Deal} {T : TypeId → Prop} {df : List Deferred} {b : Frame} {kk : List Item} {cs : List Frame} {Stop : Goroutine → World → Prop} {xb : Nat} (s : ByteArray) (k i m n : Nat) (J : Nat → Value) (hk : k < s.size) (hs : s.size ≤ 100000) (hT : T 210)
    (hf:First i (s[k]'hk)) (hm:goN i (s.data.toList.drop k)=m) (hmn:k+m≤s.size) (hxL:∀ p∈fE b0 b1 b2 b3 b4 b5 b6 b7 [],p.1≠xb) (hbf:b.fn=104) (hbk:b.kind≠.early) (w:World)
    (hF:Holds d T (some xb) ((xb,Obj.cells (fB 0 0 ⟨#[]⟩ 0) 176 (0,0))::fE b0 b1 b2 b3 b4 b5 b6 b7 []) w)
    (hc : ∀ J w, Holds d T (some xb) ((xb, Obj.cells (fB (eEA i) k (s.extract k (k + m)) 0) 176 (0, 0)) :: fE b0 b1 b2 b3 b4 b5 b6 b7 []) w →
      Goes Tryz.prog false (Rely d T (some xb)) (Lx.Does d T (some xb)) Stop n (G (b.at ⟨vC s c q b0 (k+m) xb J,df⟩ (.code dR :: .code jG :: .inBlock 1::kk)) cs) w) :
    Goes Tryz.prog false (Rely d T (some xb)) (Lx.Does d T (some xb)) Stop (n+10000000001000) (G (b.at ⟨(bR s c q b0 k J).setIfInBounds 8 (.pointer (some ⟨xb,0,none⟩)),df⟩ (.inRegion aT [4] :: .code rG :: .inBlock 1::kk)) cs) w:=by
  refine Goes.mono (jS (m:=n+10000000000500) (iYA s c q k J hxL w hF) hbf hbk ?_) (by omega);rintro e a' w' h
  cases e with
  | normal =>
    obtain⟨J',rfl,hF'⟩:=h;rw[tNA];refine Goes.mono (mE terms (mE terms (rE (m:=n+10000000000200) (p2A s c q k J' w' hF') hbf hbk ?_))) (by omega);rintro e a' w' h
    cases e with
    | normal =>
      obtain⟨J',rfl,hF'⟩:=h;refine Goes.mono (rE (m:=n+150) (tWA s c q k i m J' hk (by omega) hT rfl hf hm hmn hxL w' hF') hbf hbk ?_) (by omega);rintro e a' w' h
      cases e with
      | normal =>
        obtain⟨J',rfl,hF'⟩:=h;refine Goes.mono (mE terms (rE (m:=n+1) (jCB s (s.extract k (k+m)) c q k m (eEA i) 0 i J' (Lib.hid (extract_size s hmn)) (by omega) w' hF') hbf hbk ?_)) (by omega);rintro e a' w' h
        cases e with
        | normal =>
          obtain⟨J',rfl,hF'⟩:=h;exact mE terms (hc J' w' hF')
        | _=>exact h.elim
      | _=>exact h.elim
    | _=>exact h.elim
  | _=>exact h.elim
abbrev LR(b0 b1 b2 b3 b4 b5 b6 b7:Nat):List (Nat×Obj):=fE b0 b1 b2 b3 b4 b5 b6 b7 []
theorem vZA(s:ByteArray)(hs:s.size≤100000)(k:Nat)(acts:List SAct)(h:Scans s k acts) :
 ∃ m,∀ b0 b1 b2 b3 b4 b5 b6 b7 o J w,(∀ p∈LR b0 b1 b2 b3 b4 b5 b6 b7,vQA ⟨B,c⟩ T1 none p.1 p.2)→Holds ⟨B,c⟩ T1 o (LR b0 b1 b2 b3 b4 b5 b6 b7) w →
  GoS (shared B c q Fin) acts o m (G (bScan.at ⟨oG s c q b0 k J,bK c⟩ (.code mD::fU)) [dL]) w:=by
 induction h with
 | done =>
   refine⟨200,fun b0 b1 b2 b3 b4 b5 b6 b7 o J w hlow hF=>?_⟩;rw[j6];refine Goes.mono (mE terms (rE (m:=10) (g4A s c q s.size J rfl w hF) rfl (by decide) ?_)) (by decide);rintro e a' w' h
   cases e with
   | exit id =>
     obtain⟨he,J',rfl,hF'⟩:=h
     cases he;refine⟨[.inScope (oC jD)],by simp[exitTo,fU],?_⟩;refine Goes.mono (n:=2) (uKA terms (f3A terms ?_)) (by decide);exact fun w₁ _=>rQA _ w₁
   | normal=>exact h.elim
   | _=>cases h.1
 | @blank k i m acts hk hf hkd hm hmn h ih =>
   obtain ⟨m', ih⟩ := ih; refine ⟨120, fun b0 b1 b2 b3 b4 b5 b6 b7 o J w hlow hF => z5A s c q k J hk rfl (by decide) w hF ?_⟩; intro J w₁ hF; obtain ⟨es, hst, hes⟩ := fNA (d := ⟨B, c⟩) (T := T1) (b := bScan) (b0 := b0) (df := bK c) (kk := .code rG :: .inBlock 1 :: fU) (cs := [dL]) s c q k J (by decide) w₁; refine ⟨rfl, _, _, es, hst, ⟨rfl, rfl, rfl, _, _, uC _ _⟩, hes, _, nVA s k i m (m' + 110) J hk hs (.inr (.inr rfl)) hf hm hmn (fun p hp => Nat.ne_of_lt (hF.lt hp)) rfl (by decide) _
     (hF.boxed fun p hp=>?_) fun J w hF=>?_⟩
   · rcases List.mem_cons.1 hp with rfl | hp
     · exact .inl rfl
     · exact .inr ⟨hp,hlow p hp⟩
   · rw [hkd] at hF; refine Goes.mono (rE (m := m' + 1) (fSA s _ c q _ _ J w hF) rfl (by decide) ?_) (by omega); rintro e a' w' h
     cases e with
     | exit id =>
       obtain⟨he,J',rfl,hF'⟩:=h
       cases he;refine⟨fU,by simp[exitTo],?_⟩;refine jU terms ?_;rw[gKA];exact ih _ _ _ _ _ _ _ _ _ _ _ hlow (hF'.weak fun p hp=>List.mem_cons_of_mem _ hp)
     | normal=>exact h.elim
     | _=>cases h.1
 | @token k i m acts hk hf hkd hm hmn h ih =>
   obtain ⟨m', ih⟩ := ih; refine ⟨120, fun b0 b1 b2 b3 b4 b5 b6 b7 o J w hlow hF => z5A s c q k J hk rfl (by decide) w hF ?_⟩; intro J w₁ hF; obtain ⟨es, hst, hes⟩ := fNA (d := ⟨B, c⟩) (T := T1) (b := bScan) (b0 := b0) (df := bK c) (kk := .code rG :: .inBlock 1 :: fU) (cs := [dL]) s c q k J (by decide) w₁; refine ⟨rfl, _, _, es, hst, ⟨rfl, rfl, rfl, _, _, uC _ _⟩, hes, _, nVA s k i m 500 J hk hs (.inr (.inr rfl)) hf hm hmn (fun p hp => Nat.ne_of_lt (hF.lt hp)) rfl (by decide) _
     (hF.boxed fun p hp=>?_) fun J w hF=>?_⟩
   · rcases List.mem_cons.1 hp with rfl | hp
     · exact .inl rfl
     · exact .inr ⟨hp,hlow p hp⟩
   · refine Goes.mono (rE (m := 300) (kQA s _ c q _ _ _ hkd J w hF) rfl (by decide) ?_) (by omega); rintro e a' w' h
     cases e with
     | normal =>
       obtain⟨J',rfl,hF'⟩:=h;rw[bPA];refine Goes.mono (mE terms (mE terms (rE (m:=10) (i8A s _ c q _ _ _ _ J' w' hF') rfl (by decide) ?_))) (by decide);rintro e a' w' h
       cases e with
       | normal =>
         obtain⟨J',rfl,hF'⟩:=h;refine Goes.mono (n:=2) (mE terms (sK terms ?_)) (by decide);intro w₂ hR;have hF2:=hF'.rely hR;refine⟨rfl,j5A (b:=bScan) s c q _ _ J' (by decide) w₂,m'+400,?_⟩
         show Goes _ _ _ _ _ _ ((G (bScan.at ⟨aH s c q b0 _ _ _ J',_⟩ (.inRegion zQ [0,1,2,3]::_)) [dL]).finishComm Tryz.prog #[scase c _ jN,rcase q eX] .select 0 undef false) _
         rw[d5A];refine Goes.mono (jS (m:=m'+300) (o5A s c q _ _ J' w₂ hF2) rfl (by decide) ?_) (by omega);rintro e a' w' h
         cases e with
         | normal =>
           obtain⟨J',rfl,hF'⟩:=h;refine Goes.mono (rE (m:=m'+110) (oYA s c q _ J' w' hF') rfl (by decide) ?_) (by omega);rintro e a' w' h
           cases e with
           | normal =>
             obtain⟨J',rfl,hF'⟩:=h;refine Goes.mono (rE (m:=m'+2) (iXA s _ c q _ _ _ J' w' hF') rfl (by decide) ?_) (by omega);rintro e a' w' h
             cases e with
             | normal =>
               obtain⟨J',rfl,hF'⟩:=h;refine y9 terms (jU terms ?_);rw[gKA];exact ih _ _ _ _ _ _ _ _ _ _ _ hlow (hF'.weak fun p hp=>List.mem_cons_of_mem _ hp)
             | _=>exact h.elim
           | _=>exact h.elim
         | _=>exact h.elim
       | _=>exact h.elim
     | _=>exact h.elim
noncomputable def i3A:Array Oper:=opsOf (xA (oC jD))
theorem hPA:jD = .scope (.seq (.region 0 i3A false) (.seq (xA (fA (oC jD))) (.seq (.label 0) (.seq (xA (fA (fA (fA (oC jD))))) (.block 0 (.loop mD)))))):=by rfl
def xH(s:ByteArray)(c q:Nat)(J:Nat→Value):Array Value:=#[.string s,.chan (some c),.chan (some q),J 3,J 4,J 5,J 6,J 7,J 8,J 9,J 10,J 11,J 12,J 13,J 14,J 15,J 16,J 17,J 18,J 19,J 20,J 21,J 22,J 23,J 24,J 25,J 26,J 27,J 28,J 29,J 30,J 31,J 32,J 33,J 34,J 35,J 36,J 37,J 38,J 39,J 40,J 41,J 42,J 43,J 44,J 45,J 46,J 47,J 48,J 49,J 50,J 51,J 52,J 53,J 54,J 55,J 56,J 57,J 58,J 59,J 60,J 61,J 62,J 63,J 64,J 65,J 66,J 67,J 68,J 69,J 70,J 71,J 72,J 73,J 74,J 75]
def kR(s:ByteArray)(c q b0:Nat)(J:Nat→Value):Array Value:=#[.string s,.chan (some c),.chan (some q),J 3,J 4,J 5,.slice (some ⟨b0,0,none⟩) 5 5,J 7,J 8,J 9,J 10,J 11,J 12,J 13,J 14,J 15,J 16,J 17,J 18,J 19,J 20,J 21,J 22,J 23,J 24,J 25,J 26,J 27,J 28,J 29,J 30,J 31,J 32,J 33,J 34,J 35,J 36,J 37,J 38,J 39,J 40,J 41,J 42,J 43,J 44,J 45,J 46,J 47,J 48,J 49,J 50,J 51,J 52,J 53,J 54,J 55,J 56,J 57,J 58,J 59,J 60,J 61,J 62,J 63,J 64,J 65,J 66,J 67,J 68,J 69,J 70,J 71,J 72,J 73,J 74,J 75]
theorem pNA{d:Deal}{o:Option Nat}{df:List Deferred}(s:ByteArray)(J:Nat→Value)(w:World)(hF:Holds d T1 o [] w) :
 Code.wpC Tryz.prog false (Rely d T1 o) (Lx.Does d T1 o) 104 (xA (fA (oC jD))) 2000
   (Exit.then (fun a' w'=>∃ b0 b1 b2 b3 b4 b5 b6 b7,∃ J',a'=⟨kR s c q b0 J',df⟩∧Holds d T1 o (LR b0 b1 b2 b3 b4 b5 b6 b7) w') (fun _ _ _=>False))
   ⟨xH s c q J,df⟩ w:=by
 unfold jD;simp only[Tryz.f104,Option.getD_some,xA,fA,oC,xH,kR];co_apply wpC_more
 · co_reg terms
   co_apply fH terms rfl (by rfl) rfl (j9A l0A k7A r7A _ hF) (by simp);rintro v w ⟨b0,b1,b2,b3,b4,b5,b6,b7,rfl,hF⟩
   try walk_nrm
   co_op Holds.rely hF (co_quiet terms);co_apply opsC_nil terms;co_then;exact⟨b0,b1,b2,b3,b4,b5,b6,b7,rA (by rfl) hF⟩
 · decide
theorem wOA{d:Deal}{o:Option Nat}{df:List Deferred}{L:List (Nat×Obj)}(s:ByteArray)(J:Nat→Value)(w:World)(hF:Holds d T1 o L w) :
 Code.wpC Tryz.prog false (Rely d T1 o) (Lx.Does d T1 o) 104 (xA (fA (fA (fA (oC jD))))) 20
   (Exit.then (fun a' w'=>∃ J',a'=⟨oG s c q b0 (0:Nat) J',df⟩∧Holds d T1 o L w') (fun _ _ _=>False))
   ⟨kR s c q b0 J,df⟩ w:=by
 unfold jD;simp only[Tryz.f104,Option.getD_some,xA,fA,oC,oG,kR];co_apply wpC_more
 · co_reg terms
   co_op Holds.rely hF (co_quiet terms);co_apply opsC_nil terms;co_then;exact rA (by rfl) hF
 · decide
def jR(s:ByteArray)(c q:Nat):Deferred:={ target:=.fn (.func 104) #[],args:=#[.string s,.chan (some c),.chan (some q)] }
theorem qZA(s:ByteArray)(w:World):stepG Tryz.prog false (born Tryz.prog (jR s c q)) w = .go (G (bScan.at ⟨xH s c q (fun _=>undef),[]⟩ [.code jD]) [dL]) w #[]:=by
 simp[born,jR,stepG,unwind,callDeferred,invoke,callFunc,Tryz.func104,Tryz.f104,seen,GStep.after,G,Frame.enter,Frame.at,bScan,dL,jD,xH]
theorem j0A(s:ByteArray)(hs:s.size≤100000)(acts:List SAct)(h:Scans s 0 acts)(w:World)(hF:Holds ⟨B,c⟩ T1 none [] w) :
 ∃ m,GoS (shared B c q Fin) acts none m (born Tryz.prog (jR s c q)) w:=by
 obtain⟨m,hm⟩:=vZA (B:=B) (c:=c) (q:=q) (Fin:=Fin) s hs 0 acts h;refine⟨m+3000,Goes.mono (n:=m+2500+1) (Goes.step rfl fun w₁ h₁=>?_) (by omega)⟩
 show GStep.goes (stepG Tryz.prog false (born Tryz.prog (jR s c q)) w₁) _
 rw [qZA]; refine ⟨Does.idle _, ?_⟩; replace hF := hF.rely h₁; rw [hPA]; refine Goes.mono (n := m + 2300 + 1 + 1 + 1 + 1 + 1) (nSA terms (mE terms (sK terms ?_))) (by omega); have ho0 : i3A[0]? = some { dst := some 12, op := .move (.tmp 1), type := 205, pos := "lexer.go:65", after := #[], guard := none } := by rfl
 have ho1 : i3A[1]? = some { dst := none, op := .defer { callee := .builtin .close, args := #[.tmp 12], argTypes := #[205] }, type := 0, pos := "lexer.go:65", after := #[{ on := 0, ground := .data }], guard := none } := by rfl
 show Goes _ _ _ _ _ _ (G (bScan.at _ (.inRegion i3A [0,1]::_)) _) _
 refine zZ ho0 (by rfl) (by decide) fun w₂ h₂ K hK=>?_
 replace hF := hF.rely h₂; have hl0 : listed Tryz.prog bScan.fn ⟨xH s c q (fun _ => undef), []⟩ { dst := some 12, op := .move (.tmp 1), type := 205, pos := "lexer.go:65", after := #[], guard := none } w₂ = #[] := listed_nil rfl
 change uponK _ _ K (Result.ok (Next.value (.chan (some c))) w₂)
 refine hK _ _ ⟨by show Lx.Does _ _ _ _ _ (listed Tryz.prog bScan.fn _ _ _);rw[hl0];exact Does.idle _,?_⟩;have he12:(Act.put ⟨xH s c q (fun _=>undef),[]⟩ (some 12) (.chan (some c))).eval (.tmp 12) = .chan (some c):=rfl;refine wRA terms ho1 (by rfl) (by decide) (dd:=cK c #[205] 0 #[false]) (fun _=>by unfold execOp;simp[resolve,cK,he12]) (fun _=>by unfold execOp;simp[resolve]) ?_;have hfr:Act.put ⟨(Act.put ⟨xH s c q (fun _=>undef),[]⟩ (some 12) (.chan (some c))).tmps,cK c #[205] 0 #[false]::[]⟩ none undef=⟨xH s c q (fun n=>((xH s c q (fun _=>undef)).setIfInBounds 12 (.chan (some c))).getD n undef),bK c⟩:=by rfl
 change Goes Tryz.prog false _ _ _ _ (G (bScan.at (Act.put ⟨(Act.put ⟨xH s c q (fun _=>undef),[]⟩ (some 12) (.chan (some c))).tmps,cK c #[205] 0 #[false]::[]⟩ none undef) (.inRegion i3A []::_)) _) _
 rw[hfr];refine Goes.mono (jS (m:=m+2200) (fn:=104) (Q:=Exit.then (fun a' w'=>a'=⟨xH s c q (fun n=>((xH s c q (fun _=>undef)).setIfInBounds 12 (.chan (some c))).getD n undef),bK c⟩∧Holds ⟨B,c⟩ T1 none [] w') (fun _ _ _=>False)) (opsC_nil terms ⟨rfl,hF⟩) rfl (by decide) ?_) (by omega);rintro e a' w' h
 cases e with
 | normal =>
   obtain⟨rfl,hF⟩:=h;refine Goes.mono (mE terms (rE (m:=m+100) (pNA s _ w' hF) rfl (by decide) ?_)) (by omega);rintro e a' w' h
   cases e with
   | normal =>
     obtain⟨b0,b1,b2,b3,b4,b5,b6,b7,J',rfl,hF⟩:=h;have hlow:=hF.safe;refine Goes.mono (mE terms (rE (m:=m+50) (Q:=Exit.then (fun a' w'=>a'=⟨kR s c q b0 J',bK c⟩∧Holds ⟨B,c⟩ T1 none (LR b0 b1 b2 b3 b4 b5 b6 b7) w') (fun _ _ _=>False)) (wpC_label terms ⟨rfl,hF⟩) rfl (by decide) ?_)) (by omega);rintro e a' w' h
     cases e with
     | normal =>
       obtain⟨rfl,hF⟩:=h;refine Goes.mono (mE terms (rE (m:=m+3) (wOA s J' w' hF) rfl (by decide) ?_)) (by omega);rintro e a' w' h
       cases e with
       | normal =>
         obtain⟨J',rfl,hF⟩:=h;exact Goes.mono (iT terms (kJA terms (hm _ _ _ _ _ _ _ _ _ _ _ hlow hF))) (by omega)
       | _=>exact h.elim
     | _=>exact h.elim
   | _=>exact h.elim
 | _=>exact h.elim
end
noncomputable def bF:Code:=Tryz.f73.body.getD .skip
noncomputable def dF:Code:=fA (fA bF)
noncomputable def aKA:Array Oper:=opsOf (xA (fA (fA dF)))
noncomputable def xE:Code:=fA (fA (fA dF))
noncomputable def tJ:Code:=xA (fA xE)
noncomputable def lexEnd:Code:=fA (fA xE)
noncomputable def kE:Code:=oC (oC (fA tJ))
noncomputable def tL:Array Oper:=opsOf (xA kE)
noncomputable def gF:Code:=oC (fA (fA kE))
noncomputable def pFA:Array Oper:=opsOf (xA gF)
theorem eCA:kE = .seq (.region 8 tL false) (.seq (xA (fA kE)) (.block 1 (.seq (.region 9 pFA false) (.seq (xA (fA gF)) (fA (fA gF)))))):=by rfl
theorem sOA:xE = .seq (xA xE) (.seq (.seq (xA tJ) (.block 0 (.loop kE))) lexEnd):=by rfl
def bE(s:ByteArray)(c q:Nat)(v:Value)(J:Nat→Value):Array Value :=
 #[.string s, J 1, J 2, J 3, J 4, .chan (some c), .chan (some q), v, J 8, J 9, J 10, J 11, J 12, J 13, J 14, J 15, J 16, J 17, .chan (some c), J 19, J 20, J 21, J 22, J 23, J 24, J 25, J 26, J 27, J 28, J 29, J 30, J 31, J 32, J 33, J 34, J 35]
def nU(s:ByteArray)(c q:Nat)(v x:Value)(J:Nat→Value):Array Value :=
 #[.string s, J 1, J 2, J 3, J 4, .chan (some c), .chan (some q), v, J 8, J 9, J 10, J 11, J 12, J 13, J 14, J 15, J 16, J 17, .chan (some c), J 19, J 20, x, J 22, J 23, J 24, J 25, J 26, J 27, J 28, J 29, J 30, J 31, J 32, J 33, J 34, J 35]
def tY(s:ByteArray)(c q:Nat)(v:Value)(xb:Nat)(J:Nat→Value):Array Value :=
 #[.string s, J 1, J 2, J 3, J 4, .chan (some c), .chan (some q), v, .pointer (some ⟨xb, 0, none⟩), J 9, J 10, J 11, J 12, J 13, J 14, J 15, J 16, J 17, .chan (some c), J 19, J 20, J 21, J 22, J 23, J 24, J 25, J 26, J 27, J 28, J 29, J 30, J 31, J 32, J 33, J 34, J 35]
section
variable {d : Deal} {o : Option Nat} {L : List (Nat × Obj)} {w0 : World} {v : Value} {n : Nat} {xs : List Value} {df : List Deferred} {b : Frame} {kk : List Item} {cs : List Frame} {Stop : Goroutine → World → Prop}
abbrev MX(d:Deal)(L:List (Nat×Obj))(w0:World)(v:Value)(n:Nat)(xs:List Value)(o:Option Nat)(w:World):Prop:=MH d T0 174 3 L w0 v n xs o w
theorem lPA(s:ByteArray)(c q:Nat)(J:Nat→Value)(hbk:b.kind≠.early)(w:World) :
 stepG Tryz.prog true (G (b.at ⟨bE s c q v J, df⟩ (.inRegion tL [0, 1] :: kk)) cs) w =
   .comm (G (b.at ⟨bE s c q v J,df⟩ (.inRegion tL [0,1]::kk)) cs) #[rcase c jN] true (.recv true) w #[]:=by
 have ho : tL[0]? = some { dst := some 19, op := .recv 170 (.tmp 18) true, type := 0, pos := "lexer.go:101", after := #[], guard := none } := by rfl
 have he1 : (⟨bE s c q v J, df⟩ : Act).eval (.tmp 18) = .chan (some c) := rfl; have hr : (execOp (⟨bE s c q v J, df⟩ : Act).eval { dst := some 19, op := .recv 170 (.tmp 18) true, type := 0, pos := "lexer.go:101", after := #[], guard := none }).run Tryz.prog w = .ok (.comm #[rcase c jN] true (.recv true)) w := by
  unfold execOp;simp[rcase,he1,jN,fB]
 have hl : (execOp (⟨bE s c q v J, df⟩ : Act).eval { dst := some 19, op := .recv 170 (.tmp 18) true, type := 0, pos := "lexer.go:101", after := #[], guard := none }).events Tryz.prog w #[] = #[] := by
  unfold execOp;simp
 rw[stepG_comm ho (by rfl) hbk hr,listed_nil hl]
theorem kOA(s:ByteArray)(c q:Nat)(x:Value)(ok:Bool)(J:Nat→Value) :
 (G (b.at ⟨bE s c q v J, df⟩ (.inRegion tL [0, 1] :: kk)) cs).finishComm Tryz.prog #[rcase c jN] (.recv true) 0 x ok =
   G (b.at ⟨(bE s c q v J).setIfInBounds 19 (.tuple #[x,.bool ok]),df⟩ (.inRegion tL [1]::kk)) cs:=by
 have ho:(tL[0]?).bind (·.dst)=some 19:=by rfl
 have hr:commResult #[rcase c jN] (.recv true) 0 x ok = .tuple #[x,.bool ok]:=by rfl
 simp only[Goroutine.finishComm,G,hr,Frame.finish_at,ho];rfl
theorem f4A(s:ByteArray)(c q:Nat)(x:Value)(J:Nat→Value)(w:World)(hF:MX d L w0 v n xs o w) :
 OpsC Tryz.prog true (Rely d T0 o) (Lx.Does d T0 o) 73 tL [1] 10
   (Exit.then (fun a' w'=>∃ J',a'=⟨((bE s c q v J').setIfInBounds 19 (.tuple #[x,.bool true])).setIfInBounds 20 (.bool true),df⟩∧MX d L w0 v n xs o w') (fun _ _ _=>False))
   ⟨(bE s c q v J).setIfInBounds 19 (.tuple #[x,.bool true]),df⟩ w:=by
 have he:tL=opsOf (xA kE):=rfl;rw[he];clear he;unfold kE tJ xE dF bF;simp only[Tryz.f73,Option.getD_some,xA,fA,oC,opsOf,bE,List.setIfInBounds_toArray,List.set_cons_succ,List.set_cons_zero];co_apply opsC_more
 · co_op MH.rely hF (co_quiet terms);co_apply opsC_nil terms;co_then;exact rA (by rfl) hF
 · decide
theorem p1A(s:ByteArray)(c q:Nat)(x:Value)(J:Nat→Value)(w:World)(hF:MX d L w0 v n xs o w) :
 Code.wpC Tryz.prog true (Rely d T0 o) (Lx.Does d T0 o) 73 (xA (fA kE)) 100
   (Exit.then (fun a' w'=>∃ J',a'=⟨(bE s c q v J').setIfInBounds 19 (.tuple #[x,.bool true]),df⟩∧MX d L w0 v n xs o w') (fun _ _ _=>False))
   ⟨((bE s c q v J).setIfInBounds 19 (.tuple #[x,.bool true])).setIfInBounds 20 (.bool true),df⟩ w:=by
 unfold kE tJ xE dF bF;simp only[Tryz.f73,Option.getD_some,xA,fA,oC,bE,List.setIfInBounds_toArray,List.set_cons_succ,List.set_cons_zero];co_apply wpC_more
 · skip
   co_apply wpC_cond (t:=true) terms rfl;simp only[if_true];co_ctl terms;co_then;exact rA (by rfl) hF
 · decide
theorem wDB (s : ByteArray) (c q : Nat) (x : Value) (J : Nat → Value) (hbf : b.fn = 73) (hbk : b.kind ≠ .early) (w : World) (hF : MX d L w0 v n xs o w)
    (hS:∀ J w₁,MX d L w0 v n xs o w₁→Stop (G (b.at ⟨nU s c q v x J,df⟩ (.inRegion pFA [1,2] :: .code (.seq (xA (fA gF)) (fA (fA gF))) :: .inBlock 1::kk)) cs) w₁) :
    Goes Tryz.prog true (Rely d T0 o) (Lx.Does d T0 o) Stop 200 (G (b.at ⟨(bE s c q v J).setIfInBounds 19 (.tuple #[x,.bool true]),df⟩ (.inRegion tL [1] :: .code (.seq (xA (fA kE)) (.block 1 (.seq (.region 9 pFA false) (.seq (xA (fA gF)) (fA (fA gF))))))::kk)) cs) w:=by
  refine Goes.mono (jS (m:=150) (f4A s c q x J w hF) hbf hbk ?_) (by decide);rintro e a' w' h
  cases e with
  | normal =>
    clear hF;obtain⟨J',rfl,hF⟩:=h;refine Goes.mono (mE terms (rE (m:=10) (p1A s c q x J' w' hF) hbf hbk ?_)) (by decide);rintro e a' w' h
    cases e with
    | normal =>
      clear hF;obtain⟨J',rfl,hF⟩:=h;refine Goes.mono (n:=1+1+1+1) (n':=10) (iT terms (mE terms (sK terms ?_))) (by decide);have he:pFA=opsOf (xA gF):=rfl;rw[he]at hS ⊢;generalize hg:Code.seq (xA (fA gF)) (fA (fA gF))=rest at hS ⊢;clear hg he;unfold gF kE tJ xE dF bF at hS ⊢;simp only[Tryz.f73,Option.getD_some,xA,fA,oC,opsOf,bE,List.setIfInBounds_toArray,List.set_cons_succ,List.set_cons_zero,List.size_toArray,List.length_cons,List.length_nil,Nat.reduceAdd,Nat.zero_add,List.range,List.range.loop]at hS ⊢;co_apply zZ rfl (by rfl) hbk;intro _ hR K hK;replace hF:=MH.rely hF hR;clear hR;go_simp;refine hK _ _ ⟨?_,?_⟩
      · co_quiet terms
      clear hK K
      try walk_nrm
      exact cKA fun w₁ hR=>bVA hS (by rfl) w₁ (MH.rely hF hR)
    | _=>exact h.elim
  | _=>exact h.elim
theorem sBB(s:ByteArray)(c q:Nat)(x:Value)(J:Nat→Value)(hbk:b.kind≠.early)(w:World) :
 ∃ es, stepG Tryz.prog true (G (b.at ⟨nU s c q v x J, df⟩ (.inRegion pFA [1, 2] :: kk)) cs) w =
   .go (G (b.at ⟨(nU s c q v x J).setIfInBounds 8 (.pointer (some ⟨w.heap.size,0,none⟩)),df⟩ (.inRegion pFA [2]::kk)) cs) (w.alloc (.cells (fB 0 0 ⟨#[]⟩ 0) 176 (0,0))) es∧∀ e∈es,uX d T0 (some w.heap.size) (w.alloc (.cells (fB 0 0 ⟨#[]⟩ 0) 176 (0,0))) e:=by
 have ho : pFA[1]? = some { dst := some 8, op := .alloc 176, type := 0, pos := "lexer.go:101", after := #[], guard := none } := by rfl
 refine⟨_,stepG_value ho (by rfl) hbk (v:=.pointer (some ⟨w.heap.size,0,none⟩)) ?_,?_⟩
 · refine pJA fun K hK => ?_
   go_simp;exact hK
 · rw[listed_nil (by simp[go_sem])];simp
end
theorem oP:T0 174:=rfl
theorem Tryz.info174:(Tryz.prog.info? 174).map (fun i=>(i.zero,i.size,i.bytes))=some (some (.agg #[.int .i64 0,.int .i64 0,.string ⟨#[]⟩]),3,32):=by kernel_rfl
section
variable {d : Deal} {o : Option Nat} {L : List (Nat × Obj)} {w0 : World} {v : Value} {n xb : Nat} {xs : List Value} {df : List Deferred}
theorem v6A(s x:ByteArray)(c q k:Nat)(kd e:Int)(J:Nat→Value)(hv:v.ownBlock≠some xb)(w:World)(hF:MX d [(xb,Obj.cells (fB 0 0 ⟨#[]⟩ 0) 176 (0,0))] w0 v n xs (some xb) w) :
 OpsC Tryz.prog true (Rely d T0 (some xb)) (Lx.Does d T0 (some xb)) 73 pFA [2] 10
   (Exit.then (fun a' w'=>∃ J',a'=⟨tY s c q v xb J',df⟩∧MX d [(xb,Obj.cells (fB kd k x e) 176 (0,0))] w0 v n xs (some xb) w') (fun _ _ _=>False))
   ⟨(nU s c q v (.agg (fB kd k x e)) J).setIfInBounds 8 (.pointer (some ⟨xb,0,none⟩)),df⟩ w:=by
 have he:pFA=opsOf (xA gF):=rfl;rw[he];clear he;unfold gF kE tJ xE dF bF;simp only[Tryz.f73,Option.getD_some,xA,fA,oC,opsOf,nU,tY,fB,List.setIfInBounds_toArray,List.set_cons_succ,List.set_cons_zero]at hF ⊢;co_apply opsC_more
 · co_opw MH.rely hF (have hm : (xb, Obj.cells #[.int .i64 0, .int .i64 ((0 : Nat) : Int), .string ⟨#[]⟩, .int .i64 0] 176 (0, 0)) ∈ [(xb, Obj.cells #[.int .i64 0, .int .i64 ((0 : Nat) : Int), .string ⟨#[]⟩, .int .i64 0] 176 (0, 0))] := List.mem_cons_self; have hc0 : _ = some _ := hF.holds.cell hm 0; have hc1 : _ = some _ := hF.holds.cell hm 1; have hc2 : _ = some _ := hF.holds.cell hm 2; have hc3 : _ = some _ := hF.holds.cell hm 3; have hf0 := hF.holds.frozen hm 0; have hf1 := hF.holds.frozen hm 1; have hf2 := hF.holds.frozen hm 2; have hf3 := hF.holds.frozen hm 3) (have ho := hF.holds.boxOwn; have ht := Turn.set4 ho (hF.holds.lt hm) hF.holds.big (.int .i64 kd) (.int .i64 (k : Int)) (.string x) (.int .i64 e); refine ⟨ht, ?_⟩; have ho2 := ht.own_fwd (hF.holds.lt hm) ho; clear ht ho; have es := xS Tryz.prog; intro e he; have hm := mem_listed he; simp [go_sem, *] at hm; rcases hm with rfl | rfl | rfl | rfl <;> exact kS ho2 _ _ _)
   replace hF:=hF.set4 hv (.int .i64 kd) (.int .i64 (k:Int)) (.string x) (.int .i64 e);co_apply opsC_nil terms;co_then;exact rA (by rfl) hF
 · decide
theorem bBB(s x:ByteArray)(c q k:Nat)(kd:Int)(J:Nat→Value)(w:World)(hF:MX d [(xb,Obj.cells (fB kd k x 0) 176 (0,0))] w0 v n xs (some xb) w) :
 Code.wpC Tryz.prog true (Rely d T0 (some xb)) (Lx.Does d T0 (some xb)) 73 (xA (fA gF)) 100
   (Exit.then (fun a' w'=>∃ J',a'=⟨tY s c q v xb J',df⟩∧MX d [(xb,Obj.cells (fB kd k x 0) 176 (0,0))] w0 v n xs (some xb) w') (fun _ _ _=>False))
   ⟨tY s c q v xb J,df⟩ w:=by
 have hm:(xb,Obj.cells (fB kd k x 0) 176 (0,0))∈[(xb,Obj.cells (fB kd k x 0) 176 (0,0))]:=List.mem_cons_self;unfold gF kE tJ xE dF bF;simp only[Tryz.f73,Option.getD_some,xA,fA,oC,tY];co_apply wpC_more
 · co_apply wpC_seq terms
   co_reg terms
   co_op MH.rely hF (co_quiet terms)
   co_opw MH.rely hF (have hc:_=some (Value.int .i64 0):=hF.holds.cell hm 3) (refine Does.reads ?_;co_evs (exact hF.holds.read hm _ _))
   clear hc;co_op MH.rely hF (co_quiet terms);co_apply opsC_nil terms;co_then;co_apply wpC_cond (t:=false) terms rfl;simp only[Bool.false_eq_true,if_false];co_ctl terms;co_then;exact rA (by rfl) hF
 · decide
theorem a6A(s x:ByteArray)(c q k:Nat)(kd:Int)(J:Nat→Value)(hn:n≤1000000)(w:World)(hF:MX d [(xb,Obj.cells (fB kd k x 0) 176 (0,0))] w0 v n xs (some xb) w) :
 Code.wpC Tryz.prog true (Rely d T0 (some xb)) (Lx.Does d T0 (some xb)) 73 (fA (fA gF)) 100
   (Exit.then (fun a' w'=>∃ v',(∃ J',a'=⟨bE s c q v' J',df⟩∧MX d [] w0 v' (n+1) (xs++[.int .i64 kd,.int .i64 (k:Int),.string x]) (some xb) w')) (fun _ _ _=>False))
   ⟨tY s c q v xb J,df⟩ w:=by
 have hm:(xb,Obj.cells (fB kd k x 0) 176 (0,0))∈[(xb,Obj.cells (fB kd k x 0) 176 (0,0))]:=List.mem_cons_self;obtain⟨i0,hi,hz⟩:=Option.map_eq_some_iff.1 Tryz.info174;simp only[Prod.mk.injEq]at hz;obtain⟨hz0,hz1,hz2⟩:=hz;have HI:=Lib.hid hi;have HZ0:=Lib.hid hz0;have HZ1:=Lib.hid hz1;have HZ2:=Lib.hid hz2;clear hi hz0 hz1 hz2;unfold gF kE tJ xE dF bF;simp only[Tryz.f73,Option.getD_some,xA,fA,oC,tY,bE];co_apply wpC_more
 · co_reg terms
   co_op MH.rely hF (co_quiet terms);co_op MH.rely hF (co_quiet terms)
   co_opw MH.rely hF (have hc0:_=some (Value.int .i64 kd):=hF.holds.cell hm 0;have hc1:_=some (Value.int .i64 (k:Int)):=hF.holds.cell hm 1;have hc2:_=some (Value.string x):=hF.holds.cell hm 2) (refine Does.reads ?_;intro e he;have hm:=mem_listed he;simp[go_sem, *]at hm;rcases hm with rfl | rfl | rfl<;>exact hF.holds.read hm _ _)
   clear hc0 hc1 hc2
   co_opw MH.rely hF (skip) (refine⟨Turn.alloc oP hF.holds.box,?_⟩;co_evs (skip))
   have hBn:=hF.holds.big;replace hF:=hF.cons #[.int .i64 kd,.int .i64 (k:Int),.string x] oP
   revert hBn hF
   generalize Array.size (World.heap _)=nb;intro hBn hF;co_apply opsC_cons_k rfl (by rfl);intro w1 hR K hK;replace hF:=MH.rely hF hR;clear hR;have hmn:(nb,Obj.cells #[.int .i64 kd,.int .i64 (k:Int),.string x] 174 (0,0))∈(nb,Obj.cells #[.int .i64 kd,.int .i64 (k:Int),.string x] 174 (0,0))::[(xb,Obj.cells (fB kd k x 0) 176 (0,0))]:=List.mem_cons_self;have hnews:∀ j u,[Value.int .i64 kd,.int .i64 (k:Int),.string x][j]? = some u→w1.cell? ((⟨nb,0,none⟩:Addr).add j)=some u:=by
    intro j u hu;rw[r3A,hF.holds.cell hmn j]
    simpa using hu
   have h1:∀ u∈[Value.int .i64 kd,.int .i64 (k:Int),.string x],u.oneCell'=true:=by
    intro u hu;simp only[List.mem_cons,List.not_mem_nil,or_false]at hu;rcases hu with rfl | rfl | rfl<;>rfl
   have hmx:n+1≤maxLen:=by simp only[maxLen];omega
   have hby:(n+1) * 32≤140737488355328:=by omega
   obtain⟨v',w',hr,hown',hg,ht⟩:=aQA (P:=Tryz.prog) (d:=d) (T:=T0) (o:=some xb) w1 133 133 174 i0 _ 3 32 Tryz.underlying133 HI.out HZ0.out HZ1.out HZ2.out rfl (by decide) v n xs hF.own ⟨nb,0,none⟩ 1 1 [.int .i64 kd,.int .i64 (k:Int),.string x] (by decide) rfl hnews h1 hmx hby oP hF.holds.big hF.holds.box;have hev:=events_append_where (P:=Tryz.prog) w1 d.B 133 133 174 i0 _ 3 32 Tryz.underlying133 HI.out HZ0.out HZ1.out HZ2.out v n xs hF.own ⟨nb,0,none⟩ 1 1 [.int .i64 kd,.int .i64 (k:Int),.string x] rfl hnews h1 hmx hby;refine uponK_append (.tmp 30) (.tmp 33) 133 rfl rfl rfl hr (hK _ _ ⟨⟨ht,?_⟩,?_⟩)
   · intro e he; have hm := mem_listed he; rw [events_append_op (.tmp 30) (.tmp 33) 133 rfl rfl rfl] at hm; rcases hev e hm with ⟨ad, hl, hcase⟩ | ⟨m, rfl, hneu⟩
     · rcases hcase with ⟨_, hb⟩ | hb
       · have hb:ad.block=nb:=hb;exact kMA hl (hb▸ht.own_fwd (hF.holds.lt hmn) (hF.holds.mine hmn hBn oP))
       · obtain⟨h1,h2⟩:=iSA (o:=some xb) oP hF.own hb.symm;exact kMA hl (ht.own_fwd h2 h1)
     · exact mZA hneu
   replace hF:MX d [] w0 v' (n+1) (xs++[.int .i64 kd,.int .i64 (k:Int),.string x]) (some xb) w' :=
    ⟨⟨by simp,by simp,Nat.le_trans hF.holds.big ht.size,fun b hb=>Nat.lt_of_lt_of_le (hF.holds.box b hb) ht.size⟩,hown',hF.low.turn ht hF.holds.big hF.boxB,oP,hF.boxB⟩
   clear hK K hnews h1 hr hown' hg ht hev hmn hBn
   try walk_nrm
   co_op MH.rely hF (co_quiet terms);co_apply opsC_nil terms;co_then;exact⟨v',rA (by rfl) hF⟩
 · decide
end
end Go.Proofs.YtlnlpdephijcoaaGreatDoor
