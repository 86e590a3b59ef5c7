/- Part 19 of what the proof rests on. -/
import Derived.Test.YtggjbblgoddnjaaGreatDoorM11
import Derived.Test.YtggjbblgoddnjaaGreatDoorM18
set_option linter.unusedSimpArgs false
set_option linter.unusedVariables false
set_option maxRecDepth 100000
set_option maxHeartbeats 4000000
namespace Go.Proofs.YtggjbblgoddnjaaGreatDoor
open Go.Conc Go.Lx
def T1(ty:TypeId):Prop:=ty=9∨ty=175∨ty=235
theorem bSA:T1 9:=.inl rfl
theorem yYA:T1 175:=.inr (.inl rfl)
theorem jZA:T1 235:=.inr (.inr rfl)
def T0(ty:TypeId):Prop:=ty=197
noncomputable def shared(B c q:Nat)(Fin:Goroutine→World→Prop):Shared :=
 { P:=Tryz.prog,d:=⟨B,c⟩,q:=q,T0:=T0,T1:=T1,tb:=199,z:=qK,zc:=qK,zq:=bU,Fin:=Fin }
inductive Scans (s : ByteArray) : Nat → List SAct → Prop
  | done:Scans s s.size []
  | blank {k i m:Nat} {acts:List SAct} (hk:k < s.size) (hf:First i (s[k]'hk)) (hkd:iAA i=0) (hm:goN i (s.data.toList.drop k)=m) (hmn:k+m≤s.size) (h:Scans s (k+m) acts):Scans s k (.box::acts)
  | token {k i m : Nat} {acts : List SAct} (hk : k < s.size) (hf : First i (s[k]'hk)) (hkd : (iAA i == 0) = false) (hm : goN i (s.data.toList.drop k) = m) (hmn : k + m ≤ s.size) (h : Scans s (k + m) acts) :
      Scans s k (.box :: .send (.agg (eB (iAA i) k (s.extract k (k+m)) 0))::acts)
theorem extract_size(s:ByteArray){k m:Nat}(h:k+m≤s.size):(s.extract k (k+m)).size=m:=by
 simp only[ByteArray.size_extract];omega
def bScan:Frame:={ (default:Frame) with fn:=125,kind:=.deferred }
noncomputable def qJ:Frame:={ (default:Frame) with fn:=Tryz.prog.funcs.size,defers:=[],mode:=.panicking [goexitEntry] }
noncomputable def qR:List Item:=[.inLoop iD,.inBlock 0,.inScope (aD fD)]
def wI(c:Nat):List Deferred:=[zI c #[230] 0 #[false]]
section
variable {B c q : Nat} {Fin : Goroutine → World → Prop} {b0 b1 b2 b3 b4 b5 b6 b7 : Nat}
theorem uNA(tmps:Array Value)(w:World):AtClose (shared B c q Fin) (G { bScan.at ⟨tmps,wI c⟩ [] with mode:=.returning } [qJ]) w:=by
 refine⟨rfl,rfl,fun s r tm hc=>⟨_,2,pW hc (by kernel_rfl),?_⟩⟩;refine .inr ⟨rfl,G qJ [],#[],by simp,fun w=>?_,?_⟩
 · simp[G,stepG,unwind,doReturn,results,Frame.at,bScan,qJ,shared,Tryz.func125,Tryz.f125,seen,GStep.after,goexitEntry]
 refine .inr ⟨rfl,{ G qJ [] with status:=.finished },#[],by simp,fun w=>?_,rfl,rfl⟩;simp[G,stepG,unwind,qJ,goexitEntry,Frame.catches,shared];rfl
theorem qPA {d : Deal} {T : TypeId → Prop} {df : List Deferred} {b : Frame} {kk : List Item} {cs : List Frame} {Stop : Goroutine → World → Prop} {xb : Nat} (s : ByteArray) (k i m n : Nat) (J : Nat → Value) (hk : k < s.size) (hs : s.size ≤ 100000) (hT : T 235)
    (hf:First i (s[k]'hk)) (hm:goN i (s.data.toList.drop k)=m) (hmn:k+m≤s.size) (hxL:∀ p∈zD b0 b1 b2 b3 b4 b5 b6 b7 [],p.1≠xb) (hbf:b.fn=125) (hbk:b.kind≠.early) (w:World)
    (hF:Holds d T (some xb) ((xb,Obj.cells (eB 0 0 ⟨#[]⟩ 0) 199 (0,0))::zD b0 b1 b2 b3 b4 b5 b6 b7 []) w)
    (hc : ∀ J w, Holds d T (some xb) ((xb, Obj.cells (eB (iAA i) k (s.extract k (k + m)) 0) 199 (0, 0)) :: zD b0 b1 b2 b3 b4 b5 b6 b7 []) w →
      Goes Tryz.prog false (Rely d T (some xb)) (Lx.Does d T (some xb)) Stop n (G (b.at ⟨tC s c q b0 (k+m) xb J,df⟩ (.code kP :: .code uF :: .inBlock 1::kk)) cs) w) :
    Goes Tryz.prog false (Rely d T (some xb)) (Lx.Does d T (some xb)) Stop (n+10000000001000) (G (b.at ⟨(aP s c q b0 k J).setIfInBounds 8 (.pointer (some ⟨xb,0,none⟩)),df⟩ (.inRegion fQ [4] :: .code dG :: .inBlock 1::kk)) cs) w:=by
  refine Goes.mono (tO (m:=n+10000000000500) (jSA s c q k J hxL w hF) hbf hbk ?_) (by omega);rintro e a' w' h
  cases e with
  | normal =>
    obtain⟨J',rfl,hF'⟩:=h;rw[bIA];refine Goes.mono (fE terms (fE terms (iE (m:=n+10000000000200) (gYA s c q k J' w' hF') hbf hbk ?_))) (by omega);rintro e a' w' h
    cases e with
    | normal =>
      obtain⟨J',rfl,hF'⟩:=h;refine Goes.mono (iE (m:=n+150) (fSA s c q k i m J' hk (by omega) hT rfl hf hm hmn hxL w' hF') hbf hbk ?_) (by omega);rintro e a' w' h
      cases e with
      | normal =>
        obtain⟨J',rfl,hF'⟩:=h;refine Goes.mono (fE terms (iE (m:=n+1) (d5A s (s.extract k (k+m)) c q k m (iAA i) 0 i J' (Lib.hid (extract_size s hmn)) (by omega) w' hF') hbf hbk ?_)) (by omega);rintro e a' w' h
        cases e with
        | normal =>
          obtain⟨J',rfl,hF'⟩:=h;exact fE terms (hc J' w' hF')
        | _=>exact h.elim
      | _=>exact h.elim
    | _=>exact h.elim
  | _=>exact h.elim
abbrev LR(b0 b1 b2 b3 b4 b5 b6 b7:Nat):List (Nat×Obj):=zD b0 b1 b2 b3 b4 b5 b6 b7 []
theorem gSA(s:ByteArray)(hs:s.size≤100000)(k:Nat)(acts:List SAct)(h:Scans s k acts) :
 ∃ m,∀ b0 b1 b2 b3 b4 b5 b6 b7 o J w,(∀ p∈LR b0 b1 b2 b3 b4 b5 b6 b7,tNA ⟨B,c⟩ T1 none p.1 p.2)→Holds ⟨B,c⟩ T1 o (LR b0 b1 b2 b3 b4 b5 b6 b7) w →
  GoS (shared B c q Fin) acts o m (G (bScan.at ⟨zF s c q b0 k J,wI c⟩ (.code iD::qR)) [qJ]) w:=by
 induction h with
 | done =>
   refine⟨200,fun b0 b1 b2 b3 b4 b5 b6 b7 o J w hlow hF=>?_⟩;rw[dX];refine Goes.mono (fE terms (iE (m:=10) (pUA s c q s.size J rfl w hF) rfl (by decide) ?_)) (by decide);rintro e a' w' h
   cases e with
   | exit id =>
     obtain⟨he,J',rfl,hF'⟩:=h
     cases he;refine⟨[.inScope (aD fD)],by simp[exitTo,qR],?_⟩;refine Goes.mono (n:=2) (mGA terms (rXA terms ?_)) (by decide);exact fun w₁ _=>uNA _ w₁
   | normal=>exact h.elim
   | _=>cases h.1
 | @blank k i m acts hk hf hkd hm hmn h ih =>
   obtain ⟨m', ih⟩ := ih; refine ⟨120, fun b0 b1 b2 b3 b4 b5 b6 b7 o J w hlow hF => cWA s c q k J hk rfl (by decide) w hF ?_⟩; intro J w₁ hF; obtain ⟨es, hst, hes⟩ := cLA (d := ⟨B, c⟩) (T := T1) (b := bScan) (b0 := b0) (df := wI c) (kk := .code dG :: .inBlock 1 :: qR) (cs := [qJ]) s c q k J (by decide) w₁; refine ⟨rfl, _, _, es, hst, ⟨rfl, rfl, rfl, _, _, rC _ _⟩, hes, _, qPA s k i m (m' + 110) J hk hs (.inr (.inr rfl)) hf hm hmn (fun p hp => Nat.ne_of_lt (hF.lt hp)) rfl (by decide) _
     (hF.boxed fun p hp=>?_) fun J w hF=>?_⟩
   · rcases List.mem_cons.1 hp with rfl | hp
     · exact .inl rfl
     · exact .inr ⟨hp,hlow p hp⟩
   · rw [hkd] at hF; refine Goes.mono (iE (m := m' + 1) (nNA s _ c q _ _ J w hF) rfl (by decide) ?_) (by omega); rintro e a' w' h
     cases e with
     | exit id =>
       obtain⟨he,J',rfl,hF'⟩:=h
       cases he;refine⟨qR,by simp[exitTo],?_⟩;refine rR terms ?_;rw[wFA];exact ih _ _ _ _ _ _ _ _ _ _ _ hlow (hF'.weak fun p hp=>List.mem_cons_of_mem _ hp)
     | normal=>exact h.elim
     | _=>cases h.1
 | @token k i m acts hk hf hkd hm hmn h ih =>
   obtain ⟨m', ih⟩ := ih; refine ⟨120, fun b0 b1 b2 b3 b4 b5 b6 b7 o J w hlow hF => cWA s c q k J hk rfl (by decide) w hF ?_⟩; intro J w₁ hF; obtain ⟨es, hst, hes⟩ := cLA (d := ⟨B, c⟩) (T := T1) (b := bScan) (b0 := b0) (df := wI c) (kk := .code dG :: .inBlock 1 :: qR) (cs := [qJ]) s c q k J (by decide) w₁; refine ⟨rfl, _, _, es, hst, ⟨rfl, rfl, rfl, _, _, rC _ _⟩, hes, _, qPA s k i m 500 J hk hs (.inr (.inr rfl)) hf hm hmn (fun p hp => Nat.ne_of_lt (hF.lt hp)) rfl (by decide) _
     (hF.boxed fun p hp=>?_) fun J w hF=>?_⟩
   · rcases List.mem_cons.1 hp with rfl | hp
     · exact .inl rfl
     · exact .inr ⟨hp,hlow p hp⟩
   · refine Goes.mono (iE (m := 300) (kLA s _ c q _ _ _ hkd J w hF) rfl (by decide) ?_) (by omega); rintro e a' w' h
     cases e with
     | normal =>
       obtain⟨J',rfl,hF'⟩:=h;rw[tIA];refine Goes.mono (fE terms (fE terms (iE (m:=10) (n0A s _ c q _ _ _ _ J' w' hF') rfl (by decide) ?_))) (by decide);rintro e a' w' h
       cases e with
       | normal =>
         obtain⟨J',rfl,hF'⟩:=h;refine Goes.mono (n:=2) (fE terms (aJ terms ?_)) (by decide);intro w₂ hR;have hF2:=hF'.rely hR;refine⟨rfl,wWA (b:=bScan) s c q _ _ J' (by decide) w₂,m'+400,?_⟩
         show Goes _ _ _ _ _ _ ((G (bScan.at ⟨iG s c q b0 _ _ _ J',_⟩ (.inRegion xN [0,1,2,3]::_)) [qJ]).finishComm Tryz.prog #[scase c _ qK,rcase q bU] .select 0 undef false) _
         rw[bXA];refine Goes.mono (tO (m:=m'+300) (xXA s c q _ _ J' w₂ hF2) rfl (by decide) ?_) (by omega);rintro e a' w' h
         cases e with
         | normal =>
           obtain⟨J',rfl,hF'⟩:=h;refine Goes.mono (iE (m:=m'+110) (iUA s c q _ J' w' hF') rfl (by decide) ?_) (by omega);rintro e a' w' h
           cases e with
           | normal =>
             obtain⟨J',rfl,hF'⟩:=h;refine Goes.mono (iE (m:=m'+2) (ySA s _ c q _ _ _ J' w' hF') rfl (by decide) ?_) (by omega);rintro e a' w' h
             cases e with
             | normal =>
               obtain⟨J',rfl,hF'⟩:=h;refine aX terms (rR terms ?_);rw[wFA];exact ih _ _ _ _ _ _ _ _ _ _ _ hlow (hF'.weak fun p hp=>List.mem_cons_of_mem _ hp)
             | _=>exact h.elim
           | _=>exact h.elim
         | _=>exact h.elim
       | _=>exact h.elim
     | _=>exact h.elim
noncomputable def kXA:Array Oper:=opsOf (xA (aD fD))
theorem mKA:fD = .scope (.seq (.region 0 kXA false) (.seq (xA (jA (aD fD))) (.seq (.label 0) (.seq (xA (jA (jA (jA (aD fD))))) (.block 0 (.loop iD)))))):=by rfl
def jH(s:ByteArray)(c q:Nat)(J:Nat→Value):Array Value:=#[.string s,.chan (some c),.chan (some q),J 3,J 4,J 5,J 6,J 7,J 8,J 9,J 10,J 11,J 12,J 13,J 14,J 15,J 16,J 17,J 18,J 19,J 20,J 21,J 22,J 23,J 24,J 25,J 26,J 27,J 28,J 29,J 30,J 31,J 32,J 33,J 34,J 35,J 36,J 37,J 38,J 39,J 40,J 41,J 42,J 43,J 44,J 45,J 46,J 47,J 48,J 49,J 50,J 51,J 52,J 53,J 54,J 55,J 56,J 57,J 58,J 59,J 60,J 61,J 62,J 63,J 64,J 65,J 66,J 67,J 68,J 69,J 70,J 71,J 72,J 73,J 74,J 75]
def vO(s:ByteArray)(c q b0:Nat)(J:Nat→Value):Array Value:=#[.string s,.chan (some c),.chan (some q),J 3,J 4,J 5,.slice (some ⟨b0,0,none⟩) 5 5,J 7,J 8,J 9,J 10,J 11,J 12,J 13,J 14,J 15,J 16,J 17,J 18,J 19,J 20,J 21,J 22,J 23,J 24,J 25,J 26,J 27,J 28,J 29,J 30,J 31,J 32,J 33,J 34,J 35,J 36,J 37,J 38,J 39,J 40,J 41,J 42,J 43,J 44,J 45,J 46,J 47,J 48,J 49,J 50,J 51,J 52,J 53,J 54,J 55,J 56,J 57,J 58,J 59,J 60,J 61,J 62,J 63,J 64,J 65,J 66,J 67,J 68,J 69,J 70,J 71,J 72,J 73,J 74,J 75]
theorem aLA{d:Deal}{o:Option Nat}{df:List Deferred}(s:ByteArray)(J:Nat→Value)(w:World)(hF:Holds d T1 o [] w) :
 Code.wpC Tryz.prog false (Rely d T1 o) (Lx.Does d T1 o) 125 (xA (jA (aD fD))) 2000
   (Exit.then (fun a' w'=>∃ b0 b1 b2 b3 b4 b5 b6 b7,∃ J',a'=⟨vO s c q b0 J',df⟩∧Holds d T1 o (LR b0 b1 b2 b3 b4 b5 b6 b7) w') (fun _ _ _=>False))
   ⟨jH s c q J,df⟩ w:=by
 unfold fD;simp only[Tryz.f125,Option.getD_some,xA,jA,aD,jH,vO];co_apply wpC_more
 · co_reg terms
   co_apply nG terms rfl (by rfl) rfl (wYA bSA yYA jZA _ hF) (by simp);rintro v w ⟨b0,b1,b2,b3,b4,b5,b6,b7,rfl,hF⟩
   try walk_nrm
   co_op Holds.rely hF (co_quiet terms);co_apply opsC_nil terms;co_then;exact⟨b0,b1,b2,b3,b4,b5,b6,b7,bB (by rfl) hF⟩
 · decide
theorem vJA{d:Deal}{o:Option Nat}{df:List Deferred}{L:List (Nat×Obj)}(s:ByteArray)(J:Nat→Value)(w:World)(hF:Holds d T1 o L w) :
 Code.wpC Tryz.prog false (Rely d T1 o) (Lx.Does d T1 o) 125 (xA (jA (jA (jA (aD fD))))) 20
   (Exit.then (fun a' w'=>∃ J',a'=⟨zF s c q b0 (0:Nat) J',df⟩∧Holds d T1 o L w') (fun _ _ _=>False))
   ⟨vO s c q b0 J,df⟩ w:=by
 unfold fD;simp only[Tryz.f125,Option.getD_some,xA,jA,aD,zF,vO];co_apply wpC_more
 · co_reg terms
   co_op Holds.rely hF (co_quiet terms);co_apply opsC_nil terms;co_then;exact bB (by rfl) hF
 · decide
def zO(s:ByteArray)(c q:Nat):Deferred:={ target:=.fn (.func 125) #[],args:=#[.string s,.chan (some c),.chan (some q)] }
theorem bUA(s:ByteArray)(w:World):stepG Tryz.prog false (born Tryz.prog (zO s c q)) w = .go (G (bScan.at ⟨jH s c q (fun _=>undef),[]⟩ [.code fD]) [qJ]) w #[]:=by
 simp[born,zO,stepG,unwind,callDeferred,invoke,callFunc,Tryz.func125,Tryz.f125,seen,GStep.after,G,Frame.enter,Frame.at,bScan,qJ,fD,jH]
theorem wRA(s:ByteArray)(hs:s.size≤100000)(acts:List SAct)(h:Scans s 0 acts)(w:World)(hF:Holds ⟨B,c⟩ T1 none [] w) :
 ∃ m,GoS (shared B c q Fin) acts none m (born Tryz.prog (zO s c q)) w:=by
 obtain⟨m,hm⟩:=gSA (B:=B) (c:=c) (q:=q) (Fin:=Fin) s hs 0 acts h;refine⟨m+3000,Goes.mono (n:=m+2500+1) (Goes.step rfl fun w₁ h₁=>?_) (by omega)⟩
 show GStep.goes (stepG Tryz.prog false (born Tryz.prog (zO s c q)) w₁) _
 rw [bUA]; refine ⟨Does.idle _, ?_⟩; replace hF := hF.rely h₁; rw [mKA]; refine Goes.mono (n := m + 2300 + 1 + 1 + 1 + 1 + 1) (vMA terms (fE terms (aJ terms ?_))) (by omega); have ho0 : kXA[0]? = some { dst := some 12, op := .move (.tmp 1), type := 230, pos := "lexer.go:65", after := #[], guard := none } := by rfl
 have ho1 : kXA[1]? = some { dst := none, op := .defer { callee := .builtin .close, args := #[.tmp 12], argTypes := #[230] }, type := 0, pos := "lexer.go:65", after := #[{ on := 0, ground := .data }], guard := none } := by rfl
 show Goes _ _ _ _ _ _ (G (bScan.at _ (.inRegion kXA [0,1]::_)) _) _
 refine bW ho0 (by rfl) (by decide) fun w₂ h₂ K hK=>?_
 replace hF := hF.rely h₂; have hl0 : listed Tryz.prog bScan.fn ⟨jH s c q (fun _ => undef), []⟩ { dst := some 12, op := .move (.tmp 1), type := 230, pos := "lexer.go:65", after := #[], guard := none } w₂ = #[] := listed_nil rfl
 change uponK _ _ K (Result.ok (Next.value (.chan (some c))) w₂)
 refine hK _ _ ⟨by show Lx.Does _ _ _ _ _ (listed Tryz.prog bScan.fn _ _ _);rw[hl0];exact Does.idle _,?_⟩;have he12:(Act.put ⟨jH s c q (fun _=>undef),[]⟩ (some 12) (.chan (some c))).eval (.tmp 12) = .chan (some c):=rfl;refine iOA terms ho1 (by rfl) (by decide) (dd:=zI c #[230] 0 #[false]) (fun _=>by unfold execOp;simp[resolve,zI,he12]) (fun _=>by unfold execOp;simp[resolve]) ?_;have hfr:Act.put ⟨(Act.put ⟨jH s c q (fun _=>undef),[]⟩ (some 12) (.chan (some c))).tmps,zI c #[230] 0 #[false]::[]⟩ none undef=⟨jH s c q (fun n=>((jH s c q (fun _=>undef)).setIfInBounds 12 (.chan (some c))).getD n undef),wI c⟩:=by rfl
 change Goes Tryz.prog false _ _ _ _ (G (bScan.at (Act.put ⟨(Act.put ⟨jH s c q (fun _=>undef),[]⟩ (some 12) (.chan (some c))).tmps,zI c #[230] 0 #[false]::[]⟩ none undef) (.inRegion kXA []::_)) _) _
 rw[hfr];refine Goes.mono (tO (m:=m+2200) (fn:=125) (Q:=Exit.then (fun a' w'=>a'=⟨jH s c q (fun n=>((jH s c q (fun _=>undef)).setIfInBounds 12 (.chan (some c))).getD n undef),wI c⟩∧Holds ⟨B,c⟩ T1 none [] w') (fun _ _ _=>False)) (opsC_nil terms ⟨rfl,hF⟩) rfl (by decide) ?_) (by omega);rintro e a' w' h
 cases e with
 | normal =>
   obtain⟨rfl,hF⟩:=h;refine Goes.mono (fE terms (iE (m:=m+100) (aLA s _ w' hF) rfl (by decide) ?_)) (by omega);rintro e a' w' h
   cases e with
   | normal =>
     obtain⟨b0,b1,b2,b3,b4,b5,b6,b7,J',rfl,hF⟩:=h;have hlow:=hF.safe;refine Goes.mono (fE terms (iE (m:=m+50) (Q:=Exit.then (fun a' w'=>a'=⟨vO s c q b0 J',wI c⟩∧Holds ⟨B,c⟩ T1 none (LR b0 b1 b2 b3 b4 b5 b6 b7) w') (fun _ _ _=>False)) (wpC_label terms ⟨rfl,hF⟩) rfl (by decide) ?_)) (by omega);rintro e a' w' h
     cases e with
     | normal =>
       obtain⟨rfl,hF⟩:=h;refine Goes.mono (fE terms (iE (m:=m+3) (vJA s J' w' hF) rfl (by decide) ?_)) (by omega);rintro e a' w' h
       cases e with
       | normal =>
         obtain⟨J',rfl,hF⟩:=h;exact Goes.mono (kQ terms (fFA terms (hm _ _ _ _ _ _ _ _ _ _ _ hlow hF))) (by omega)
       | _=>exact h.elim
     | _=>exact h.elim
   | _=>exact h.elim
 | _=>exact h.elim
end
noncomputable def qE:Code:=Tryz.f101.body.getD .skip
noncomputable def uE:Code:=jA (jA qE)
noncomputable def qEA:Array Oper:=opsOf (xA (jA (jA uE)))
noncomputable def pE:Code:=jA (jA (jA uE))
noncomputable def pI:Code:=xA (jA pE)
noncomputable def lexEnd:Code:=jA (jA pE)
noncomputable def dE:Code:=aD (aD (jA pI))
noncomputable def mJ:Array Oper:=opsOf (xA dE)
noncomputable def rE:Code:=aD (jA (jA dE))
noncomputable def iBA:Array Oper:=opsOf (xA rE)
theorem lZ:dE = .seq (.region 8 mJ false) (.seq (xA (jA dE)) (.block 1 (.seq (.region 9 iBA false) (.seq (xA (jA rE)) (jA (jA rE)))))):=by rfl
theorem zJA:pE = .seq (xA pE) (.seq (.seq (xA pI) (.block 0 (.loop dE))) lexEnd):=by rfl
def wD(s:ByteArray)(c q:Nat)(v:Value)(J:Nat→Value):Array Value :=
 #[.string s, J 1, J 2, J 3, J 4, .chan (some c), .chan (some q), v, J 8, J 9, J 10, J 11, J 12, J 13, J 14, J 15, J 16, J 17, .chan (some c), J 19, J 20, J 21, J 22, J 23, J 24, J 25, J 26, J 27, J 28, J 29, J 30, J 31, J 32, J 33, J 34, J 35]
def yR(s:ByteArray)(c q:Nat)(v x:Value)(J:Nat→Value):Array Value :=
 #[.string s, J 1, J 2, J 3, J 4, .chan (some c), .chan (some q), v, J 8, J 9, J 10, J 11, J 12, J 13, J 14, J 15, J 16, J 17, .chan (some c), J 19, J 20, x, J 22, J 23, J 24, J 25, J 26, J 27, J 28, J 29, J 30, J 31, J 32, J 33, J 34, J 35]
def gV(s:ByteArray)(c q:Nat)(v:Value)(xb:Nat)(J:Nat→Value):Array Value :=
 #[.string s, J 1, J 2, J 3, J 4, .chan (some c), .chan (some q), v, .pointer (some ⟨xb, 0, none⟩), J 9, J 10, J 11, J 12, J 13, J 14, J 15, J 16, J 17, .chan (some c), J 19, J 20, J 21, J 22, J 23, J 24, J 25, J 26, J 27, J 28, J 29, J 30, J 31, J 32, J 33, J 34, J 35]
section
variable {d : Deal} {o : Option Nat} {L : List (Nat × Obj)} {w0 : World} {v : Value} {n : Nat} {xs : List Value} {df : List Deferred} {b : Frame} {kk : List Item} {cs : List Frame} {Stop : Goroutine → World → Prop}
abbrev MX(d:Deal)(L:List (Nat×Obj))(w0:World)(v:Value)(n:Nat)(xs:List Value)(o:Option Nat)(w:World):Prop:=MH d T0 197 3 L w0 v n xs o w
theorem hLA(s:ByteArray)(c q:Nat)(J:Nat→Value)(hbk:b.kind≠.early)(w:World) :
 stepG Tryz.prog true (G (b.at ⟨wD s c q v J, df⟩ (.inRegion mJ [0, 1] :: kk)) cs) w =
   .comm (G (b.at ⟨wD s c q v J,df⟩ (.inRegion mJ [0,1]::kk)) cs) #[rcase c qK] true (.recv true) w #[]:=by
 have ho : mJ[0]? = some { dst := some 19, op := .recv 193 (.tmp 18) true, type := 0, pos := "lexer.go:101", after := #[], guard := none } := by rfl
 have he1 : (⟨wD s c q v J, df⟩ : Act).eval (.tmp 18) = .chan (some c) := rfl; have hr : (execOp (⟨wD s c q v J, df⟩ : Act).eval { dst := some 19, op := .recv 193 (.tmp 18) true, type := 0, pos := "lexer.go:101", after := #[], guard := none }).run Tryz.prog w = .ok (.comm #[rcase c qK] true (.recv true)) w := by
  unfold execOp;simp[rcase,he1,qK,eB]
 have hl : (execOp (⟨wD s c q v J, df⟩ : Act).eval { dst := some 19, op := .recv 193 (.tmp 18) true, type := 0, pos := "lexer.go:101", after := #[], guard := none }).events Tryz.prog w #[] = #[] := by
  unfold execOp;simp
 rw[stepG_comm ho (by rfl) hbk hr,listed_nil hl]
theorem aKA(s:ByteArray)(c q:Nat)(x:Value)(ok:Bool)(J:Nat→Value) :
 (G (b.at ⟨wD s c q v J, df⟩ (.inRegion mJ [0, 1] :: kk)) cs).finishComm Tryz.prog #[rcase c qK] (.recv true) 0 x ok =
   G (b.at ⟨(wD s c q v J).setIfInBounds 19 (.tuple #[x,.bool ok]),df⟩ (.inRegion mJ [1]::kk)) cs:=by
 have ho:(mJ[0]?).bind (·.dst)=some 19:=by rfl
 have hr:commResult #[rcase c qK] (.recv true) 0 x ok = .tuple #[x,.bool ok]:=by rfl
 simp only[Goroutine.finishComm,G,hr,Frame.finish_at,ho];rfl
theorem xUA(s:ByteArray)(c q:Nat)(x:Value)(J:Nat→Value)(w:World)(hF:MX d L w0 v n xs o w) :
 OpsC Tryz.prog true (Rely d T0 o) (Lx.Does d T0 o) 101 mJ [1] 10
   (Exit.then (fun a' w'=>∃ J',a'=⟨((wD s c q v J').setIfInBounds 19 (.tuple #[x,.bool true])).setIfInBounds 20 (.bool true),df⟩∧MX d L w0 v n xs o w') (fun _ _ _=>False))
   ⟨(wD s c q v J).setIfInBounds 19 (.tuple #[x,.bool true]),df⟩ w:=by
 have he:mJ=opsOf (xA dE):=rfl;rw[he];clear he;unfold dE pI pE uE qE;simp only[Tryz.f101,Option.getD_some,xA,jA,aD,opsOf,wD,List.setIfInBounds_toArray,List.set_cons_succ,List.set_cons_zero];co_apply opsC_more
 · co_op MH.rely hF (co_quiet terms);co_apply opsC_nil terms;co_then;exact bB (by rfl) hF
 · decide
theorem jXA(s:ByteArray)(c q:Nat)(x:Value)(J:Nat→Value)(w:World)(hF:MX d L w0 v n xs o w) :
 Code.wpC Tryz.prog true (Rely d T0 o) (Lx.Does d T0 o) 101 (xA (jA dE)) 100
   (Exit.then (fun a' w'=>∃ J',a'=⟨(wD s c q v J').setIfInBounds 19 (.tuple #[x,.bool true]),df⟩∧MX d L w0 v n xs o w') (fun _ _ _=>False))
   ⟨((wD s c q v J).setIfInBounds 19 (.tuple #[x,.bool true])).setIfInBounds 20 (.bool true),df⟩ w:=by
 unfold dE pI pE uE qE;simp only[Tryz.f101,Option.getD_some,xA,jA,aD,wD,List.setIfInBounds_toArray,List.set_cons_succ,List.set_cons_zero];co_apply wpC_more
 · skip
   co_apply wpC_cond (t:=true) terms rfl;simp only[if_true];co_ctl terms;co_then;exact bB (by rfl) hF
 · decide
theorem r5A (s : ByteArray) (c q : Nat) (x : Value) (J : Nat → Value) (hbf : b.fn = 101) (hbk : b.kind ≠ .early) (w : World) (hF : MX d L w0 v n xs o w)
    (hS:∀ J w₁,MX d L w0 v n xs o w₁→Stop (G (b.at ⟨yR s c q v x J,df⟩ (.inRegion iBA [1,2] :: .code (.seq (xA (jA rE)) (jA (jA rE))) :: .inBlock 1::kk)) cs) w₁) :
    Goes Tryz.prog true (Rely d T0 o) (Lx.Does d T0 o) Stop 200 (G (b.at ⟨(wD s c q v J).setIfInBounds 19 (.tuple #[x,.bool true]),df⟩ (.inRegion mJ [1] :: .code (.seq (xA (jA dE)) (.block 1 (.seq (.region 9 iBA false) (.seq (xA (jA rE)) (jA (jA rE))))))::kk)) cs) w:=by
  refine Goes.mono (tO (m:=150) (xUA s c q x J w hF) hbf hbk ?_) (by decide);rintro e a' w' h
  cases e with
  | normal =>
    clear hF;obtain⟨J',rfl,hF⟩:=h;refine Goes.mono (fE terms (iE (m:=10) (jXA s c q x J' w' hF) hbf hbk ?_)) (by decide);rintro e a' w' h
    cases e with
    | normal =>
      clear hF;obtain⟨J',rfl,hF⟩:=h;refine Goes.mono (n:=1+1+1+1) (n':=10) (kQ terms (fE terms (aJ terms ?_))) (by decide);have he:iBA=opsOf (xA rE):=rfl;rw[he]at hS ⊢;generalize hg:Code.seq (xA (jA rE)) (jA (jA rE))=rest at hS ⊢;clear hg he;unfold rE dE pI pE uE qE at hS ⊢;simp only[Tryz.f101,Option.getD_some,xA,jA,aD,opsOf,wD,List.setIfInBounds_toArray,List.set_cons_succ,List.set_cons_zero,List.size_toArray,List.length_cons,List.length_nil,Nat.reduceAdd,Nat.zero_add,List.range,List.range.loop]at hS ⊢;co_apply bW rfl (by rfl) hbk;intro _ hR K hK;replace hF:=MH.rely hF hR;clear hR;go_simp;refine hK _ _ ⟨?_,?_⟩
      · co_quiet terms
      clear hK K
      try walk_nrm
      exact sFA fun w₁ hR=>aQA hS (by rfl) w₁ (MH.rely hF hR)
    | _=>exact h.elim
  | _=>exact h.elim
theorem j3A(s:ByteArray)(c q:Nat)(x:Value)(J:Nat→Value)(hbk:b.kind≠.early)(w:World) :
 ∃ es, stepG Tryz.prog true (G (b.at ⟨yR s c q v x J, df⟩ (.inRegion iBA [1, 2] :: kk)) cs) w =
   .go (G (b.at ⟨(yR s c q v x J).setIfInBounds 8 (.pointer (some ⟨w.heap.size,0,none⟩)),df⟩ (.inRegion iBA [2]::kk)) cs) (w.alloc (.cells (eB 0 0 ⟨#[]⟩ 0) 199 (0,0))) es∧∀ e∈es,jU d T0 (some w.heap.size) (w.alloc (.cells (eB 0 0 ⟨#[]⟩ 0) 199 (0,0))) e:=by
 have ho : iBA[1]? = some { dst := some 8, op := .alloc 199, type := 0, pos := "lexer.go:101", after := #[], guard := none } := by rfl
 refine⟨_,stepG_value ho (by rfl) hbk (v:=.pointer (some ⟨w.heap.size,0,none⟩)) ?_,?_⟩
 · refine tEA fun K hK => ?_
   go_simp;exact hK
 · rw[listed_nil (by simp[go_sem])];simp
end
theorem pM:T0 197:=rfl
theorem Tryz.info197:(Tryz.prog.info? 197).map (fun i=>(i.zero,i.size,i.bytes))=some (some (.agg #[.int .i64 0,.int .i64 0,.string ⟨#[]⟩]),3,32):=by kernel_rfl
section
variable {d : Deal} {o : Option Nat} {L : List (Nat × Obj)} {w0 : World} {v : Value} {n xb : Nat} {xs : List Value} {df : List Deferred}
theorem dZA(s x:ByteArray)(c q k:Nat)(kd e:Int)(J:Nat→Value)(hv:v.ownBlock≠some xb)(w:World)(hF:MX d [(xb,Obj.cells (eB 0 0 ⟨#[]⟩ 0) 199 (0,0))] w0 v n xs (some xb) w) :
 OpsC Tryz.prog true (Rely d T0 (some xb)) (Lx.Does d T0 (some xb)) 101 iBA [2] 10
   (Exit.then (fun a' w'=>∃ J',a'=⟨gV s c q v xb J',df⟩∧MX d [(xb,Obj.cells (eB kd k x e) 199 (0,0))] w0 v n xs (some xb) w') (fun _ _ _=>False))
   ⟨(yR s c q v (.agg (eB kd k x e)) J).setIfInBounds 8 (.pointer (some ⟨xb,0,none⟩)),df⟩ w:=by
 have he:iBA=opsOf (xA rE):=rfl;rw[he];clear he;unfold rE dE pI pE uE qE;simp only[Tryz.f101,Option.getD_some,xA,jA,aD,opsOf,yR,gV,eB,List.setIfInBounds_toArray,List.set_cons_succ,List.set_cons_zero]at hF ⊢;co_apply opsC_more
 · co_opw MH.rely hF (have hm : (xb, Obj.cells #[.int .i64 0, .int .i64 ((0 : Nat) : Int), .string ⟨#[]⟩, .int .i64 0] 199 (0, 0)) ∈ [(xb, Obj.cells #[.int .i64 0, .int .i64 ((0 : Nat) : Int), .string ⟨#[]⟩, .int .i64 0] 199 (0, 0))] := List.mem_cons_self; have hc0 : _ = some _ := hF.holds.cell hm 0; have hc1 : _ = some _ := hF.holds.cell hm 1; have hc2 : _ = some _ := hF.holds.cell hm 2; have hc3 : _ = some _ := hF.holds.cell hm 3; have hf0 := hF.holds.frozen hm 0; have hf1 := hF.holds.frozen hm 1; have hf2 := hF.holds.frozen hm 2; have hf3 := hF.holds.frozen hm 3) (have ho := hF.holds.boxOwn; have ht := Turn.set4 ho (hF.holds.lt hm) hF.holds.big (.int .i64 kd) (.int .i64 (k : Int)) (.string x) (.int .i64 e); refine ⟨ht, ?_⟩; have ho2 := ht.own_fwd (hF.holds.lt hm) ho; clear ht ho; have es := yP Tryz.prog; intro e he; have hm := mem_listed he; simp [go_sem, *] at hm; rcases hm with rfl | rfl | rfl | rfl <;> exact wO ho2 _ _ _)
   replace hF:=hF.set4 hv (.int .i64 kd) (.int .i64 (k:Int)) (.string x) (.int .i64 e);co_apply opsC_nil terms;co_then;exact bB (by rfl) hF
 · decide
theorem j2A(s x:ByteArray)(c q k:Nat)(kd:Int)(J:Nat→Value)(w:World)(hF:MX d [(xb,Obj.cells (eB kd k x 0) 199 (0,0))] w0 v n xs (some xb) w) :
 Code.wpC Tryz.prog true (Rely d T0 (some xb)) (Lx.Does d T0 (some xb)) 101 (xA (jA rE)) 100
   (Exit.then (fun a' w'=>∃ J',a'=⟨gV s c q v xb J',df⟩∧MX d [(xb,Obj.cells (eB kd k x 0) 199 (0,0))] w0 v n xs (some xb) w') (fun _ _ _=>False))
   ⟨gV s c q v xb J,df⟩ w:=by
 have hm:(xb,Obj.cells (eB kd k x 0) 199 (0,0))∈[(xb,Obj.cells (eB kd k x 0) 199 (0,0))]:=List.mem_cons_self;unfold rE dE pI pE uE qE;simp only[Tryz.f101,Option.getD_some,xA,jA,aD,gV];co_apply wpC_more
 · co_apply wpC_seq terms
   co_reg terms
   co_op MH.rely hF (co_quiet terms)
   co_opw MH.rely hF (have hc:_=some (Value.int .i64 0):=hF.holds.cell hm 3) (refine Does.reads ?_;co_evs (exact hF.holds.read hm _ _))
   clear hc;co_op MH.rely hF (co_quiet terms);co_apply opsC_nil terms;co_then;co_apply wpC_cond (t:=false) terms rfl;simp only[Bool.false_eq_true,if_false];co_ctl terms;co_then;exact bB (by rfl) hF
 · decide
theorem lXA(s x:ByteArray)(c q k:Nat)(kd:Int)(J:Nat→Value)(hn:n≤1000000)(w:World)(hF:MX d [(xb,Obj.cells (eB kd k x 0) 199 (0,0))] w0 v n xs (some xb) w) :
 Code.wpC Tryz.prog true (Rely d T0 (some xb)) (Lx.Does d T0 (some xb)) 101 (jA (jA rE)) 100
   (Exit.then (fun a' w'=>∃ v',(∃ J',a'=⟨wD s c q v' J',df⟩∧MX d [] w0 v' (n+1) (xs++[.int .i64 kd,.int .i64 (k:Int),.string x]) (some xb) w')) (fun _ _ _=>False))
   ⟨gV s c q v xb J,df⟩ w:=by
 have hm:(xb,Obj.cells (eB kd k x 0) 199 (0,0))∈[(xb,Obj.cells (eB kd k x 0) 199 (0,0))]:=List.mem_cons_self;obtain⟨i0,hi,hz⟩:=Option.map_eq_some_iff.1 Tryz.info197;simp only[Prod.mk.injEq]at hz;obtain⟨hz0,hz1,hz2⟩:=hz;have HI:=Lib.hid hi;have HZ0:=Lib.hid hz0;have HZ1:=Lib.hid hz1;have HZ2:=Lib.hid hz2;clear hi hz0 hz1 hz2;unfold rE dE pI pE uE qE;simp only[Tryz.f101,Option.getD_some,xA,jA,aD,gV,wD];co_apply wpC_more
 · co_reg terms
   co_op MH.rely hF (co_quiet terms);co_op MH.rely hF (co_quiet terms)
   co_opw MH.rely hF (have hc0:_=some (Value.int .i64 kd):=hF.holds.cell hm 0;have hc1:_=some (Value.int .i64 (k:Int)):=hF.holds.cell hm 1;have hc2:_=some (Value.string x):=hF.holds.cell hm 2) (refine Does.reads ?_;intro e he;have hm:=mem_listed he;simp[go_sem, *]at hm;rcases hm with rfl | rfl | rfl<;>exact hF.holds.read hm _ _)
   clear hc0 hc1 hc2
   co_opw MH.rely hF (skip) (refine⟨Turn.alloc pM hF.holds.box,?_⟩;co_evs (skip))
   have hBn:=hF.holds.big;replace hF:=hF.cons #[.int .i64 kd,.int .i64 (k:Int),.string x] pM
   revert hBn hF
   generalize Array.size (World.heap _)=nb;intro hBn hF;co_apply opsC_cons_k rfl (by rfl);intro w1 hR K hK;replace hF:=MH.rely hF hR;clear hR;have hmn:(nb,Obj.cells #[.int .i64 kd,.int .i64 (k:Int),.string x] 197 (0,0))∈(nb,Obj.cells #[.int .i64 kd,.int .i64 (k:Int),.string x] 197 (0,0))::[(xb,Obj.cells (eB kd k x 0) 199 (0,0))]:=List.mem_cons_self;have hnews:∀ j u,[Value.int .i64 kd,.int .i64 (k:Int),.string x][j]? = some u→w1.cell? ((⟨nb,0,none⟩:Addr).add j)=some u:=by
    intro j u hu;rw[oUA,hF.holds.cell hmn j]
    simpa using hu
   have h1:∀ u∈[Value.int .i64 kd,.int .i64 (k:Int),.string x],u.oneCell'=true:=by
    intro u hu;simp only[List.mem_cons,List.not_mem_nil,or_false]at hu;rcases hu with rfl | rfl | rfl<;>rfl
   have hmx:n+1≤maxLen:=by simp only[maxLen];omega
   have hby:(n+1) * 32≤140737488355328:=by omega
   obtain⟨v',w',hr,hown',hg,ht⟩:=rIA (P:=Tryz.prog) (d:=d) (T:=T0) (o:=some xb) w1 162 162 197 i0 _ 3 32 Tryz.underlying162 HI.out HZ0.out HZ1.out HZ2.out rfl (by decide) v n xs hF.own ⟨nb,0,none⟩ 1 1 [.int .i64 kd,.int .i64 (k:Int),.string x] (by decide) rfl hnews h1 hmx hby pM hF.holds.big hF.holds.box;have hev:=events_append_where (P:=Tryz.prog) w1 d.B 162 162 197 i0 _ 3 32 Tryz.underlying162 HI.out HZ0.out HZ1.out HZ2.out v n xs hF.own ⟨nb,0,none⟩ 1 1 [.int .i64 kd,.int .i64 (k:Int),.string x] rfl hnews h1 hmx hby;refine uponK_append (.tmp 30) (.tmp 33) 162 rfl rfl rfl hr (hK _ _ ⟨⟨ht,?_⟩,?_⟩)
   · intro e he; have hm := mem_listed he; rw [events_append_op (.tmp 30) (.tmp 33) 162 rfl rfl rfl] at hm; rcases hev e hm with ⟨ad, hl, hcase⟩ | ⟨m, rfl, hneu⟩
     · rcases hcase with ⟨_, hb⟩ | hb
       · have hb:ad.block=nb:=hb;exact hJA hl (hb▸ht.own_fwd (hF.holds.lt hmn) (hF.holds.mine hmn hBn pM))
       · obtain⟨h1,h2⟩:=oLA (o:=some xb) pM hF.own hb.symm;exact hJA hl (ht.own_fwd h2 h1)
     · exact xRA hneu
   replace hF:MX d [] w0 v' (n+1) (xs++[.int .i64 kd,.int .i64 (k:Int),.string x]) (some xb) w' :=
    ⟨⟨by simp,by simp,Nat.le_trans hF.holds.big ht.size,fun b hb=>Nat.lt_of_lt_of_le (hF.holds.box b hb) ht.size⟩,hown',hF.low.turn ht hF.holds.big hF.boxB,pM,hF.boxB⟩
   clear hK K hnews h1 hr hown' hg ht hev hmn hBn
   try walk_nrm
   co_op MH.rely hF (co_quiet terms);co_apply opsC_nil terms;co_then;exact⟨v',bB (by rfl) hF⟩
 · decide
end
end Go.Proofs.YtggjbblgoddnjaaGreatDoor
