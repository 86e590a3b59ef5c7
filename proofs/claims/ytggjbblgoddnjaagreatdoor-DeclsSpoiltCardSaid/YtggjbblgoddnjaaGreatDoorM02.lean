/- Part 2 of what the proof rests on. -/
import Derived.KernelRfl
import Derived.Conc.CrowdComm
import Derived.Conc.Beside
import Derived.Lone
import Derived.Conc.Company
import Derived.Conc.CompanyMem
import Derived.Test.YtggjbblgoddnjaaGreatDoorM01
import Derived.Test.YtggjbblgoddnjaaGreatDoorM00
set_option linter.unusedSimpArgs false
set_option linter.unusedVariables false
namespace Go.Lx
variable {P : Program}
theorem kBA{α:Type}{φ:α→Prop}{s:Sem α}(hs:Safe P φ 0 s)(w:World) :
 aBA (s.run P w)∨∃ c,(wOf (s.run P w)).drawn=w.drawn+c∧(wOf (s.run P w)).tape=w.tape∧∀ τ d,Agree w.tape w.drawn τ d c→s.run P (re w τ d)=reR (s.run P w) τ (d+c):=by
 obtain⟨r,es,hr,_,_,hn⟩:=nJ hs w;have e:s.run P w=r:=by rw[← Sem.runT_fst P s w #[],hr]
 rw[e];rcases hn with h | ⟨c,h1,h2,h3⟩
 · exact .inl h
 · exact .inr ⟨c,h1,h2,fun τ d ha=>by rw[← Sem.runT_fst P s (re w τ d) #[],h3 τ d ha]⟩
theorem yR{fr:Frame}{v:Value}(hf:mH fr)(w:World):Good (fun w=>endPrinting P fr v w) w:=by
 unfold endPrinting;dsimp only
 split
 · exact wM hf
 · exact .inl trivial
theorem cDA(T:Tame P){main:Bool}{fr:Frame}{cs:List Frame}{dy:Option Dying}(hf:mH fr)(hc:∀ f∈cs,mH f)(w:World):Good (fun w=>unwind P main fr cs dy w) w:=by
 obtain⟨fn,tmps,todo,defers,mode,kind,ro⟩:=fr
 cases defers with
 | cons d ds =>
   obtain⟨t,args⟩:=d;by_cases ht:∃ b,t = .collected b
   · obtain ⟨b, rfl⟩ := ht; obtain ⟨r, es, hr, hms, hb, hn⟩ := nJ (φ := fun _ => True) (pU (P := P) b) w; rcases hn with ⟨h, w', hd, rfl⟩ | ⟨c, h1, h2, h3⟩
     · left
       simp only[unwind,hr];exact lC trivial
     · cases r with
       | ok a w' =>
         refine yB (w':=w') (c:=c) h1 h2 (by simp only[unwind,hr];rfl) (fun τ d ha=>by simp only[unwind,h3 τ d ha];rfl) ?_;exact xB (fun _=>lG hms hb.2) (tC ⟨hf,hc,(by simp[fF])⟩ eG)
       | halt h w'=>left;simp only[unwind,hr];exact lC trivial
   · have e : ∀ v, unwind P main ⟨fn, tmps, todo, ⟨t, args⟩ :: ds, mode, kind, ro⟩ cs dy v = callDeferred P ⟨fn, tmps, todo, ds, mode, kind, ro⟩ cs dy ⟨t, args⟩ v := by
       intro v
       cases t<;>first | rfl | exact absurd ⟨_,rfl⟩ ht
     simp only[e];exact oAA T (fr:=⟨fn,tmps,todo,ds,mode,kind,ro⟩) (show mH ⟨fn,tmps,todo,ds,mode,kind,ro⟩ from hf) hc w
 | nil =>
   cases mode with
   | run=>exact .inl trivial
   | panicking chain =>
     simp only[unwind];refine kEA (.inl trivial) ?_
     cases cs with
     | cons c cs=>exact tC ⟨pK (hc c (by simp)) _,fun f hf=>hc f (List.mem_cons_of_mem _ hf),(by simp[fF])⟩ eG
     | nil =>
       cases dy with
       | none =>
         simp only;refine kEA (tC ⟨hf,by simp,(by simp[fF])⟩ eG) ?_;rcases kBA (φ:=fun _=>True) (kFA (P:=P) chain false) w with⟨h,w',hd,hr⟩ | ⟨c,h1,h2,h3⟩
         · left
           simp only[hr]
           cases h with
           | stuck x=>trivial
           | unsupported u=>trivial
           | _=>cases hd
         · cases hr : (reportChain chain false).run P w with
           | ok a w' =>
             rw[hr]at h1 h2;refine yB (w':=w') (c:=c) h1 h2 (by simp only[hr];rfl) (fun τ d ha=>by simp only[h3 τ d ha,hr];rfl) ?_;exact tC ⟨hf,by simp,(by simp[fF])⟩ eG
           | halt h w' =>
             left
             simp only[hr]
             cases h<;>trivial
       | some dd =>
         simp only
         split
         · exact yR hf w
         · exact .inl trivial
   | returning =>
     simp only[unwind]
     cases hfn:P.funcs[fn]? with
     | none=>exact zQ hf hc w
     | some fnn =>
       simp only;obtain⟨r,es,hr,hms,hb,hn⟩:=nJ (φ:=fun _=>True) (sVA (P:=P) fnn tmps) w;rcases hn with⟨h,w',hd,rfl⟩ | ⟨c,h1,h2,h3⟩
       · left
         simp only[hr];refine lC ?_
         cases h<;>first | trivial | cases hd
       · cases r with
         | ok a w' =>
           refine yB (w':=w') (c:=c) h1 h2 (by simp only[hr];rfl) (fun τ d ha=>by simp only[h3 τ d ha];rfl) ?_;exact xB (fun _=>lG hms hb.2) (zQ hf hc w')
         | halt h w' =>
           left
           simp only[hr];refine lC ?_
           cases h<;>trivial
variable {P : Program}
theorem yWA{α:Type}{φ:α→Prop}{s:Sem α}{w:World}{x:Result α×Array Event}(hx:s.runT P w #[]=x)(hs:Safe P φ 0 s) :
 (∀ e∈x.2,MS e)∧BalR φ 0 x.2 x.1∧(aBA x.1∨∃ c,(wOf x.1).drawn=w.drawn+c∧(wOf x.1).tape=w.tape∧∀ τ d,Agree w.tape w.drawn τ d c→s.runT P (re w τ d) #[]=(reR x.1 τ (d+c),x.2)):=by
 obtain⟨r,es,hr,hms,hb,hn⟩:=nJ hs w;rw[hx]at hr;subst hr;exact⟨hms,hb,hn⟩
theorem pRA{F:World→GStep}{w:World}(hs:done (F w)∨SOk (F w))(hw:done (F w)∨∃ c,∀ τ d,Agree w.tape w.drawn τ d c→F (re w τ d)=gre (F w) τ (d+c)):Good F w:=by
 rcases hw with h | ⟨c,h⟩
 · exact .inl h
 · exact sHA c hs h
section
variable {β : Type} {φ : β → Prop} {d : Nat}
theorem yAB{f:Unit→Sem β}(h:Safe P φ (d+1) (f ())):Safe P φ d (mark .disable >>= f):=h
theorem vAB{f:Unit→Sem β}(h:Safe P φ d (f ())):Safe P φ (d+1) (mark .enable >>= f):=⟨Nat.succ_pos d,h⟩
theorem v2A{f:Program→Sem β}(h:Safe P φ d (f P)):Safe P φ d (program >>= f):=h
theorem uWA{a:Addr}{v:Value}{m:Mode}{f:Unit→Sem β}(h:Safe P φ d (f ())):Safe P φ d (store a v m >>= f):=h
theorem hWA{f:Unit→Sem β}:Safe P φ d ((Sem.halt .blocked:Sem Unit) >>= f):=⟨trivial,.inr trivial⟩
theorem xAB{x:String}{f:Unit→Sem β}:Safe P φ d ((unsupported (.noEntry x):Sem Unit) >>= f):=⟨trivial,.inr trivial⟩
theorem tAB{c:Sys}{f:SysRet→Sem β}(h0:∃ x,f .wouldBlock = .halt (.unsupported (.noEntry x)))(h:∀ r,Safe P φ d (f r)):Safe P φ d (sys c >>= f) :=
 ⟨let⟨x,hx⟩:=h0;⟨.unsupported (.noEntry x),trivial,hx⟩,h⟩
theorem r2A{f:Bool→Sem β}(h:∀ b,Safe P φ d (f b)):Safe P φ d (Extern.PrintPieces.held >>= f):=by
 show ∀ v,Safe P φ d (Sem.bind _ f)
 intro v
 cases v<;>first | exact h _ | exact⟨trivial,.inr trivial⟩
end
theorem dMA{fr:Frame}{dd:Dying}{f:Fatal}(hf:mH fr)(w:World):Good (fun w=>writeOn P fr dd f w) w:=by
 cases hp:f.pieces with
 | nil=>left;simp only[writeOn,hp];trivial
 | cons piece rest =>
   refine pRA ?_ ?_
   · simp only [writeOn, hp]; generalize hx : Sem.runT P _ w #[] = x; have D := yWA (φ := fun _ => True) hx (by
       repeat' (first | (with_reducible exact Ok.pure) | (with_reducible exact fB) | (with_reducible exact hWA) | (with_reducible exact xAB) | (with_reducible refine yAB ?_) | (with_reducible refine r2A ?_) | (with_reducible refine v2A ?_) | (with_reducible refine uWA ?_) | (with_reducible refine vAB ?_) | (with_reducible refine tAB ?_ ?_) | exact⟨_,rfl⟩ | intro _ | split))
     obtain⟨hms,hb,_⟩:=D;obtain⟨r,es⟩:=x
     cases r with
     | ok a w'=>exact .inr ⟨⟨hf,by simp,(by simp[fF])⟩,hb.2⟩
     | halt h w'=>cases h<;>first | exact .inl trivial | exact .inr ⟨⟨hf,by simp,(by simp[fF])⟩,eG⟩
   · simp only [writeOn, hp]; generalize hx : Sem.runT P _ w #[] = x; have D := yWA (φ := fun _ => True) hx (by
       repeat' (first | (with_reducible exact Ok.pure) | (with_reducible exact fB) | (with_reducible exact hWA) | (with_reducible exact xAB) | (with_reducible refine yAB ?_) | (with_reducible refine r2A ?_) | (with_reducible refine v2A ?_) | (with_reducible refine uWA ?_) | (with_reducible refine vAB ?_) | (with_reducible refine tAB ?_ ?_) | exact⟨_,rfl⟩ | intro _ | split))
     obtain⟨_,_,hn⟩:=D;rcases hn with⟨h,w',hd,hr⟩ | ⟨c,h1,h2,h3⟩
     · left
       obtain⟨r,es⟩:=x;simp only at hr;subst hr
       cases h<;>first | trivial | cases hd
     · right
       refine⟨c,fun τ d ha=>?_⟩;rw[h3 τ d ha];obtain⟨r,es⟩:=x
       cases r with
       | ok a w'=>rfl
       | halt h w'=>cases h<;>rfl
theorem tLA(w:World)(fd:Nat)(t:ByteArray)(o:Outcome):done (endWith w fd t o):=by
 unfold endWith
 repeat' (first | trivial | split)
theorem e3A(T:Tame P){fr:Frame}{dd:Dying}(hf:mH fr)(w:World):Good (fun w=>die P fr dd w) w:=by
 cases hfat:dd.fatal with
 | some f=>simp only[die,hfat];exact dMA hf w
 | none =>
   cases ht:dd.todo with
   | nil =>
     simp only[die,hfat,ht]
     cases hp:printLockHeld P w with
     | true =>
       have hp':∀ τ d,printLockHeld P (re w τ d)=true:=fun _ _=>hp
       refine jY ?_ fun τ d=>?_
       · simp only[hp,if_true];exact .inr ⟨⟨hf,by simp,(by simp[fF])⟩,eG⟩
       · simp only[hp,hp',if_true];rfl
     | false =>
       left
       simp only[hp,Bool.false_eq_true,if_false];exact tLA _ _ _ _
   | cons x rest =>
     obtain⟨v,mk⟩:=x;simp only[die,hfat,ht]
     cases hpt:panicText P false v with
     | text s=>exact tC ⟨hf,by simp,(by simp[fF])⟩ eG
     | no u=>exact .inl trivial
     | address s =>
       simp only;rcases kBA (φ:=fun _=>True) (uHA (P:=P) s) w with⟨h,w',hd,hr⟩ | ⟨c,h1,h2,h3⟩
       · left;simp only[hr];trivial
       · cases hr : (withAddress s).run P w with
         | ok a w' =>
           rw[hr]at h1 h2;refine yB (w':=w') (c:=c) h1 h2 (by simp only[hr];rfl) (fun τ d ha=>by simp only[h3 τ d ha,hr];rfl) ?_;exact tC ⟨hf,by simp,(by simp[fF])⟩ eG
         | halt h w'=>left;simp only[hr];trivial
     | call t recv name =>
       simp only;obtain⟨r,es,hr,hms,hb,hn⟩:=nJ (uW T (.fn (.method name) #[]) #[.iface t recv]) w;rcases hn with⟨h,w',hd,rfl⟩ | ⟨c,h1,h2,h3⟩
       · left
         simp only[hr];refine lC ?_
         cases h<;>first | trivial | cases hd
       · cases r with
         | ok a w' =>
           cases a with
           | enter f args =>
             refine yB (w':=w') (c:=c) h1 h2 (by simp only[hr];rfl) (fun τ d ha=>by simp only[h3 τ d ha];rfl) ?_;exact xB (fun _=>lG hms hb.2) (tC ⟨yL _ _ _ _,by simp,(by simp[fF])⟩ eG)
           | value v =>
             cases v with
             | string s =>
               refine yB (w':=w') (c:=c) h1 h2 (by simp only[hr];rfl) (fun τ d ha=>by simp only[h3 τ d ha];rfl) ?_;exact xB (fun _=>lG hms hb.2) (tC ⟨hf,by simp,(by simp[fF])⟩ eG)
             | _=>left;simp only[hr];exact lC trivial
           | _=>left;simp only[hr];exact lC trivial
         | halt h w' =>
           cases h with
           | panic v =>
             refine yB (w':=w') (c:=c) h1 h2 (by simp only[hr];rfl) (fun τ d ha=>by simp only[h3 τ d ha];rfl) ?_;exact xB (fun _=>lG hms (hb.2.resolve_left id)) (yR hf w')
           | _=>left;simp only[hr];exact lC trivial
variable {P : Program}
theorem iTA:∀(k:List Item) (id:Nat) {k':List Item},exitTo id k=some k'→∀ i∈k',i∈k:=by
 intro k
 induction k with
 | nil=>intro id k' h;cases h
 | cons a k ih =>
   intro id k' h i hi;unfold exitTo at h
   split at h
   · rename_i heq
     cases heq
     split at h
     · cases h;exact List.mem_cons_of_mem _ hi
     · exact List.mem_cons_of_mem _ (ih _ h i hi)
   · rename_i heq
     cases heq;exact List.mem_cons_of_mem _ (ih _ h i hi)
   · rename_i heq;cases heq
theorem dZA:∀(k:List Item) (l:Nat) {k':List Item},(∀ i∈k,dP i)→gotoIn l k=some k'→∀ i∈k',dP i:=by
 intro k
 induction k with
 | nil=>intro l k' _ h;cases h
 | cons a k ih =>
   intro l k' hk h i hi;have hk2:=fun j hj=>hk j (List.mem_cons_of_mem a hj)
   unfold gotoIn at h
   split at h
   · rename_i body k0 heq
     cases heq
     split at h
     · cases h; rcases List.mem_cons.1 hi with rfl | hi
       · trivial
       · rcases List.mem_cons.1 hi with rfl | hi
         · trivial
         · exact hk2 i hi
     · exact ih _ hk2 h i hi
   · rename_i heq;cases heq;exact ih _ hk2 h i hi
   · rename_i heq;cases heq
theorem bU {main : Bool} {fr : Frame} {cs : List Frame} {dy : Option Dying} (jump : Option Code) (hf : mH fr) (hc : ∀ f ∈ cs, mH f) (F : World → GStep)
    (h0:fr.roundOf=none→(∀ v,F v = .go { frame:={ fr with mode:=.returning },callers:=cs,status:=.running,dying:=dy } v)∨(∀ v,done (F v)))
    (h1 : ∀ l, fr.roundOf = some l → ∀ v, F v = GStep.after (seen P fr.fn ((Instr.endRound l jump).runT P v #[]).2) (match ((Instr.endRound l jump).runT P v #[]).1 with
      | .ok x w=>doReturn P main fr cs dy x w
      | .halt _ w => .ended (.stuck "range over a function: no such loop" (fr.pos P)) w)) (w : World) : Good F w := by
  cases hr:fr.roundOf with
  | none =>
    rcases h0 hr with h | h
    · rw[show F=fun v=>_ from funext h];exact tC ⟨hf,hc,(by simp[fF])⟩ eG
    · exact .inl (h w)
  | some l =>
    have e:=h1 l hr;obtain⟨r,es,hrun,hms,hb,hn⟩:=nJ (φ:=fun _=>True) (uAA (P:=P) l jump) w;rcases hn with⟨h,w',hd,rfl⟩ | ⟨c,g1,g2,g3⟩
    · left;rw[e,hrun];exact lC trivial
    · cases r with
      | ok a w' =>
        refine yB (w':=w') (c:=c) g1 g2 (by rw[e,hrun]) (fun τ d ha=>by rw[e,g3 τ d ha];rfl) ?_;exact xB (fun _=>lG hms hb.2) (zQ hf hc w')
      | halt h w'=>left;rw[e,hrun];exact lC trivial
theorem e0A(T:Tame P){fr:Frame}{cs:List Frame}{dy:Option Dying}(hf:mH fr)(hc:∀ f∈cs,mH f)(w:World):Good (fun w=>stepG.oper P true fr cs dy w) w:=by
 unfold stepG.oper
 split
 · exact .inl trivial
 · split
   · exact mP hf hc (Ok.bind (fP _ _ _) fun _=>Ok.bind (oU _ _) fun _=>(OkN.pure (P:=P) (x:=.skip) trivial)) w
   · exact mP hf hc (o0A T _ _) w
theorem j1A(T:Tame P){main:Bool}{fr:Frame}{cs:List Frame}{dy:Option Dying}(hf:mH fr)(hc:∀ f∈cs,mH f)(w:World):Good (fun w=>stepG.exec P main true fr cs dy w) w:=by
 obtain⟨fn,tmps,todo,defers,mode,kind,ro⟩:=fr;have to:∀ l:List Item,(∀ i∈l,dP i)→Good (fun v=>GStep.go { frame:=⟨fn,tmps,l,defers,mode,kind,ro⟩,callers:=cs,status:=.running,dying:=dy } v) w :=
  fun l hl=>tC (g:={ frame:=⟨fn,tmps,l,defers,mode,kind,ro⟩,callers:=cs,status:=.running,dying:=dy }) ⟨hl,hc,(by simp[fF])⟩ eG
 cases todo with
 | nil =>
   refine bU (P:=P) (dy:=dy) (main:=main) (fr:=⟨fn,tmps,[],defers,mode,kind,ro⟩) none hf hc _ (fun h=>.inl fun v=>?_) (fun l h v=>?_) w
   · cases h;rfl
   · cases h;rfl
 | cons i k =>
   have hk:∀ j∈k,dP j:=fun j hj=>hf j (List.mem_cons_of_mem _ hj)
   have c1:∀ a:Item,dP a→∀ j∈a::k,dP j:=fun a ha j hj=>by
    rcases List.mem_cons.1 hj with rfl | hj
    · exact ha
    · exact hk j hj
   have c2:∀ a b:Item,dP a→dP b→∀ j∈a::b::k,dP j:=fun a b ha hb j hj=>by
    rcases List.mem_cons.1 hj with rfl | hj
    · exact ha
    · exact c1 b hb j hj
   cases i with
   | code c =>
     cases c with
     | skip=>exact to _ hk
     | label l=>exact to _ hk
     | seq a b=>exact to _ (c2 _ _ trivial trivial)
     | cond c a b =>
       simp only[stepG.exec]
       split
       · exact to _ (c1 _ trivial)
       · exact .inl trivial
     | block id b=>exact to _ (c2 _ _ trivial trivial)
     | loop b=>exact to _ (c2 _ _ trivial trivial)
     | scope b=>exact to _ (c2 _ _ trivial trivial)
     | refuse x=>exact .inl trivial
     | ret =>
       refine bU (P:=P) (dy:=dy) (main:=main) (fr:=⟨fn,tmps,.code .ret::k,defers,mode,kind,ro⟩) (some .ret) hf hc _ (fun h=>.inl fun v=>?_) (fun l h v=>?_) w
       · cases h;rfl
       · cases h;rfl
     | exit id =>
       simp only[stepG.exec]
       cases he:exitTo id k with
       | some k'=>exact to _ fun i hi=>hk i (iTA _ _ he i hi)
       | none =>
         refine bU (P:=P) (dy:=dy) (main:=main) (fr:=⟨fn,tmps,.code (.exit id)::k,defers,mode,kind,ro⟩) (some (.exit id)) hf hc _ (fun h=>.inr fun v=>?_) (fun l h v=>?_) w
         · cases h;trivial
         · cases h;rfl
     | goto l =>
       simp only[stepG.exec]
       cases he:gotoIn l k with
       | some k'=>exact to _ (dZA _ _ hk he)
       | none =>
         refine bU (P:=P) (dy:=dy) (main:=main) (fr:=⟨fn,tmps,.code (.goto l)::k,defers,mode,kind,ro⟩) (some (.goto l)) hf hc _ (fun h=>.inr fun v=>?_) (fun l h v=>?_) w
         · cases h;trivial
         · cases h;rfl
     | region id ops draw =>
       cases draw with
       | false=>exact to _ (c1 _ trivial)
       | true =>
         have r1:=rZ (P:=P) (q:=.order fn id) rfl w;refine sHA 1 ?_ fun τ d ha=>?_
         · simp only[stepG.exec,Bool.not_true,Bool.false_eq_true,if_false,r1];exact .inr ⟨⟨c1 _ trivial,hc,(by simp[fF])⟩,eG⟩
         · have r2:=xX (P:=P) (q:=.order fn id) rfl (w:=w) (τ:=τ) (d:=d) (c:=0) (by simpa using ha);simp only[stepG.exec,Bool.not_true,Bool.false_eq_true,if_false,r1,r2];rfl
     | rangeFunc f ps a b =>
       obtain⟨r,es,hr,hms,hb,hn⟩:=nJ (φ:=fun _=>True) (qY (P:=P) fn tmps ps a b ro) w;rcases hn with⟨h,w',hd,rfl⟩ | ⟨c,h1,h2,h3⟩
       · left;simp only[stepG.exec,hr];exact lC trivial
       · cases r with
         | ok x w' =>
           obtain⟨l,mk⟩:=x;refine yB (w':=w') (c:=c) h1 h2 (by simp only[stepG.exec,hr];rfl) (fun τ d ha=>by simp only[stepG.exec,h3 τ d ha];rfl) ?_;refine xB (fun _=>lG hms hb.2) (mP ?_ hc (Ok.bind (fP _ _ _) fun _=>uW T _ _) w');exact c1 _ trivial
         | halt h w'=>left;simp only[stepG.exec,hr];exact lC trivial
   | inBlock id=>exact to _ hk
   | inScope b=>exact to _ hk
   | inLoop b=>exact to _ (c2 _ _ trivial trivial)
   | inRegion ops l =>
     cases l with
     | nil=>exact to _ hk
     | cons j l =>
       simp only[stepG.exec]
       split
       · exact e0A T hf hc w
       · exact tC ⟨aH hf _,hc,(by simp[fF])⟩ eG
   | inRangeFunc l=>exact .inl trivial
   | endRangeFunc l =>
     obtain⟨r,es,hr,hms,hb,hn⟩:=nJ (φ:=fun _=>True) (iBA (P:=P) l) w;rcases hn with⟨h,w',hd,rfl⟩ | ⟨c,h1,h2,h3⟩
     · left
       simp only[stepG.exec,hr];refine lC ?_
       cases h<;>first | trivial | cases hd
     · cases r with
       | ok x w' =>
         refine yB (w':=w') (c:=c) h1 h2 (by simp only[stepG.exec,hr];rfl) (fun τ d ha=>by simp only[stepG.exec,h3 τ d ha];rfl) ?_;refine xB (fun _=>lG hms hb.2) (tC ⟨?_,hc,(by simp[fF])⟩ eG);intro i hi;rcases List.mem_append.1 hi with hi | hi
         · cases x with
           | none=>cases hi
           | some y =>
             simp at hi;subst hi;trivial
         · exact hk i hi
       | halt h w' =>
         cases h with
         | panic v =>
           refine yB (w':=w') (c:=c) h1 h2 (by simp only[stepG.exec,hr];rfl) (fun τ d ha=>by simp only[stepG.exec,h3 τ d ha];rfl) ?_;exact xB (fun _=>lG hms (hb.2.resolve_left id)) (tC ⟨pK hf _,hc,(by simp[fF])⟩ eG)
         | _=>left;simp only[stepG.exec,hr];exact lC trivial
   | beginRound =>
     refine mP hf hc ?_ w
     cases ro with
     | none=>exact Ok.bind jA fun _=>OkN.pure (P:=P) (x:=.skip) trivial
     | some l=>exact Ok.bind (eX l) fun _=>OkN.pure (P:=P) (x:=.skip) trivial
   | call d b r s=>exact absurd (hf (.call d b r s) List.mem_cons_self) id
   | extern r a =>
     obtain rfl : r = "runtime.print$piece" := hf (.extern r a) List.mem_cons_self; have e : Extern.next "runtime.print$piece" = some (Extern.PrintPieces.piece #[] #[]) := by kernel_rfl
     have e2 : ∀ v, stepG.exec P main true ⟨fn, tmps, .extern "runtime.print$piece" a :: k, defers, mode, kind, ro⟩ cs dy v = stepG.apply P true ⟨fn, tmps, .extern "runtime.print$piece" a :: k, defers, mode, kind, ro⟩ cs dy (Extern.PrintPieces.piece #[] #[] a) v := by
      intro v;simp only[stepG.exec,e];rfl
     rw [show (fun w => stepG.exec P main true ⟨fn, tmps, .extern "runtime.print$piece" a :: k, defers, mode, kind, ro⟩ cs dy w) = _ from funext e2]; exact mP hf hc (uPA _ _ _) w
theorem qGA(T:Tame P){main:Bool}{g:Goroutine}(hg:GOk g)(w:World):Good (fun w=>stepG P main g w) w:=by
 obtain⟨fr,cs,st,dy,off⟩:=g;obtain⟨hf,hc⟩:=hg;have hf:mH fr:=hf;have hc:∀ f∈cs,mH f:=hc;have hrest:Good (fun w=>match fr.mode with | .run=>stepG.exec P main true fr cs dy w | _=>unwind P main fr cs dy w) w:=by
  cases fr.mode with
  | run=>exact j1A T hf hc w
  | returning=>exact cDA T hf hc w
  | panicking c=>exact cDA T hf hc w
 cases dy with
 | none =>
   refine cast ?_ hrest;congr 1
   funext v
   simp only[stepG]
   cases fr.mode<;>rfl
 | some d =>
   obtain⟨todo,texts,calling,pending,re0,hand,fatal⟩:=d
   cases calling with
   | false=>exact e3A T hf w
   | true =>
     refine cast ?_ hrest;congr 1
     funext v
     simp only[stepG]
     cases fr.mode<;>rfl
end Go.Lx
namespace Go.Lx
open Go.Conc
variable {P : Program}
def jAB(i:Nat)(op:MemOp):Prop:=op.g=i∧op.act.touch? = none∧op.act≠.mark .disable∧op.act≠.mark .enable
theorem iAB{gs gs2:Array Goroutine}(h1:∀ r b,partners gs r b=[])(h2:∀ r b,partners gs2 r b=[])(w:World)(c:CommCase):ways w gs c=ways w gs2 c:=by
 unfold ways;simp only[h1,h2]
theorem jUA{gs:Array Goroutine}(h1:∀ r b,partners gs r b=[])(w:World)(c:CommCase):∀ x∈ways w gs c,x = .buffer∨x = .closed∨x = .sendClosed:=by
 unfold ways;simp only[h1];intro x hx
 repeat' (first | (simp at hx;done) | (simp at hx;subst hx;simp;done) | split at hx)
structure CommTo (P:Program) (rest rest2:Rest) (gs gs2:Array Goroutine) (i:Nat) (g:Goroutine) (cases:Array CommCase) (bl:Bool) (sh:CommShape) (w:World) (m:Machine) (ops:Array MemOp) (g':Goroutine) (w':World):Prop where
 here:m={ world:=w',gs:=gs.setIfInBounds i g',rest }
 there:communicate P rest2 gs2 i g cases bl sh w=(.next { world:=w',gs:=gs2.setIfInBounds i g',rest:=rest2 },ops)
 ok:GOk g→GOk g'
 mem:∀ op∈ops,jAB i op
 win:∃ c,w'.drawn=w.drawn+c∧w'.tape=w.tape∧∀ τ d,Agree w.tape w.drawn τ d c→communicate P rest gs i g cases bl sh (re w τ d)=(.next { world:=re w' τ (d+c),gs:=gs.setIfInBounds i g',rest },ops)
theorem aV{rest:Rest}(ht:rest.timers=#[])(cases:Array CommCase)(w:World):waitingAt rest cases w=some w:=by
 unfold waitingAt timerAhead;rw[if_neg];simp[ht];intro c _
 split<;>simp
theorem y2A{α:Type}{φ:α→Prop}{s:Sem α}{w:World}{x:Result α}(hx:s.run P w=x)(hs:Safe P φ 0 s) :
 (∀ a v,x = .ok a v→φ a)∧(aBA x∨∃ c,(wOf x).drawn=w.drawn+c∧(wOf x).tape=w.tape∧∀ τ d,Agree w.tape w.drawn τ d c→s.run P (re w τ d)=reR x τ (d+c)):=by
 subst hx;refine⟨fun a v e=>?_,kBA hs w⟩;obtain⟨r,es,hr,_,hb,_⟩:=nJ hs w;have e':s.run P w=r:=by rw[← Sem.runT_fst P s w #[],hr]
 rw[e',]at e;subst e;exact hb.1
def z8(x:Way):Prop:=x = .buffer∨x = .closed∨x = .sendClosed
theorem bSA{l:List Way}(h:∀ x∈l,z8 x)(b:Nat):z8 (l.getD b .closed):=by
 rw[List.getD_eq_getElem?_getD]
 cases hx:l[b]? with
 | none=>exact .inr (.inl rfl)
 | some x=>exact h x (List.mem_of_getElem? hx)
theorem t4A{α:Type}{l:List α}(a:Nat){d:α}:l.getD a d∈l∨l.getD a d=d:=by
 rw[List.getD_eq_getElem?_getD]
 cases hx:l[a]? with
 | none=>exact .inr rfl
 | some x=>exact .inl (List.mem_of_getElem? hx)
theorem uKA {rest : Rest} {gs : Array Goroutine} {i : Nat} {g : Goroutine} {cases : Array CommCase} {bl : Bool} {sh : CommShape} {w : World} {m : Machine} {ops : Array MemOp}
    (ht:rest.timers=#[]) (h1:∀ r b,partners gs r b=[]) (h:communicate P rest gs i g cases bl sh w=(.next m,ops)) :
    ∃ g' w',m={ world:=w',gs:=gs.setIfInBounds i g',rest }∧(GOk g→GOk g')∧(∀ op∈ops,jAB i op) ∧
     ∃ c,w'.drawn=w.drawn+c∧w'.tape=w.tape∧∀(rest2:Rest) (gs2:Array Goroutine) τ d,rest2.timers=#[]→(∀ r b,partners gs2 r b=[])→Agree w.tape w.drawn τ d c →
      communicate P rest2 gs2 i g cases bl sh (re w τ d)=(.next { world:=re w' τ (d+c),gs:=gs2.setIfInBounds i g',rest:=rest2 },ops):=by
  have hw:∀ gs2:Array Goroutine,(∀ r b,partners gs2 r b=[])→∀ τ d,ways (re w τ d) gs2=ways w gs:=fun gs2 h2 τ d=>funext fun c=>iAB h2 h1 w c
  have hfin:∀ cs sh k v ok,GOk g→GOk (g.finishComm P cs sh k v ok):=fun cs sh k v ok hg=>⟨aH hg.top _,hg.below,(by simp[fF,Goroutine.finishComm])⟩
  have hhp:∀ τ d,(re w τ d).heap=w.heap:=fun _ _=>rfl
  have hL:∀ e∈(cases.zipIdx.toList.map fun x=>(x.2,x.1,ways w gs x.1)).filter (fun x => !x.2.2.isEmpty),∀ x∈e.2.2,z8 x:=by
   intro e he x hx;obtain⟨y,_,rfl⟩:=List.mem_map.1 (List.mem_filter.1 he).1;exact jUA h1 w _ x hx
  unfold communicate at h;dsimp only at h
  split at h
  · cases h
  · rename_i hill
    split at h
    · rename_i hemp
      cases bl with
      | true =>
        simp only[if_true,aV ht]at h
        cases h;refine⟨{ g with status:=.blocked,offers:=some (cases,sh) },w,rfl,fun hg=>⟨hg.top,hg.below,(by simp[fF])⟩,by simp,0,rfl,rfl,fun rest2 gs2 τ d ht2 h2 _=>?_⟩;unfold communicate;dsimp only;simp only[hhp,hw gs2 h2];rw[if_neg hill,if_pos hemp];simp only[if_true,aV ht2];rfl
      | false =>
        simp only[Bool.false_eq_true,if_false]at h
        cases h;refine⟨_,w,rfl,hfin _ _ _ _ _,by simp,0,rfl,rfl,fun rest2 gs2 τ d ht2 h2 _=>?_⟩;unfold communicate;dsimp only;simp only[hhp,hw gs2 h2];rw[if_neg hill,if_pos hemp];simp only[Bool.false_eq_true,if_false];rfl
    · rename_i hemp; generalize hx : Sem.run P _ w = x at h; have D := y2A (P := P) (φ := fun y : Nat × CommCase × Way => z8 y.2.2) hx (by
        refine Ok.bind dF fun a=>?_
        refine Ok.bind dF fun b=>?_
        refine⟨rfl,?_⟩;refine bSA ?_ _;intro x hx;rcases t4A a with he | he
        · exact hL _ he x hx
        · rw[he]at hx;cases hx)
      obtain⟨hpl,hn⟩:=D;rcases hn with⟨hh,w',hd,rfl⟩ | ⟨c,q1,q2,q3⟩
      · cases h
      · cases x with
        | halt hh w1=>cases h
        | ok y w1 =>
          obtain⟨k,c0,wy⟩:=y;have hp:=hpl _ _ rfl;have r1:w1.drawn=w.drawn+c:=q1;have r2:w1.tape=w.tape:=q2;have hh1:∀ τ d,(re w1 τ d).heap=w1.heap:=fun _ _=>rfl
          simp only at hp;rcases hp with rfl | rfl | rfl
          · -- a buffer
            simp only[h1]at h
            split at h
            · rename_i hw0;cases hw0
            · rename_i hw0;cases hw0
            · rename_i cap buf cl sent rcvd tm v heq hsend hw0
              cases h;refine⟨_,_,rfl,hfin _ _ _ _ _,?_,c,r1,r2,fun rest2 gs2 τ d ht2 h2 ha=>?_⟩
              · intro op hop;simp at hop;rcases hop with rfl | rfl<;>exact⟨rfl,rfl,by simp,by simp⟩
              · unfold communicate;dsimp only;simp only[hhp,hw gs2 h2];rw[if_neg hill,if_neg hemp,q3 τ d ha];simp only[reR,hh1,heq,hw0];rfl
            · rename_i cap buf cl sent rcvd tm heq hsend hw0
              cases h;refine⟨_,_,rfl,hfin _ _ _ _ _,?_,c,r1,r2,fun rest2 gs2 τ d ht2 h2 ha=>?_⟩
              · intro op hop;simp at hop;rcases hop with rfl | rfl<;>exact⟨rfl,rfl,by simp,by simp⟩
              · unfold communicate;dsimp only;simp only[hhp,hw gs2 h2];rw[if_neg hill,if_neg hemp,q3 τ d ha];simp only[reR,hh1,heq,hw0,h2];rfl
            · rename_i hw0 _;cases hw0
            · rename_i hw0 _;cases hw0
            · cases h
          · simp only at h
            cases h;refine⟨_,w1,rfl,hfin _ _ _ _ _,?_,c,r1,r2,fun rest2 gs2 τ d ht2 h2 ha=>?_⟩
            · intro op hop;simp at hop;subst hop;exact⟨rfl,rfl,by simp,by simp⟩
            · unfold communicate;dsimp only;simp only[hhp,hw gs2 h2];rw[if_neg hill,if_neg hemp,q3 τ d ha];simp only[reR]
          · simp only at h; have hpanic : ∀ (v : World), ∃ x, (runtimePanic (.plain "send on closed channel") : Sem Unit).run P v = .halt (.panic x) v ∧ ∀ v', (runtimePanic (.plain "send on closed channel") : Sem Unit).run P v' = .halt (.panic x) v' := fun v => ⟨_, rfl, fun _ => rfl⟩
            obtain⟨x,e1,e2⟩:=hpanic w1;rw[e1]at h;simp only at h
            cases h;refine⟨_,w1,rfl,fun hg=>⟨pK hg.top _,hg.below,hg.st⟩,by simp,c,r1,r2,fun rest2 gs2 τ d ht2 h2 ha=>?_⟩;unfold communicate;dsimp only;simp only[hhp,hw gs2 h2];rw[if_neg hill,if_neg hemp,q3 τ d ha];simp only[reR];rw[e2]
variable {P : Program}
def qNA(gs:Array Goroutine):Prop:=∀(j:Nat) (x:Goroutine),0 < j→gs[j]? = some x→x.status = .running∨x.status = .finished
theorem qL{gs:Array Goroutine}(h:qNA gs)(r:Nat)(b:Bool):partners (gs.setIfInBounds 0 ph) r b=[]:=by
 refine partners_nil fun j x hx=>?_
 rcases getElem?_stand gs 0 j x hx with⟨_,rfl⟩ | ⟨hj,hx⟩
 · rfl
 · refine offersAt_of_not_blocked ?_ _ _;rcases h j x (by omega) hx with e | e<;>rw[e]<;>simp
theorem lQ{gs:Array Goroutine}{g g':Goroutine}{w':World}(h:qNA gs):(gs.map (woken P g g' w')).setIfInBounds 0 g'=gs.setIfInBounds 0 g':=by
 apply Array.ext
 · simp
 · intro j h1 h2; rcases Nat.eq_zero_or_pos j with rfl | hj
   · simp
   · have hne : 0 ≠ j := by omega
     have h2':j < gs.size:=by simpa using h2
     rw[Array.getElem_setIfInBounds_ne _ hne,Array.getElem_setIfInBounds_ne _ hne,Array.getElem_map]
     · have hs := h j gs[j] hj (Array.getElem?_eq_getElem h2'); unfold woken
       split
       · exact again_running _ hs
       · rfl
     · simpa using h2'
structure OwnStep (P:Program) (g:Goroutine) (w:World) (g':Goroutine) (w':World):Prop where
 win:∃ c,w'.drawn=w.drawn+c∧w'.tape=w.tape∧∀ τ d,Agree w.tape w.drawn τ d c→step P (solo g (re w τ d)) = .next (solo g' (re w' τ (d+c)))
 beside:∀(gs:Array Goroutine) (sl:Option (Nat×Nat)),gs[0]? = some g→qNA gs →
  ∃ ops,runT P (crowd gs w sl) 0=(.next (crowd (gs.setIfInBounds 0 g') w' sl),ops)∧(∀ op∈ops,op.g=0)∧∀ t:Trace,Deaf (t++ops) 0=Deaf t 0
theorem rO(g:Goroutine):qNA #[g]:=fun j x hj hx=>by
 have:j=0:=by
  have:=(Array.getElem?_eq_some_iff.1 hx).1;simp at this;omega
 omega
theorem i5A{t:Trace}{ops:Array MemOp}(h:∀ op∈ops,jAB 0 op):Deaf (t++ops) 0=Deaf t 0:=by
 obtain⟨l⟩:=ops;rw[Deaf_append];have:∀(l:List MemOp) (d:Nat),(∀ op∈l,jAB 0 op)→l.foldl (deafStep 0) d=d:=by
  intro l
  induction l with
  | nil=>intro d _;rfl
  | cons x l ih =>
    intro d hl;have hx:=hl x (by simp);have e:deafStep 0 d x=d:=by
     obtain⟨_,_,h1,h2⟩:=hx;unfold deafStep
     split<;>first | rfl | (rename_i hq;rw[hq]at h1;exact absurd rfl h1) | (rename_i hq;rw[hq]at h2;exact absurd rfl h2) | skip
     all_goals (rename_i hq;first | exact absurd hq h1 | exact absurd hq h2)
    simp only[List.foldl_cons,e];exact ih d fun op hop=>hl op (List.mem_cons_of_mem _ hop)
 exact this l _ fun op hop=>h op (by simpa using hop)
theorem kAA{t:Trace}{fn:FuncId}{pos:String}{es:Array Event}(h:Bal 0 es):Deaf (t++MemOp.ofEvents 0 fn pos es) 0=Deaf t 0:=by
 rw[Deaf_own];exact h _
theorem tO{g:Goroutine}{w:World}(hr:g.status = .running):step P (solo g w)=(runT P (crowd #[g] w none) 0).1:=by
 unfold step;rw[stepT_solo hr];rfl
theorem bO(g g':Goroutine):(#[g]:Array Goroutine).setIfInBounds 0 g'=#[g']:=rfl
theorem pO{gs:Array Goroutine}{g g₂:Goroutine}{w w1:World}{cc:Nat}{es:Array Event}{sl:Option (Nat×Nat)}(hgs:gs[0]? = some g)(hs:stepG P true g w = .coroswitch g₂ cc true w1 es) :
 runT P (crowd gs w sl) 0 = ((match w1.heap[cc]? with
   | some (.coro (some h))=>.next (crowd ((gs.setIfInBounds 0 { g₂ with status:=.finished }).modify h fun o=>{ o with status:=.running }) { w1 with heap:=w1.heap.setIfInBounds cc (.coro none) } sl)
   | some (.coro none) => match endThrow g₂.frame "coroswitch on exited coro" w1 with
     | .go x v _=>.next (crowd (gs.setIfInBounds 0 x) v sl)
     | _ => .ended (.stuck "" "") w1
   | _ => .ended (.stuck "coroswitch: no coroutine" "") w1), MemOp.ofEvents 0 g.frame.fn g.frame.place es) := by
 obtain⟨hlt,rfl⟩:=Array.getElem?_eq_some_iff.1 hgs;have hsw:=swapAt_of_lt hlt { (default:Goroutine) with status:=.finished }
 show runT P { world:=w,gs:=gs,rest:={ timers:=#[],alone:=none,slice:=sl } } 0=_
 unfold runT;simp only[hsw,hs,GStep.es,beq_self_eq_true];have hset:∀ x,(gs.set 0 { (default:Goroutine) with status:=.finished } hlt).setIfInBounds 0 x=gs.setIfInBounds 0 x:=fun x=>by
  simp[Array.setIfInBounds,hlt]
 cases hob:w1.heap[cc]? with
 | none=>rfl
 | some o =>
   cases o with
   | coro p =>
     cases p with
     | none=>simp only[hset,endThrow,dieOf];rfl
     | some k=>simp only[hset,if_true];rfl
   | _=>rfl
theorem f5A (T : Tame P) {g : Goroutine} {w : World} {m' : Machine} (hg : GOk g) (hr : g.status = .running) (h : step P (solo g w) = .next m') (hsz : m'.gs.size = 1)
    (hst:∀ x,m'.gs[0]? = some x→x.status = .running):∃ g' w',m'=solo g' w'∧GOk g'∧g'.status = .running∧OwnStep P g w g' w':=by
  rw[tO hr]at h;have G:=qGA T (main:=true) hg w;have h0:(#[g]:Array Goroutine)[0]? = some g:=rfl
  cases hs:stepG P true g w with
  | go g' w' es =>
    rcases G with G | ⟨hS,c,q1,q2,q3⟩
    · simp only[hs]at G;cases G
    · simp only [hs, SOk, gw] at hS q1 q2 q3; have e := runT_crowd_go (P := P) (sl := none) (i := 0) h0 hs; rw [e, lQ (rO g), bO] at h; simp only [Stepped.next.injEq] at h; subst h; refine ⟨g', w', rfl, hS.1, hst g' rfl, ⟨c, q1, q2, fun τ d ha => ?_⟩, fun gs sl hgs ha => ?_⟩
      · have e2:stepG P true g (re w τ d) = .go g' (re w' τ (d+c)) es:=q3 τ d ha;rw[tO hr,runT_crowd_go (P:=P) (sl:=none) (i:=0) h0 e2,lQ (rO g),bO];rfl
      · exact⟨_,by rw[runT_crowd_go (P:=P) (sl:=sl) (i:=0) hgs hs,lQ ha],fun op hop=>by obtain⟨e,_,rfl⟩:=Conc.mem_ofEvents hop;rfl,fun t=>kAA hS.2⟩
  | comm g₂ cases bl sh w1 es =>
    rcases G with G | ⟨hS,c,q1,q2,q3⟩
    · simp only[hs]at G;cases G
    · simp only [hs, SOk, gw] at hS q1 q2 q3; have e := runT_crowd_comm (P := P) (sl := none) (i := 0) h0 hs; rw [e] at h; simp only at h; generalize hx : communicate P (crowd #[g] w none).rest ((#[g] : Array Goroutine).setIfInBounds 0 ph) 0 g₂ cases bl sh w1 = x at h; obtain ⟨st, ops⟩ := x; simp only at h; subst h; obtain ⟨g', w', hm, hok, hops, c', r1, r2, r3⟩ := uKA (by rfl) (qL (rO g)) hx; subst hm; have hrun : g'.status = .running := hst g' rfl; refine ⟨g', w', rfl, hok hS.1, hrun, ⟨c + c', by rw [r1, q1]; omega, by rw [r2, q2], fun τ d ha => ?_⟩, fun gs sl hgs haw => ?_⟩
      · have e2:stepG P true g (re w τ d) = .comm g₂ cases bl sh (re w1 τ (d+c)) es:=q3 τ d ha.left;rw[tO hr,runT_crowd_comm (P:=P) (sl:=none) (i:=0) h0 e2];have:=r3 (crowd #[g] (re w τ d) none).rest ((#[g]:Array Goroutine).setIfInBounds 0 ph) τ (d+c) rfl (qL (rO g)) (by rw[q1,q2];exact ha.right);rw[this,Nat.add_assoc];rfl
      · have e3 := r3 (crowd gs w sl).rest (gs.setIfInBounds 0 ph) w1.tape w1.drawn rfl (qL haw) (fun _ _ _ => rfl); have e4 : re w1 w1.tape w1.drawn = w1 := rfl; have e5 : re w' w1.tape (w1.drawn + c') = w' := by rw [← r1, ← r2]; rfl
        rw[e4,e5]at e3;refine⟨MemOp.ofEvents 0 g.frame.fn g.frame.place es++ops,by rw[runT_crowd_comm (P:=P) (sl:=sl) (i:=0) hgs hs,e3];simp only[crowd,Array.setIfInBounds_setIfInBounds],?_,fun t=>?_⟩
        · intro op hop; rcases Array.mem_append.1 hop with hop | hop
          · obtain⟨e,_,rfl⟩:=Conc.mem_ofEvents hop;rfl
          · exact(hops op hop).1
        · rw[← Array.append_assoc,i5A hops,kAA hS.2]
  | spawn g₂ child w1 es =>
    exfalso;have e:(runT P (crowd #[g] w none) 0).1 = .next { world:=w1,gs:=((#[g]:Array Goroutine).setIfInBounds 0 g₂).push child,rest:=(crowd #[g] w none).rest }:=by
     simp[runT,crowd,Array.swapAt!,hs]
    rw[e]at h;simp only[Stepped.next.injEq]at h;subst h;simp at hsz
  | coroswitch g₂ cc ex w1 es =>
    rcases G with G | ⟨hS,c,q1,q2,q3⟩
    · simp only[hs]at G;cases G
    · cases ex with
      | false=>simp only[hs,SOk]at hS
      | true =>
        simp only[hs,SOk,gw]at hS q1 q2 q3;have q3':∀ τ d,Agree w.tape w.drawn τ d c→stepG P true g (re w τ d) = .coroswitch g₂ cc true (re w1 τ (d+c)) es:=q3;have e:=pO (P:=P) (sl:=none) h0 hs;rw[e]at h;simp only at h;have hops:∀ op∈MemOp.ofEvents 0 g.frame.fn g.frame.place es,op.g=0:=fun op hop=>by obtain⟨e,_,rfl⟩:=Conc.mem_ofEvents hop;rfl
        cases hob:w1.heap[cc]? with
        | none=>rw[hob]at h;cases h
        | some o =>
          rw[hob]at h;have hob':∀ τ d,(re w1 τ d).heap[cc]? = some o:=fun _ _=>hob
          cases o with
          | coro p =>
            cases p with
            | none =>
              simp only[endThrow,dieOf,Stepped.next.injEq,bO]at h;subst h;refine⟨_,w1,rfl,⟨hS.1.top,by simp,(by simp[fF])⟩,rfl,⟨c,q1,q2,fun τ d ha=>?_⟩,fun gs sl hgs haw=>⟨_,?_,hops,fun t=>kAA hS.2⟩⟩
              · rw[tO hr,pO (P:=P) (sl:=none) h0 (q3' τ d ha)];simp only[hob',endThrow,dieOf,bO];rfl
              · rw[pO (P:=P) (sl:=sl) hgs hs];simp only[hob,endThrow,dieOf]
            | some k =>
              simp only[bO,Stepped.next.injEq]at h;subst h;rcases Nat.eq_zero_or_pos k with rfl | hk
              · refine ⟨{ g₂ with status := .running }, { w1 with heap := w1.heap.setIfInBounds cc (.coro none) }, rfl, ⟨hS.1.top, hS.1.below, (by simp [fF])⟩, rfl, ⟨c, q1, q2, fun τ d ha => ?_⟩, fun gs sl hgs haw => ⟨_, ?_, hops, fun t => kAA hS.2⟩⟩
                · rw[tO hr,pO (P:=P) (sl:=none) h0 (q3' τ d ha)];simp only[hob',bO];rfl
                · rw [pO (P := P) (sl := sl) hgs hs]; simp only [hob]; have hlt : 0 < gs.size := (Array.getElem?_eq_some_iff.1 hgs).1; congr 3
                  rw[modify_eq_set _ 0 _ { g₂ with status:=.finished } (by simp[hlt])];simp
              · have := hst { g₂ with status := .finished } (by
                  simp only[crowd];rw[Array.getElem?_modify];simp[show k≠0 by omega])
                cases this
          | _=>cases h
  | ended o w1 es =>
    exfalso;have e:(runT P (crowd #[g] w none) 0).1 = .ended o w1:=by simp[runT,crowd,Array.swapAt!,hs]
    rw[e]at h;cases h
  | _ =>
    exfalso;rcases G with G | ⟨hS,_⟩
    · simp only[hs]at G;cases G
    · simp only[hs,SOk]at hS
variable {P : Program}
theorem qTA{x:Goroutine}{w:World}{m:Machine}(hst:fF x)(hn:x.status≠.running)(h:step P (solo x w) = .next m):m=solo x w:=by
 rcases hst with e | e | e | e
 · exact absurd e hn
 · exfalso; simp [step, stepT, move, ask, askOn, solo, runnable_eq, due, ahead, Goroutine.canRun, List.range_succ, pure, e] at h
   split at h
   · rename_i hm
     split at hm<;>cases hm
   · rename_i hm
     split at hm<;>(cases hm;cases h)
 · simp[step,stepT,move,ask,askOn,solo,runnable_eq,due,ahead,Goroutine.canRun,List.range_succ,pure,e]at h;exact h.symm
 · exfalso; simp [step, stepT, move, ask, askOn, solo, runnable_eq, due, ahead, Goroutine.canRun, List.range_succ, pure, e] at h
   split at h
   · rename_i hm
     split at hm<;>cases hm
   · rename_i hm
     split at hm<;>(cases hm;cases h)
theorem zRA{x:Goroutine}{w:World}(hst:fF x)(hn:x.status≠.running):∀(n:Nat) {m:Machine},runN P n (solo x w) = .next m→m=solo x w:=by
 intro n
 induction n with
 | zero=>intro m h;simp only[runN,Stepped.next.injEq]at h;exact h.symm
 | succ n ih =>
   intro m h;simp only[runN]at h
   cases hs:step P (solo x w) with
   | ended o v=>rw[hs]at h;cases h
   | next m' =>
     rw[hs]at h;obtain rfl:=qTA hst hn hs;exact ih h
theorem uYA(n:Nat){m m':Machine}(h:runN P n m = .next m'):m.gs.size≤m'.gs.size:=by
 have e:=runNT_fst P n m #[];generalize hx:runNT P n m #[]=x at e;obtain⟨s,t⟩:=x;simp only at e;rw[h]at e;subst e;exact runNT_size P n m m' #[] t hx
theorem sZA(T:Tame P){g:Goroutine}{w:World}{m':Machine}(hg:GOk g)(hr:g.status = .running)(h:step P (solo g w) = .next m')(hsz:m'.gs.size=1):∃ x v,m'=solo x v∧fF x:=by
 rw[tO hr]at h;have G:=qGA T (main:=true) hg w;have h0:(#[g]:Array Goroutine)[0]? = some g:=rfl
 cases hs:stepG P true g w with
 | go g' w' es =>
   rcases G with G | ⟨hS,_⟩
   · simp only[hs]at G;cases G
   · simp only[hs,SOk]at hS;rw[runT_crowd_go (P:=P) (sl:=none) (i:=0) h0 hs,lQ (rO g),bO]at h;simp only[Stepped.next.injEq]at h;subst h;exact⟨g',w',rfl,hS.1.st⟩
 | comm g₂ cases bl sh w1 es =>
   rcases G with G | ⟨hS,_⟩
   · simp only[hs]at G;cases G
   · simp only[hs,SOk]at hS;rw[runT_crowd_comm (P:=P) (sl:=none) (i:=0) h0 hs]at h;simp only at h;generalize hx:communicate P (crowd #[g] w none).rest ((#[g]:Array Goroutine).setIfInBounds 0 ph) 0 g₂ cases bl sh w1=x at h;obtain⟨st,ops⟩:=x;simp only at h;subst h;obtain⟨g',w',hm,hok,_⟩:=uKA (by rfl) (qL (rO g)) hx;subst hm;exact⟨g',w',rfl,(hok hS.1).st⟩
 | spawn g₂ child w1 es =>
   exfalso;have e:(runT P (crowd #[g] w none) 0).1 = .next { world:=w1,gs:=((#[g]:Array Goroutine).setIfInBounds 0 g₂).push child,rest:=(crowd #[g] w none).rest }:=by
    simp[runT,crowd,Array.swapAt!,hs]
   rw[e]at h;simp only[Stepped.next.injEq]at h;subst h;simp at hsz
 | coroswitch g₂ cc ex w1 es =>
   rcases G with G | ⟨hS,_⟩
   · simp only[hs]at G;cases G
   · cases ex with
     | false=>simp only[hs,SOk]at hS
     | true =>
       rw[pO (P:=P) (sl:=none) h0 hs]at h;simp only at h
       cases hob:w1.heap[cc]? with
       | none=>rw[hob]at h;cases h
       | some o =>
         rw[hob]at h
         cases o with
         | coro p =>
           cases p with
           | none =>
             simp only[endThrow,dieOf,Stepped.next.injEq,bO]at h;subst h;exact⟨_,w1,rfl,.inl rfl⟩
           | some k =>
             simp only[bO,Stepped.next.injEq]at h;subst h;rcases Nat.eq_zero_or_pos k with rfl | hk
             · exact⟨{ g₂ with status:=.running },_,rfl,.inl rfl⟩
             · refine ⟨{ g₂ with status := .finished }, { w1 with heap := w1.heap.setIfInBounds cc (.coro none) }, ?_, .inr (.inr (.inr rfl))⟩; have : (#[{ g₂ with status := GoStatus.finished }] : Array Goroutine).modify k (fun o => { o with status := .running }) = #[{ g₂ with status := .finished }] := by
                apply Array.ext
                · simp
                · intro j h1 h2; have : j = 0 := by simp at h2; omega
                  subst this;rw[Array.getElem_modify];simp[show k≠0 by omega]
               simp only[this];rfl
         | _=>cases h
 | ended o w1 es =>
   exfalso;have e:(runT P (crowd #[g] w none) 0).1 = .ended o w1:=by simp[runT,crowd,Array.swapAt!,hs]
   rw[e]at h;cases h
 | _ =>
   exfalso;rcases G with G | ⟨hS,_⟩
   · simp only[hs]at G;cases G
   · simp only[hs,SOk]at hS
theorem cZ(T:Tame P){g g1:Goroutine}{w w1:World}{n:Nat}(hg:GOk g)(hr:g.status = .running)(h1:g1.status = .running)(h:runN P (n+1) (solo g w) = .next (solo g1 w1)) :
 ∃ g' w',GOk g'∧g'.status = .running∧OwnStep P g w g' w'∧step P (solo g w) = .next (solo g' w')∧runN P n (solo g' w') = .next (solo g1 w1):=by
 simp only[runN]at h
 cases hs:step P (solo g w) with
 | ended o v=>rw[hs]at h;cases h
 | next m' =>
   rw[hs]at h;simp only at h;have hle:=uYA n h;have hge:=stepT_size P (solo g w) m' true (by unfold step at hs;exact hs);have hsz:m'.gs.size=1:=by simp[solo]at hle hge;omega
   obtain⟨x,v,rfl,hx⟩:=sZA T hg hr hs hsz;have hxr:x.status = .running:=by
    by_cases hxr:x.status = .running
    · exact hxr
    · have := zRA hx hxr n h; simp only [solo, Machine.mk.injEq] at this; have e : g1 = x := by
       have:=this.2.1
       simpa using this
      rw[← e];exact h1
   obtain ⟨g', w', e, ho, hr', hown⟩ := f5A T hg hr hs hsz (fun y hy => by
     have:y=x:=by simpa [solo] using hy.symm
     rw[this];exact hxr)
   have e':x=g'∧v=w':=by
    simp only[solo,Machine.mk.injEq]at e;exact⟨by simpa using e.2.1,e.1⟩
   obtain⟨rfl,rfl⟩:=e';exact⟨x,v,ho,hr',hown,rfl,h⟩
variable {P : Program}
theorem gBB(w:World)(τ τ':Nat→Question→Nat)(d d':Nat):re (re w τ d) τ' d'=re w τ' d':=rfl
theorem bCB{w:World}{τ:Nat→Question→Nat}{d:Nat}(h1:w.tape=τ)(h2:w.drawn=d):re w τ d=w:=by subst h1 h2;rfl
theorem yVA(T:Tame P){g1:Goroutine}(h1:g1.status = .running):∀(n:Nat) (g:Goroutine) (w w1:World) (τ τ':Nat→Question→Nat) (d d':Nat),GOk g→g.status = .running →
 (∀ i q,τ' (d'+i) q=τ (d+i) q)→runN P n (solo g (re w τ d)) = .next (solo g1 w1)→∃ k,runN P n (solo g (re w τ' d')) = .next (solo g1 (re w1 τ' k)):=by
 intro n
 induction n with
 | zero =>
   intro g w w1 τ τ' d d' _ _ _ h;simp only[runN,Stepped.next.injEq,solo,Machine.mk.injEq]at h;obtain⟨rfl,e,_⟩:=h;have e:g=g1:=by simpa using e
   subst e;exact⟨d',rfl⟩
 | succ n ih =>
   intro g w w1 τ τ' d d' hg hr ht h;obtain⟨g',w',hg',hr',hown,hs,hn⟩:=cZ T hg hr h1 h;obtain⟨c,q1,q2,q3⟩:=hown.win;have q1:w'.drawn=d+c:=q1;have q2:w'.tape=τ:=q2;have hstep:=q3 τ' d' (fun i _ q=>ht i q);rw[gBB]at hstep;obtain⟨k,hk⟩:=ih g' w' w1 τ τ' (d+c) (d'+c) hg' hr' (fun i q=>by rw[Nat.add_assoc,Nat.add_assoc];exact ht (c+i) q) (by rw[bCB q2 q1];exact hn);exact⟨k,by simp only[runN,hstep];exact hk⟩
def LoneOk(P:Program)(Stop:Goroutine→World→Prop)(g:Goroutine)(w:World):Prop :=
 ∀ τ d,∃ n g1 w1,runN P n (solo g (re w τ d)) = .next (solo g1 w1)∧g1.status = .running∧Stop g1 w1
def Ends(P:Program)(Stop:Goroutine→World→Prop)(g:Goroutine)(w:World):Prop :=
 ∀ X:Goroutine→World→Prop,(∀ g w,Stop g w→X g w)→(∀ g w,g.status = .running→(∀ d,∃ g' w',OwnStep P g (w.at d) g' w'∧X g' w')→X g w)→X g w
theorem Ends.stop{Stop:Goroutine→World→Prop}{g:Goroutine}{w:World}(h:Stop g w):Ends P Stop g w:=fun _ h0 _=>h0 g w h
theorem Ends.step{Stop:Goroutine→World→Prop}{g:Goroutine}{w:World}(hr:g.status = .running)(h:∀ d,∃ g' w',OwnStep P g (w.at d) g' w'∧Ends P Stop g' w'):Ends P Stop g w :=
 fun X h0 h1=>h1 g w hr fun d=>let⟨g',w',a,b⟩:=h d;⟨g',w',a,b X h0 h1⟩
section
variable {Stop : Goroutine → World → Prop}
theorem LoneOk.next(T:Tame P)(hStop:∀ g w τ d,Stop g w→Stop g (re w τ d)){g:Goroutine}{w:World}(hg:GOk g)(hr:g.status = .running)(hns:¬ Stop g w)(h:LoneOk P Stop g w)(d:Nat) :
 ∃ g' w',GOk g'∧g'.status = .running∧OwnStep P g (w.at d) g' w'∧LoneOk P Stop g' w':=by
 obtain⟨n,g1,w1,hn,h1,hs⟩:=h w.tape d
 cases n with
 | zero =>
   exfalso;simp only[runN,Stepped.next.injEq,solo,Machine.mk.injEq]at hn;obtain⟨rfl,e,_⟩:=hn;have e:g=g1:=by simpa using e
   subst e;exact hns (hStop g (re w w.tape d) w.tape w.drawn hs)
 | succ n =>
   obtain⟨g',w',hg',hr',hown,_,_⟩:=cZ T hg hr h1 hn;refine⟨g',w',hg',hr',hown,fun τ' d'=>?_⟩;obtain⟨c,q1,q2,q3⟩:=hown.win
   let T0:Nat→Question→Nat:=fun i q=>if i < c then w.tape (d+i) q else τ' (d'+(i - c)) q
   obtain⟨m,g2,w2,hm,h2,hs2⟩:=h T0 0;have hag:Agree w.tape d T0 0 c:=fun i hi q=>by simp only[T0,Nat.zero_add,hi,if_true]
   have hstep:step P (solo g (re w T0 0)) = .next (solo g' (re w' T0 (0+c))):=q3 T0 0 hag;rw[Nat.zero_add]at hstep
   cases m with
   | zero =>
     exfalso;simp only[runN,Stepped.next.injEq,solo,Machine.mk.injEq]at hm;obtain⟨rfl,e,_⟩:=hm;have e:g=g2:=by simpa using e
     subst e;exact hns (hStop g (re w T0 0) w.tape w.drawn hs2)
   | succ m =>
     simp only [runN, hstep] at hm; obtain ⟨k, hk⟩ := yVA T h2 m g' w' w2 T0 τ' c d' hg' hr' (fun i q => by
       simp only[T0];rw[if_neg (by omega),show c+i - c=i by omega]) hm
     exact⟨m,g2,_,hk,h2,hStop _ _ _ _ hs2⟩
theorem path{S:Type}{R:S→S→Prop}(h:∀ s,∃ s',R s s')(s0:S):∃ f:Nat→S,f 0=s0∧∀ n,R (f n) (f (n+1)) :=
 ⟨fun n=>Nat.rec s0 (fun _ s=>Classical.choose (h s)) n,rfl,fun _=>Classical.choose_spec (h _)⟩
def dK (C : Nat → Nat) : Nat → Nat
  | 0=>0
  | n+1=>dK C n+C n
theorem pNA(C:Nat→Nat){a b:Nat}(h:a≤b):dK C a≤dK C b:=by
 induction h with
 | refl=>exact Nat.le_refl _
 | step _ ih=>exact Nat.le_trans ih (Nat.le_add_right _ _)
open Classical in
noncomputable def splice(τ:Nat→Question→Nat)(C D:Nat→Nat):Nat→Question→Nat:=fun i q =>
 if h:∃ k,dK C k≤i∧i < dK C (k+1) then τ (D (Classical.choose h)+(i - dK C (Classical.choose h))) q else 0
theorem qMA(τ:Nat→Question→Nat)(C D:Nat→Nat)(k:Nat):Agree τ (D k) (splice τ C D) (dK C k) (C k):=by
 intro i hi q;have hex:∃ k',dK C k'≤dK C k+i∧dK C k+i < dK C (k'+1):=⟨k,Nat.le_add_right _ _,by simp only[dK];omega⟩;unfold splice;rw[dif_pos hex];have hc:=Classical.choose_spec hex;have key:∀ m,dK C m≤dK C k+i→dK C k+i < dK C (m+1)→m=k:=by
  intro m h1 h2;rcases Nat.lt_trichotomy m k with h | h | h
  · have:=pNA C (show m+1≤k from h);omega
  · exact h
  · have:=pNA C (show k+1≤m from h);simp only[dK]at this;omega
 have hk:Classical.choose hex=k:=key _ hc.1 hc.2;rw[hk,Nat.add_sub_cancel_left]
theorem pLA(T:Tame P)(hStop:∀ g w τ d,Stop g w→Stop g (re w τ d)){g:Goroutine}{w:World}(hg:GOk g)(hr:g.status = .running)(h:LoneOk P Stop g w):Ends P Stop g w:=by
 apply Classical.byContradiction;intro hno
 let Bad:Goroutine×World→Prop:=fun x=>GOk x.1∧x.1.status = .running∧LoneOk P Stop x.1 x.2∧¬ Ends P Stop x.1 x.2
 let R:{ x // Bad x }→{ x // Bad x }→Prop:=fun s s'=>∃ d,OwnStep P s.1.1 (s.1.2.at d) s'.1.1 s'.1.2
 have hR:∀ s,∃ s',R s s':=by
  rintro⟨⟨a,v⟩,ha,har,hal,hae⟩;have hns:¬ Stop a v:=fun hs=>hae (Ends.stop hs)
  have:∃ d,∀ g' w',OwnStep P a (v.at d) g' w'→¬ Ends P Stop g' w':=by
   apply Classical.byContradiction;intro hc;refine hae (Ends.step har fun d=>?_);apply Classical.byContradiction;intro hd;exact hc ⟨d,fun g' w' ho he=>hd ⟨g',w',ho,he⟩⟩
  obtain⟨d,hd⟩:=this;obtain⟨g',w',hg',hr',ho,hl⟩:=LoneOk.next T hStop ha har hns hal d;exact⟨⟨(g',w'),hg',hr',hl,hd g' w' ho⟩,d,ho⟩
 obtain⟨f,hf0,hf⟩:=path hR ⟨(g,w),hg,hr,h,hno⟩;have hw:∀ n,∃ d c,(f (n+1)).1.2.tape=(f n).1.2.tape∧∀ τ p,Agree (f n).1.2.tape d τ p c→step P (solo (f n).1.1 (re (f n).1.2 τ p)) = .next (solo (f (n+1)).1.1 (re (f (n+1)).1.2 τ (p+c))):=by
  intro n;obtain⟨d,ho⟩:=hf n;obtain⟨c,_,q2,q3⟩:=ho.win;exact⟨d,c,q2,fun τ p ha=>q3 τ p ha⟩
 let D:Nat→Nat:=fun n=>Classical.choose (hw n)
 let C:Nat→Nat:=fun n=>Classical.choose (Classical.choose_spec (hw n))
 have hDC:∀ n,(f (n+1)).1.2.tape=(f n).1.2.tape∧∀ τ p,Agree (f n).1.2.tape (D n) τ p (C n)→step P (solo (f n).1.1 (re (f n).1.2 τ p)) = .next (solo (f (n+1)).1.1 (re (f (n+1)).1.2 τ (p+C n))) :=
  fun n=>Classical.choose_spec (Classical.choose_spec (hw n))
 have htape:∀ n,(f n).1.2.tape=w.tape:=by
  intro n
  induction n with
  | zero=>rw[hf0]
  | succ n ih=>rw[(hDC n).1,ih]
 let S:=splice w.tape C D
 have hrun:∀ n,runN P n (solo g (re w S 0)) = .next (solo (f n).1.1 (re (f n).1.2 S (dK C n))):=by
  intro n
  induction n with
  | zero=>rw[hf0];rfl
  | succ n ih =>
    have hs:=(hDC n).2 S (dK C n) (by rw[htape n];exact qMA w.tape C D n);rw[runN_add P n 1,ih];simp only[runN,hs];rfl
 obtain⟨n,g1,w1,hn,h1,hs⟩:=h S 0;rw[hrun n]at hn;simp only[Stepped.next.injEq,solo,Machine.mk.injEq]at hn;obtain⟨e1,e2,_⟩:=hn;have e2:(f n).1.1=g1:=by simpa using e2
 have hst:Stop (f n).1.1 (re (f n).1.2 S (dK C n)):=by rw[e1,e2];exact hs
 exact(f n).2.2.2.2 (Ends.stop (hStop (f n).1.1 (re (f n).1.2 S (dK C n)) (f n).1.2.tape (f n).1.2.drawn hst))
end
open Go.ConcN (sumTo upd sumTo_upd upd_ne upd_same)
variable {P : Program}
structure Kn (t:Trace):Prop where
 clean:∀ said,¬ Race said t
 known:∀ i a,touchAt t i=some a→a.loc.isMemory=true→Knows t 0 i
 hears:Deaf t 0=0
theorem Kn.over{t:Trace}(h:Kn t):t.HandedOver:=by
 rintro i g hg hne ⟨x,hx,hm,_⟩;obtain⟨q,z,h1,h2,h3⟩:=h.known i x hx hm;refine⟨q,by simp[Trace.g?,h1,h2],?_⟩;rcases h3 with rfl | h3
 · simp[Trace.g?,h1,h2]at hg;exact absurd hg.symm hne
 · exact h3
theorem Kn.app0{t u:Trace}(h:Kn t)(hu:∀ op∈u,op.g=0)(hd:Deaf (t++u) 0=Deaf t 0):Kn (t++u):=by
 refine⟨fun said=>noRace_append (h.clean said) hu fun i a ha op _ b _ hc=>h.known i a ha hc.2.1,fun i a ha hm=>?_,hd.trans h.hears⟩;obtain⟨x,hx,hxa⟩:=touch_of ha;rcases getElem?_append_cases hx with⟨_,hx'⟩ | ⟨_,hxu⟩
 · exact(h.known i a (by rw[touchAt_of hx'];exact hxa) hm).app u
 · have := knows_own hx
   rwa [hu x hxu]at this
theorem Kn.appMute{t u:Trace}{g:Nat}(h:Kn t)(hg:g≠0)(hu:∀ op∈u,op.g=g)(hn:∀ op∈u,op.act.touch? = none):Kn (t++u):=by
 refine⟨fun said=>noRace_append (h.clean said) hu fun i a _ op hop b hb _=>(by rw[hn op hop]at hb;cases hb),fun i a ha hm=>?_,(Deaf_other t hg u hu).trans h.hears⟩;obtain⟨x,hx,hxa⟩:=touch_of ha;rcases getElem?_append_cases hx with⟨_,hx'⟩ | ⟨_,hxu⟩
 · exact(h.known i a (by rw[touchAt_of hx'];exact hxa) hm).app u
 · rw[hn x hxu]at hxa;cases hxa
theorem kBB:Kn #[]:=by
 refine⟨fun said h=>?_,fun i a ha=>?_,rfl⟩
 · obtain⟨i,j,_,⟨a,b,ha,_⟩,_⟩:=h;simp[Trace.act?]at ha
 · simp[touchAt,Trace.act?]at ha
theorem oIA{t:Trace}{gs:Array Goroutine}{q:Nat→Nat}(hL:Leavers P t gs q):qNA gs:=fun j x hj hx=>(hL.old j x hj hx).status
theorem vOA{t u:Trace}{gs:Array Goroutine}{q:Nat→Nat}{g g':Goroutine}(h0:gs[0]? = some g)(hL:Leavers P t gs q)(hu:∀ op∈u,op.g=0):Leavers P (t++u) (gs.setIfInBounds 0 g') q:=by
 have hlt:0 < gs.size:=(Array.getElem?_eq_some_iff.1 h0).1;refine⟨fun j x hj hx=>?_,fun j hj=>?_⟩
 · rw[Array.getElem?_setIfInBounds_ne (by omega)]at hx;rw[Deaf_other t (by omega) u hu];exact hL.old j x hj hx
 · have hj : gs.size ≤ j := by simpa using hj
   rw[Deaf_other t (g:=j) (g':=0) (by omega) u hu];exact hL.above j hj
def RunsTo(P:Program)(Stop:Goroutine→World→Prop)(gs:Array Goroutine)(w:World)(sl:Option (Nat×Nat))(t:Trace):Prop :=
 ∃(N:Nat) (gs':Array Goroutine) (g':Goroutine) (w':World) (sl':Option (Nat×Nat)) (t':Trace) (q':Nat→Nat),
  runNT P N (crowd gs w sl) t=(.next (crowd gs' w' sl'),t')∧gs'.size=gs.size∧gs'[0]? = some g'∧Stop g' w'∧Leavers P t' gs' q'∧Kn t'
theorem beside_step {Stop : Goroutine → World → Prop} {g : Goroutine} {w : World} (hrun : g.status = .running)
    (hstep:∀ d,∃ g' w',OwnStep P g (w.at d) g' w'∧∀ gs sl t q,gs[0]? = some g'→Leavers P t gs q→Kn t→RunsTo P Stop gs w' sl t) :
    ∀(M e:Nat) (gs:Array Goroutine) (sl:Option (Nat×Nat)) (t:Trace) (q:Nat→Nat),sumTo gs.size q≤M→gs[0]? = some g→Leavers P t gs q→Kn t→RunsTo P Stop gs (w.at e) sl t:=by
  intro M
  induction M using Nat.strongRecOn with
  | ind M ih =>
  intro e gs sl t q hM h0 hL hK;have hlt0:0 < gs.size:=(Array.getElem?_eq_some_iff.1 h0).1;have haw:∀ x∈gs,awake x:=by
   intro x hx;obtain⟨i,hi,rfl⟩:=Array.mem_iff_getElem.1 hx;rcases Nat.eq_zero_or_pos i with rfl | hpos
   · have : gs[0] = g := by simpa [Array.getElem?_eq_getElem hi] using h0
     rw[this];exact awake_of (.inl hrun)
   · exact awake_of ((hL.old i _ hpos (Array.getElem?_eq_getElem hi)).status.elim .inl fun x=>.inr (.inr x))
  obtain⟨i,x,d,sl',hi,hx,hst⟩:=crowd_pick (P:=P) (w:=w.at e) (sl:=sl) haw ⟨0,g,h0,hrun⟩;have hat:(w.at e).at d=w.at d:=rfl;rw[hat]at hst;rcases Nat.eq_zero_or_pos i with rfl | hpos
  · -- goroutine 0 takes a step
    obtain⟨g',w',hown,hX⟩:=hstep d;obtain⟨ops,hrT,hops,hdeaf⟩:=hown.beside gs sl' h0 (oIA hL);obtain⟨N,gs',a',w2,sl2,t',q',hr,hs',h0',hS,hL',hK'⟩:=hX (gs.setIfInBounds 0 g') sl' (t++ops) q (by simp[hlt0]) (vOA h0 hL hops) (hK.app0 hops (hdeaf t));exact⟨N+1,gs',a',w2,sl2,t',q',by simp only[runNT,hst,hrT];exact hr,hs'.trans (by simp),h0',hS,hL',hK'⟩
  · -- a leaver slips
    have hq:=hL.old i x hpos hi;have hi0:(i==0)=false:=by simp;omega
    have hlt:i < gs.size:=(Array.getElem?_eq_some_iff.1 hi).1
    cases hqi:q i with
    | zero=>rw[hqi]at hq;rw[hq.1]at hx;cases hx
    | succ k =>
      rw[hqi]at hq;rcases hq with⟨hf,_⟩ | ⟨_,g',es,hm,hstp,hq'⟩
      · rw[hf]at hx;cases hx
      have hrunT:=runT_crowd_go (P:=P) (sl:=sl') (i:=i) hi (by rw[hi0];exact hstp (w.at d));have hsz:((gs.map (woken P x g' (w.at d))).setIfInBounds i g').size=gs.size:=by simp
      have hsum:sumTo gs.size (upd q i k)+(k+1)=sumTo gs.size q+k:=by
       have:=sumTo_upd q k id hlt
       simpa [hqi] using this
      obtain ⟨N, gs', a'', w'', sl'', t', q', hr, hs', h0', hS, hL', hK'⟩ := ih (sumTo gs.size (upd q i k)) (by omega) d ((gs.map (woken P x g' (w.at d))).setIfInBounds i g') sl' (t ++ MemOp.ofEvents i x.frame.fn x.frame.place es) (upd q i k) (by rw [hsz]; exact Nat.le_refl _)
        (by
          have hne:i≠0:=by omega
          rw[Array.getElem?_setIfInBounds_ne hne,Array.getElem?_map,h0];simp[woken_run hrun])
        ⟨fun j y hj hy => by
          by_cases hji:i=j
          · subst hji;rw[Array.getElem?_setIfInBounds_self_of_lt (by simpa using hlt)]at hy;obtain rfl:=Option.some.inj hy;rw[upd_same,Deaf_own];exact hq'
          · rw[Array.getElem?_setIfInBounds_ne hji,Array.getElem?_map]at hy;obtain⟨z,hz,rfl⟩:=Option.map_eq_some_iff.1 hy;have hqj:=hL.old j z hj hz;rw[woken_quitsD hqj,upd_ne q k (Ne.symm hji),Deaf_other t hji _ (fun op hop=>by obtain⟨e,_,rfl⟩:=Conc.mem_ofEvents hop;rfl)];exact hqj,fun j hj=>by
          rw[Deaf_other t (g':=i) (by simp at hj;omega) _ (fun op hop=>by obtain⟨e,_,rfl⟩:=Conc.mem_ofEvents hop;rfl)];exact hL.above j (by simpa using hj)⟩
        (hK.appMute (g:=i) (by omega) (fun op hop=>by obtain⟨e,_,rfl⟩:=Conc.mem_ofEvents hop;rfl) (fun op hop=>by obtain⟨e,he,rfl⟩:=Conc.mem_ofEvents hop;exact touch_mute (hm e he)))
      exact⟨N+1,gs',a'',w'',sl'',t',q',by simp only[runNT,hst,hrunT];exact hr,hs'.trans hsz,h0',hS,hL',hK'⟩
theorem beside {Stop : Goroutine → World → Prop} {g : Goroutine} {w : World} (h : Ends P Stop g w) {gs : Array Goroutine} {sl : Option (Nat × Nat)} {t : Trace} {q : Nat → Nat}
    (h0:gs[0]? = some g) (hL:Leavers P t gs q) (hK:Kn t):RunsTo P Stop gs w sl t:=by
  refine h (fun g w=>∀ gs sl t q,gs[0]? = some g→Leavers P t gs q→Kn t→RunsTo P Stop gs w sl t) ?_ ?_ gs sl t q h0 hL hK
  · intro g w hs gs sl t q h0 hL hK;exact⟨0,gs,g,w,sl,t,q,rfl,rfl,h0,hs,hL,hK⟩
  · intro g w hr hst gs sl t q h0 hL hK;have:=beside_step hr hst (sumTo gs.size q) w.drawn gs sl t q (Nat.le_refl _) h0 hL hK;exact this
variable {P : Program} {gs : Array Goroutine} {w w₁ : World} {sl : Option (Nat × Nat)} {i j k : Nat} {g g₂ gj : Goroutine} {es : Array Event} {cases : Array CommCase} {shape shj : CommShape} {blocking : Bool}
  {c cap s r:Nat} {buf:Array Value} {closed tm:Bool} {v z zj:Value}
theorem wFA (hi : gs[i]? = some g) (h : stepG P (i == 0) g w = .comm g₂ cases blocking shape w₁ es) (hk : cases[k]? = some (scase c v z))
    (ho:∀(m:Nat) (c':CommCase),m≠k→cases[m]? = some c'→NoWays w₁ (gs.setIfInBounds i ph) c')
    (hc:w₁.heap[c]? = some (.chan cap buf false s r tm))
    (hij:j≠i) (hj:gs[j]? = some (parked gj #[rcase c zj] shj)) (hp:partners (gs.setIfInBounds i ph) c false=[(j,0)]) :
    runT P (crowd gs w sl) i = (.next (crowd ((gs.setIfInBounds j (gj.finishComm P #[rcase c zj] shj 0 v true)).setIfInBounds i (g₂.finishComm P cases shape k undef false)) (w₁.setChan c cap buf false (s + 1) (r + 1) tm) sl),
      MemOp.ofEvents i g.frame.fn g.frame.place es ++ #[{ g := i, fn := g₂.frame.fn, pos := g₂.frame.place, act := .send c s }, { g := j, fn := gj.frame.fn, pos := gj.frame.place, act := .recv c r cap },
        { g:=i,fn:=g₂.frame.fn,pos:=g₂.frame.place,act:=.sendDone c s },{ g:=j,fn:=gj.frame.fn,pos:=gj.frame.place,act:=.recvDone c r }]):=by
  have hw:ways w₁ (gs.setIfInBounds i ph) (scase c v z)=[.partner j 0]:=by simp[ways,scase,hc,hp]
  have hj':=stand_get (i:=i) hij hj;have hfp:=finishPartner_at P (gs.setIfInBounds i ph) hj' (cs:=#[rcase c zj]) (sh:=shj) rfl 0 v;have hgd:(gs.setIfInBounds i ph).getD j default=parked gj #[rcase c zj] shj:=by rw[Array.getD_eq_getD_getElem?,hj'];rfl
  rw[runT_crowd_comm hi h];unfold communicate;simp only[ready_one hk (by rw[hw];simp) ho,hw];rw[if_neg]
  · simp[choose,Sem.run,Question.forced,bind,Sem.bind,pure,scase,hc,World.setChan,crowd,hfp,hgd,set_stand2,finishComm_parked,rcase,parked];rfl
  · rw[Bool.not_eq_true];exact any_ill (made_of_one hk (made_send v z hc) ho)
theorem rEA (hi : gs[i]? = some g) (h : stepG P (i == 0) g w = .comm g₂ #[rcase c z] blocking shape w₁ es) (hc : w₁.heap[c]? = some (.chan cap #[] closed s r tm))
    (hij:j≠i) (hj:gs[j]? = some (parked gj cases shj)) (hk:cases[k]? = some (scase c v zj)) (hp:partners (gs.setIfInBounds i ph) c true=[(j,k)]) :
    runT P (crowd gs w sl) i = (.next (crowd ((gs.setIfInBounds j (gj.finishComm P cases shj k undef false)).setIfInBounds i (g₂.finishComm P #[rcase c z] shape 0 v true)) (w₁.setChan c cap #[] closed (s + 1) (r + 1) tm) sl),
      MemOp.ofEvents i g.frame.fn g.frame.place es ++ #[{ g := j, fn := gj.frame.fn, pos := gj.frame.place, act := .send c s }, { g := i, fn := g₂.frame.fn, pos := g₂.frame.place, act := .recv c r cap },
        { g:=j,fn:=gj.frame.fn,pos:=gj.frame.place,act:=.sendDone c s },{ g:=i,fn:=g₂.frame.fn,pos:=g₂.frame.place,act:=.recvDone c r }]):=by
  have hj':=stand_get (i:=i) hij hj;have hfp:=finishPartner_at P (gs.setIfInBounds i ph) hj' (cs:=cases) (sh:=shj) rfl k undef;have hgd:(gs.setIfInBounds i ph).getD j default=parked gj cases shj:=by rw[Array.getD_eq_getD_getElem?,hj'];rfl
  have hov:offeredValue (gs.setIfInBounds i ph) j k=v:=by simp[offeredValue,hj',parked,hk,scase]
  rw[runT_crowd_comm hi h];simp[communicate,ways,rcase,hc,hp,choose,Sem.run,Question.forced,bind,Sem.bind,pure,World.setChan,crowd,hfp,hgd,hov,set_stand2,finishComm_parked,hk,scase];rfl
structure Deal where
 B:Nat
 c:Nat
def Own(d:Deal)(T:TypeId→Prop)(o:Option Nat)(w:World)(b:Nat):Prop :=
 (d.B≤b∧∃ cs ty fz,w.heap[b]? = some (.cells cs ty fz)∧T ty)∨o=some b
structure Rely (d:Deal) (T:TypeId→Prop) (o:Option Nat) (w w₁:World):Prop where
 tape:w₁.tape=w.tape
 os:w₁.os=w.os
 output:w₁.output=w.output
 size:w.heap.size≤w₁.heap.size
 low:∀ b,b < d.B→b≠d.c→w₁.heap[b]? = w.heap[b]?
 own:∀ b,Own d T o w b→w₁.heap[b]? = w.heap[b]?
def wY(d:Deal)(T:TypeId→Prop)(o:Option Nat)(w':World)(e:Event):Prop :=
 (∀ x,(MemAct.ofEvent e).touch? = some x→x.loc.isMemory=true→∃ a,x.loc = .cell a∧(Own d T o w' a.block∨(a.block < d.B∧x.write=false)))∧e.loc≠.mark .disable∧e.loc≠.mark .enable
structure Turn (d:Deal) (T:TypeId→Prop) (o:Option Nat) (w w':World):Prop where
 tape:w'.tape=w.tape
 os:w'.os=w.os
 output:w'.output=w.output
 size:w.heap.size≤w'.heap.size
 rest:∀ b,b < w.heap.size→¬ Own d T o w b→w'.heap[b]? = w.heap[b]?
 typ:∀ b,b < w.heap.size→Own d T o w b→∀ cs ty fz,w.heap[b]? = some (.cells cs ty fz)→∃ cs' fz',w'.heap[b]? = some (.cells cs' ty fz')
 boxed:∀ b,o=some b→(∀ cs ty fz,w.heap[b]?≠some (.cells cs ty fz))→∀ cs ty fz,w'.heap[b]?≠some (.cells cs ty fz)
 new:∀ b,w.heap.size≤b→b < w'.heap.size→∃ cs ty fz,w'.heap[b]? = some (.cells cs ty fz)∧T ty
def Does(d:Deal)(T:TypeId→Prop)(o:Option Nat)(w w':World)(es:Array Event):Prop:=Turn d T o w w'∧∀ e∈es,wY d T o w' e
variable {d : Deal} {T : TypeId → Prop} {o : Option Nat}
theorem Own.rely{w w₁:World}{b:Nat}(h:Own d T o w b)(hr:Rely d T o w w₁):Own d T o w₁ b:=by
 rcases h with h | h
 · obtain⟨hb,cs,ty,fz,hc,ht⟩:=h;exact .inl ⟨hb,cs,ty,fz,by rw[hr.own b (.inl ⟨hb,cs,ty,fz,hc,ht⟩)];exact hc,ht⟩
 · exact .inr h
theorem Rely.refl(w:World):Rely d T o w w:=⟨rfl,rfl,rfl,Nat.le_refl _,fun _ _ _=>rfl,fun _ _=>rfl⟩
theorem Rely.at(w:World)(n:Nat):Rely d T o w (w.at n):=⟨rfl,rfl,rfl,Nat.le_refl _,fun _ _ _=>rfl,fun _ _=>rfl⟩
theorem Rely.trans{a b c:World}(h:Rely d T o a b)(h':Rely d T o b c):Rely d T o a c :=
 ⟨h'.tape.trans h.tape,h'.os.trans h.os,h'.output.trans h.output,Nat.le_trans h.size h'.size,fun x hx hc=>(h'.low x hx hc).trans (h.low x hx hc),fun x hx=>(h'.own x (hx.rely h)).trans (h.own x hx)⟩
theorem Turn.refl(w:World):Turn d T o w w:=⟨rfl,rfl,rfl,Nat.le_refl _,fun _ _ _=>rfl,fun _ _ _ cs _ fz h=>⟨cs,fz,h⟩,fun _ _ h=>h,fun b h1 h2=>absurd h2 (by omega)⟩
theorem Does.idle(w:World):Does d T o w w #[]:=⟨Turn.refl w,by simp⟩
theorem terms:Terms (Rely d T o) (Does d T o):=⟨fun _ _ _=>Rely.trans,Does.idle⟩
theorem Rely.chan(w:World){cap s r:Nat}{buf:Array Value}{cl tm:Bool}(hB:d.c < d.B)(ho:o≠some d.c):Rely d T o w (w.setChan d.c cap buf cl s r tm):=by
 refine⟨rfl,rfl,rfl,by simp[World.setChan],fun b hb hc=>?_,fun b hb=>?_⟩
 · simp only[World.setChan];rw[Array.getElem?_setIfInBounds_ne (Ne.symm hc)]
 · have hne : d.c ≠ b := by
     rintro rfl;rcases hb with⟨hb,_⟩ | hb
     · omega
     · exact ho hb
   simp only[World.setChan];rw[Array.getElem?_setIfInBounds_ne hne]
structure Boxes (tb:TypeId) (w w':World):Prop where
 tape:w'.tape=w.tape
 os:w'.os=w.os
 output:w'.output=w.output
 heap:∃ cs fz,w'.heap=w.heap.push (.cells cs tb fz)
section
variable {P : Program} {main : Bool} {R : World → World → Prop} {D : World → World → Array Event → Prop}
theorem CallsC.rely(T:Terms R D){f:FuncId}{args:Array Value}{n:Nat}{w w₁:World}{Post:Value→World→Prop}(h:CallsC P main R D f args n w Post)(r:R w w₁):CallsC P main R D f args n w₁ Post:=by
 obtain⟨fn,c,hf,hn,hb,hw⟩:=h;exact⟨fn,c,hf,hn,hb,wpC_rely T hw r⟩
theorem CallsC.more{f:FuncId}{args:Array Value}{n n':Nat}{w:World}{Post:Value→World→Prop}(h:CallsC P main R D f args n w Post)(hn:n≤n'):CallsC P main R D f args n' w Post:=by
 obtain⟨fn,c,hf,hn',hb,hw⟩:=h;exact⟨fn,c,hf,hn',hb,wpC_more hw hn⟩
theorem gVA (T : Terms R D) {b : Frame} {a : Act} {k : List Item} {cs : List Frame} {w : World} {ops : Array Oper} {i : Nat} {rest : List Nat} {o : Oper} {f : FuncId} {vs : Array Value}
    {nf m:Nat} {Post:Value→World→Prop} {Stop:Goroutine→World→Prop}
    (ho:ops[i]? = some o) (hw:Region.wanted o (yielded ops a.tmps)=true) (hk:b.kind≠.early)
    (hrun:∀ w₁,R w w₁→(execOp a.eval o).run P w₁ = .ok (.enter f vs) w₁) (hl:∀ w₁,R w w₁→D w₁ w₁ (listed P b.fn a o w₁))
    (hcall:CallsC P main R D f vs nf w Post)
    (hnext:∀ v w',Post v w'→Goes P main R D Stop m (G (b.at (a.put o.dst v) (.inRegion ops rest::k)) cs) w') :
    Goes P main R D Stop (m+nf+3) (G (b.at a (.inRegion ops (i::rest)::k)) cs) w:=by
  obtain⟨fn,c,hf,hname,hbody,hwp⟩:=hcall;have hfin:∀ v,(b.at a (.inRegion ops (i::rest)::k)).finish v=b.at (a.put o.dst v) (.inRegion ops rest::k):=fun v=>by rw[Frame.finish_at,ho];rfl
  have hleave:∀(a':Act) (w':World) (todo:List Item),(a'.defers=[]∧∃ v,ResultsC P fn a'.tmps v∧Post v w') →
   Goes P main R D Stop (m+1) (G { (base f).at a' todo with mode:=.returning } (b.at a (.inRegion ops (i::rest)::k)::cs)) w':=by
   rintro a' w' todo ⟨hd,v,hr,hp⟩;refine Goes.step rfl fun w₁ h₁=>?_
   rw[stepG_leave (b:=base f) rfl hd hf (hr w₁).1 (hr w₁).2,hfin];exact⟨T.idle _,(hnext v w' hp).rely T.trans h₁⟩
  have hbodyG:Goes P main R D Stop (m+2+nf) (G ((base f).at { tmps:=vs++Array.replicate (fn.ntmps - vs.size) undef,defers:=[] } [.code c]) (b.at a (.inRegion ops (i::rest)::k)::cs)) w:=by
   refine hwp (base f) [] _ Stop (m+2) rfl (by simp[base]) fun e a' w' q=>?_
   cases e with
   | normal=>exact Goes.step rfl fun w₁ h₁=>by rw[stepG_end];exact⟨T.idle _,(hleave a' w' [] q).rely T.trans h₁⟩
   | ret=>exact fun todo=>(hleave a' w' todo q).more
   | exit id=>exact q.elim
   | goto l=>exact q.elim
   | panic ch=>exact q.elim
   | outgrown=>exact q.elim
  have e:m+nf+3=(m+2+nf)+1:=by omega
  rw[e];refine Goes.step rfl fun w₁ h₁=>?_
  rw[stepG_enter ho hw hk (hrun w₁ h₁),enter_at _ hf hbody];exact⟨hl w₁ h₁,hbodyG.rely T.trans h₁⟩
variable {fn : FuncId} {ops : Array Oper} {Q : Exit → Act → World → Prop} {md : Region.Mode} {S : World → Prop}
theorem lSA (T : Terms R D) {a : Act} {w : World} {i : Nat} {rest : List Nat} {o : Oper} {f : FuncId} {vs : Array Value} {nf n : Nat} {Post : Value → World → Prop}
    (ho:ops[i]? = some o) (hw:Region.wanted o (yielded ops a.tmps)=true)
    (hrun:∀ w₁,R w w₁→(execOp a.eval o).run P w₁ = .ok (.enter f vs) w₁) (hl:∀ w₁,R w w₁→D w₁ w₁ (listed P fn a o w₁))
    (hcall:CallsC P main R D f vs nf w Post) (hnext:∀ v w',Post v w'→OpsC P main R D fn ops rest n Q (a.put o.dst v) w'):OpsC P main R D fn ops (i::rest) (n+nf+3) Q a w:=by
  intro b k cs Stop m hb hk hc;have:=gVA (Stop:=Stop) (m:=m+n) (b:=b) (k:=k) (cs:=cs) T ho hw hk hrun (fun w₁ h₁=>hb▸hl w₁ h₁) hcall fun v w' hp=>hnext v w' hp b k cs Stop m hb hk hc
  exact this.mono (by omega)
theorem nH (T : Terms R D) {a : Act} {w : World} {i : Nat} {rest : List Nat} {o : Oper} {f : FuncId} {args : Array Operand} {ats : Array TypeId} {vs : Array Value} {nf n : Nat} {Post : Value → World → Prop}
    (ho:ops[i]? = some o) (hw:Region.wanted o (yielded ops a.tmps)=true) (hop:o.op = .call { callee:=.value (.func f),args,argTypes:=ats })
    (hcall:CallsC P main R D f vs nf w Post) (hargs:args.map a.eval=vs) (hnext:∀ v w',Post v w'→OpsC P main R D fn ops rest n Q (a.put o.dst v) w'):OpsC P main R D fn ops (i::rest) (n+nf+3) Q a w :=
  opsC_call T ho hw hop (by rw[hargs];exact hcall) hnext
def OpX(P:Program)(main:Bool)(R:World→World→Prop)(D:World→World→Array Event→Prop)(fn:FuncId)(ops:Array Oper)(c:Nat)(i:Nat)(K:Act→World→Prop)(a:Act)(w:World):Prop :=
 match ops[i]? with
 | none=>False
 | some o => if Region.wanted o (yielded ops a.tmps) then
     (∀ w₁,R w w₁→uponK o a (fun a' w'=>D w₁ w' (listed P fn a o w₁)∧K a' w') ((execOp a.eval o).run P w₁)) ∨
     (∃ f vs nf Post,nf+3≤c∧(∀ w₁,R w w₁→(execOp a.eval o).run P w₁ = .ok (.enter f vs) w₁)∧(∀ w₁,R w w₁→D w₁ w₁ (listed P fn a o w₁))∧CallsC P main R D f vs nf w Post∧∀ v w',Post v w'→K (a.put o.dst v) w')
   else K (a.put o.dst undef) w
theorem dOA{c i:Nat}{a:Act}{w:World}{K K':Act→World→Prop}(h:∀ a w,K a w→K' a w)(hh:OpX P main R D fn ops c i K a w):OpX P main R D fn ops c i K' a w:=by
 unfold OpX at *
 split
 · simp_all
 · rename_i o ho; simp only [ho] at hh
   split
   · rename_i hw; simp only [hw, if_true] at hh; rcases hh with hh | ⟨f, vs, nf, Post, h1, h2, h2', h3, h4⟩
     · exact .inl fun w₁ h₁=>uponK_mono (fun a' w' x=>⟨x.1,h _ _ x.2⟩) (hh w₁ h₁)
     · exact .inr ⟨f,vs,nf,Post,h1,h2,h2',h3,fun v w' p=>h _ _ (h4 v w' p)⟩
   · rename_i hw;simp only[hw]at hh;exact h _ _ hh
theorem gOA(T:Terms R D){c i:Nat}{rest:List Nat}{n:Nat}{a:Act}{w:World}(hc:1≤c)(h:OpX P main R D fn ops c i (fun a' w'=>OpsC P main R D fn ops rest n Q a' w') a w):OpsC P main R D fn ops (i::rest) (n+c) Q a w:=by
 unfold OpX at h
 split at h
 · exact h.elim
 · rename_i o ho
   split at h
   · rename_i hw; rcases h with h | ⟨f, vs, nf, Post, h1, h2, h2', h3, h4⟩
     · exact opsC_more (opsC_cons ho hw h) (by omega)
     · exact opsC_more (lSA T ho hw h2 h2' h3 h4) (by omega)
   · rename_i hw;exact opsC_more (opsC_unwanted T ho (by simpa using hw) h) (by omega)
def AnyX (P : Program) (main : Bool) (R : World → World → Prop) (D : World → World → Array Event → Prop) (fn : FuncId) (md : Region.Mode) (ops : Array Oper) (c : Nat) (Q : Exit → Act → World → Prop) (S : World → Prop) : Nat → Array Bool → Act → World → Prop
  | 0,listed,a,w=>Region.ready md ops listed=[]∧Q .normal a w
  | fuel + 1, listed, a, w =>
    (Region.ready md ops listed=[]→Q .normal a w) ∧
    ∀ i∈Region.ready md ops listed,OpX P main R D fn ops c i (fun a' w'=>S w'∧AnyX P main R D fn md ops c Q S fuel (listed.setIfInBounds i true) a' w') a w
theorem AnyX.rely(T:Terms R D){c:Nat}(hSR:∀ x y,S x→R x y→S y)(hQR:∀ a x y,Q .normal a x→R x y→Q .normal a y) :
 ∀(fuel:Nat) (listed:Array Bool) (a:Act) (w w₁:World),AnyX P main R D fn md ops c Q S fuel listed a w→R w w₁→AnyX P main R D fn md ops c Q S fuel listed a w₁
 | 0,_,_,_,_,h,r=>⟨h.1,hQR _ _ _ h.2 r⟩
 | fuel + 1, listed, a, w, w₁, h, r => ⟨fun e => hQR _ _ _ (h.1 e) r, fun i hi => by
     have:=h.2 i hi;unfold OpX at *
     split
     · simp_all
     · rename_i o ho; simp only [ho] at this
       split
       · rename_i hw; simp only [hw, if_true] at this; rcases this with this | ⟨f, vs, nf, Post, h1, h2, h2', h3, h4⟩
         · exact .inl fun w₂ h₂=>this w₂ (T.trans _ _ _ r h₂)
         · exact .inr ⟨f,vs,nf,Post,h1,fun w₂ h₂=>h2 w₂ (T.trans _ _ _ r h₂),fun w₂ h₂=>h2' w₂ (T.trans _ _ _ r h₂),CallsC.rely T h3 r,h4⟩
       · rename_i hw;simp only[hw]at this;exact⟨hSR _ _ this.1 r,AnyX.rely T hSR hQR fuel _ _ _ _ this.2 r⟩⟩
theorem sUA(T:Terms R D){c:Nat}(hc:1≤c):∀(fuel t:Nat) (listed:Array Bool) (a:Act) (w:World),AnyX P main R D fn md ops c Q S fuel listed a w →
 OpsC P main R D fn ops (Region.linearise.go md ops fuel t listed []) (fuel * c+1) Q a w:=by
 intro fuel
 induction fuel with
 | zero=>intro t listed a w h;simpa [Region.linearise.go] using opsC_nil T h.2
 | succ fuel ih =>
   intro t listed a w h;obtain⟨h₀,h₁⟩:=h;simp only[Region.linearise.go]
   change OpsC P main R D fn ops (match (Region.ready md ops listed)[t % (Region.ready md ops listed).length]? with
     | some i=>Region.linearise.go md ops fuel (t / (Region.ready md ops listed).length) (listed.setIfInBounds i true) [i]
     | none=>[].reverse) ((fuel+1) * c+1) Q a w
   have hm:(fuel+1) * c+1=(fuel * c+1)+c:=by rw[Nat.succ_mul];omega
   rw[hm]
   cases hi:(Region.ready md ops listed)[t % (Region.ready md ops listed).length]? with
   | none =>
     have hnil:Region.ready md ops listed=[]:=by
      cases hr:Region.ready md ops listed with
      | nil=>rfl
      | cons x xs =>
        rw[hr]at hi;have hlt:t % (x::xs).length < (x::xs).length:=Nat.mod_lt _ (by simp);simp at hi;simp at hlt;omega
     exact opsC_more (by simpa using opsC_nil T (h₀ hnil)) (by omega)
   | some i =>
     simp only[];rw[linearise_go_acc,List.reverse_singleton,List.singleton_append];exact gOA T hc (dOA (fun a' w' x=>ih _ _ a' w' x.2) (h₁ i (List.mem_of_getElem? hi)))
theorem nHA {c : Nat} (hSR : ∀ x y, S x → R x y → S y) {i : Nat} {o : Oper} {v : Value} {a : Act} (hi : ops[i]? = some o) (hy : YieldsIfC P D fn ops S o v a)
    {K:Act→World→Prop} (hK:∀ a x y,K a x→R x y→K a y) {w:World} (hS:S w) (h:K (a.put o.dst v) w):OpX P main R D fn ops c i K a w:=by
  unfold OpX;simp only[hi];rcases hy with⟨hw,hv⟩ | ⟨hw,rfl⟩
  · simp only [hw, if_true]; refine .inl fun w₁ h₁ => ?_
    rw[(hv w₁ (hSR _ _ hS h₁)).1];exact⟨(hv w₁ (hSR _ _ hS h₁)).2,hK _ _ _ h h₁⟩
  · simp only[hw,Bool.false_eq_true,if_false];exact h
theorem d0A {c j : Nat} {oi oj : Oper} {v : Value} (hj : ops[j]? = some oj) (hap : oi.apart ops oj = true)
    (hsi:∀ cs b,oi.op≠.select cs b) (hsj:∀ cs b,oj.op≠.select cs b) {K:Act→World→Prop} {a:Act} {w:World}
    (hy:YieldsIfC P D fn ops S oi v a) (h:OpX P main R D fn ops c j K (a.put oi.dst v) w) :
    OpX P main R D fn ops c j (fun a' w'=>YieldsIfC P D fn ops S oi v a'∧K (a'.put oi.dst v) w') a w:=by
  obtain⟨h1,h2,h3⟩:=Oper.apart_spec hap;have keep:∀(a:Act),YieldsIfC P D fn ops S oi v a→∀ u,YieldsIfC P D fn ops S oi v (a.put oj.dst u):=fun a hy u =>
   hy.of_same (execOp_put oi hsi a oj.dst u h3) (wanted_put oi a oj.dst u h3)
  unfold OpX at *;simp only[hj]at *;rw[wanted_put oj a oi.dst v h1]at h
  split
  · rename_i hw; simp only [hw, if_true] at h; unfold listed at *; rw [execOp_put oj hsj a oi.dst v h1] at h; rcases h with h | ⟨f, vs, nf, Post, g1, g2, g2', g3, g4⟩
    · refine .inl fun w₁ h₁ => ?_
      have h:=h w₁ h₁;generalize (execOp a.eval oj).run P w₁=r at *
      cases r with
      | ok n w' =>
        cases n<;>simp only[uponK]at h ⊢
        case value u=>exact⟨h.1,keep a hy u,by rw[← Act.put_comm a v u h2];exact h.2⟩
        case skip=>exact⟨h.1,keep a hy _,by rw[← Act.put_comm a v undef h2];exact h.2⟩
      | halt x w'=>simp only[uponK]at h
    · exact .inr ⟨f,vs,nf,Post,g1,g2,g2',g3,fun u w' p=>⟨keep a hy u,by rw[← Act.put_comm a v u h2];exact g4 u w' p⟩⟩
  · rename_i hw;simp only[hw]at h;exact⟨keep a hy _,by rw[← Act.put_comm a v undef h2];exact h⟩
theorem jSA (T : Terms R D) {c : Nat} (hSR : ∀ x y, S x → R x y → S y) (hQR : ∀ a x y, Q .normal a x → R x y → Q .normal a y) {i : Nat} {oi : Oper} {v : Value} (hi : ops[i]? = some oi)
    (hsel:∀(j:Nat) (o:Oper) cs b,ops[j]? = some o→o.op≠.select cs b) :
    ∀(fuel:Nat) (listed:Array Bool) (a:Act) (w:World),
     (∀ j oj,ops[j]? = some oj→j≠i→listed.getD j true=false→(∀ e∈oj.after,Region.binds md e=true→e.on≠i)→oi.apart ops oj=true) →
     i∈Region.ready md ops listed→YieldsIfC P D fn ops S oi v a→S w →
     AnyX P main R D fn md ops c Q S fuel (listed.setIfInBounds i true) (a.put oi.dst v) w→AnyX P main R D fn md ops c Q S (fuel+1) listed a w:=by
  have hK:∀ fuel listed,∀ a x y,(S x∧AnyX P main R D fn md ops c Q S fuel listed a x)→R x y→(S y∧AnyX P main R D fn md ops c Q S fuel listed a y) :=
   fun fuel listed a x y h r=>⟨hSR _ _ h.1 r,AnyX.rely T hSR hQR fuel listed a x y h.2 r⟩
  intro fuel
  induction fuel with
  | zero =>
    intro listed a w _ hr hy hS H;refine⟨fun h=>(by rw[h]at hr;cases hr),fun j hj=>?_⟩;by_cases hji:j=i
    · subst hji;exact nHA hSR hi hy (hK _ _) hS ⟨hS,H⟩
    · have := ready_mono hj hji; rw [H.1] at this
      cases this
  | succ fuel ih =>
    intro listed a w hfree hr hy hS H;refine⟨fun h=>(by rw[h]at hr;cases hr),fun j hj=>?_⟩;by_cases hji:j=i
    · subst hji;exact nHA hSR hi hy (hK _ _) hS ⟨hS,H⟩
    · have h1 := H.2 j (ready_mono hj hji); obtain ⟨hjun, oj, hoj, hall⟩ := mem_ready.1 hj; have hnot : ∀ e ∈ oj.after, Region.binds md e = true → e.on ≠ i := fun e he hb heq => by
       have h1:=hall e he hb;have h0:=(mem_ready.1 hr).1;rw[heq]at h1;rcases Nat.lt_or_ge i listed.size with h' | h'
       · simp[h']at h0 h1;rw[h0]at h1;cases h1
       · simp[Array.getElem?_eq_none h']at h1
      have h2:=d0A hoj (hfree j oj hoj hji hjun hnot) (fun cs b=>hsel i oi cs b hi) (fun cs b=>hsel j oj cs b hoj) hy h1;have hfree':∀ k ok,ops[k]? = some ok→k≠i→(listed.setIfInBounds j true).getD k true=false →
       (∀ e∈ok.after,Region.binds md e=true→e.on≠i)→oi.apart ops ok=true:=fun k ok hk hki hun hno=>by
       refine hfree k ok hk hki ?_ hno;by_cases hjk:j=k
       · subst hjk;exact hjun
       · rw[getD_set_ne true hjk]at hun;exact hun
      refine dOA (fun a' w' h3=>⟨h3.2.1,ih (listed.setIfInBounds j true) a' w' hfree' (ready_mono hr (Ne.symm hji)) h3.1 h3.2.1 ?_⟩) h2;rw[Array.setIfInBounds_comm _ _ hji];exact h3.2.2
theorem mKA (T : Terms R D) {c : Nat} (hSR : ∀ x y, S x → R x y → S y) (hQR : ∀ a x y, Q .normal a x → R x y → Q .normal a y) {i : Nat} {oi : Oper} {v : Value} {fuel : Nat} {listed : Array Bool} {a : Act} {w : World} (hi : ops[i]? = some oi)
    (hs:Region.noSelect ops=true) (hf:Region.free md ops listed i=true) (hr:(Region.ready md ops listed).contains i=true)
    (hy:YieldsIfC P D fn ops S oi v a) (hS:S w) (h:AnyX P main R D fn md ops c Q S fuel (listed.setIfInBounds i true) (a.put oi.dst v) w):AnyX P main R D fn md ops c Q S (fuel+1) listed a w :=
  jSA T hSR hQR hi (Region.noSelect_spec hs) fuel listed a w (Region.free_spec hi hf) (by simpa using hr) hy hS h
theorem rTA {c i : Nat} {fuel : Nat} {listed' : Array Bool} {a : Act} {w : World} {o : Oper} {f : FuncId} {vs : Array Value} {nf : Nat} {Post : Value → World → Prop} (hr : Region.ready md ops listed' = [i])
    (ho:ops[i]? = some o) (hw:Region.wanted o (yielded ops a.tmps)=true)
    (hrun:∀ w₁,R w w₁→(execOp a.eval o).run P w₁ = .ok (.enter f vs) w₁) (hl:∀ w₁,R w w₁→D w₁ w₁ (listed P fn a o w₁)) (hcall:CallsC P main R D f vs nf w Post) (hc:nf+3≤c)
    (h:∀ v w',Post v w'→S w'∧AnyX P main R D fn md ops c Q S fuel (listed'.setIfInBounds i true) (a.put o.dst v) w'):AnyX P main R D fn md ops c Q S (fuel+1) listed' a w:=by
  refine⟨fun h0=>(by rw[hr]at h0;cases h0),fun j hj=>?_⟩;rw[hr,List.mem_singleton]at hj;subst hj;unfold OpX;simp only[ho,hw,if_true];exact .inr ⟨f,vs,nf,Post,hc,hrun,hl,hcall,h⟩
theorem d2A {c i : Nat} {fuel : Nat} {listed' : Array Bool} {a : Act} {w : World} {o : Oper} (hr : Region.ready md ops listed' = [i])
    (ho:ops[i]? = some o) (hw:Region.wanted o (yielded ops a.tmps)=true)
    (h:∀ w₁,R w w₁→uponK o a (fun a' w'=>D w₁ w' (listed P fn a o w₁)∧S w'∧AnyX P main R D fn md ops c Q S fuel (listed'.setIfInBounds i true) a' w') ((execOp a.eval o).run P w₁)):AnyX P main R D fn md ops c Q S (fuel+1) listed' a w:=by
  refine⟨fun h0=>(by rw[hr]at h0;cases h0),fun j hj=>?_⟩;rw[hr,List.mem_singleton]at hj;subst hj;unfold OpX;simp only[ho,hw,if_true];exact .inl h
theorem mM {c : Nat} {listed : Array Bool} {a : Act} {w : World} (hr : Region.ready md ops listed = []) (h : Q .normal a w) : ∀ fuel, AnyX P main R D fn md ops c Q S fuel listed a w
  | 0=>⟨hr,h⟩
  | _+1=>⟨fun _=>h,fun i hi=>by rw[hr]at hi;cases hi⟩
theorem dI (T : Terms R D) (hd : LetsDraw D) {id : Nat} {a : Act} {w : World} (c : Nat) (hc : 1 ≤ c) (hm : P.follows .mixedOrders = true)
    (h:∀ w₁,R w w₁→AnyX P main R D fn .any ops c Q S ops.size (Array.replicate ops.size false) a { w₁ with drawn:=w₁.drawn+1 }):(Code.region id ops true).wpC P main R D fn (ops.size * c+1+1) Q a w :=
  wpC_region_draw hd fun w₁ h₁ t=>by
   simp only[Region.schedule,hm,Bool.true_or,if_true];exact sUA T hc ops.size t _ a _ (h w₁ h₁)
theorem xFA {a : Act} {w : World} {o : Oper} {f : FuncId} {fn : Func} {x : Operand} {args : Array Operand} {ats : Array TypeId} {caps : Array Value} (hop : o.op = .call { callee := .value x, args, argTypes := ats })
    (hx : a.eval x = .func (.func f) #[] caps) (hf : P.funcs[f]? = some fn) (hname : (fn.name == "runtime.NumGoroutine") = false) (hb : fn.body.isNone = false) : (execOp a.eval o).run P w = .ok (.enter f (args.map a.eval ++ caps)) w := by
  have h1 : ¬ fn.name = "runtime.NumGoroutine" := by simpa using hname
  have h2:¬ fn.body=none:=by cases hx:fn.body<;>simp_all
  unfold execOp;simp[hop,resolve,Deferred.ofValue,invoke,callFunc,hf,h1,h2,hx]
theorem rAA {a : Act} {w : World} {o : Oper} {f : FuncId} {fn : Func} {x : Operand} {args : Array Operand} {ats : Array TypeId} {caps : Array Value} (hop : o.op = .call { callee := .value x, args, argTypes := ats })
    (hx : a.eval x = .func (.func f) #[] caps) (hf : P.funcs[f]? = some fn) (hname : (fn.name == "runtime.NumGoroutine") = false) (hb : fn.body.isNone = false) (es : Array Event) : (execOp a.eval o).events P w es = es := by
  have h1 : ¬ fn.name = "runtime.NumGoroutine" := by simpa using hname
  have h2:¬ fn.body=none:=by cases hx:fn.body<;>simp_all
  unfold execOp;simp[hop,resolve,Deferred.ofValue,invoke,callFunc,hf,h1,h2,hx]
theorem kP (T : Terms R D) {c i : Nat} {fuel : Nat} {listed' : Array Bool} {a : Act} {w : World} {o : Oper} {f : FuncId} {x : Operand} {args : Array Operand} {ats : Array TypeId} {caps vs : Array Value} {nf : Nat} {Post : Value → World → Prop}
    (hr:Region.ready md ops listed'=[i]) (ho:ops[i]? = some o) (hw:Region.wanted o (yielded ops a.tmps)=true) (hop:o.op = .call { callee:=.value x,args,argTypes:=ats }) (hx:a.eval x = .func (.func f) #[] caps)
    (hcall:CallsC P main R D f vs nf w Post) (hc:nf+3≤c) (hargs:args.map a.eval++caps=vs)
    (h:∀ v w',Post v w'→S w'∧AnyX P main R D fn md ops c Q S fuel (listed'.setIfInBounds i true) (a.put o.dst v) w'):AnyX P main R D fn md ops c Q S (fuel+1) listed' a w:=by
  have h':=hcall;obtain⟨fn',c',hf,hname,hb,_⟩:=h';have hb':fn'.body.isNone=false:=by rw[hb];rfl
  refine rTA hr ho hw (fun w₁ _=>by rw[xFA hop hx hf hname hb',hargs]) (fun w₁ _=>?_) hcall hc h;have:listed P fn a o w₁=#[]:=by unfold listed;rw[rAA hop hx hf hname hb'];exact seen_none P _
  rw[this];exact T.idle _
theorem gNA{b:Frame}{a:Act}{k:List Item}{cs:List Frame}{w:World}{c:Code}:stepG P main (G (b.at a (.code (.scope c)::k)) cs) w = .go (G (b.at a (.code c :: .inScope c::k)) cs) w:=by simp[G,stepG,stepG.exec,Frame.at]
theorem vIA{b:Frame}{a:Act}{k:List Item}{cs:List Frame}{w:World}{c:Code}:stepG P main (G (b.at a (.inScope c::k)) cs) w = .go (G (b.at a k) cs) w:=by simp[G,stepG,stepG.exec,Frame.at]
end
end Go.Lx
