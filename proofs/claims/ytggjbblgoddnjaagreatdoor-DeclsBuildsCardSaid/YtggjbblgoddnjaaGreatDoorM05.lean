/- Part 5 of what the proof rests on. -/
import Derived.RunT
import Derived.KernelRfl
import Derived.Conc.CrowdComm
import Derived.Test.YtggjbblgoddnjaaGreatDoorM04
set_option linter.unusedSimpArgs false
set_option linter.unusedVariables false
namespace Go.Lx
variable {P : Program}
theorem oF{fn:FuncId}{es:Array Event}(hms:∀ x∈es,MS x)(hb:Bal 0 es):Bal 0 (seen P fn es):=fun x=>by rw[pCA P fn hms];exact hb x
theorem yAA{c:Prop}[Decidable c]{A B:World→GStep}{w:World}(hA:Good A w)(hB:Good B w):Good (fun v=>if c then A v else B v) w:=by
 by_cases h:c
 · simp only[if_pos h];exact hA
 · simp only[if_neg h];exact hB
theorem wW(T:Tame P){fr:Frame}{cs:List Frame}{dy:Option Dying}{dd:Deferred}(hf:pG fr)(hc:∀ f∈cs,pG f)(w:World):Good (fun w=>callDeferred P fr cs dy dd w) w:=by
 unfold callDeferred;refine yAA (.inl trivial) ?_
 · obtain ⟨r, es, hr, hms, hb, hn⟩ := aI (zS T dd.target dd.args) w; rcases hn with ⟨h, w', hd, rfl⟩ | ⟨c, h1, h2, h3⟩
   · left
     cases h with
     | stuck x=>simp only[hr];exact iC trivial
     | unsupported u =>
       cases u with
       | noEntry x=>simp only[hr];exact iC trivial
       | _=>cases hd
     | _=>cases hd
   · cases r with
     | ok a w' =>
       have q1:w'.drawn=w.drawn+c:=h1;have q2:w'.tape=w.tape:=h2;have hbal:=oF (P:=P) (fn:=fr.fn) hms hb.2;have hN:=hb.1;have hcs:=pK hf hc;have go:Good (fun v=>GStep.go { frame:=fr,callers:=cs,status:=.running,dying:=dy } v) w':=qC ⟨hf,hc,(by simp[mE])⟩ iF
       cases a with
       | enter f args =>
         refine iB (w':=w') q1 q2 (by simp only[hr];rfl) (fun τ d ha=>by simp only[h3 τ d ha];rfl) ?_;exact fB (fun _=>hbal) (qC ⟨cK _ _ _ _,hcs,(by simp[mE])⟩ iF)
       | round l f t a b =>
         refine iB (w':=w') q1 q2 (by simp only[hr];rfl) (fun τ d ha=>by simp only[h3 τ d ha];rfl) ?_;exact fB (fun _=>hbal) (qC ⟨nDA _ _ _ _ _ _,hcs,(by simp[mE])⟩ iF)
       | row row args =>
         obtain rfl : row = "runtime.print$piece" := hN; refine iB (w' := w') q1 q2 (by simp only [hr]; rfl) (fun τ d ha => by simp only [h3 τ d ha]; rfl) ?_; exact fB (fun _ => hbal) (qC ⟨bLA _ _ _, hcs, (by simp [mE])⟩ iF)
       | recover =>
         refine iB (w':=w') q1 q2 (by simp only[hr];rfl) (fun τ d ha=>by simp only[h3 τ d ha];rfl) ?_;refine fB (fun _=>hbal) ?_
         split
         · rename_i heq;exact qC ⟨hf,nK _ _ hc heq,(by simp[mE])⟩ iF
         · exact go
       | coroswitch cc x =>
         cases x with
         | false=>exact absurd hN id
         | true =>
           refine iB (w':=w') q1 q2 (by simp only[hr];rfl) (fun τ d ha=>by simp only[h3 τ d ha];rfl) ?_;exact fB (fun _=>hbal) (.inr ⟨⟨⟨hf,hc,(by simp[mE])⟩,iF⟩,0,rfl,rfl,fun _ _ _=>rfl⟩)
       | value v =>
         refine iB (w':=w') q1 q2 (by simp only[hr];rfl) (fun τ d ha=>by simp only[h3 τ d ha];rfl) ?_;exact fB (fun _=>hbal) go
       | skip =>
         refine iB (w':=w') q1 q2 (by simp only[hr];rfl) (fun τ d ha=>by simp only[h3 τ d ha];rfl) ?_;exact fB (fun _=>hbal) go
       | «defer» d =>
         refine iB (w':=w') q1 q2 (by simp only[hr];rfl) (fun τ d ha=>by simp only[h3 τ d ha];rfl) ?_;exact fB (fun _=>hbal) go
       | spawn d =>
         refine iB (w':=w') q1 q2 (by simp only[hr];rfl) (fun τ d ha=>by simp only[h3 τ d ha];rfl) ?_;exact fB (fun _=>hbal) go
       | comm a b sh =>
         refine iB (w':=w') q1 q2 (by simp only[hr];rfl) (fun τ d ha=>by simp only[h3 τ d ha];rfl) ?_;exact fB (fun _=>hbal) go
       | _=>exact absurd hN id
     | halt h w' =>
       have q1:w'.drawn=w.drawn+c:=h1;have q2:w'.tape=w.tape:=h2;have hbal:¬ kU h→Bal 0 (seen P fr.fn es):=fun hh=>oF hms (hb.2.resolve_left hh)
       have hb0:Bal 0 (seen P fr.fn #[]):=oF uV iF
       cases h with
       | panic v =>
         refine iB (w':=w') q1 q2 (by simp only[hr];rfl) (fun τ d ha=>by simp only[h3 τ d ha];rfl) ?_;exact fB (fun _=>hbal id) (qC ⟨yI hf _,hc,(by simp[mE])⟩ iF)
       | goexit =>
         refine iB (w':=w') q1 q2 (by simp only[hr];rfl) (fun τ d ha=>by simp only[h3 τ d ha];rfl) ?_;exact fB (fun _=>hbal id) (qC ⟨yI hf _,hc,(by simp[mE])⟩ iF)
       | blocked =>
         refine iB (w':=w') q1 q2 (by simp only[hr];rfl) (fun τ d ha=>by simp only[h3 τ d ha];rfl) ?_;exact fB (fun _=>hb0) (qC ⟨jS hf _,hc,(by simp[mE])⟩ iF)
       | waiting =>
         refine iB (w':=w') q1 q2 (by simp only[hr];rfl) (fun τ d ha=>by simp only[h3 τ d ha];rfl) ?_;exact fB (fun _=>hb0) (qC ⟨jS hf _,hc,(by simp[mE])⟩ iF)
       | throw m =>
         refine iB (w':=w') q1 q2 (by simp only[hr];rfl) (fun τ d ha=>by simp only[h3 τ d ha];rfl) ?_;exact fB (fun _=>hbal id) (kK hf)
       | fatal m=>exact absurd hb.1 id
       | exit x=>left;simp only[hr];exact iC trivial
       | stuck x=>left;simp only[hr];exact iC trivial
       | unsupported u=>left;simp only[hr];exact iC trivial
variable {P : Program}
theorem tY{α:Type}{φ:α→Prop}{s:Sem α}(hs:Safe P φ 0 s)(w:World) :
 eX (s.run P w)∨∃ c,(wOf (s.run P w)).drawn=w.drawn+c∧(wOf (s.run P w)).tape=w.tape∧∀ τ d,Agree w.tape w.drawn τ d c→s.run P (re w τ d)=reR (s.run P w) τ (d+c):=by
 obtain⟨r,es,hr,_,_,hn⟩:=aI hs w;have e:s.run P w=r:=by rw[← Sem.runT_fst P s w #[],hr]
 rw[e];rcases hn with h | ⟨c,h1,h2,h3⟩
 · exact .inl h
 · exact .inr ⟨c,h1,h2,fun τ d ha=>by rw[← Sem.runT_fst P s (re w τ d) #[],h3 τ d ha]⟩
theorem gP{fr:Frame}{v:Value}(hf:pG fr)(w:World):Good (fun w=>endPrinting P fr v w) w:=by
 unfold endPrinting;dsimp only
 split
 · exact kK hf
 · exact .inl trivial
theorem j4(T:Tame P){main:Bool}{fr:Frame}{cs:List Frame}{dy:Option Dying}(hf:pG fr)(hc:∀ f∈cs,pG f)(w:World):Good (fun w=>unwind P main fr cs dy w) w:=by
 obtain⟨fn,tmps,todo,defers,mode,kind,ro⟩:=fr
 cases defers with
 | cons d ds =>
   obtain⟨t,args⟩:=d;by_cases ht:∃ b,t = .collected b
   · obtain ⟨b, rfl⟩ := ht; obtain ⟨r, es, hr, hms, hb, hn⟩ := aI (φ := fun _ => True) (wQ (P := P) b) w; rcases hn with ⟨h, w', hd, rfl⟩ | ⟨c, h1, h2, h3⟩
     · left
       simp only[unwind,hr];exact iC trivial
     · cases r with
       | ok a w' =>
         refine iB (w':=w') (c:=c) h1 h2 (by simp only[unwind,hr];rfl) (fun τ d ha=>by simp only[unwind,h3 τ d ha];rfl) ?_;exact fB (fun _=>oF hms hb.2) (qC ⟨hf,hc,(by simp[mE])⟩ iF)
       | halt h w'=>left;simp only[unwind,hr];exact iC trivial
   · have e : ∀ v, unwind P main ⟨fn, tmps, todo, ⟨t, args⟩ :: ds, mode, kind, ro⟩ cs dy v = callDeferred P ⟨fn, tmps, todo, ds, mode, kind, ro⟩ cs dy ⟨t, args⟩ v := by
       intro v
       cases t<;>first | rfl | exact absurd ⟨_,rfl⟩ ht
     simp only[e];exact wW T (fr:=⟨fn,tmps,todo,ds,mode,kind,ro⟩) (show pG ⟨fn,tmps,todo,ds,mode,kind,ro⟩ from hf) hc w
 | nil =>
   cases mode with
   | run=>exact .inl trivial
   | panicking chain =>
     simp only[unwind];refine yAA (.inl trivial) ?_
     cases cs with
     | cons c cs=>exact qC ⟨yI (hc c (by simp)) _,fun f hf=>hc f (List.mem_cons_of_mem _ hf),(by simp[mE])⟩ iF
     | nil =>
       cases dy with
       | none =>
         simp only;refine yAA (qC ⟨hf,by simp,(by simp[mE])⟩ iF) ?_;rcases tY (φ:=fun _=>True) (uAA (P:=P) chain false) w with⟨h,w',hd,hr⟩ | ⟨c,h1,h2,h3⟩
         · left
           simp only[hr]
           cases h with
           | stuck x=>trivial
           | unsupported u=>trivial
           | _=>cases hd
         · cases hr : (reportChain chain false).run P w with
           | ok a w' =>
             rw[hr]at h1 h2;refine iB (w':=w') (c:=c) h1 h2 (by simp only[hr];rfl) (fun τ d ha=>by simp only[h3 τ d ha,hr];rfl) ?_;exact qC ⟨hf,by simp,(by simp[mE])⟩ iF
           | halt h w' =>
             left
             simp only[hr]
             cases h<;>trivial
       | some dd =>
         simp only
         split
         · exact gP hf w
         · exact .inl trivial
   | returning =>
     simp only[unwind]
     cases hfn:P.funcs[fn]? with
     | none=>exact iO hf hc w
     | some fnn =>
       simp only;obtain⟨r,es,hr,hms,hb,hn⟩:=aI (φ:=fun _=>True) (nLA (P:=P) fnn tmps) w;rcases hn with⟨h,w',hd,rfl⟩ | ⟨c,h1,h2,h3⟩
       · left
         simp only[hr];refine iC ?_
         cases h<;>first | trivial | cases hd
       · cases r with
         | ok a w' =>
           refine iB (w':=w') (c:=c) h1 h2 (by simp only[hr];rfl) (fun τ d ha=>by simp only[h3 τ d ha];rfl) ?_;exact fB (fun _=>oF hms hb.2) (iO hf hc w')
         | halt h w' =>
           left
           simp only[hr];refine iC ?_
           cases h<;>trivial
variable {P : Program}
theorem fQA{α:Type}{φ:α→Prop}{s:Sem α}{w:World}{x:Result α×Array Event}(hx:s.runT P w #[]=x)(hs:Safe P φ 0 s) :
 (∀ e∈x.2,MS e)∧BalR φ 0 x.2 x.1∧(eX x.1∨∃ c,(wOf x.1).drawn=w.drawn+c∧(wOf x.1).tape=w.tape∧∀ τ d,Agree w.tape w.drawn τ d c→s.runT P (re w τ d) #[]=(reR x.1 τ (d+c),x.2)):=by
 obtain⟨r,es,hr,hms,hb,hn⟩:=aI hs w;rw[hx]at hr;subst hr;exact⟨hms,hb,hn⟩
theorem bMA{F:World→GStep}{w:World}(hs:done (F w)∨SOk (F w))(hw:done (F w)∨∃ c,∀ τ d,Agree w.tape w.drawn τ d c→F (re w τ d)=gre (F w) τ (d+c)):Good F w:=by
 rcases hw with h | ⟨c,h⟩
 · exact .inl h
 · exact tBA c hs h
section
variable {β : Type} {φ : β → Prop} {d : Nat}
theorem a1A{f:Unit→Sem β}(h:Safe P φ (d+1) (f ())):Safe P φ d (mark .disable >>= f):=h
theorem m1A{f:Unit→Sem β}(h:Safe P φ d (f ())):Safe P φ (d+1) (mark .enable >>= f):=⟨Nat.succ_pos d,h⟩
theorem gWA{f:Program→Sem β}(h:Safe P φ d (f P)):Safe P φ d (program >>= f):=h
theorem dQA{a:Addr}{v:Value}{m:Mode}{f:Unit→Sem β}(h:Safe P φ d (f ())):Safe P φ d (store a v m >>= f):=h
theorem lQA{f:Unit→Sem β}:Safe P φ d ((Sem.halt .blocked:Sem Unit) >>= f):=⟨trivial,.inr trivial⟩
theorem l1A{x:String}{f:Unit→Sem β}:Safe P φ d ((unsupported (.noEntry x):Sem Unit) >>= f):=⟨trivial,.inr trivial⟩
theorem b1A{c:Sys}{f:SysRet→Sem β}(h0:∃ x,f .wouldBlock = .halt (.unsupported (.noEntry x)))(h:∀ r,Safe P φ d (f r)):Safe P φ d (sys c >>= f) :=
 ⟨let⟨x,hx⟩:=h0;⟨.unsupported (.noEntry x),trivial,hx⟩,h⟩
theorem sXA{f:Bool→Sem β}(h:∀ b,Safe P φ d (f b)):Safe P φ d (Extern.PrintPieces.held >>= f):=by
 show ∀ v,Safe P φ d (Sem.bind _ f)
 intro v
 cases v<;>first | exact h _ | exact⟨trivial,.inr trivial⟩
end
theorem sGA{fr:Frame}{dd:Dying}{f:Fatal}(hf:pG fr)(w:World):Good (fun w=>writeOn P fr dd f w) w:=by
 cases hp:f.pieces with
 | nil=>left;simp only[writeOn,hp];trivial
 | cons piece rest =>
   refine bMA ?_ ?_
   · simp only [writeOn, hp]; generalize hx : Sem.runT P _ w #[] = x; have D := fQA (φ := fun _ => True) hx (by
       repeat' (first | (with_reducible exact Ok.pure) | (with_reducible exact zA) | (with_reducible exact lQA) | (with_reducible exact l1A) | (with_reducible refine a1A ?_) | (with_reducible refine sXA ?_) | (with_reducible refine gWA ?_) | (with_reducible refine dQA ?_) | (with_reducible refine m1A ?_) | (with_reducible refine b1A ?_ ?_) | exact⟨_,rfl⟩ | intro _ | split))
     obtain⟨hms,hb,_⟩:=D;obtain⟨r,es⟩:=x
     cases r with
     | ok a w'=>exact .inr ⟨⟨hf,by simp,(by simp[mE])⟩,hb.2⟩
     | halt h w'=>cases h<;>first | exact .inl trivial | exact .inr ⟨⟨hf,by simp,(by simp[mE])⟩,iF⟩
   · simp only [writeOn, hp]; generalize hx : Sem.runT P _ w #[] = x; have D := fQA (φ := fun _ => True) hx (by
       repeat' (first | (with_reducible exact Ok.pure) | (with_reducible exact zA) | (with_reducible exact lQA) | (with_reducible exact l1A) | (with_reducible refine a1A ?_) | (with_reducible refine sXA ?_) | (with_reducible refine gWA ?_) | (with_reducible refine dQA ?_) | (with_reducible refine m1A ?_) | (with_reducible refine b1A ?_ ?_) | exact⟨_,rfl⟩ | intro _ | split))
     obtain⟨_,_,hn⟩:=D;rcases hn with⟨h,w',hd,hr⟩ | ⟨c,h1,h2,h3⟩
     · left
       obtain⟨r,es⟩:=x;simp only at hr;subst hr
       cases h<;>first | trivial | cases hd
     · right
       refine⟨c,fun τ d ha=>?_⟩;rw[h3 τ d ha];obtain⟨r,es⟩:=x
       cases r with
       | ok a w'=>rfl
       | halt h w'=>cases h<;>rfl
theorem iHA(w:World)(fd:Nat)(t:ByteArray)(o:Outcome):done (endWith w fd t o):=by
 unfold endWith
 repeat' (first | trivial | split)
theorem uVA(T:Tame P){fr:Frame}{dd:Dying}(hf:pG fr)(w:World):Good (fun w=>die P fr dd w) w:=by
 cases hfat:dd.fatal with
 | some f=>simp only[die,hfat];exact sGA hf w
 | none =>
   cases ht:dd.todo with
   | nil =>
     simp only[die,hfat,ht]
     cases hp:printLockHeld P w with
     | true =>
       have hp':∀ τ d,printLockHeld P (re w τ d)=true:=fun _ _=>hp
       refine xU ?_ fun τ d=>?_
       · simp only[hp,if_true];exact .inr ⟨⟨hf,by simp,(by simp[mE])⟩,iF⟩
       · simp only[hp,hp',if_true];rfl
     | false =>
       left
       simp only[hp,Bool.false_eq_true,if_false];exact iHA _ _ _ _
   | cons x rest =>
     obtain⟨v,mk⟩:=x;simp only[die,hfat,ht]
     cases hpt:panicText P false v with
     | text s=>exact qC ⟨hf,by simp,(by simp[mE])⟩ iF
     | no u=>exact .inl trivial
     | address s =>
       simp only;rcases tY (φ:=fun _=>True) (rAA (P:=P) s) w with⟨h,w',hd,hr⟩ | ⟨c,h1,h2,h3⟩
       · left;simp only[hr];trivial
       · cases hr : (withAddress s).run P w with
         | ok a w' =>
           rw[hr]at h1 h2;refine iB (w':=w') (c:=c) h1 h2 (by simp only[hr];rfl) (fun τ d ha=>by simp only[h3 τ d ha,hr];rfl) ?_;exact qC ⟨hf,by simp,(by simp[mE])⟩ iF
         | halt h w'=>left;simp only[hr];trivial
     | call t recv name =>
       simp only;obtain⟨r,es,hr,hms,hb,hn⟩:=aI (zS T (.fn (.method name) #[]) #[.iface t recv]) w;rcases hn with⟨h,w',hd,rfl⟩ | ⟨c,h1,h2,h3⟩
       · left
         simp only[hr];refine iC ?_
         cases h<;>first | trivial | cases hd
       · cases r with
         | ok a w' =>
           cases a with
           | enter f args =>
             refine iB (w':=w') (c:=c) h1 h2 (by simp only[hr];rfl) (fun τ d ha=>by simp only[h3 τ d ha];rfl) ?_;exact fB (fun _=>oF hms hb.2) (qC ⟨cK _ _ _ _,by simp,(by simp[mE])⟩ iF)
           | value v =>
             cases v with
             | string s =>
               refine iB (w':=w') (c:=c) h1 h2 (by simp only[hr];rfl) (fun τ d ha=>by simp only[h3 τ d ha];rfl) ?_;exact fB (fun _=>oF hms hb.2) (qC ⟨hf,by simp,(by simp[mE])⟩ iF)
             | _=>left;simp only[hr];exact iC trivial
           | _=>left;simp only[hr];exact iC trivial
         | halt h w' =>
           cases h with
           | panic v =>
             refine iB (w':=w') (c:=c) h1 h2 (by simp only[hr];rfl) (fun τ d ha=>by simp only[h3 τ d ha];rfl) ?_;exact fB (fun _=>oF hms (hb.2.resolve_left id)) (gP hf w')
           | _=>left;simp only[hr];exact iC trivial
variable {P : Program}
theorem kPA:∀(k:List Item) (id:Nat) {k':List Item},exitTo id k=some k'→∀ i∈k',i∈k:=by
 intro k
 induction k with
 | nil=>intro id k' h;cases h
 | cons a k ih =>
   intro id k' h i hi;unfold exitTo at h
   split at h
   · rename_i heq
     cases heq
     split at h
     · cases h;exact List.mem_cons_of_mem _ hi
     · exact List.mem_cons_of_mem _ (ih _ h i hi)
   · rename_i heq
     cases heq;exact List.mem_cons_of_mem _ (ih _ h i hi)
   · rename_i heq;cases heq
theorem aUA:∀(k:List Item) (l:Nat) {k':List Item},(∀ i∈k,uM i)→gotoIn l k=some k'→∀ i∈k',uM i:=by
 intro k
 induction k with
 | nil=>intro l k' _ h;cases h
 | cons a k ih =>
   intro l k' hk h i hi;have hk2:=fun j hj=>hk j (List.mem_cons_of_mem a hj)
   unfold gotoIn at h
   split at h
   · rename_i body k0 heq
     cases heq
     split at h
     · cases h; rcases List.mem_cons.1 hi with rfl | hi
       · trivial
       · rcases List.mem_cons.1 hi with rfl | hi
         · trivial
         · exact hk2 i hi
     · exact ih _ hk2 h i hi
   · rename_i heq;cases heq;exact ih _ hk2 h i hi
   · rename_i heq;cases heq
theorem rP {main : Bool} {fr : Frame} {cs : List Frame} {dy : Option Dying} (jump : Option Code) (hf : pG fr) (hc : ∀ f ∈ cs, pG f) (F : World → GStep)
    (h0:fr.roundOf=none→(∀ v,F v = .go { frame:={ fr with mode:=.returning },callers:=cs,status:=.running,dying:=dy } v)∨(∀ v,done (F v)))
    (h1 : ∀ l, fr.roundOf = some l → ∀ v, F v = GStep.after (seen P fr.fn ((Instr.endRound l jump).runT P v #[]).2) (match ((Instr.endRound l jump).runT P v #[]).1 with
      | .ok x w=>doReturn P main fr cs dy x w
      | .halt _ w => .ended (.stuck "range over a function: no such loop" (fr.pos P)) w)) (w : World) : Good F w := by
  cases hr:fr.roundOf with
  | none =>
    rcases h0 hr with h | h
    · rw[show F=fun v=>_ from funext h];exact qC ⟨hf,hc,(by simp[mE])⟩ iF
    · exact .inl (h w)
  | some l =>
    have e:=h1 l hr;obtain⟨r,es,hrun,hms,hb,hn⟩:=aI (φ:=fun _=>True) (jX (P:=P) l jump) w;rcases hn with⟨h,w',hd,rfl⟩ | ⟨c,g1,g2,g3⟩
    · left;rw[e,hrun];exact iC trivial
    · cases r with
      | ok a w' =>
        refine iB (w':=w') (c:=c) g1 g2 (by rw[e,hrun]) (fun τ d ha=>by rw[e,g3 τ d ha];rfl) ?_;exact fB (fun _=>oF hms hb.2) (iO hf hc w')
      | halt h w'=>left;rw[e,hrun];exact iC trivial
theorem qRA(T:Tame P){fr:Frame}{cs:List Frame}{dy:Option Dying}(hf:pG fr)(hc:∀ f∈cs,pG f)(w:World):Good (fun w=>stepG.oper P true fr cs dy w) w:=by
 unfold stepG.oper
 split
 · exact .inl trivial
 · split
   · exact aN hf hc (Ok.bind (yM _ _ _) fun _=>Ok.bind (vQ _ _) fun _=>(OkN.pure (P:=P) (x:=.skip) trivial)) w
   · exact aN hf hc (aRA T _ _) w
theorem bRA(T:Tame P){main:Bool}{fr:Frame}{cs:List Frame}{dy:Option Dying}(hf:pG fr)(hc:∀ f∈cs,pG f)(w:World):Good (fun w=>stepG.exec P main true fr cs dy w) w:=by
 obtain⟨fn,tmps,todo,defers,mode,kind,ro⟩:=fr;have to:∀ l:List Item,(∀ i∈l,uM i)→Good (fun v=>GStep.go { frame:=⟨fn,tmps,l,defers,mode,kind,ro⟩,callers:=cs,status:=.running,dying:=dy } v) w :=
  fun l hl=>qC (g:={ frame:=⟨fn,tmps,l,defers,mode,kind,ro⟩,callers:=cs,status:=.running,dying:=dy }) ⟨hl,hc,(by simp[mE])⟩ iF
 cases todo with
 | nil =>
   refine rP (P:=P) (dy:=dy) (main:=main) (fr:=⟨fn,tmps,[],defers,mode,kind,ro⟩) none hf hc _ (fun h=>.inl fun v=>?_) (fun l h v=>?_) w
   · cases h;rfl
   · cases h;rfl
 | cons i k =>
   have hk:∀ j∈k,uM j:=fun j hj=>hf j (List.mem_cons_of_mem _ hj)
   have c1:∀ a:Item,uM a→∀ j∈a::k,uM j:=fun a ha j hj=>by
    rcases List.mem_cons.1 hj with rfl | hj
    · exact ha
    · exact hk j hj
   have c2:∀ a b:Item,uM a→uM b→∀ j∈a::b::k,uM j:=fun a b ha hb j hj=>by
    rcases List.mem_cons.1 hj with rfl | hj
    · exact ha
    · exact c1 b hb j hj
   cases i with
   | code c =>
     cases c with
     | skip=>exact to _ hk
     | label l=>exact to _ hk
     | seq a b=>exact to _ (c2 _ _ trivial trivial)
     | cond c a b =>
       simp only[stepG.exec]
       split
       · exact to _ (c1 _ trivial)
       · exact .inl trivial
     | block id b=>exact to _ (c2 _ _ trivial trivial)
     | loop b=>exact to _ (c2 _ _ trivial trivial)
     | scope b=>exact to _ (c2 _ _ trivial trivial)
     | refuse x=>exact .inl trivial
     | ret =>
       refine rP (P:=P) (dy:=dy) (main:=main) (fr:=⟨fn,tmps,.code .ret::k,defers,mode,kind,ro⟩) (some .ret) hf hc _ (fun h=>.inl fun v=>?_) (fun l h v=>?_) w
       · cases h;rfl
       · cases h;rfl
     | exit id =>
       simp only[stepG.exec]
       cases he:exitTo id k with
       | some k'=>exact to _ fun i hi=>hk i (kPA _ _ he i hi)
       | none =>
         refine rP (P:=P) (dy:=dy) (main:=main) (fr:=⟨fn,tmps,.code (.exit id)::k,defers,mode,kind,ro⟩) (some (.exit id)) hf hc _ (fun h=>.inr fun v=>?_) (fun l h v=>?_) w
         · cases h;trivial
         · cases h;rfl
     | goto l =>
       simp only[stepG.exec]
       cases he:gotoIn l k with
       | some k'=>exact to _ (aUA _ _ hk he)
       | none =>
         refine rP (P:=P) (dy:=dy) (main:=main) (fr:=⟨fn,tmps,.code (.goto l)::k,defers,mode,kind,ro⟩) (some (.goto l)) hf hc _ (fun h=>.inr fun v=>?_) (fun l h v=>?_) w
         · cases h;trivial
         · cases h;rfl
     | region id ops draw =>
       cases draw with
       | false=>exact to _ (c1 _ trivial)
       | true =>
         have r1:=rU (P:=P) (q:=.order fn id) rfl w;refine tBA 1 ?_ fun τ d ha=>?_
         · simp only[stepG.exec,Bool.not_true,Bool.false_eq_true,if_false,r1];exact .inr ⟨⟨c1 _ trivial,hc,(by simp[mE])⟩,iF⟩
         · have r2:=eU (P:=P) (q:=.order fn id) rfl (w:=w) (τ:=τ) (d:=d) (c:=0) (by simpa using ha);simp only[stepG.exec,Bool.not_true,Bool.false_eq_true,if_false,r1,r2];rfl
     | rangeFunc f ps a b =>
       obtain⟨r,es,hr,hms,hb,hn⟩:=aI (φ:=fun _=>True) (uU (P:=P) fn tmps ps a b ro) w;rcases hn with⟨h,w',hd,rfl⟩ | ⟨c,h1,h2,h3⟩
       · left;simp only[stepG.exec,hr];exact iC trivial
       · cases r with
         | ok x w' =>
           obtain⟨l,mk⟩:=x;refine iB (w':=w') (c:=c) h1 h2 (by simp only[stepG.exec,hr];rfl) (fun τ d ha=>by simp only[stepG.exec,h3 τ d ha];rfl) ?_;refine fB (fun _=>oF hms hb.2) (aN ?_ hc (Ok.bind (yM _ _ _) fun _=>zS T _ _) w');exact c1 _ trivial
         | halt h w'=>left;simp only[stepG.exec,hr];exact iC trivial
   | inBlock id=>exact to _ hk
   | inScope b=>exact to _ hk
   | inLoop b=>exact to _ (c2 _ _ trivial trivial)
   | inRegion ops l =>
     cases l with
     | nil=>exact to _ hk
     | cons j l =>
       simp only[stepG.exec]
       split
       · exact qRA T hf hc w
       · exact qC ⟨aG hf _,hc,(by simp[mE])⟩ iF
   | inRangeFunc l=>exact .inl trivial
   | endRangeFunc l =>
     obtain⟨r,es,hr,hms,hb,hn⟩:=aI (φ:=fun _=>True) (vX (P:=P) l) w;rcases hn with⟨h,w',hd,rfl⟩ | ⟨c,h1,h2,h3⟩
     · left
       simp only[stepG.exec,hr];refine iC ?_
       cases h<;>first | trivial | cases hd
     · cases r with
       | ok x w' =>
         refine iB (w':=w') (c:=c) h1 h2 (by simp only[stepG.exec,hr];rfl) (fun τ d ha=>by simp only[stepG.exec,h3 τ d ha];rfl) ?_;refine fB (fun _=>oF hms hb.2) (qC ⟨?_,hc,(by simp[mE])⟩ iF);intro i hi;rcases List.mem_append.1 hi with hi | hi
         · cases x with
           | none=>cases hi
           | some y =>
             simp at hi;subst hi;trivial
         · exact hk i hi
       | halt h w' =>
         cases h with
         | panic v =>
           refine iB (w':=w') (c:=c) h1 h2 (by simp only[stepG.exec,hr];rfl) (fun τ d ha=>by simp only[stepG.exec,h3 τ d ha];rfl) ?_;exact fB (fun _=>oF hms (hb.2.resolve_left id)) (qC ⟨yI hf _,hc,(by simp[mE])⟩ iF)
         | _=>left;simp only[stepG.exec,hr];exact iC trivial
   | beginRound =>
     refine aN hf hc ?_ w
     cases ro with
     | none=>exact Ok.bind nA fun _=>OkN.pure (P:=P) (x:=.skip) trivial
     | some l=>exact Ok.bind (rT l) fun _=>OkN.pure (P:=P) (x:=.skip) trivial
   | call d b r s=>exact absurd (hf (.call d b r s) List.mem_cons_self) id
   | extern r a =>
     obtain rfl : r = "runtime.print$piece" := hf (.extern r a) List.mem_cons_self; have e : Extern.next "runtime.print$piece" = some (Extern.PrintPieces.piece #[] #[]) := by kernel_rfl
     have e2 : ∀ v, stepG.exec P main true ⟨fn, tmps, .extern "runtime.print$piece" a :: k, defers, mode, kind, ro⟩ cs dy v = stepG.apply P true ⟨fn, tmps, .extern "runtime.print$piece" a :: k, defers, mode, kind, ro⟩ cs dy (Extern.PrintPieces.piece #[] #[] a) v := by
      intro v;simp only[stepG.exec,e];rfl
     rw [show (fun w => stepG.exec P main true ⟨fn, tmps, .extern "runtime.print$piece" a :: k, defers, mode, kind, ro⟩ cs dy w) = _ from funext e2]; exact aN hf hc (yHA _ _ _) w
theorem bCA(T:Tame P){main:Bool}{g:Goroutine}(hg:GOk g)(w:World):Good (fun w=>stepG P main g w) w:=by
 obtain⟨fr,cs,st,dy,off⟩:=g;obtain⟨hf,hc⟩:=hg;have hf:pG fr:=hf;have hc:∀ f∈cs,pG f:=hc;have hrest:Good (fun w=>match fr.mode with | .run=>stepG.exec P main true fr cs dy w | _=>unwind P main fr cs dy w) w:=by
  cases fr.mode with
  | run=>exact bRA T hf hc w
  | returning=>exact j4 T hf hc w
  | panicking c=>exact j4 T hf hc w
 cases dy with
 | none =>
   refine cast ?_ hrest;congr 1
   funext v
   simp only[stepG]
   cases fr.mode<;>rfl
 | some d =>
   obtain⟨todo,texts,calling,pending,re0,hand,fatal⟩:=d
   cases calling with
   | false=>exact uVA T hf w
   | true =>
     refine cast ?_ hrest;congr 1
     funext v
     simp only[stepG]
     cases fr.mode<;>rfl
end Go.Lx
namespace Go.Lx
open Go.Conc
variable {P : Program}
def mYA(i:Nat)(op:MemOp):Prop:=op.g=i∧op.act.touch? = none∧op.act≠.mark .disable∧op.act≠.mark .enable
theorem sZA{gs gs2:Array Goroutine}(h1:∀ r b,partners gs r b=[])(h2:∀ r b,partners gs2 r b=[])(w:World)(c:CommCase):ways w gs c=ways w gs2 c:=by
 unfold ways;simp only[h1,h2]
theorem xMA{gs:Array Goroutine}(h1:∀ r b,partners gs r b=[])(w:World)(c:CommCase):∀ x∈ways w gs c,x = .buffer∨x = .closed∨x = .sendClosed:=by
 unfold ways;simp only[h1];intro x hx
 repeat' (first | (simp at hx;done) | (simp at hx;subst hx;simp;done) | split at hx)
structure CommTo (P:Program) (rest rest2:Rest) (gs gs2:Array Goroutine) (i:Nat) (g:Goroutine) (cases:Array CommCase) (bl:Bool) (sh:CommShape) (w:World) (m:Machine) (ops:Array MemOp) (g':Goroutine) (w':World):Prop where
 here:m={ world:=w',gs:=gs.setIfInBounds i g',rest }
 there:communicate P rest2 gs2 i g cases bl sh w=(.next { world:=w',gs:=gs2.setIfInBounds i g',rest:=rest2 },ops)
 ok:GOk g→GOk g'
 mem:∀ op∈ops,mYA i op
 win:∃ c,w'.drawn=w.drawn+c∧w'.tape=w.tape∧∀ τ d,Agree w.tape w.drawn τ d c→communicate P rest gs i g cases bl sh (re w τ d)=(.next { world:=re w' τ (d+c),gs:=gs.setIfInBounds i g',rest },ops)
theorem kS{rest:Rest}(ht:rest.timers=#[])(cases:Array CommCase)(w:World):waitingAt rest cases w=some w:=by
 unfold waitingAt timerAhead;rw[if_neg];simp[ht];intro c _
 split<;>simp
theorem kWA{α:Type}{φ:α→Prop}{s:Sem α}{w:World}{x:Result α}(hx:s.run P w=x)(hs:Safe P φ 0 s) :
 (∀ a v,x = .ok a v→φ a)∧(eX x∨∃ c,(wOf x).drawn=w.drawn+c∧(wOf x).tape=w.tape∧∀ τ d,Agree w.tape w.drawn τ d c→s.run P (re w τ d)=reR x τ (d+c)):=by
 subst hx;refine⟨fun a v e=>?_,tY hs w⟩;obtain⟨r,es,hr,_,hb,_⟩:=aI hs w;have e':s.run P w=r:=by rw[← Sem.runT_fst P s w #[],hr]
 rw[e',]at e;subst e;exact hb.1
def tV(x:Way):Prop:=x = .buffer∨x = .closed∨x = .sendClosed
theorem jOA{l:List Way}(h:∀ x∈l,tV x)(b:Nat):tV (l.getD b .closed):=by
 rw[List.getD_eq_getElem?_getD]
 cases hx:l[b]? with
 | none=>exact .inr (.inl rfl)
 | some x=>exact h x (List.mem_of_getElem? hx)
theorem pXA{α:Type}{l:List α}(a:Nat){d:α}:l.getD a d∈l∨l.getD a d=d:=by
 rw[List.getD_eq_getElem?_getD]
 cases hx:l[a]? with
 | none=>exact .inr rfl
 | some x=>exact .inl (List.mem_of_getElem? hx)
theorem yFA {rest : Rest} {gs : Array Goroutine} {i : Nat} {g : Goroutine} {cases : Array CommCase} {bl : Bool} {sh : CommShape} {w : World} {m : Machine} {ops : Array MemOp}
    (ht:rest.timers=#[]) (h1:∀ r b,partners gs r b=[]) (h:communicate P rest gs i g cases bl sh w=(.next m,ops)) :
    ∃ g' w',m={ world:=w',gs:=gs.setIfInBounds i g',rest }∧(GOk g→GOk g')∧(∀ op∈ops,mYA i op) ∧
     ∃ c,w'.drawn=w.drawn+c∧w'.tape=w.tape∧∀(rest2:Rest) (gs2:Array Goroutine) τ d,rest2.timers=#[]→(∀ r b,partners gs2 r b=[])→Agree w.tape w.drawn τ d c →
      communicate P rest2 gs2 i g cases bl sh (re w τ d)=(.next { world:=re w' τ (d+c),gs:=gs2.setIfInBounds i g',rest:=rest2 },ops):=by
  have hw:∀ gs2:Array Goroutine,(∀ r b,partners gs2 r b=[])→∀ τ d,ways (re w τ d) gs2=ways w gs:=fun gs2 h2 τ d=>funext fun c=>sZA h2 h1 w c
  have hfin:∀ cs sh k v ok,GOk g→GOk (g.finishComm P cs sh k v ok):=fun cs sh k v ok hg=>⟨aG hg.top _,hg.below,(by simp[mE,Goroutine.finishComm])⟩
  have hhp:∀ τ d,(re w τ d).heap=w.heap:=fun _ _=>rfl
  have hL:∀ e∈(cases.zipIdx.toList.map fun x=>(x.2,x.1,ways w gs x.1)).filter (fun x => !x.2.2.isEmpty),∀ x∈e.2.2,tV x:=by
   intro e he x hx;obtain⟨y,_,rfl⟩:=List.mem_map.1 (List.mem_filter.1 he).1;exact xMA h1 w _ x hx
  unfold communicate at h;dsimp only at h
  split at h
  · cases h
  · rename_i hill
    split at h
    · rename_i hemp
      cases bl with
      | true =>
        simp only[if_true,kS ht]at h
        cases h;refine⟨{ g with status:=.blocked,offers:=some (cases,sh) },w,rfl,fun hg=>⟨hg.top,hg.below,(by simp[mE])⟩,by simp,0,rfl,rfl,fun rest2 gs2 τ d ht2 h2 _=>?_⟩;unfold communicate;dsimp only;simp only[hhp,hw gs2 h2];rw[if_neg hill,if_pos hemp];simp only[if_true,kS ht2];rfl
      | false =>
        simp only[Bool.false_eq_true,if_false]at h
        cases h;refine⟨_,w,rfl,hfin _ _ _ _ _,by simp,0,rfl,rfl,fun rest2 gs2 τ d ht2 h2 _=>?_⟩;unfold communicate;dsimp only;simp only[hhp,hw gs2 h2];rw[if_neg hill,if_pos hemp];simp only[Bool.false_eq_true,if_false];rfl
    · rename_i hemp; generalize hx : Sem.run P _ w = x at h; have D := kWA (P := P) (φ := fun y : Nat × CommCase × Way => tV y.2.2) hx (by
        refine Ok.bind nE fun a=>?_
        refine Ok.bind nE fun b=>?_
        refine⟨rfl,?_⟩;refine jOA ?_ _;intro x hx;rcases pXA a with he | he
        · exact hL _ he x hx
        · rw[he]at hx;cases hx)
      obtain⟨hpl,hn⟩:=D;rcases hn with⟨hh,w',hd,rfl⟩ | ⟨c,q1,q2,q3⟩
      · cases h
      · cases x with
        | halt hh w1=>cases h
        | ok y w1 =>
          obtain⟨k,c0,wy⟩:=y;have hp:=hpl _ _ rfl;have r1:w1.drawn=w.drawn+c:=q1;have r2:w1.tape=w.tape:=q2;have hh1:∀ τ d,(re w1 τ d).heap=w1.heap:=fun _ _=>rfl
          simp only at hp;rcases hp with rfl | rfl | rfl
          · -- a buffer
            simp only[h1]at h
            split at h
            · rename_i hw0;cases hw0
            · rename_i hw0;cases hw0
            · rename_i cap buf cl sent rcvd tm v heq hsend hw0
              cases h;refine⟨_,_,rfl,hfin _ _ _ _ _,?_,c,r1,r2,fun rest2 gs2 τ d ht2 h2 ha=>?_⟩
              · intro op hop;simp at hop;rcases hop with rfl | rfl<;>exact⟨rfl,rfl,by simp,by simp⟩
              · unfold communicate;dsimp only;simp only[hhp,hw gs2 h2];rw[if_neg hill,if_neg hemp,q3 τ d ha];simp only[reR,hh1,heq,hw0];rfl
            · rename_i cap buf cl sent rcvd tm heq hsend hw0
              cases h;refine⟨_,_,rfl,hfin _ _ _ _ _,?_,c,r1,r2,fun rest2 gs2 τ d ht2 h2 ha=>?_⟩
              · intro op hop;simp at hop;rcases hop with rfl | rfl<;>exact⟨rfl,rfl,by simp,by simp⟩
              · unfold communicate;dsimp only;simp only[hhp,hw gs2 h2];rw[if_neg hill,if_neg hemp,q3 τ d ha];simp only[reR,hh1,heq,hw0,h2];rfl
            · rename_i hw0 _;cases hw0
            · rename_i hw0 _;cases hw0
            · cases h
          · simp only at h
            cases h;refine⟨_,w1,rfl,hfin _ _ _ _ _,?_,c,r1,r2,fun rest2 gs2 τ d ht2 h2 ha=>?_⟩
            · intro op hop;simp at hop;subst hop;exact⟨rfl,rfl,by simp,by simp⟩
            · unfold communicate;dsimp only;simp only[hhp,hw gs2 h2];rw[if_neg hill,if_neg hemp,q3 τ d ha];simp only[reR]
          · simp only at h; have hpanic : ∀ (v : World), ∃ x, (runtimePanic (.plain "send on closed channel") : Sem Unit).run P v = .halt (.panic x) v ∧ ∀ v', (runtimePanic (.plain "send on closed channel") : Sem Unit).run P v' = .halt (.panic x) v' := fun v => ⟨_, rfl, fun _ => rfl⟩
            obtain⟨x,e1,e2⟩:=hpanic w1;rw[e1]at h;simp only at h
            cases h;refine⟨_,w1,rfl,fun hg=>⟨yI hg.top _,hg.below,hg.st⟩,by simp,c,r1,r2,fun rest2 gs2 τ d ht2 h2 ha=>?_⟩;unfold communicate;dsimp only;simp only[hhp,hw gs2 h2];rw[if_neg hill,if_neg hemp,q3 τ d ha];simp only[reR];rw[e2]
end Go.Lx
