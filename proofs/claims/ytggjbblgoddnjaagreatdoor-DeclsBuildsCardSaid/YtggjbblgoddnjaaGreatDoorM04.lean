/- Part 4 of what the proof rests on. -/
import Derived.Conc.Own
import Derived.Test.YtggjbblgoddnjaaGreatDoorM03
set_option linter.unusedSimpArgs false
set_option linter.unusedVariables false
namespace Go.Lx
def kHA : Next → Prop
  | .value _ | .skip | .enter _ _ | .round _ _ _ _ _ | .defer _ | .recover | .spawn _ | .comm _ _ _ | .coroswitch _ true=>True
  | .row r _ => r = "runtime.print$piece"
  | _=>False
abbrev OkN(P:Program)(s:Sem Next):Prop:=Safe P kHA 0 s
theorem OkN.pure{P:Program}{x:Next}(h:kHA x):OkN P (Pure.pure x):=⟨rfl,h⟩
theorem OkN.value{P:Program}{s:Sem Value}(h:Ok P s):OkN P (do Pure.pure (.value (← s))):=Ok.bind h fun _=>⟨rfl,trivial⟩
theorem OkN.unit{P:Program}{s:Sem Unit}(h:Ok P s):OkN P (do s;Pure.pure .skip):=Ok.bind h fun _=>⟨rfl,trivial⟩
structure Tame (P:Program):Prop where
 name : ∀ (f : FuncId) (fn : Func), P.funcs[f]? = some fn → (fn.name == "runtime.NumGoroutine") = false
 next:∀(f:FuncId) (fn:Func) e,P.funcs[f]? = some fn→fn.body.isNone=true→Extern.findNext fn=some e→∀ args,OkN P (e args)
 value:∀(f:FuncId) (fn:Func) e,P.funcs[f]? = some fn→fn.body.isNone=true→Extern.findNext fn=none→Extern.find fn=some e→∀ args,Ok P (e args)
variable {P : Program}
theorem jR(T:Tame P)(f:FuncId)(args:Array Value):OkN P (callFunc f args):=by
 unfold callFunc;refine Safe.bind (ψ:=fun p=>p=P) (s:=program) ⟨rfl,rfl⟩ fun p hp=>?_
 subst hp
 split
 · exact nA
 · rename_i fn hfn; rw [if_neg (by rw [T.name f fn hfn]; simp)]
   split
   · rename_i hb; refine Ok.bind (s := mark (.extern f)) ⟨rfl, trivial⟩ fun _ => ?_
     split
     · rename_i e he;exact T.next f fn e hfn hb he args
     · rename_i he; have he' : Extern.findNext fn = none := by
        cases h:Extern.findNext fn with
        | none=>rfl
        | some e=>exact absurd h (he e)
       split
       · rename_i e hv;exact OkN.value (T.value f fn e hfn hb he' hv args)
       · split
         · exact⟨rfl,trivial⟩
         · exact zA
   · exact⟨rfl,trivial⟩
theorem fU(T:Tame P)(v:Value)(n:String)(args:Array Value):OkN P (callMethod v n args):=by
 unfold callMethod
 split
 · exact Ok.bind mD fun _=>Ok.bind (xTA _ _ _ _) fun x=>jR T _ _
 · exact dB _
 · exact nA
theorem yHA(a b:Array TypeId)(args:Array Value):OkN P (Extern.PrintPieces.piece a b args):=by
 unfold Extern.PrintPieces.piece
 split
 · rename_i fst _
   split
   · rename_i p _; by_cases hp : p.size > 65536
     · simp only[if_pos hp];exact⟨trivial,.inl rfl⟩
     · simp only [if_neg hp]
       cases hl:(args.size==2)<;>cases fst<;>simp only[Bool.not_true,Bool.not_false,Bool.false_eq_true,if_true,if_false]
       · exact Ok.bind bQ fun _=>⟨rfl,rfl⟩
       · refine fun v => ?_
         cases v with
         | bool b =>
           cases b with
           | false=>exact⟨Nat.one_pos,(show Safe P kHA 0 (writeFd 2 p >>= fun _=>_) from Ok.bind bQ fun _=>⟨rfl,rfl⟩)⟩
           | true=>exact⟨trivial,.inr trivial⟩
         | _=>exact⟨trivial,.inr trivial⟩
       · exact Ok.bind bQ fun _=>⟨Nat.one_pos,rfl,trivial⟩
       · refine fun v => ?_
         cases v with
         | bool b =>
           cases b with
           | false=>exact⟨Nat.one_pos,(show Safe P kHA 0 (writeFd 2 p >>= fun _=>_) from Ok.bind bQ fun _=>⟨rfl,trivial⟩)⟩
           | true=>exact⟨trivial,.inr trivial⟩
         | _=>exact⟨trivial,.inr trivial⟩
   · exact nA
 · exact nA
theorem gBA(a1:Bool)(a2:Array Bool)(a3:Array TypeId)(a4:Array Value):OkN P (Builtin.printMarked a1 a2 a3 a4):=by
 unfold Builtin.printMarked;refine Ok.bind (rW _ _ _ _) fun ps=>?_
 split
 · exact⟨rfl,trivial⟩
 · exact yHA _ _ _
theorem qMA(b:Builtin)(a2:Array TypeId)(a3:TypeId)(a4:Array Bool)(a5:Array Value):OkN P (builtin b a2 a3 a4 a5):=by
 cases b <;> first
   | exact OkN.value (lU _ _ _)
   | exact OkN.value (o9 _ _ _)
   | exact OkN.value (kW _ _ _)
   | exact OkN.value (xV _ _ _)
   | exact OkN.value (lT _ _ _)
   | exact OkN.value (mY _ _ _)
   | exact OkN.value (vU _ _ _)
   | exact OkN.value (tX _ _ _)
   | exact OkN.value (y8 _ _ _)
   | exact OkN.value (j6 _ _ _)
   | exact OkN.value (z8 _ _ _)
   | exact OkN.value (mR _)
   | exact OkN.value (qY _ _ _)
   | exact OkN.value (wF _ _ _)
   | exact OkN.value (iP _ _ _)
   | exact OkN.value (nL _ _ _)
   | exact OkN.value (jO _ _ _)
   | exact OkN.value (dL _ _ _)
   | exact gBA _ _ _ _
   | exact⟨rfl,trivial⟩
   | exact nA
   | exact zA
   | exact Ok.bind (dD _) fun _=>⟨rfl,trivial⟩
theorem mVA(l:Nat)(args:Array Value):OkN P (Instr.yield l args):=by
 unfold Instr.yield
 repeat' (first | (with_reducible apply fK) | (with_reducible apply nA) | (with_reducible apply fI) | (with_reducible apply dB) | (with_reducible apply Ok.bind) | exact OkN.pure trivial | intro _ | split | dsimp only)
theorem zS(T:Tame P)(t:Target)(args:Array Value):OkN P (invoke t args):=by
 unfold invoke
 split
 · exact dB _
 · exact qMA _ _ _ _ _
 · exact jR T _ _
 · split
   · exact fU T _ _ _
   · exact nA
 · split
   · exact Ok.bind (uB _) fun _=>fU T _ _ _
   · exact nA
 · split
   · exact Ok.bind (eAA _ _ _ _) fun _=>jR T _ _
   · exact nA
 · exact mVA _ _
 · exact nA
 · exact⟨rfl,trivial⟩
theorem yM(ρ:Operand→Value)(c:Call)(t:TypeId):Ok P (resolve ρ c t):=by
 unfold resolve;dsimp only
 split
 · exact Ok.pure
 · exact Ok.pure
 · exact fT _ _
theorem aRA(T:Tame P)(ρ:Operand→Value)(o:Oper):OkN P (execOp ρ o):=by
 unfold execOp;dsimp only
 split
 · exact⟨rfl,trivial⟩
 · exact⟨rfl,trivial⟩
 · exact Ok.bind (lY _) fun _=>⟨rfl,trivial⟩
 · exact OkN.value (qBA _ _ _)
 · exact OkN.value (sHA _ _)
 · exact OkN.value (nBA _ _)
 · exact OkN.value (nT _ _ _)
 · exact OkN.value (o6 _ _)
 · exact OkN.unit (zX _ _ _)
 · exact OkN.unit (mDA _)
 · exact OkN.value (dBA _)
 · split
   · exact dB _
   · exact dB _
   · exact dB _
   · split
     · exact dB _
     · refine Ok.bind mD fun _ => Ok.bind (uIA _ _ _ _) fun r => ?_
       split
       · exact Ok.bind zA fun _=>⟨rfl,trivial⟩
       · exact⟨rfl,trivial⟩
     · exact⟨rfl,trivial⟩
   · exact⟨rfl,trivial⟩
 · exact OkN.value (Ok.bind (bNA _ _ _ _ _ _) fun _=>qUA _ _ _ _)
 · exact OkN.value (lKA _ _)
 · exact OkN.value (tLA _ _ _)
 · exact OkN.value (cZ _ _)
 · exact OkN.value (pQ _ _)
 · exact OkN.value (qW _ _ _)
 · exact OkN.value (uY _ _)
 · exact OkN.value (wV _ _)
 · exact OkN.value (nU _ _ _)
 · exact OkN.value (yY _ _ _ _ _)
 · exact OkN.value (fZ _ _ _)
 · exact OkN.value (kCA _ _ _)
 · exact OkN.value (bZ _ _ _)
 · exact OkN.value (eBA _ _ _)
 · exact OkN.value (q8 _ _ _ _)
 · exact OkN.unit (bM _ _ _ _)
 · exact OkN.unit (bM _ _ _ _)
 · exact OkN.value (sW _ _ _)
 · exact OkN.unit (iT _ _ _ _)
 · exact OkN.value (mAA _ _)
 · exact OkN.value (lEA _ _ _)
 · exact OkN.value (tAA _)
 · exact OkN.value (tT _ _ _ _)
 · exact OkN.value (rX _ _)
 · exact Ok.bind (yM _ _ _) fun _=>zS T _ _
 · exact Ok.bind (yM _ _ _) fun _=>⟨rfl,trivial⟩
 · exact Ok.bind (yM _ _ _) fun _=>⟨rfl,trivial⟩
 · exact OkN.value (mR _)
 · exact⟨rfl,trivial⟩
 · refine Ok.bind (uB _) fun _ => ?_
   split
   · exact Ok.bind (wE _) fun _=>⟨rfl,trivial⟩
   · exact nA
 · exact Ok.bind (kG fun _=>Ok.bind (wE _) fun _=>Ok.pure) fun _=>⟨rfl,trivial⟩
def MS(e:Event):Prop:=∀ m,e.loc = .mark m→e.sync=true
theorem sS{es:Array Event}{e:Event}(h:∀ x∈es,MS x)(he:MS e):∀ x∈es.push e,MS x:=by
 intro x hx;rcases Array.mem_push.1 hx with hx | rfl
 · exact h x hx
 · exact he
theorem uUA{es u:Array Event}(h:∀ x∈es,MS x)(he:∀ x∈u,MS x):∀ x∈es++u,MS x:=fun x hx=>(Array.mem_append.1 hx).elim (h x) (he x)
theorem k0A{P:Program}{α:Type}(s:Sem α):∀(w:World) (es:Array Event),(∀ x∈es,MS x)→∀ x∈(s.runT P w es).2,MS x:=by
 induction s with
 | pure a=>exact fun w es h=>h
 | halt h=>exact fun w es h=>h
 | load m a k ih =>
   intro w es h;simp only[Sem.runT]
   split
   · exact ih _ _ _ (sS h (by intro m hm;cases hm))
   · split
     · exact ih _ _ _ (uUA h (by intro e he m hm;simp at he;obtain⟨_,_,rfl⟩:=he;cases hm))
     · exact h
 | store m a v k ih =>
   intro w es h;by_cases hv:(∃ x,v = .agg x)∨∃ x,v = .tuple x
   · rcases hv with⟨x,rfl⟩ | ⟨x,rfl⟩<;>exact h
   · have e0 : ∀ (w : World), (Sem.store m a v k).runT P w es = match w.cell? a with
         | some _ =>
           if w.frozen? a then (.halt (.unsupported (.unsafePointer "a write to bytes that a string shares")) w, es)
           else k.runT P (w.setCell a v) (es.push ⟨.cell a,true,m == .atomic⟩)
         | none => match w.farStore P a v (m == .atomic) with
           | .ok (w,touched)=>k.runT P w (es++touched.toArray.map (⟨.cell ·,true,m == .atomic⟩))
           | .error h=>(.halt h w,es):=by
       intro w
       cases v<;>first | rfl | exact absurd (.inl ⟨_,rfl⟩) hv | exact absurd (.inr ⟨_,rfl⟩) hv
     rw[e0]
     split
     · split
       · exact h
       · exact ih _ _ (sS h (by intro m hm;cases hm))
     · split
       · exact ih _ _ (uUA h (by intro e he m hm;simp at he;obtain⟨_,_,rfl⟩:=he;cases hm))
       · exact h
 | new o k ih=>exact fun w es h=>ih _ _ _ h
 | shape r k ih=>exact fun w es h=>ih _ _ _ h
 | freeze a n k ih=>exact fun w es h=>ih _ _ h
 | frozen a k ih=>exact fun w es h=>ih _ _ _ h
 | getObj r k ih =>
   intro w es h;simp only[Sem.runT]
   split
   · exact h
   · exact ih _ _ _ (sS h (by intro m hm;cases hm))
   · exact h
 | setObj r o k ih =>
   intro w es h;simp only[Sem.runT]
   split
   · exact h
   · exact ih _ _ (sS h (by intro m hm;cases hm))
   · exact h
 | choose q k ih =>
   intro w es h;simp only[Sem.runT]
   split
   · exact ih _ _ _ h
   · exact ih _ _ _ h
 | sys c k ih=>exact fun w es h=>ih _ _ _ (sS h (by intro m hm;cases hm))
 | program k ih=>exact fun w es h=>ih _ _ _ h
 | mark m k ih=>exact fun w es h=>ih _ _ (sS h (by intro m hm;rfl))
theorem pCA(P:Program)(fn:FuncId){es:Array Event}(h:∀ x∈es,MS x)(d:Nat):deafBehind d (seen P fn es)=deafBehind d es:=by
 obtain⟨l⟩:=es;have key:∀(l:List Event) (q:Bool) (kept:Array Event),(∀ x∈l,MS x) →
  deafBehind d (l.foldl (fun (x : Bool × Array Event) e => match e.loc with
    | .mark (.extern f)=>((P.funcs[f]?).any (·.norace),x.2)
    | _=>(x.1,if x.1 && !e.sync then x.2 else x.2.push e)) (q,kept)).2=deafBehind d (kept++l.toArray):=by
  intro l
  induction l with
  | nil=>intro q kept _;simp
  | cons e l ih =>
    intro q kept h;have hl:=fun x hx=>h x (List.mem_cons_of_mem _ hx)
    have he:=h e (by simp);have e1:kept++(e::l).toArray=(kept++#[e])++l.toArray:=by
     apply Array.ext';simp
    simp only[List.foldl_cons]
    split
    · rename_i f hf; rw [ih _ _ hl, e1, vE, vE, vE]; congr 1
      rw[lI,lI];simp[bDA,hf]
    · split
      · rename_i hq; rw [ih _ _ hl, e1, vE, vE, vE]; congr 1
        have hns:e.sync=false:=by
         cases hs:e.sync with
         | false=>rfl
         | true=>simp[hs]at hq
        rw [fP (es := #[e]) (by
          intro x hx m hm;simp at hx;subst hx;rw[he m hm]at hns
          cases hns)]
      · rw[ih _ _ hl,e1,gM]
 have:=key l ((P.funcs[fn]?).any (·.norace)) #[] (fun x hx=>h x (by simpa using hx));unfold seen;dsimp only;rw[← Array.foldl_toList];rw[Array.empty_append]at this;exact this
theorem uV:∀ x∈(#[]:Array Event),MS x:=by simp
def gw : GStep → World
  | .go _ w _ | .comm _ _ _ _ w _ | .spawn _ _ w _ | .count _ w _ | .timer _ _ w _ | .alone _ _ w _ | .newcoro _ _ _ w _ | .coroswitch _ _ _ w _ | .collect _ w _ | .watch _ w _ | .ended _ w _=>w
def gre(s:GStep)(τ:Nat→Question→Nat)(d:Nat):GStep:=match s with
 | .go g w es=>.go g (re w τ d) es
 | .comm g a b c w es=>.comm g a b c (re w τ d) es
 | .spawn g a w es=>.spawn g a (re w τ d) es
 | .count g w es=>.count g (re w τ d) es
 | .timer g a w es=>.timer g a (re w τ d) es
 | .alone g a w es=>.alone g a (re w τ d) es
 | .newcoro g a b w es=>.newcoro g a b (re w τ d) es
 | .coroswitch g a b w es=>.coroswitch g a b (re w τ d) es
 | .collect g w es=>.collect g (re w τ d) es
 | .watch g w es=>.watch g (re w τ d) es
 | .ended o w es=>.ended o (re w τ d) es
def done : GStep → Prop
  | .ended _ _ _=>True
  | _=>False
def uM : Item → Prop
  | .call _ _ _ _=>False
  | .extern row _ => row = "runtime.print$piece"
  | _=>True
def pG(fr:Frame):Prop:=∀ i∈fr.todo,uM i
def mE(g:Goroutine):Prop:=g.status = .running∨g.status = .blocked∨g.status = .waiting∨g.status = .finished
structure GOk (g:Goroutine):Prop where
 top:pG g.frame
 below:∀ fr∈g.callers,pG fr
 st:mE g:=by simp[mE]
def SOk : GStep → Prop
  | .go g _ es=>GOk g∧Bal 0 es
  | .comm g _ _ _ _ es=>GOk g∧Bal 0 es
  | .spawn _ _ _ _=>True
  | .coroswitch g _ true _ es=>GOk g∧Bal 0 es
  | .ended _ _ _=>True
  | _=>False
def Win(F:World→GStep)(w:World):Prop :=
 ∃ c,(gw (F w)).drawn=w.drawn+c∧(gw (F w)).tape=w.tape∧∀ τ d,Agree w.tape w.drawn τ d c→F (re w τ d)=gre (F w) τ (d+c)
def Good(F:World→GStep)(w:World):Prop:=done (F w)∨(SOk (F w)∧Win F w)
theorem iF:Bal 0 #[]:=fun _=>rfl
theorem Bal.app{a b:Array Event}(ha:Bal 0 a)(hb:Bal 0 b):Bal 0 (a++b):=fun x=>by rw[vE];rw[ha x];exact hb x
theorem iC{es:Array Event}{s:GStep}(h:done s):done (GStep.after es s):=by cases s<;>first | exact h | cases h
theorem wQA{es:Array Event}{s:GStep}(he:Bal 0 es)(h:SOk s):SOk (GStep.after es s):=by
 cases s with
 | go g w e=>exact⟨h.1,he.app h.2⟩
 | comm g a b c w e=>exact⟨h.1,he.app h.2⟩
 | spawn=>trivial
 | coroswitch g c x w e=>cases x with | true=>exact⟨h.1,he.app h.2⟩ | false=>cases h
 | ended=>trivial
 | _=>cases h
theorem kKA(es:Array Event)(s:GStep):gw (GStep.after es s)=gw s:=by cases s<;>rfl
theorem dSA(es:Array Event)(s:GStep)(τ:Nat→Question→Nat)(d:Nat):gre (GStep.after es s) τ d=GStep.after es (gre s τ d):=by cases s<;>rfl
theorem qC{g:Goroutine}{es:Array Event}(hg:GOk g)(hb:Bal 0 es){w:World}:Good (fun v=>.go g v es) w:=.inr ⟨⟨hg,hb⟩,0,rfl,rfl,fun _ _ _=>rfl⟩
theorem aG{fr:Frame}(h:pG fr)(v:Value):pG (fr.finish v):=by
 obtain⟨fn,tmps,todo,defers,mode,kind,ro⟩:=fr
 cases todo with
 | nil=>exact h
 | cons i k =>
   have hk:∀ j∈k,uM j:=fun j hj=>h j (List.mem_cons_of_mem _ hj)
   cases i with
   | inRegion ops l =>
     cases l with
     | nil=>exact h
     | cons a l =>
       intro j hj;simp only[Frame.finish]at hj;rcases List.mem_cons.1 hj with rfl | hj
       · trivial
       · exact hk j hj
   | inRangeFunc l =>
     intro j hj;simp only[Frame.finish]at hj;rcases List.mem_cons.1 hj with rfl | hj
     · trivial
     · exact hk j hj
   | beginRound=>exact hk
   | call d b r s=>exact absurd (h (.call d b r s) List.mem_cons_self) id
   | extern r a=>exact hk
   | _=>exact h
theorem yI{fr:Frame}(h:pG fr)(vs:List PanicEntry):pG (fr.raise vs):=by
 unfold Frame.raise;split<;>exact h
theorem cK(P:Program)(f:FuncId)(args:Array Value)(k:CallKind):pG (Frame.enter P f args k):=by
 intro i hi;simp only[Frame.enter,List.mem_singleton]at hi;subst hi;trivial
theorem nDA(l:Nat)(f:FuncId)(t:Array Value)(a b:Code)(k:CallKind):pG (Frame.round l f t a b k):=by
 intro i hi;simp only[Frame.round,List.mem_cons,List.not_mem_nil,or_false]at hi;rcases hi with rfl | rfl | rfl<;>trivial
theorem bLA (P : Program) (args : Array Value) (k : CallKind) : pG (Frame.ofRow P "runtime.print$piece" args k) := by
 intro i hi;simp only[Frame.ofRow,List.mem_singleton]at hi;subst hi;rfl
theorem jS{fr:Frame}(h:pG fr)(ds:List Deferred):pG { fr with defers:=ds }:=h
theorem gTA{fr:Frame}(h:pG fr)(m:FrameMode):pG { fr with mode:=m }:=h
theorem pK{fr:Frame}{cs:List Frame}(h:pG fr)(hc:∀ f∈cs,pG f):∀ f∈fr::cs,pG f:=fun f hf=>by
 rcases List.mem_cons.1 hf with rfl | hf
 · exact h
 · exact hc f hf
theorem nK:∀(cs:List Frame) (fr:Frame) {v:Value} {cs':List Frame},(∀ f∈cs,pG f)→tryRecover fr cs=some (v,cs')→∀ f∈cs',pG f:=by
 intro cs
 induction cs with
 | nil=>intro fr v cs' _ h;unfold tryRecover at h;split at h<;>first | cases h | simp_all
 | cons c cs ih =>
   intro fr v cs' hc h;unfold tryRecover at h
   split at h
   · rename_i caller rest _ heq
     cases heq
     split at h
     · cases h;exact pK (gTA (hc _ (by simp)) _) fun f hf=>hc f (List.mem_cons_of_mem _ hf)
     · cases h
   · rename_i wrapper rest _ heq
     cases heq;obtain⟨x,hx,hy⟩:=Option.map_eq_some_iff.1 h
     cases hy;exact pK (hc _ (by simp)) (ih _ (fun f hf=>hc f (List.mem_cons_of_mem _ hf)) hx)
   · cases h
theorem yV:∀(cs:List Frame) (l:Nat) {v:Value} {cs':List Frame},(∀ f∈cs,pG f)→tryRecoverLoop l cs=some (v,cs')→∀ f∈cs',pG f:=by
 intro cs
 induction cs with
 | nil=>intro l v cs' _ h;cases h
 | cons c cs ih =>
   intro l v cs' hc h;have hcs:=fun f hf=>hc f (List.mem_cons_of_mem _ hf)
   unfold tryRecoverLoop at h;obtain⟨x,hx,hy⟩:=Option.map_eq_some_iff.1 h
   cases hy;refine pK (hc _ (by simp)) ?_
   split at hx
   · exact ih _ hcs hx
   · split at hx
     · exact nK _ _ hcs hx
     · exact ih _ hcs hx
   · exact ih _ hcs hx
variable {P : Program}
theorem aI{α:Type}{φ:α→Prop}{s:Sem α}(hs:Safe P φ 0 s)(w:World) :
 ∃ r es,s.runT P w #[]=(r,es)∧(∀ x∈es,MS x)∧BalR φ 0 es r ∧
  (eX r∨∃ c,(wOf r).drawn=w.drawn+c∧(wOf r).tape=w.tape∧∀ τ d,Agree w.tape w.drawn τ d c→s.runT P (re w τ d) #[]=(reR r τ (d+c),es)):=by
 refine⟨(s.runT P w #[]).1,(s.runT P w #[]).2,rfl,k0A s w #[] uV,?_,nWA s 0 hs w #[]⟩;obtain⟨new,h1,h2⟩:=pWA s 0 hs w #[];rw[Array.empty_append]at h1;rw[h1];exact h2
theorem fB{es:Array Event}{F:World→GStep}{w:World}(hb:¬ done (F w)→Bal 0 es)(h:Good F w):Good (fun v=>GStep.after es (F v)) w:=by
 rcases h with h | ⟨hS,c,h1,h2,h3⟩
 · exact .inl (iC h)
 · by_cases hd : done (F w)
   · exact .inl (iC hd)
   · exact .inr ⟨wQA (hb hd) hS,c,by rw[kKA];exact h1,by rw[kKA];exact h2,fun τ d ha=>by show GStep.after es (F (re w τ d))=_;rw[h3 τ d ha,dSA]⟩
theorem vIA(w:World)(τ:Nat→Question→Nat)(d:Nat):∀(n:Nat) (f:FuncId),P.found (re w τ d) n f=P.found w n f:=by
 intro n
 induction n with
 | zero=>intro f;rfl
 | succ n ih =>
   intro f;have hsh:(re w τ d).shape? = w.shape? := rfl;have hhp:(re w τ d).heap=w.heap:=rfl;simp only[Program.found,ih,hsh,hhp]
theorem gAA(w:World)(τ:Nat→Question→Nat)(d:Nat):∀(n:Nat) (l seen:List FuncId),P.brought (re w τ d) n l seen=P.brought w n l seen:=by
 intro n
 induction n with
 | zero=>intro l seen;rfl
 | succ n ih =>
   intro l seen;have hsh:(re w τ d).shape? = w.shape? := rfl;have hhp:(re w τ d).heap=w.heap:=rfl
   cases l with
   | nil=>rfl
   | cons f l=>simp only[Program.brought,ih,hhp]
variable {P : Program}
theorem kQA(w:World):re w w.tape w.drawn=w:=rfl
theorem xU{F:World→GStep}{w:World}(hs:done (F w)∨SOk (F w))(hd:∀ τ d,F (re w τ d)=gre (F w) τ d):Good F w:=by
 have h0:gw (F w)=re (gw (F w)) w.tape w.drawn:=by
  have e:=hd w.tape w.drawn;rw[kQA]at e;have:gw (F w)=gw (gre (F w) w.tape w.drawn):=congrArg gw e;rw[this]
  cases F w<;>rfl
 rcases hs with h | h
 · exact .inl h
 · exact .inr ⟨h,0,by rw[h0];rfl,by rw[h0];rfl,fun τ d _=>by rw[hd];rfl⟩
theorem tBA{F:World→GStep}{w:World}(c:Nat)(hs:done (F w)∨SOk (F w))(hd:∀ τ d,Agree w.tape w.drawn τ d c→F (re w τ d)=gre (F w) τ (d+c)):Good F w:=by
 have h0:gw (F w)=re (gw (F w)) w.tape (w.drawn+c):=by
  have e:=hd w.tape w.drawn (fun _ _ _=>rfl);rw[kQA]at e;have:gw (F w)=gw (gre (F w) w.tape (w.drawn+c)):=congrArg gw e;rw[this]
  cases F w<;>rfl
 rcases hs with h | h
 · exact .inl h
 · exact .inr ⟨h,c,by rw[h0];rfl,by rw[h0];rfl,hd⟩
theorem rU{q:Question}(hq:q.forced=false)(w:World):(choose q).run P w = .ok (q.cut (w.tape w.drawn q)) (re w w.tape (w.drawn+1)):=by
 simp only[choose,Sem.run,hq,Bool.false_eq_true,if_false];rfl
theorem eU{q:Question}(hq:q.forced=false){w:World}{τ:Nat→Question→Nat}{d c:Nat}(ha:Agree w.tape w.drawn τ d (1+c)) :
 (choose q).run P (re w τ d) = .ok (q.cut (w.tape w.drawn q)) (re w τ (d+1)):=by
 rw[rU hq]
 show Result.ok (q.cut (τ d q)) _=_
 rw[ha.head q];rfl
theorem sNA{fr:Frame}{cs:List Frame}{dy:Option Dying}{g:Nat}(hf:pG fr)(hc:∀ f∈cs,pG f)(w:World):Good (fun w=>early P fr cs dy g w) w:=by
 have hgo:GOk { frame:=fr,callers:=cs,status:=.running,dying:=dy }:=⟨hf,hc,(by simp[mE])⟩;have hth:∀(f:FuncId) (l:List FuncId),GOk { frame:=Frame.enter P f #[] .early,callers:=l.map (Frame.enter P · #[] .early)++fr::cs,status:=.running,dying:=dy }:=by
  intro f l;refine⟨cK _ _ _ _,fun x hx=>?_,(by simp[mE])⟩;rcases List.mem_append.1 hx with hx | hx
  · obtain⟨y,_,rfl⟩:=List.mem_map.1 hx;exact cK _ _ _ _
  · exact pK hf hc x hx
 have hsh:∀ τ d,(re w τ d).shape? = w.shape? := fun _ _=>rfl
 have hhp:∀ τ d,(re w τ d).heap=w.heap:=fun _ _=>rfl
 have all:done (early P fr cs dy g w)∨SOk (early P fr cs dy g w):=by
  unfold early;dsimp only
  repeat' (first | exact .inl trivial | exact .inr ⟨hgo,iF⟩ | exact .inr ⟨hth _ _,iF⟩ | split)
 by_cases hdraw:∃ f,P.follows .staticDataAhead=true∧P.stepOf g=some f∧(P.code? f).any P.atRunTime=false∧(((P.code? f).bind fun c=>(readies c).getLast?).bind w.shape?).isSome=false ∧
  P.found w P.funcs.size f = .either∧(fr.kind == .early)=false∧(P.code? f).any P.plainData=false∧(P.code? f).any P.bareCopy=true
 · obtain ⟨f, h1, h2, h3, h4, h5, h6, h7, h8⟩ := hdraw; refine tBA 1 all fun τ d ha => ?_
   have r1:=rU (P:=P) (q:=.early g) rfl w;have r2:=eU (P:=P) (q:=.early g) rfl (w:=w) (τ:=τ) (d:=d) (c:=0) (by simpa using ha);have h5':P.found (re w τ d) P.funcs.size f = .either:=by rw[vIA];exact h5
   simp only[early,h1,h2,h3,hsh,h4,h5,h5',h6,h7,h8,Bool.not_true,Bool.false_eq_true,if_false,r1,r2]
   cases Question.cut (.early g) (w.tape w.drawn (.early g)) with
   | zero =>
     have e1:(re w τ (d+1)).heap=w.heap:=rfl;have e2:(re w w.tape (w.drawn+1)).heap=w.heap:=rfl;simp only[e1,e2]
     cases w.heap[g]? with
     | none=>rfl
     | some o=>cases o<;>rfl
   | succ n=>rfl
 · refine xU all fun τ d => ?_
   cases h1:P.follows .staticDataAhead with
   | false =>
     simp only[early,h1,hhp,Bool.not_false,if_true]
     cases w.heap[g]? with
     | none=>rfl
     | some o=>cases o<;>rfl
   | true =>
     cases h2:P.stepOf g with
     | none=>simp only[early,h1,h2,Bool.not_true,Bool.false_eq_true,if_false];rfl
     | some f =>
       cases h3:(P.code? f).any P.atRunTime with
       | true =>
         simp only[early,h1,h2,h3,hhp,Bool.not_true,Bool.false_eq_true,if_false,if_true]
         cases w.heap[g]? with
         | none=>rfl
         | some o=>cases o<;>rfl
       | false =>
         cases h4:(((P.code? f).bind fun c=>(readies c).getLast?).bind w.shape?).isSome with
         | true =>
           simp only[early,h1,h2,h3,hsh,h4,hhp,Bool.not_true,Bool.false_eq_true,if_false,if_true]
           cases w.heap[g]? with
           | none=>rfl
           | some o=>cases o<;>rfl
         | false =>
           have h5':P.found (re w τ d) P.funcs.size f=P.found w P.funcs.size f:=vIA _ _ _ _ _
           cases h6:(fr.kind == .early) with
           | true =>
             cases h5 : P.found w P.funcs.size f <;>
               simp only[early,h1,h2,h3,hsh,h4,h5',h5,h6,gAA,Bool.not_true,Bool.false_eq_true,if_false]<;>rfl
           | false =>
             cases h5:P.found w P.funcs.size f with
             | unknown=>simp only[early,h1,h2,h3,hsh,h4,h5',h5,h6,Bool.not_true,Bool.false_eq_true,if_false];rfl
             | notYet =>
               simp only[early,h1,h2,h3,hsh,h4,h5',h5,h6,hhp,Bool.not_true,Bool.false_eq_true,if_false]
               cases w.heap[g]? with
               | none=>rfl
               | some o=>cases o<;>rfl
             | either =>
               cases h7:(P.code? f).any P.plainData with
               | true=>simp only[early,h1,h2,h3,hsh,h4,h5',h5,h6,h7,gAA,Bool.not_true,Bool.false_eq_true,if_false,if_true];rfl
               | false =>
                 cases h8:(P.code? f).any P.bareCopy with
                 | true=>exact absurd ⟨f,h1,h2,h3,h4,h5,h6,h7,h8⟩ hdraw
                 | false =>
                   simp only[early,h1,h2,h3,hsh,h4,h5',h5,h6,h7,h8,hhp,Bool.not_true,Bool.not_false,Bool.false_eq_true,if_false,if_true]
                   cases w.heap[g]? with
                   | none=>rfl
                   | some o=>cases o<;>rfl
variable {P : Program}
theorem iB {F A : World → GStep} {w w' : World} {c : Nat} (h1 : w'.drawn = w.drawn + c) (h2 : w'.tape = w.tape) (e : F w = A w')
    (e':∀ τ d,Agree w.tape w.drawn τ d c→F (re w τ d)=A (re w' τ (d+c))) (hA:Good A w'):Good F w:=by
  rcases hA with hA | ⟨hS,c',g1,g2,g3⟩
  · left;rw[e];exact hA
  · right
    refine⟨by rw[e];exact hS,c+c',by rw[e,g1,h1];omega,by rw[e,g2,h2],fun τ d ha=>?_⟩;rw[e' τ d ha.left,e,g3 τ (d+c) (by rw[h1,h2];exact ha.right),Nat.add_assoc]
theorem pAA{fn:FuncId}{k:CallKind}{es:Array Event}(hms:∀ x∈es,MS x)(hb:Bal 0 es):Bal 0 (seen P fn (if k == .early then #[] else es)):=by
 intro x
 split
 · rw[pCA P fn uV];rfl
 · rw[pCA P fn hms];exact hb x
theorem kK{fr:Frame}{m:String}{w:World}(hf:pG fr):Good (fun v=>endThrow fr m v) w:=qC ⟨hf,by simp,(by simp[mE])⟩ iF
theorem aN{fr:Frame}{cs:List Frame}{dy:Option Dying}{s:Sem Next}(hf:pG fr)(hc:∀ f∈cs,pG f)(hs:OkN P s)(w:World):Good (fun w=>stepG.apply P true fr cs dy s w) w:=by
 obtain⟨r,es,hr,hms,hb,hn⟩:=aI hs w;rcases hn with⟨h,w',hd,rfl⟩ | ⟨c,h1,h2,h3⟩
 · left
   cases h with
   | stuck x=>simp only[stepG.apply,if_true,hr];exact iC trivial
   | unsupported u =>
     cases u with
     | noEntry x=>simp only[stepG.apply,if_true,hr];exact iC trivial
     | _=>cases hd
   | _=>cases hd
 · cases r with
   | ok a w' =>
     have q1:w'.drawn=w.drawn+c:=h1;have q2:w'.tape=w.tape:=h2;have hbal:=pAA (P:=P) (fn:=fr.fn) (k:=fr.kind) hms hb.2;have hN:=hb.1
     cases a with
     | value v =>
       refine iB (w':=w') q1 q2 (by simp only[stepG.apply,if_true,hr];rfl) (fun τ d ha=>by simp only[stepG.apply,if_true,h3 τ d ha];rfl) ?_;exact fB (fun _=>hbal) (qC ⟨aG hf _,hc,(by simp[mE])⟩ iF)
     | skip =>
       refine iB (w':=w') q1 q2 (by simp only[stepG.apply,if_true,hr];rfl) (fun τ d ha=>by simp only[stepG.apply,if_true,h3 τ d ha];rfl) ?_;exact fB (fun _=>hbal) (qC ⟨aG hf _,hc,(by simp[mE])⟩ iF)
     | enter f args =>
       refine iB (w':=w') q1 q2 (by simp only[stepG.apply,if_true,hr];rfl) (fun τ d ha=>by simp only[stepG.apply,if_true,h3 τ d ha];rfl) ?_;exact fB (fun _=>hbal) (qC ⟨cK _ _ _ _,pK hf hc,(by simp[mE])⟩ iF)
     | round l f t a b =>
       refine iB (w':=w') q1 q2 (by simp only[stepG.apply,if_true,hr];rfl) (fun τ d ha=>by simp only[stepG.apply,if_true,h3 τ d ha];rfl) ?_;exact fB (fun _=>hbal) (qC ⟨nDA _ _ _ _ _ _,pK hf hc,(by simp[mE])⟩ iF)
     | «defer» d =>
       refine iB (w':=w') q1 q2 (by simp only[stepG.apply,if_true,hr];rfl) (fun τ d ha=>by simp only[stepG.apply,if_true,h3 τ d ha];rfl) ?_;exact fB (fun _=>hbal) (qC ⟨aG (jS hf _) _,hc,(by simp[mE])⟩ iF)
     | recover =>
       refine iB (w':=w') q1 q2 (by simp only[stepG.apply,if_true,hr];rfl) (fun τ d ha=>by simp only[stepG.apply,if_true,h3 τ d ha];rfl) ?_;refine fB (fun _=>hbal) ?_;have hnone:Good (fun v=>GStep.go { frame:=fr.finish .nilIface,callers:=cs,status:=.running,dying:=dy } v) w':=qC ⟨aG hf _,hc,(by simp[mE])⟩ iF
       split
       · rename_i v cs' heq; refine qC ⟨aG hf _, ?_, (by simp [mE])⟩ iF
         split at heq
         · split at heq
           · exact nK _ _ hc heq
           · exact yV _ _ hc heq
         · exact nK _ _ hc heq
       · exact hnone
     | spawn d =>
       refine iB (w':=w') q1 q2 (by simp only[stepG.apply,if_true,hr];rfl) (fun τ d ha=>by simp only[stepG.apply,if_true,h3 τ d ha];rfl) ?_;refine fB (fun _=>hbal) ?_
       split<;>(split<;>first | exact kK hf | exact .inr ⟨trivial,0,rfl,rfl,fun _ _ _=>rfl⟩)
     | comm a b sh =>
       refine iB (w':=w') q1 q2 (by simp only[stepG.apply,if_true,hr];rfl) (fun τ d ha=>by simp only[stepG.apply,if_true,h3 τ d ha];rfl) ?_;exact fB (fun _=>hbal) (.inr ⟨⟨⟨hf,hc,(by simp[mE])⟩,iF⟩,0,rfl,rfl,fun _ _ _=>rfl⟩)
     | coroswitch cc x =>
       cases x with
       | false=>exact absurd hN id
       | true =>
         refine iB (w':=w') q1 q2 (by simp only[stepG.apply,if_true,hr];rfl) (fun τ d ha=>by simp only[stepG.apply,if_true,h3 τ d ha];rfl) ?_;exact fB (fun _=>hbal) (.inr ⟨⟨⟨hf,hc,(by simp[mE])⟩,iF⟩,0,rfl,rfl,fun _ _ _=>rfl⟩)
     | row row args =>
       obtain rfl : row = "runtime.print$piece" := hN; refine iB (w' := w') q1 q2 (by simp only [stepG.apply, if_true, hr]; rfl) (fun τ d ha => by simp only [stepG.apply, if_true, h3 τ d ha]; rfl) ?_; refine fB (fun _ => hbal) ?_
       split
       · rename_i k heq; refine qC ⟨?_, hc, (by simp [mE])⟩ iF; intro i hi; rcases List.mem_cons.1 hi with rfl | hi
         · rfl
         · exact hf i (by rw[heq];exact List.mem_cons_of_mem _ hi)
       · exact qC ⟨bLA _ _ _,pK hf hc,(by simp[mE])⟩ iF
     | _=>exact absurd hN id
   | halt h w' =>
     have q1:w'.drawn=w.drawn+c:=h1;have q2:w'.tape=w.tape:=h2;have hbal:¬ kU h→Bal 0 (seen P fr.fn (if fr.kind == .early then #[] else es)):=fun hh=>pAA hms (hb.2.resolve_left hh)
     have hb0:Bal 0 (seen P fr.fn (if fr.kind == .early then #[] else #[])):=pAA uV iF
     cases h with
     | panic v =>
       refine iB (w':=w') q1 q2 (by simp only[stepG.apply,if_true,hr];rfl) (fun τ d ha=>by simp only[stepG.apply,if_true,h3 τ d ha];rfl) ?_;exact fB (fun _=>hbal id) (qC ⟨yI hf _,hc,(by simp[mE])⟩ iF)
     | goexit =>
       refine iB (w':=w') q1 q2 (by simp only[stepG.apply,if_true,hr];rfl) (fun τ d ha=>by simp only[stepG.apply,if_true,h3 τ d ha];rfl) ?_;exact fB (fun _=>hbal id) (qC ⟨yI hf _,hc,(by simp[mE])⟩ iF)
     | blocked =>
       refine iB (w':=w') q1 q2 (by simp only[stepG.apply,if_true,hr];rfl) (fun τ d ha=>by simp only[stepG.apply,if_true,h3 τ d ha];rfl) ?_;exact fB (fun _=>hb0) (qC ⟨hf,hc,(by simp[mE])⟩ iF)
     | waiting =>
       refine iB (w':=w') q1 q2 (by simp only[stepG.apply,if_true,hr];rfl) (fun τ d ha=>by simp only[stepG.apply,if_true,h3 τ d ha];rfl) ?_;exact fB (fun _=>hb0) (qC ⟨hf,hc,(by simp[mE])⟩ iF)
     | exit x=>left;simp only[stepG.apply,if_true,hr];exact iC trivial
     | fatal m=>exact absurd hb.1 id
     | throw m =>
       refine iB (w':=w') q1 q2 (by simp only[stepG.apply,if_true,hr];rfl) (fun τ d ha=>by simp only[stepG.apply,if_true,h3 τ d ha];rfl) ?_;exact fB (fun _=>hbal id) (kK hf)
     | stuck x=>left;simp only[stepG.apply,if_true,hr];exact iC trivial
     | unsupported u =>
       cases u with
       | initOrder g =>
         refine iB (w':=w') q1 q2 (by simp only[stepG.apply,if_true,hr];rfl) (fun τ d ha=>by simp only[stepG.apply,if_true,h3 τ d ha];rfl) ?_;exact fB (fun _=>hb0) (sNA hf hc w')
       | _=>left;simp only[stepG.apply,if_true,hr];exact iC trivial
theorem iO{main:Bool}{fr:Frame}{cs:List Frame}{dy:Option Dying}{v:Value}(hf:pG fr)(hc:∀ f∈cs,pG f)(w:World):Good (fun w=>doReturn P main fr cs dy v w) w:=by
 refine xU ?_ fun τ d=>?_
 · unfold doReturn
   cases cs with
   | nil =>
     dsimp only
     split
     · exact .inr ⟨⟨hf,by simp,(by simp[mE])⟩,iF⟩
     · exact .inl trivial
     · split
       · exact .inr ⟨⟨hf,by simp,(by simp[mE])⟩,iF⟩
       · split
         · exact .inr ⟨⟨cK _ _ _ _,by simp,(by simp[mE])⟩,iF⟩
         · exact .inl trivial
   | cons c cs =>
     have h1:=hc c (by simp);have h2:=fun f hf=>hc f (List.mem_cons_of_mem c hf)
     dsimp only
     split
     · exact .inr ⟨⟨aG h1 _,h2,(by simp[mE])⟩,iF⟩
     · exact .inr ⟨⟨aG h1 _,h2,(by simp[mE])⟩,iF⟩
     · exact .inr ⟨⟨h1,h2,(by simp[mE])⟩,iF⟩
     · refine .inr ⟨⟨?_, h2, (by simp [mE])⟩, iF⟩; dsimp only
       split
       · split
         · exact h1
         · exact h1
       · exact h1
 · unfold doReturn
   cases cs with
   | nil =>
     dsimp only
     split
     · rfl
     · rfl
     · split
       · rfl
       · split<;>rfl
   | cons c cs =>
     dsimp only
     split<;>rfl
end Go.Lx
