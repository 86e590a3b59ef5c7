/- Part 2 of what the proof rests on. -/
import Derived.Conc.Own
import Derived.RunT
import Derived.KernelRfl
import Derived.Conc.CrowdComm
import Derived.Conc.Beside
import Derived.Lone
import Derived.Test.YtpkaiodmbicjiaaGreatDoorM01
import Derived.Test.YtpkaiodmbicjiaaGreatDoorM00
set_option linter.unusedSimpArgs false
set_option linter.unusedVariables false
namespace Go.Lx
def gw:GStep->World
  | .go _ w _|.comm _ _ _ _ w _|.spawn _ _ w _|.count _ w _|.timer _ _ w _|.alone _ _ w _|.newcoro _ _ _ w _|.coroswitch _ _ _ w _|.collect _ w _|.watch _ w _|.ended _ w _=>w
def gre(s:GStep)(τ:Nat->Question->Nat)(d:Nat):GStep:=match s with
 | .go g w es=>.go g (re w τ d) es
 | .comm g a b c w es=>.comm g a b c (re w τ d) es
 | .spawn g a w es=>.spawn g a (re w τ d) es
 | .count g w es=>.count g (re w τ d) es
 | .timer g a w es=>.timer g a (re w τ d) es
 | .alone g a w es=>.alone g a (re w τ d) es
 | .newcoro g a b w es=>.newcoro g a b (re w τ d) es
 | .coroswitch g a b w es=>.coroswitch g a b (re w τ d) es
 | .collect g w es=>.collect g (re w τ d) es
 | .watch g w es=>.watch g (re w τ d) es
 | .ended o w es=>.ended o (re w τ d) es
def done:GStep->Prop
  | .ended _ _ _=>True
  | _=>False
def eP:Item->Prop
  | .call _ _ _ _=>False
  | .extern row _ => row = "runtime.print$piece"
  | _=>True
def jH(fr:Frame):Prop:=∀ i∈fr.todo,eP i
def xE(g:Goroutine):Prop:=g.status = .running∨g.status = .blocked∨g.status = .waiting∨g.status = .finished
structure GOk (g:Goroutine):Prop where
 top:jH g.frame
 below:∀ fr∈g.callers,jH fr
 st:xE g:=by simp[xE]
def SOk:GStep->Prop
  | .go g _ es=>GOk g/\Bal 0 es
  | .comm g _ _ _ _ es=>GOk g/\Bal 0 es
  | .spawn _ _ _ _=>True
  | .coroswitch g _ true _ es=>GOk g/\Bal 0 es
  | .ended _ _ _=>True
  | _=>False
def Win(F:World->GStep)(w:World):Prop :=
 ∃ c,(gw (F w)).drawn=w.drawn+c/\(gw (F w)).tape=w.tape/\∀ τ d,Agree w.tape w.drawn τ d c->F (re w τ d)=gre (F w) τ (d+c)
def Good(F:World->GStep)(w:World):Prop:=done (F w)∨(SOk (F w)/\Win F w)
theorem wF:Bal 0 #[]:=λ_=>rfl
theorem Bal.app{a b:Array Event}(ha:Bal 0 a)(hb:Bal 0 b):Bal 0 (a++b):=λx=>by rw[fF];rw[ha x];exact hb x
theorem lC{es:Array Event}{s:GStep}(h:done s):done (GStep.after es s):=by cases s<;>first|exact h|cases h
theorem iXA{es:Array Event}{s:GStep}(he:Bal 0 es)(h:SOk s):SOk (GStep.after es s):=by
 cases s with
 | go g w e=>exact⟨h.1,he.app h.2⟩
 | comm g a b c w e=>exact⟨h.1,he.app h.2⟩
 | spawn=>trivial
 | coroswitch g c x w e=>cases x with|true=>exact⟨h.1,he.app h.2⟩|false=>cases h
 | ended=>trivial
 | _=>cases h
theorem uNA(es:Array Event)(s:GStep):gw (GStep.after es s)=gw s:=by cases s<;>rfl
theorem sUA(es:Array Event)(s:GStep)(τ:Nat->Question->Nat)(d:Nat):gre (GStep.after es s) τ d=GStep.after es (gre s τ d):=by cases s<;>rfl
theorem tC{g:Goroutine}{es:Array Event}(hg:GOk g)(hb:Bal 0 es){w:World}:Good (λv=>.go g v es) w:=.inr ⟨⟨hg,hb⟩,0,rfl,rfl,λ_ _ _=>rfl⟩
theorem sG{fr:Frame}(h:jH fr)(v:Value):jH (fr.finish v):=by
 obtain⟨fn,tmps,todo,defers,mode,kind,ro⟩:=fr
 cases todo with
 | nil=>exact h
 | cons i k =>
   have hk:∀ j∈k,eP j:=λj hj=>h j (Qh _ hj)
   cases i with
   | inRegion ops l =>
     cases l with
     | nil=>exact h
     | cons a l =>
       intro j hj;simp only[Frame.finish]at hj;rcases List.mem_cons.1 hj with rfl|hj
       . trivial
       . exact hk j hj
   | inRangeFunc l =>
     intro j hj;simp only[Frame.finish]at hj;rcases List.mem_cons.1 hj with rfl|hj
     . trivial
     . exact hk j hj
   | beginRound=>exact hk
   | call d b r s=>exact absurd (h (.call d b r s) Qn) id
   | extern r a=>exact hk
   | _=>exact h
theorem kK{fr:Frame}(h:jH fr)(vs:List PanicEntry):jH (fr.raise vs):=by
 unfold Frame.raise;split<;>exact h
theorem oL(P:Program)(f:FuncId)(args:Array Value)(k:CallKind):jH (Frame.enter P f args k):=by
 intro i hi;simp only[Frame.enter,List.mem_singleton]at hi;subst hi;trivial
theorem sFA(l:Nat)(f:FuncId)(t:Array Value)(a b:Code)(k:CallKind):jH (Frame.round l f t a b k):=by
 intro i hi;simp only[Frame.round,List.mem_cons,List.not_mem_nil,or_false]at hi;rcases hi with rfl|rfl|rfl<;>trivial
theorem gOA (P : Program) (args : Array Value) (k : CallKind) : jH (Frame.ofRow P "runtime.print$piece" args k) := by
 intro i hi;simp only[Frame.ofRow,List.mem_singleton]at hi;subst hi;rfl
theorem dU{fr:Frame}(h:jH fr)(ds:List Deferred):jH { fr with defers:=ds }:=h
theorem gVA{fr:Frame}(h:jH fr)(m:FrameMode):jH { fr with mode:=m }:=h
theorem uM{fr:Frame}{cs:List Frame}(h:jH fr)(hc:∀ f∈cs,jH f):∀ f∈fr::cs,jH f:=λf hf=>by
 rcases List.mem_cons.1 hf with rfl|hf
 . exact h
 . exact hc f hf
theorem bM:∀(cs:List Frame) (fr:Frame) {v:Value} {cs':List Frame},(∀ f∈cs,jH f)->tryRecover fr cs=some (v,cs')->∀ f∈cs',jH f:=by
 intro cs
 induction cs with
 | nil=>intro fr v cs' _ h;unfold tryRecover at h;split at h<;>first|cases h|simp_all
 | cons c cs ih =>
   intro fr v cs' hc h;unfold tryRecover at h
   split at h
   . rename_i caller rest _ heq
     cases heq
     split at h
     . cases h;exact uM (gVA (hc _ (by simp)) _) λf hf=>hc f (Qh _ hf)
     . cases h
   . rename_i wrapper rest _ heq
     cases heq;obtain⟨x,hx,hy⟩:=Option.map_eq_some_iff.1 h
     cases hy;exact uM (hc _ (by simp)) (ih _ (λf hf=>hc f (Qh _ hf)) hx)
   . cases h
theorem jY:∀(cs:List Frame) (l:Nat) {v:Value} {cs':List Frame},(∀ f∈cs,jH f)->tryRecoverLoop l cs=some (v,cs')->∀ f∈cs',jH f:=by
 intro cs
 induction cs with
 | nil=>intro l v cs' _ h;cases h
 | cons c cs ih =>
   intro l v cs' hc h;have hcs:=λf hf=>hc f (Qh _ hf)
   unfold tryRecoverLoop at h;obtain⟨x,hx,hy⟩:=Option.map_eq_some_iff.1 h
   cases hy;refine uM (hc _ (by simp)) ?_
   split at hx
   . exact ih _ hcs hx
   . split at hx
     . exact bM _ _ hcs hx
     . exact ih _ hcs hx
   . exact ih _ hcs hx
variable {P : Program}
theorem oI{α:Type}{φ:α->Prop}{s:Sem α}(hs:Safe P φ 0 s)(w:World) :
 ∃ r es,s.runT P w #[]=(r,es)/\(∀ x∈es,MS x)/\BalR φ 0 es r /\
  (yX r∨∃ c,(wOf r).drawn=w.drawn+c/\(wOf r).tape=w.tape/\∀ τ d,Agree w.tape w.drawn τ d c->s.runT P (re w τ d) #[]=(reR r τ (d+c),es)):=by
 refine⟨(s.runT P w #[]).1,(s.runT P w #[]).2,rfl,r7A s w #[] sZ,?_,m1A s 0 hs w #[]⟩;obtain⟨new,h1,h2⟩:=lZA s 0 hs w #[];rw[Array.empty_append]at h1;rw[h1];exact h2
theorem wB{es:Array Event}{F:World->GStep}{w:World}(hb:¬ done (F w)->Bal 0 es)(h:Good F w):Good (λv=>GStep.after es (F v)) w:=by
 rcases h with h|⟨hS,c,h1,h2,h3⟩
 . exact .inl (lC h)
 . by_cases hd:done (F w)
   . exact .inl (lC hd)
   . exact .inr ⟨iXA (hb hd) hS,c,by rw[uNA];exact h1,by rw[uNA];exact h2,λτ d ha=>by show GStep.after es (F (re w τ d))=_;rw[h3 τ d ha,sUA]⟩
theorem sLA(w:World)(τ:Nat->Question->Nat)(d:Nat):∀(n:Nat) (f:FuncId),P.found (re w τ d) n f=P.found w n f:=by
 intro n
 induction n with
 | zero=>intro f;rfl
 | succ n ih =>
   intro f;have hsh:(re w τ d).shape? = w.shape? := rfl;have hhp:(re w τ d).heap=w.heap:=rfl;simp only[Program.found,ih,hsh,hhp]
theorem nCA(w:World)(τ:Nat->Question->Nat)(d:Nat):∀(n:Nat) (l seen:List FuncId),P.brought (re w τ d) n l seen=P.brought w n l seen:=by
 intro n
 induction n with
 | zero=>intro l seen;rfl
 | succ n ih =>
   intro l seen;have hsh:(re w τ d).shape? = w.shape? := rfl;have hhp:(re w τ d).heap=w.heap:=rfl
   cases l with
   | nil=>rfl
   | cons f l=>simp only[Program.brought,ih,hhp]
variable {P : Program}
theorem eTA(w:World):re w w.tape w.drawn=w:=rfl
theorem eX{F:World->GStep}{w:World}(hs:done (F w)∨SOk (F w))(hd:∀ τ d,F (re w τ d)=gre (F w) τ d):Good F w:=by
 have h0:gw (F w)=re (gw (F w)) w.tape w.drawn:=by
  have e:=hd w.tape w.drawn;rw[eTA]at e;have:gw (F w)=gw (gre (F w) w.tape w.drawn):=congrArg gw e;rw[this]
  cases F w<;>rfl
 rcases hs with h|h
 . exact .inl h
 . exact .inr ⟨h,0,by rw[h0];rfl,by rw[h0];rfl,λτ d _=>by rw[hd];rfl⟩
theorem kCA{F:World->GStep}{w:World}(c:Nat)(hs:done (F w)∨SOk (F w))(hd:∀ τ d,Agree w.tape w.drawn τ d c->F (re w τ d)=gre (F w) τ (d+c)):Good F w:=by
 have h0:gw (F w)=re (gw (F w)) w.tape (w.drawn+c):=by
  have e:=hd w.tape w.drawn (λ_ _ _=>rfl);rw[eTA]at e;have:gw (F w)=gw (gre (F w) w.tape (w.drawn+c)):=congrArg gw e;rw[this]
  cases F w<;>rfl
 rcases hs with h|h
 . exact .inl h
 . exact .inr ⟨h,c,by rw[h0];rfl,by rw[h0];rfl,hd⟩
theorem zW{q:Question}(hq:q.forced=false)(w:World):(choose q).run P w = .ok (q.cut (w.tape w.drawn q)) (re w w.tape (w.drawn+1)):=by
 simp only[choose,Sem.run,hq,Qs,if_false];rfl
theorem gW{q:Question}(hq:q.forced=false){w:World}{τ:Nat->Question->Nat}{d c:Nat}(ha:Agree w.tape w.drawn τ d (1+c)) :
 (choose q).run P (re w τ d) = .ok (q.cut (w.tape w.drawn q)) (re w τ (d+1)):=by
 rw[zW hq]
 show Result.ok (q.cut (τ d q)) _=_
 rw[ha.head q];rfl
theorem rOA{fr:Frame}{cs:List Frame}{dy:Option Dying}{g:Nat}(hf:jH fr)(hc:∀ f∈cs,jH f)(w:World):Good (λw=>early P fr cs dy g w) w:=by
 have hgo:GOk { frame:=fr,callers:=cs,status:=.running,dying:=dy }:=⟨hf,hc,(by simp[xE])⟩;have hth:∀(f:FuncId) (l:List FuncId),GOk { frame:=Frame.enter P f #[] .early,callers:=l.map (Frame.enter P · #[] .early)++fr::cs,status:=.running,dying:=dy }:=by
  intro f l;refine⟨oL _ _ _ _,λx hx=>?_,(by simp[xE])⟩;rcases List.mem_append.1 hx with hx|hx
  . obtain⟨y,_,rfl⟩:=List.mem_map.1 hx;exact oL _ _ _ _
  . exact uM hf hc x hx
 have hsh:∀ τ d,(re w τ d).shape? = w.shape? := λ_ _=>rfl
 have hhp:∀ τ d,(re w τ d).heap=w.heap:=λ_ _=>rfl
 have all:done (early P fr cs dy g w)∨SOk (early P fr cs dy g w):=by
  unfold early;dsimp only
  repeat' (first|exact .inl trivial|exact .inr ⟨hgo,wF⟩|exact .inr ⟨hth _ _,wF⟩|split)
 by_cases hdraw:∃ f,P.follows .staticDataAhead=true/\P.stepOf g=some f/\(P.code? f).any P.atRunTime=false/\(((P.code? f).bind λc=>(readies c).getLast?).bind w.shape?).isSome=false /\
  P.found w P.funcs.size f = .either/\(fr.kind == .early)=false/\(P.code? f).any P.plainData=false/\(P.code? f).any P.bareCopy=true
 . obtain⟨f,h1,h2,h3,h4,h5,h6,h7,h8⟩:=hdraw;refine kCA 1 all λτ d ha=>?_
   have r1:=zW (P:=P) (q:=.early g) rfl w;have r2:=gW (P:=P) (q:=.early g) rfl (w:=w) (τ:=τ) (d:=d) (c:=0) (by simpa using ha);have h5':P.found (re w τ d) P.funcs.size f = .either:=by rw[sLA];exact h5
   simp only[early,h1,h2,h3,hsh,h4,h5,h5',h6,h7,h8,Bool.not_true,Qs,if_false,r1,r2]
   cases Question.cut (.early g) (w.tape w.drawn (.early g)) with
   | zero =>
     have e1:(re w τ (d+1)).heap=w.heap:=rfl;have e2:(re w w.tape (w.drawn+1)).heap=w.heap:=rfl;simp only[e1,e2]
     cases w.heap[g]? with
     | none=>rfl
     | some o=>cases o<;>rfl
   | succ n=>rfl
 . refine eX all λτ d=>?_
   cases h1:P.follows .staticDataAhead with
   | false =>
     simp only[early,h1,hhp,Bool.not_false,if_true]
     cases w.heap[g]? with
     | none=>rfl
     | some o=>cases o<;>rfl
   | true =>
     cases h2:P.stepOf g with
     | none=>simp only[early,h1,h2,Bool.not_true,Qs,if_false];rfl
     | some f =>
       cases h3:(P.code? f).any P.atRunTime with
       | true =>
         simp only[early,h1,h2,h3,hhp,Bool.not_true,Qs,if_false,if_true]
         cases w.heap[g]? with
         | none=>rfl
         | some o=>cases o<;>rfl
       | false =>
         cases h4:(((P.code? f).bind λc=>(readies c).getLast?).bind w.shape?).isSome with
         | true =>
           simp only[early,h1,h2,h3,hsh,h4,hhp,Bool.not_true,Qs,if_false,if_true]
           cases w.heap[g]? with
           | none=>rfl
           | some o=>cases o<;>rfl
         | false =>
           have h5':P.found (re w τ d) P.funcs.size f=P.found w P.funcs.size f:=sLA _ _ _ _ _
           cases h6:(fr.kind == .early) with
           | true =>
             cases h5:P.found w P.funcs.size f <;>
               simp only[early,h1,h2,h3,hsh,h4,h5',h5,h6,nCA,Bool.not_true,Qs,if_false]<;>rfl
           | false =>
             cases h5:P.found w P.funcs.size f with
             | unknown=>simp only[early,h1,h2,h3,hsh,h4,h5',h5,h6,Bool.not_true,Qs,if_false];rfl
             | notYet =>
               simp only[early,h1,h2,h3,hsh,h4,h5',h5,h6,hhp,Bool.not_true,Qs,if_false]
               cases w.heap[g]? with
               | none=>rfl
               | some o=>cases o<;>rfl
             | either =>
               cases h7:(P.code? f).any P.plainData with
               | true=>simp only[early,h1,h2,h3,hsh,h4,h5',h5,h6,h7,nCA,Bool.not_true,Qs,if_false,if_true];rfl
               | false =>
                 cases h8:(P.code? f).any P.bareCopy with
                 | true=>exact absurd ⟨f,h1,h2,h3,h4,h5,h6,h7,h8⟩ hdraw
                 | false =>
                   simp only[early,h1,h2,h3,hsh,h4,h5',h5,h6,h7,h8,hhp,Bool.not_true,Bool.not_false,Qs,if_false,if_true]
                   cases w.heap[g]? with
                   | none=>rfl
                   | some o=>cases o<;>rfl
variable {P : Program}
theorem zB{F A:World->GStep}{w w':World}{c:Nat}(h1:w'.drawn=w.drawn+c)(h2:w'.tape=w.tape)(e:F w=A w')
    (e':∀ τ d,Agree w.tape w.drawn τ d c->F (re w τ d)=A (re w' τ (d+c))) (hA:Good A w'):Good F w:=by
  rcases hA with hA|⟨hS,c',g1,g2,g3⟩
  . left;rw[e];exact hA
  . right
    refine⟨by rw[e];exact hS,c+c',by rw[e,g1,h1];omega,by rw[e,g2,h2],λτ d ha=>?_⟩;rw[e' τ d ha.left,e,g3 τ (d+c) (by rw[h1,h2];exact ha.right),Nat.add_assoc]
theorem eFA{fn:FuncId}{k:CallKind}{es:Array Event}(hms:∀ x∈es,MS x)(hb:Bal 0 es):Bal 0 (seen P fn (if k == .early then #[] else es)):=by
 intro x
 split
 . rw[dGA P fn sZ];rfl
 . rw[dGA P fn hms];exact hb x
theorem dM{fr:Frame}{m:String}{w:World}(hf:jH fr):Good (λv=>endThrow fr m v) w:=tC ⟨hf,by simp,(by simp[xE])⟩ wF
theorem mO{fr:Frame}{cs:List Frame}{dy:Option Dying}{s:Sem Next}(hf:jH fr)(hc:∀ f∈cs,jH f)(hs:OkN P s)(w:World):Good (λw=>stepG.apply P true fr cs dy s w) w:=by
 obtain⟨r,es,hr,hms,hb,hn⟩:=oI hs w;rcases hn with⟨h,w',hd,rfl⟩|⟨c,h1,h2,h3⟩
 . left
   cases h with
   | stuck x=>simp only[stepG.apply,if_true,hr];exact lC trivial
   | unsupported u =>
     cases u with
     | noEntry x=>simp only[stepG.apply,if_true,hr];exact lC trivial
     | _=>cases hd
   | _=>cases hd
 . cases r with
   | ok a w' =>
     have q1:w'.drawn=w.drawn+c:=h1;have q2:w'.tape=w.tape:=h2;have hbal:=eFA (P:=P) (fn:=fr.fn) (k:=fr.kind) hms hb.2;have hN:=hb.1
     cases a with
     | value v =>
       refine zB (w':=w') q1 q2 (by simp only[stepG.apply,if_true,hr];rfl) (λτ d ha=>by simp only[stepG.apply,if_true,h3 τ d ha];rfl) ?_;exact wB (λ_=>hbal) (tC ⟨sG hf _,hc,(by simp[xE])⟩ wF)
     | skip =>
       refine zB (w':=w') q1 q2 (by simp only[stepG.apply,if_true,hr];rfl) (λτ d ha=>by simp only[stepG.apply,if_true,h3 τ d ha];rfl) ?_;exact wB (λ_=>hbal) (tC ⟨sG hf _,hc,(by simp[xE])⟩ wF)
     | enter f args =>
       refine zB (w':=w') q1 q2 (by simp only[stepG.apply,if_true,hr];rfl) (λτ d ha=>by simp only[stepG.apply,if_true,h3 τ d ha];rfl) ?_;exact wB (λ_=>hbal) (tC ⟨oL _ _ _ _,uM hf hc,(by simp[xE])⟩ wF)
     | round l f t a b =>
       refine zB (w':=w') q1 q2 (by simp only[stepG.apply,if_true,hr];rfl) (λτ d ha=>by simp only[stepG.apply,if_true,h3 τ d ha];rfl) ?_;exact wB (λ_=>hbal) (tC ⟨sFA _ _ _ _ _ _,uM hf hc,(by simp[xE])⟩ wF)
     | «defer» d =>
       refine zB (w':=w') q1 q2 (by simp only[stepG.apply,if_true,hr];rfl) (λτ d ha=>by simp only[stepG.apply,if_true,h3 τ d ha];rfl) ?_;exact wB (λ_=>hbal) (tC ⟨sG (dU hf _) _,hc,(by simp[xE])⟩ wF)
     | recover =>
       refine zB (w':=w') q1 q2 (by simp only[stepG.apply,if_true,hr];rfl) (λτ d ha=>by simp only[stepG.apply,if_true,h3 τ d ha];rfl) ?_;refine wB (λ_=>hbal) ?_;have hnone:Good (λv=>GStep.go { frame:=fr.finish .nilIface,callers:=cs,status:=.running,dying:=dy } v) w':=tC ⟨sG hf _,hc,(by simp[xE])⟩ wF
       split
       . rename_i v cs' heq;refine tC ⟨sG hf _,?_,(by simp[xE])⟩ wF
         split at heq
         . split at heq
           . exact bM _ _ hc heq
           . exact jY _ _ hc heq
         . exact bM _ _ hc heq
       . exact hnone
     | spawn d =>
       refine zB (w':=w') q1 q2 (by simp only[stepG.apply,if_true,hr];rfl) (λτ d ha=>by simp only[stepG.apply,if_true,h3 τ d ha];rfl) ?_;refine wB (λ_=>hbal) ?_
       split<;>(split<;>first|exact dM hf|exact .inr ⟨trivial,0,rfl,rfl,λ_ _ _=>rfl⟩)
     | comm a b sh =>
       refine zB (w':=w') q1 q2 (by simp only[stepG.apply,if_true,hr];rfl) (λτ d ha=>by simp only[stepG.apply,if_true,h3 τ d ha];rfl) ?_;exact wB (λ_=>hbal) (.inr ⟨⟨⟨hf,hc,(by simp[xE])⟩,wF⟩,0,rfl,rfl,λ_ _ _=>rfl⟩)
     | coroswitch cc x =>
       cases x with
       | false=>exact absurd hN id
       | true =>
         refine zB (w':=w') q1 q2 (by simp only[stepG.apply,if_true,hr];rfl) (λτ d ha=>by simp only[stepG.apply,if_true,h3 τ d ha];rfl) ?_;exact wB (λ_=>hbal) (.inr ⟨⟨⟨hf,hc,(by simp[xE])⟩,wF⟩,0,rfl,rfl,λ_ _ _=>rfl⟩)
     | row row args =>
       obtain rfl : row = "runtime.print$piece" := hN; refine zB (w' := w') q1 q2 (by simp only [stepG.apply, if_true, hr]; rfl) (fun τ d ha => by simp only [stepG.apply, if_true, h3 τ d ha]; rfl) ?_; refine wB (fun _ => hbal) ?_
       split
       . rename_i k heq;refine tC ⟨?_,hc,(by simp[xE])⟩ wF;intro i hi;rcases List.mem_cons.1 hi with rfl|hi
         . rfl
         . exact hf i (by rw[heq];exact Qh _ hi)
       . exact tC ⟨gOA _ _ _,uM hf hc,(by simp[xE])⟩ wF
     | _=>exact absurd hN id
   | halt h w' =>
     have q1:w'.drawn=w.drawn+c:=h1;have q2:w'.tape=w.tape:=h2;have hbal:¬ kX h->Bal 0 (seen P fr.fn (if fr.kind == .early then #[] else es)):=λhh=>eFA hms (hb.2.resolve_left hh)
     have hb0:Bal 0 (seen P fr.fn (if fr.kind == .early then #[] else #[])):=eFA sZ wF
     cases h with
     | panic v =>
       refine zB (w':=w') q1 q2 (by simp only[stepG.apply,if_true,hr];rfl) (λτ d ha=>by simp only[stepG.apply,if_true,h3 τ d ha];rfl) ?_;exact wB (λ_=>hbal id) (tC ⟨kK hf _,hc,(by simp[xE])⟩ wF)
     | goexit =>
       refine zB (w':=w') q1 q2 (by simp only[stepG.apply,if_true,hr];rfl) (λτ d ha=>by simp only[stepG.apply,if_true,h3 τ d ha];rfl) ?_;exact wB (λ_=>hbal id) (tC ⟨kK hf _,hc,(by simp[xE])⟩ wF)
     | blocked =>
       refine zB (w':=w') q1 q2 (by simp only[stepG.apply,if_true,hr];rfl) (λτ d ha=>by simp only[stepG.apply,if_true,h3 τ d ha];rfl) ?_;exact wB (λ_=>hb0) (tC ⟨hf,hc,(by simp[xE])⟩ wF)
     | waiting =>
       refine zB (w':=w') q1 q2 (by simp only[stepG.apply,if_true,hr];rfl) (λτ d ha=>by simp only[stepG.apply,if_true,h3 τ d ha];rfl) ?_;exact wB (λ_=>hb0) (tC ⟨hf,hc,(by simp[xE])⟩ wF)
     | exit x=>left;simp only[stepG.apply,if_true,hr];exact lC trivial
     | fatal m=>exact absurd hb.1 id
     | throw m =>
       refine zB (w':=w') q1 q2 (by simp only[stepG.apply,if_true,hr];rfl) (λτ d ha=>by simp only[stepG.apply,if_true,h3 τ d ha];rfl) ?_;exact wB (λ_=>hbal id) (dM hf)
     | stuck x=>left;simp only[stepG.apply,if_true,hr];exact lC trivial
     | unsupported u =>
       cases u with
       | initOrder g =>
         refine zB (w':=w') q1 q2 (by simp only[stepG.apply,if_true,hr];rfl) (λτ d ha=>by simp only[stepG.apply,if_true,h3 τ d ha];rfl) ?_;exact wB (λ_=>hb0) (rOA hf hc w')
       | _=>left;simp only[stepG.apply,if_true,hr];exact lC trivial
theorem gQ{main:Bool}{fr:Frame}{cs:List Frame}{dy:Option Dying}{v:Value}(hf:jH fr)(hc:∀ f∈cs,jH f)(w:World):Good (λw=>doReturn P main fr cs dy v w) w:=by
 refine eX ?_ λτ d=>?_
 . unfold doReturn
   cases cs with
   | nil =>
     dsimp only
     split
     . exact .inr ⟨⟨hf,by simp,(by simp[xE])⟩,wF⟩
     . exact .inl trivial
     . split
       . exact .inr ⟨⟨hf,by simp,(by simp[xE])⟩,wF⟩
       . split
         . exact .inr ⟨⟨oL _ _ _ _,by simp,(by simp[xE])⟩,wF⟩
         . exact .inl trivial
   | cons c cs =>
     have h1:=hc c (by simp);have h2:=λf hf=>hc f (Qh c hf)
     dsimp only
     split
     . exact .inr ⟨⟨sG h1 _,h2,(by simp[xE])⟩,wF⟩
     . exact .inr ⟨⟨sG h1 _,h2,(by simp[xE])⟩,wF⟩
     . exact .inr ⟨⟨h1,h2,(by simp[xE])⟩,wF⟩
     . refine .inr ⟨⟨?_,h2,(by simp[xE])⟩,wF⟩;dsimp only
       split
       . split
         . exact h1
         . exact h1
       . exact h1
 . unfold doReturn
   cases cs with
   | nil =>
     dsimp only
     split
     . rfl
     . rfl
     . split
       . rfl
       . split<;>rfl
   | cons c cs =>
     dsimp only
     split<;>rfl
variable {P : Program}
theorem aG{fn:FuncId}{es:Array Event}(hms:∀ x∈es,MS x)(hb:Bal 0 es):Bal 0 (seen P fn es):=λx=>by rw[dGA P fn hms];exact hb x
theorem yCA{c:Prop}[Decidable c]{A B:World->GStep}{w:World}(hA:Good A w)(hB:Good B w):Good (λv=>if c then A v else B v) w:=by
 by_cases h:c
 . simp only[if_pos h];exact hA
 . simp only[if_neg h];exact hB
theorem vY(T:Tame P){fr:Frame}{cs:List Frame}{dy:Option Dying}{dd:Deferred}(hf:jH fr)(hc:∀ f∈cs,jH f)(w:World):Good (λw=>callDeferred P fr cs dy dd w) w:=by
 unfold callDeferred;refine yCA (.inl trivial) ?_
 . obtain⟨r,es,hr,hms,hb,hn⟩:=oI (fV T dd.target dd.args) w;rcases hn with⟨h,w',hd,rfl⟩|⟨c,h1,h2,h3⟩
   . left
     cases h with
     | stuck x=>simp only[hr];exact lC trivial
     | unsupported u =>
       cases u with
       | noEntry x=>simp only[hr];exact lC trivial
       | _=>cases hd
     | _=>cases hd
   . cases r with
     | ok a w' =>
       have q1:w'.drawn=w.drawn+c:=h1;have q2:w'.tape=w.tape:=h2;have hbal:=aG (P:=P) (fn:=fr.fn) hms hb.2;have hN:=hb.1;have hcs:=uM hf hc;have go:Good (λv=>GStep.go { frame:=fr,callers:=cs,status:=.running,dying:=dy } v) w':=tC ⟨hf,hc,(by simp[xE])⟩ wF
       cases a with
       | enter f args =>
         refine zB (w':=w') q1 q2 (by simp only[hr];rfl) (λτ d ha=>by simp only[h3 τ d ha];rfl) ?_;exact wB (λ_=>hbal) (tC ⟨oL _ _ _ _,hcs,(by simp[xE])⟩ wF)
       | round l f t a b =>
         refine zB (w':=w') q1 q2 (by simp only[hr];rfl) (λτ d ha=>by simp only[h3 τ d ha];rfl) ?_;exact wB (λ_=>hbal) (tC ⟨sFA _ _ _ _ _ _,hcs,(by simp[xE])⟩ wF)
       | row row args =>
         obtain rfl : row = "runtime.print$piece" := hN; refine zB (w' := w') q1 q2 (by simp only [hr]; rfl) (fun τ d ha => by simp only [h3 τ d ha]; rfl) ?_; exact wB (fun _ => hbal) (tC ⟨gOA _ _ _, hcs, (by simp [xE])⟩ wF)
       | recover =>
         refine zB (w':=w') q1 q2 (by simp only[hr];rfl) (λτ d ha=>by simp only[h3 τ d ha];rfl) ?_;refine wB (λ_=>hbal) ?_
         split
         . rename_i heq;exact tC ⟨hf,bM _ _ hc heq,(by simp[xE])⟩ wF
         . exact go
       | coroswitch cc x =>
         cases x with
         | false=>exact absurd hN id
         | true =>
           refine zB (w':=w') q1 q2 (by simp only[hr];rfl) (λτ d ha=>by simp only[h3 τ d ha];rfl) ?_;exact wB (λ_=>hbal) (.inr ⟨⟨⟨hf,hc,(by simp[xE])⟩,wF⟩,0,rfl,rfl,λ_ _ _=>rfl⟩)
       | value v =>
         refine zB (w':=w') q1 q2 (by simp only[hr];rfl) (λτ d ha=>by simp only[h3 τ d ha];rfl) ?_;exact wB (λ_=>hbal) go
       | skip =>
         refine zB (w':=w') q1 q2 (by simp only[hr];rfl) (λτ d ha=>by simp only[h3 τ d ha];rfl) ?_;exact wB (λ_=>hbal) go
       | «defer» d =>
         refine zB (w':=w') q1 q2 (by simp only[hr];rfl) (λτ d ha=>by simp only[h3 τ d ha];rfl) ?_;exact wB (λ_=>hbal) go
       | spawn d =>
         refine zB (w':=w') q1 q2 (by simp only[hr];rfl) (λτ d ha=>by simp only[h3 τ d ha];rfl) ?_;exact wB (λ_=>hbal) go
       | comm a b sh =>
         refine zB (w':=w') q1 q2 (by simp only[hr];rfl) (λτ d ha=>by simp only[h3 τ d ha];rfl) ?_;exact wB (λ_=>hbal) go
       | _=>exact absurd hN id
     | halt h w' =>
       have q1:w'.drawn=w.drawn+c:=h1;have q2:w'.tape=w.tape:=h2;have hbal:¬ kX h->Bal 0 (seen P fr.fn es):=λhh=>aG hms (hb.2.resolve_left hh)
       have hb0:Bal 0 (seen P fr.fn #[]):=aG sZ wF
       cases h with
       | panic v =>
         refine zB (w':=w') q1 q2 (by simp only[hr];rfl) (λτ d ha=>by simp only[h3 τ d ha];rfl) ?_;exact wB (λ_=>hbal id) (tC ⟨kK hf _,hc,(by simp[xE])⟩ wF)
       | goexit =>
         refine zB (w':=w') q1 q2 (by simp only[hr];rfl) (λτ d ha=>by simp only[h3 τ d ha];rfl) ?_;exact wB (λ_=>hbal id) (tC ⟨kK hf _,hc,(by simp[xE])⟩ wF)
       | blocked =>
         refine zB (w':=w') q1 q2 (by simp only[hr];rfl) (λτ d ha=>by simp only[h3 τ d ha];rfl) ?_;exact wB (λ_=>hb0) (tC ⟨dU hf _,hc,(by simp[xE])⟩ wF)
       | waiting =>
         refine zB (w':=w') q1 q2 (by simp only[hr];rfl) (λτ d ha=>by simp only[h3 τ d ha];rfl) ?_;exact wB (λ_=>hb0) (tC ⟨dU hf _,hc,(by simp[xE])⟩ wF)
       | throw m =>
         refine zB (w':=w') q1 q2 (by simp only[hr];rfl) (λτ d ha=>by simp only[h3 τ d ha];rfl) ?_;exact wB (λ_=>hbal id) (dM hf)
       | fatal m=>exact absurd hb.1 id
       | exit x=>left;simp only[hr];exact lC trivial
       | stuck x=>left;simp only[hr];exact lC trivial
       | unsupported u=>left;simp only[hr];exact lC trivial
variable {P : Program}
theorem j6{α:Type}{φ:α->Prop}{s:Sem α}(hs:Safe P φ 0 s)(w:World) :
 yX (s.run P w)∨∃ c,(wOf (s.run P w)).drawn=w.drawn+c/\(wOf (s.run P w)).tape=w.tape/\∀ τ d,Agree w.tape w.drawn τ d c->s.run P (re w τ d)=reR (s.run P w) τ (d+c):=by
 obtain⟨r,es,hr,_,_,hn⟩:=oI hs w;have e:s.run P w=r:=by rw[<- Sem.runT_fst P s w #[],hr]
 rw[e];rcases hn with h|⟨c,h1,h2,h3⟩
 . exact .inl h
 . exact .inr ⟨c,h1,h2,λτ d ha=>by rw[<- Sem.runT_fst P s (re w τ d) #[],h3 τ d ha]⟩
theorem xQ{fr:Frame}{v:Value}(hf:jH fr)(w:World):Good (λw=>endPrinting P fr v w) w:=by
 unfold endPrinting;dsimp only
 split
 . exact dM hf
 . exact .inl trivial
theorem lBA(T:Tame P){main:Bool}{fr:Frame}{cs:List Frame}{dy:Option Dying}(hf:jH fr)(hc:∀ f∈cs,jH f)(w:World):Good (λw=>unwind P main fr cs dy w) w:=by
 obtain⟨fn,tmps,todo,defers,mode,kind,ro⟩:=fr
 cases defers with
 | cons d ds =>
   obtain⟨t,args⟩:=d;by_cases ht:∃ b,t = .collected b
   . obtain⟨b,rfl⟩:=ht;obtain⟨r,es,hr,hms,hb,hn⟩:=oI (φ:=λ_=>True) (fT (P:=P) b) w;rcases hn with⟨h,w',hd,rfl⟩|⟨c,h1,h2,h3⟩
     . left
       simp only[unwind,hr];exact lC trivial
     . cases r with
       | ok a w' =>
         refine zB (w':=w') (c:=c) h1 h2 (by simp only[unwind,hr];rfl) (λτ d ha=>by simp only[unwind,h3 τ d ha];rfl) ?_;exact wB (λ_=>aG hms hb.2) (tC ⟨hf,hc,(by simp[xE])⟩ wF)
       | halt h w'=>left;simp only[unwind,hr];exact lC trivial
   . have e:∀ v,unwind P main ⟨fn,tmps,todo,⟨t,args⟩::ds,mode,kind,ro⟩ cs dy v=callDeferred P ⟨fn,tmps,todo,ds,mode,kind,ro⟩ cs dy ⟨t,args⟩ v:=by
       intro v
       cases t<;>first|rfl|exact absurd ⟨_,rfl⟩ ht
     simp only[e];exact vY T (fr:=⟨fn,tmps,todo,ds,mode,kind,ro⟩) (show jH ⟨fn,tmps,todo,ds,mode,kind,ro⟩ from hf) hc w
 | nil =>
   cases mode with
   | run=>exact .inl trivial
   | panicking chain =>
     simp only[unwind];refine yCA (.inl trivial) ?_
     cases cs with
     | cons c cs=>exact tC ⟨kK (hc c (by simp)) _,λf hf=>hc f (Qh _ hf),(by simp[xE])⟩ wF
     | nil =>
       cases dy with
       | none =>
         simp only;refine yCA (tC ⟨hf,by simp,(by simp[xE])⟩ wF) ?_;rcases j6 (φ:=λ_=>True) (uEA (P:=P) chain false) w with⟨h,w',hd,hr⟩|⟨c,h1,h2,h3⟩
         . left
           simp only[hr]
           cases h with
           | stuck x=>trivial
           | unsupported u=>trivial
           | _=>cases hd
         . cases hr:(reportChain chain false).run P w with
           | ok a w' =>
             rw[hr]at h1 h2;refine zB (w':=w') (c:=c) h1 h2 (by simp only[hr];rfl) (λτ d ha=>by simp only[h3 τ d ha,hr];rfl) ?_;exact tC ⟨hf,by simp,(by simp[xE])⟩ wF
           | halt h w' =>
             left
             simp only[hr]
             cases h<;>trivial
       | some dd =>
         simp only
         split
         . exact xQ hf w
         . exact .inl trivial
   | returning =>
     simp only[unwind]
     cases hfn:P.funcs[fn]? with
     | none=>exact gQ hf hc w
     | some fnn =>
       simp only;obtain⟨r,es,hr,hms,hb,hn⟩:=oI (φ:=λ_=>True) (mOA (P:=P) fnn tmps) w;rcases hn with⟨h,w',hd,rfl⟩|⟨c,h1,h2,h3⟩
       . left
         simp only[hr];refine lC ?_
         cases h<;>first|trivial|cases hd
       . cases r with
         | ok a w' =>
           refine zB (w':=w') (c:=c) h1 h2 (by simp only[hr];rfl) (λτ d ha=>by simp only[h3 τ d ha];rfl) ?_;exact wB (λ_=>aG hms hb.2) (gQ hf hc w')
         | halt h w' =>
           left
           simp only[hr];refine lC ?_
           cases h<;>trivial
variable {P : Program}
theorem dUA{α:Type}{φ:α->Prop}{s:Sem α}{w:World}{x:Result α×Array Event}(hx:s.runT P w #[]=x)(hs:Safe P φ 0 s) :
 (∀ e∈x.2,MS e)/\BalR φ 0 x.2 x.1/\(yX x.1∨∃ c,(wOf x.1).drawn=w.drawn+c/\(wOf x.1).tape=w.tape/\∀ τ d,Agree w.tape w.drawn τ d c->s.runT P (re w τ d) #[]=(reR x.1 τ (d+c),x.2)):=by
 obtain⟨r,es,hr,hms,hb,hn⟩:=oI hs w;rw[hx]at hr;subst hr;exact⟨hms,hb,hn⟩
theorem dQA{F:World->GStep}{w:World}(hs:done (F w)∨SOk (F w))(hw:done (F w)∨∃ c,∀ τ d,Agree w.tape w.drawn τ d c->F (re w τ d)=gre (F w) τ (d+c)):Good F w:=by
 rcases hw with h|⟨c,h⟩
 . exact .inl h
 . exact kCA c hs h
section
variable {β : Type} {φ : β -> Prop} {d : Nat}
theorem e8A{f:Unit->Sem β}(h:Safe P φ (d+1) (f ())):Safe P φ d (mark .disable >>= f):=h
theorem o8A{f:Unit->Sem β}(h:Safe P φ d (f ())):Safe P φ (d+1) (mark .enable >>= f):=⟨Nat.succ_pos d,h⟩
theorem z3A{f:Program->Sem β}(h:Safe P φ d (f P)):Safe P φ d (program >>= f):=h
theorem sTA{a:Addr}{v:Value}{m:Mode}{f:Unit->Sem β}(h:Safe P φ d (f ())):Safe P φ d (store a v m >>= f):=h
theorem wTA{f:Unit->Sem β}:Safe P φ d ((Sem.halt .blocked:Sem Unit) >>= f):=⟨trivial,.inr trivial⟩
theorem r8A{x:String}{f:Unit->Sem β}:Safe P φ d ((unsupported (.noEntry x):Sem Unit) >>= f):=⟨trivial,.inr trivial⟩
theorem v8A{c:Sys}{f:SysRet->Sem β}(h0:∃ x,f .wouldBlock = .halt (.unsupported (.noEntry x)))(h:∀ r,Safe P φ d (f r)):Safe P φ d (sys c >>= f) :=
 ⟨let⟨x,hx⟩:=h0;⟨.unsupported (.noEntry x),trivial,hx⟩,h⟩
theorem i0A{f:Bool->Sem β}(h:∀ b,Safe P φ d (f b)):Safe P φ d (Extern.PrintPieces.held >>= f):=by
 show ∀ v,Safe P φ d (Sem.bind _ f)
 intro v
 cases v<;>first|exact h _|exact⟨trivial,.inr trivial⟩
end
theorem nJA{fr:Frame}{dd:Dying}{f:Fatal}(hf:jH fr)(w:World):Good (λw=>writeOn P fr dd f w) w:=by
 cases hp:f.pieces with
 | nil=>left;simp only[writeOn,hp];trivial
 | cons piece rest =>
   refine dQA ?_ ?_
   . simp only[writeOn,hp];generalize hx:Sem.runT P _ w #[]=x;have D:=dUA (φ:=λ_=>True) hx (by
       repeat' (first|(with_reducible exact Ok.pure)|(with_reducible exact gB)|(with_reducible exact wTA)|(with_reducible exact r8A)|(with_reducible refine e8A ?_)|(with_reducible refine i0A ?_)|(with_reducible refine z3A ?_)|(with_reducible refine sTA ?_)|(with_reducible refine o8A ?_)|(with_reducible refine v8A ?_ ?_)|exact⟨_,rfl⟩|intro _|split))
     obtain⟨hms,hb,_⟩:=D;obtain⟨r,es⟩:=x
     cases r with
     | ok a w'=>exact .inr ⟨⟨hf,by simp,(by simp[xE])⟩,hb.2⟩
     | halt h w'=>cases h<;>first|exact .inl trivial|exact .inr ⟨⟨hf,by simp,(by simp[xE])⟩,wF⟩
   . simp only[writeOn,hp];generalize hx:Sem.runT P _ w #[]=x;have D:=dUA (φ:=λ_=>True) hx (by
       repeat' (first|(with_reducible exact Ok.pure)|(with_reducible exact gB)|(with_reducible exact wTA)|(with_reducible exact r8A)|(with_reducible refine e8A ?_)|(with_reducible refine i0A ?_)|(with_reducible refine z3A ?_)|(with_reducible refine sTA ?_)|(with_reducible refine o8A ?_)|(with_reducible refine v8A ?_ ?_)|exact⟨_,rfl⟩|intro _|split))
     obtain⟨_,_,hn⟩:=D;rcases hn with⟨h,w',hd,hr⟩|⟨c,h1,h2,h3⟩
     . left
       obtain⟨r,es⟩:=x;simp only at hr;subst hr
       cases h<;>first|trivial|cases hd
     . right
       refine⟨c,λτ d ha=>?_⟩;rw[h3 τ d ha];obtain⟨r,es⟩:=x
       cases r with
       | ok a w'=>rfl
       | halt h w'=>cases h<;>rfl
theorem dJA(w:World)(fd:Nat)(t:ByteArray)(o:Outcome):done (endWith w fd t o):=by
 unfold endWith
 repeat' (first|trivial|split)
theorem gZA(T:Tame P){fr:Frame}{dd:Dying}(hf:jH fr)(w:World):Good (λw=>die P fr dd w) w:=by
 cases hfat:dd.fatal with
 | some f=>simp only[die,hfat];exact nJA hf w
 | none =>
   cases ht:dd.todo with
   | nil =>
     simp only[die,hfat,ht]
     cases hp:printLockHeld P w with
     | true =>
       have hp':∀ τ d,printLockHeld P (re w τ d)=true:=λ_ _=>hp
       refine eX ?_ λτ d=>?_
       . simp only[hp,if_true];exact .inr ⟨⟨hf,by simp,(by simp[xE])⟩,wF⟩
       . simp only[hp,hp',if_true];rfl
     | false =>
       left
       simp only[hp,Qs,if_false];exact dJA _ _ _ _
   | cons x rest =>
     obtain⟨v,mk⟩:=x;simp only[die,hfat,ht]
     cases hpt:panicText P false v with
     | text s=>exact tC ⟨hf,by simp,(by simp[xE])⟩ wF
     | no u=>exact .inl trivial
     | address s =>
       simp only;rcases j6 (φ:=λ_=>True) (nFA (P:=P) s) w with⟨h,w',hd,hr⟩|⟨c,h1,h2,h3⟩
       . left;simp only[hr];trivial
       . cases hr:(withAddress s).run P w with
         | ok a w' =>
           rw[hr]at h1 h2;refine zB (w':=w') (c:=c) h1 h2 (by simp only[hr];rfl) (λτ d ha=>by simp only[h3 τ d ha,hr];rfl) ?_;exact tC ⟨hf,by simp,(by simp[xE])⟩ wF
         | halt h w'=>left;simp only[hr];trivial
     | call t recv name =>
       simp only;obtain⟨r,es,hr,hms,hb,hn⟩:=oI (fV T (.fn (.method name) #[]) #[.iface t recv]) w;rcases hn with⟨h,w',hd,rfl⟩|⟨c,h1,h2,h3⟩
       . left
         simp only[hr];refine lC ?_
         cases h<;>first|trivial|cases hd
       . cases r with
         | ok a w' =>
           cases a with
           | enter f args =>
             refine zB (w':=w') (c:=c) h1 h2 (by simp only[hr];rfl) (λτ d ha=>by simp only[h3 τ d ha];rfl) ?_;exact wB (λ_=>aG hms hb.2) (tC ⟨oL _ _ _ _,by simp,(by simp[xE])⟩ wF)
           | value v =>
             cases v with
             | string s =>
               refine zB (w':=w') (c:=c) h1 h2 (by simp only[hr];rfl) (λτ d ha=>by simp only[h3 τ d ha];rfl) ?_;exact wB (λ_=>aG hms hb.2) (tC ⟨hf,by simp,(by simp[xE])⟩ wF)
             | _=>left;simp only[hr];exact lC trivial
           | _=>left;simp only[hr];exact lC trivial
         | halt h w' =>
           cases h with
           | panic v =>
             refine zB (w':=w') (c:=c) h1 h2 (by simp only[hr];rfl) (λτ d ha=>by simp only[h3 τ d ha];rfl) ?_;exact wB (λ_=>aG hms (hb.2.resolve_left id)) (xQ hf w')
           | _=>left;simp only[hr];exact lC trivial
variable {P : Program}
theorem eQA:∀(k:List Item) (id:Nat) {k':List Item},exitTo id k=some k'->∀ i∈k',i∈k:=by
 intro k
 induction k with
 | nil=>intro id k' h;cases h
 | cons a k ih =>
   intro id k' h i hi;unfold exitTo at h
   split at h
   . rename_i heq
     cases heq
     split at h
     . cases h;exact Qh _ hi
     . exact Qh _ (ih _ h i hi)
   . rename_i heq
     cases heq;exact Qh _ (ih _ h i hi)
   . rename_i heq;cases heq
theorem hYA:∀(k:List Item) (l:Nat) {k':List Item},(∀ i∈k,eP i)->gotoIn l k=some k'->∀ i∈k',eP i:=by
 intro k
 induction k with
 | nil=>intro l k' _ h;cases h
 | cons a k ih =>
   intro l k' hk h i hi;have hk2:=λj hj=>hk j (Qh a hj)
   unfold gotoIn at h
   split at h
   . rename_i body k0 heq
     cases heq
     split at h
     . cases h;rcases List.mem_cons.1 hi with rfl|hi
       . trivial
       . rcases List.mem_cons.1 hi with rfl|hi
         . trivial
         . exact hk2 i hi
     . exact ih _ hk2 h i hi
   . rename_i heq;cases heq;exact ih _ hk2 h i hi
   . rename_i heq;cases heq
theorem yR{main:Bool}{fr:Frame}{cs:List Frame}{dy:Option Dying}(jump:Option Code)(hf:jH fr)(hc:∀ f∈cs,jH f)(F:World->GStep)
    (h0:fr.roundOf=none->(∀ v,F v = .go { frame:={ fr with mode:=.returning },callers:=cs,status:=.running,dying:=dy } v)∨(∀ v,done (F v)))
    (h1:∀ l,fr.roundOf=some l->∀ v,F v=GStep.after (seen P fr.fn ((Instr.endRound l jump).runT P v #[]).2) (match ((Instr.endRound l jump).runT P v #[]).1 with
      | .ok x w=>doReturn P main fr cs dy x w
      | .halt _ w => .ended (.stuck "range over a function: no such loop" (fr.pos P)) w)) (w : World) : Good F w := by
  cases hr:fr.roundOf with
  | none =>
    rcases h0 hr with h|h
    . rw[show F=λv=>_ from funext h];exact tC ⟨hf,hc,(by simp[xE])⟩ wF
    . exact .inl (h w)
  | some l =>
    have e:=h1 l hr;obtain⟨r,es,hrun,hms,hb,hn⟩:=oI (φ:=λ_=>True) (eZ (P:=P) l jump) w;rcases hn with⟨h,w',hd,rfl⟩|⟨c,g1,g2,g3⟩
    . left;rw[e,hrun];exact lC trivial
    . cases r with
      | ok a w' =>
        refine zB (w':=w') (c:=c) g1 g2 (by rw[e,hrun]) (λτ d ha=>by rw[e,g3 τ d ha];rfl) ?_;exact wB (λ_=>aG hms hb.2) (gQ hf hc w')
      | halt h w'=>left;rw[e,hrun];exact lC trivial
theorem yUA(T:Tame P){fr:Frame}{cs:List Frame}{dy:Option Dying}(hf:jH fr)(hc:∀ f∈cs,jH f)(w:World):Good (λw=>stepG.oper P true fr cs dy w) w:=by
 unfold stepG.oper
 split
 . exact .inl trivial
 . split
   . exact mO hf hc (Ok.bind (uO _ _ _) λ_=>Ok.bind (eT _ _) λ_=>(OkN.pure (P:=P) (x:=.skip) trivial)) w
   . exact mO hf hc (jYA T _ _) w
theorem xVA(T:Tame P){main:Bool}{fr:Frame}{cs:List Frame}{dy:Option Dying}(hf:jH fr)(hc:∀ f∈cs,jH f)(w:World):Good (λw=>stepG.exec P main true fr cs dy w) w:=by
 obtain⟨fn,tmps,todo,defers,mode,kind,ro⟩:=fr;have to:∀ l:List Item,(∀ i∈l,eP i)->Good (λv=>GStep.go { frame:=⟨fn,tmps,l,defers,mode,kind,ro⟩,callers:=cs,status:=.running,dying:=dy } v) w :=
  λl hl=>tC (g:={ frame:=⟨fn,tmps,l,defers,mode,kind,ro⟩,callers:=cs,status:=.running,dying:=dy }) ⟨hl,hc,(by simp[xE])⟩ wF
 cases todo with
 | nil =>
   refine yR (P:=P) (dy:=dy) (main:=main) (fr:=⟨fn,tmps,[],defers,mode,kind,ro⟩) none hf hc _ (λh=>.inl λv=>?_) (λl h v=>?_) w
   . cases h;rfl
   . cases h;rfl
 | cons i k =>
   have hk:∀ j∈k,eP j:=λj hj=>hf j (Qh _ hj)
   have c1:∀ a:Item,eP a->∀ j∈a::k,eP j:=λa ha j hj=>by
    rcases List.mem_cons.1 hj with rfl|hj
    . exact ha
    . exact hk j hj
   have c2:∀ a b:Item,eP a->eP b->∀ j∈a::b::k,eP j:=λa b ha hb j hj=>by
    rcases List.mem_cons.1 hj with rfl|hj
    . exact ha
    . exact c1 b hb j hj
   cases i with
   | code c =>
     cases c with
     | skip=>exact to _ hk
     | label l=>exact to _ hk
     | seq a b=>exact to _ (c2 _ _ trivial trivial)
     | cond c a b =>
       simp only[stepG.exec]
       split
       . exact to _ (c1 _ trivial)
       . exact .inl trivial
     | block id b=>exact to _ (c2 _ _ trivial trivial)
     | loop b=>exact to _ (c2 _ _ trivial trivial)
     | scope b=>exact to _ (c2 _ _ trivial trivial)
     | refuse x=>exact .inl trivial
     | ret =>
       refine yR (P:=P) (dy:=dy) (main:=main) (fr:=⟨fn,tmps,.code .ret::k,defers,mode,kind,ro⟩) (some .ret) hf hc _ (λh=>.inl λv=>?_) (λl h v=>?_) w
       . cases h;rfl
       . cases h;rfl
     | exit id =>
       simp only[stepG.exec]
       cases he:exitTo id k with
       | some k'=>exact to _ λi hi=>hk i (eQA _ _ he i hi)
       | none =>
         refine yR (P:=P) (dy:=dy) (main:=main) (fr:=⟨fn,tmps,.code (.exit id)::k,defers,mode,kind,ro⟩) (some (.exit id)) hf hc _ (λh=>.inr λv=>?_) (λl h v=>?_) w
         . cases h;trivial
         . cases h;rfl
     | goto l =>
       simp only[stepG.exec]
       cases he:gotoIn l k with
       | some k'=>exact to _ (hYA _ _ hk he)
       | none =>
         refine yR (P:=P) (dy:=dy) (main:=main) (fr:=⟨fn,tmps,.code (.goto l)::k,defers,mode,kind,ro⟩) (some (.goto l)) hf hc _ (λh=>.inr λv=>?_) (λl h v=>?_) w
         . cases h;trivial
         . cases h;rfl
     | region id ops draw =>
       cases draw with
       | false=>exact to _ (c1 _ trivial)
       | true =>
         have r1:=zW (P:=P) (q:=.order fn id) rfl w;refine kCA 1 ?_ λτ d ha=>?_
         . simp only[stepG.exec,Bool.not_true,Qs,if_false,r1];exact .inr ⟨⟨c1 _ trivial,hc,(by simp[xE])⟩,wF⟩
         . have r2:=gW (P:=P) (q:=.order fn id) rfl (w:=w) (τ:=τ) (d:=d) (c:=0) (by simpa using ha);simp only[stepG.exec,Bool.not_true,Qs,if_false,r1,r2];rfl
     | rangeFunc f ps a b =>
       obtain⟨r,es,hr,hms,hb,hn⟩:=oI (φ:=λ_=>True) (uW (P:=P) fn tmps ps a b ro) w;rcases hn with⟨h,w',hd,rfl⟩|⟨c,h1,h2,h3⟩
       . left;simp only[stepG.exec,hr];exact lC trivial
       . cases r with
         | ok x w' =>
           obtain⟨l,mk⟩:=x;refine zB (w':=w') (c:=c) h1 h2 (by simp only[stepG.exec,hr];rfl) (λτ d ha=>by simp only[stepG.exec,h3 τ d ha];rfl) ?_;refine wB (λ_=>aG hms hb.2) (mO ?_ hc (Ok.bind (uO _ _ _) λ_=>fV T _ _) w');exact c1 _ trivial
         | halt h w'=>left;simp only[stepG.exec,hr];exact lC trivial
   | inBlock id=>exact to _ hk
   | inScope b=>exact to _ hk
   | inLoop b=>exact to _ (c2 _ _ trivial trivial)
   | inRegion ops l =>
     cases l with
     | nil=>exact to _ hk
     | cons j l =>
       simp only[stepG.exec]
       split
       . exact yUA T hf hc w
       . exact tC ⟨sG hf _,hc,(by simp[xE])⟩ wF
   | inRangeFunc l=>exact .inl trivial
   | endRangeFunc l =>
     obtain⟨r,es,hr,hms,hb,hn⟩:=oI (φ:=λ_=>True) (bAA (P:=P) l) w;rcases hn with⟨h,w',hd,rfl⟩|⟨c,h1,h2,h3⟩
     . left
       simp only[stepG.exec,hr];refine lC ?_
       cases h<;>first|trivial|cases hd
     . cases r with
       | ok x w' =>
         refine zB (w':=w') (c:=c) h1 h2 (by simp only[stepG.exec,hr];rfl) (λτ d ha=>by simp only[stepG.exec,h3 τ d ha];rfl) ?_;refine wB (λ_=>aG hms hb.2) (tC ⟨?_,hc,(by simp[xE])⟩ wF);intro i hi;rcases List.mem_append.1 hi with hi|hi
         . cases x with
           | none=>cases hi
           | some y =>
             simp at hi;subst hi;trivial
         . exact hk i hi
       | halt h w' =>
         cases h with
         | panic v =>
           refine zB (w':=w') (c:=c) h1 h2 (by simp only[stepG.exec,hr];rfl) (λτ d ha=>by simp only[stepG.exec,h3 τ d ha];rfl) ?_;exact wB (λ_=>aG hms (hb.2.resolve_left id)) (tC ⟨kK hf _,hc,(by simp[xE])⟩ wF)
         | _=>left;simp only[stepG.exec,hr];exact lC trivial
   | beginRound =>
     refine mO hf hc ?_ w
     cases ro with
     | none=>exact Ok.bind xA λ_=>OkN.pure (P:=P) (x:=.skip) trivial
     | some l=>exact Ok.bind (wV l) λ_=>OkN.pure (P:=P) (x:=.skip) trivial
   | call d b r s=>exact absurd (hf (.call d b r s) Qn) id
   | extern r a =>
     obtain rfl : r = "runtime.print$piece" := hf (.extern r a) List.mem_cons_self; have e : Extern.next "runtime.print$piece" = some (Extern.PrintPieces.piece #[] #[]) := by kernel_rfl
     have e2 : ∀ v, stepG.exec P main true ⟨fn, tmps, .extern "runtime.print$piece" a :: k, defers, mode, kind, ro⟩ cs dy v = stepG.apply P true ⟨fn, tmps, .extern "runtime.print$piece" a :: k, defers, mode, kind, ro⟩ cs dy (Extern.PrintPieces.piece #[] #[] a) v := by
      intro v;simp only[stepG.exec,e];rfl
     rw [show (fun w => stepG.exec P main true ⟨fn, tmps, .extern "runtime.print$piece" a :: k, defers, mode, kind, ro⟩ cs dy w) = _ from funext e2]; exact mO hf hc (lKA _ _ _) w
theorem fFA(T:Tame P){main:Bool}{g:Goroutine}(hg:GOk g)(w:World):Good (λw=>stepG P main g w) w:=by
 obtain⟨fr,cs,st,dy,off⟩:=g;obtain⟨hf,hc⟩:=hg;have hf:jH fr:=hf;have hc:∀ f∈cs,jH f:=hc;have hrest:Good (λw=>match fr.mode with|.run=>stepG.exec P main true fr cs dy w|_=>unwind P main fr cs dy w) w:=by
  cases fr.mode with
  | run=>exact xVA T hf hc w
  | returning=>exact lBA T hf hc w
  | panicking c=>exact lBA T hf hc w
 cases dy with
 | none =>
   refine cast ?_ hrest;congr 1
   funext v
   simp only[stepG]
   cases fr.mode<;>rfl
 | some d =>
   obtain⟨todo,texts,calling,pending,re0,hand,fatal⟩:=d
   cases calling with
   | false=>exact gZA T hf w
   | true =>
     refine cast ?_ hrest;congr 1
     funext v
     simp only[stepG]
     cases fr.mode<;>rfl
end Go.Lx
namespace Go.Lx
open Go.Conc
variable {P : Program}
def e6A(i:Nat)(op:MemOp):Prop:=op.g=i/\op.act.touch? = none/\op.act≠.mark .disable/\op.act≠.mark .enable
theorem d8A{gs gs2:Array Goroutine}(h1:∀ r b,partners gs r b=[])(h2:∀ r b,partners gs2 r b=[])(w:World)(c:CommCase):ways w gs c=ways w gs2 c:=by
 unfold ways;simp only[h1,h2]
theorem xOA{gs:Array Goroutine}(h1:∀ r b,partners gs r b=[])(w:World)(c:CommCase):∀ x∈ways w gs c,x = .buffer∨x = .closed∨x = .sendClosed:=by
 unfold ways;simp only[h1];intro x hx
 repeat' (first|(simp at hx;done)|(simp at hx;subst hx;simp;done)|split at hx)
structure CommTo (P:Program) (rest rest2:Rest) (gs gs2:Array Goroutine) (i:Nat) (g:Goroutine) (cases:Array CommCase) (bl:Bool) (sh:CommShape) (w:World) (m:Machine) (ops:Array MemOp) (g':Goroutine) (w':World):Prop where
 here:m={ world:=w',gs:=gs.setIfInBounds i g',rest }
 there:communicate P rest2 gs2 i g cases bl sh w=(.next { world:=w',gs:=gs2.setIfInBounds i g',rest:=rest2 },ops)
 ok:GOk g->GOk g'
 mem:∀ op∈ops,e6A i op
 win:∃ c,w'.drawn=w.drawn+c/\w'.tape=w.tape/\∀ τ d,Agree w.tape w.drawn τ d c->communicate P rest gs i g cases bl sh (re w τ d)=(.next { world:=re w' τ (d+c),gs:=gs.setIfInBounds i g',rest },ops)
theorem nU{rest:Rest}(ht:rest.timers=#[])(cases:Array CommCase)(w:World):waitingAt rest cases w=some w:=by
 unfold waitingAt timerAhead;rw[if_neg];simp[ht];intro c _
 split<;>simp
theorem r1A{α:Type}{φ:α->Prop}{s:Sem α}{w:World}{x:Result α}(hx:s.run P w=x)(hs:Safe P φ 0 s) :
 (∀ a v,x = .ok a v->φ a)/\(yX x∨∃ c,(wOf x).drawn=w.drawn+c/\(wOf x).tape=w.tape/\∀ τ d,Agree w.tape w.drawn τ d c->s.run P (re w τ d)=reR x τ (d+c)):=by
 subst hx;refine⟨λa v e=>?_,j6 hs w⟩;obtain⟨r,es,hr,_,hb,_⟩:=oI hs w;have e':s.run P w=r:=by rw[<- Sem.runT_fst P s w #[],hr]
 rw[e',]at e;subst e;exact hb.1
def iZ(x:Way):Prop:=x = .buffer∨x = .closed∨x = .sendClosed
theorem nSA{l:List Way}(h:∀ x∈l,iZ x)(b:Nat):iZ (l.getD b .closed):=by
 rw[List.getD_eq_getElem?_getD]
 cases hx:l[b]? with
 | none=>exact .inr (.inl rfl)
 | some x=>exact h x (List.mem_of_getElem? hx)
theorem mZA{α:Type}{l:List α}(a:Nat){d:α}:l.getD a d∈l∨l.getD a d=d:=by
 rw[List.getD_eq_getElem?_getD]
 cases hx:l[a]? with
 | none=>exact .inr rfl
 | some x=>exact .inl (List.mem_of_getElem? hx)
theorem dIA{rest:Rest}{gs:Array Goroutine}{i:Nat}{g:Goroutine}{cases:Array CommCase}{bl:Bool}{sh:CommShape}{w:World}{m:Machine}{ops:Array MemOp}
    (ht:rest.timers=#[]) (h1:∀ r b,partners gs r b=[]) (h:communicate P rest gs i g cases bl sh w=(.next m,ops)) :
    ∃ g' w',m={ world:=w',gs:=gs.setIfInBounds i g',rest }/\(GOk g->GOk g')/\(∀ op∈ops,e6A i op) /\
     ∃ c,w'.drawn=w.drawn+c/\w'.tape=w.tape/\∀(rest2:Rest) (gs2:Array Goroutine) τ d,rest2.timers=#[]->(∀ r b,partners gs2 r b=[])->Agree w.tape w.drawn τ d c ->
      communicate P rest2 gs2 i g cases bl sh (re w τ d)=(.next { world:=re w' τ (d+c),gs:=gs2.setIfInBounds i g',rest:=rest2 },ops):=by
  have hw:∀ gs2:Array Goroutine,(∀ r b,partners gs2 r b=[])->∀ τ d,ways (re w τ d) gs2=ways w gs:=λgs2 h2 τ d=>funext λc=>d8A h2 h1 w c
  have hfin:∀ cs sh k v ok,GOk g->GOk (g.finishComm P cs sh k v ok):=λcs sh k v ok hg=>⟨sG hg.top _,hg.below,(by simp[xE,Goroutine.finishComm])⟩
  have hhp:∀ τ d,(re w τ d).heap=w.heap:=λ_ _=>rfl
  have hL:∀ e∈(cases.zipIdx.toList.map λx=>(x.2,x.1,ways w gs x.1)).filter (λx => !x.2.2.isEmpty),∀ x∈e.2.2,iZ x:=by
   intro e he x hx;obtain⟨y,_,rfl⟩:=List.mem_map.1 (List.mem_filter.1 he).1;exact xOA h1 w _ x hx
  unfold communicate at h;dsimp only at h
  split at h
  . cases h
  . rename_i hill
    split at h
    . rename_i hemp
      cases bl with
      | true =>
        simp only[if_true,nU ht]at h
        cases h;refine⟨{ g with status:=.blocked,offers:=some (cases,sh) },w,rfl,λhg=>⟨hg.top,hg.below,(by simp[xE])⟩,by simp,0,rfl,rfl,λrest2 gs2 τ d ht2 h2 _=>?_⟩;unfold communicate;dsimp only;simp only[hhp,hw gs2 h2];rw[if_neg hill,if_pos hemp];simp only[if_true,nU ht2];rfl
      | false =>
        simp only[Qs,if_false]at h
        cases h;refine⟨_,w,rfl,hfin _ _ _ _ _,by simp,0,rfl,rfl,λrest2 gs2 τ d ht2 h2 _=>?_⟩;unfold communicate;dsimp only;simp only[hhp,hw gs2 h2];rw[if_neg hill,if_pos hemp];simp only[Qs,if_false];rfl
    . rename_i hemp;generalize hx:Sem.run P _ w=x at h;have D:=r1A (P:=P) (φ:=λy:Nat×CommCase×Way=>iZ y.2.2) hx (by
        refine Ok.bind vE λa=>?_
        refine Ok.bind vE λb=>?_
        refine⟨rfl,?_⟩;refine nSA ?_ _;intro x hx;rcases mZA a with he|he
        . exact hL _ he x hx
        . rw[he]at hx;cases hx)
      obtain⟨hpl,hn⟩:=D;rcases hn with⟨hh,w',hd,rfl⟩|⟨c,q1,q2,q3⟩
      . cases h
      . cases x with
        | halt hh w1=>cases h
        | ok y w1 =>
          obtain⟨k,c0,wy⟩:=y;have hp:=hpl _ _ rfl;have r1:w1.drawn=w.drawn+c:=q1;have r2:w1.tape=w.tape:=q2;have hh1:∀ τ d,(re w1 τ d).heap=w1.heap:=λ_ _=>rfl
          simp only at hp;rcases hp with rfl|rfl|rfl
          . -- a buffer
            simp only[h1]at h
            split at h
            . rename_i hw0;cases hw0
            . rename_i hw0;cases hw0
            . rename_i cap buf cl sent rcvd tm v heq hsend hw0
              cases h;refine⟨_,_,rfl,hfin _ _ _ _ _,?_,c,r1,r2,λrest2 gs2 τ d ht2 h2 ha=>?_⟩
              . intro op hop;simp at hop;rcases hop with rfl|rfl<;>exact⟨rfl,rfl,by simp,by simp⟩
              . unfold communicate;dsimp only;simp only[hhp,hw gs2 h2];rw[if_neg hill,if_neg hemp,q3 τ d ha];simp only[reR,hh1,heq,hw0];rfl
            . rename_i cap buf cl sent rcvd tm heq hsend hw0
              cases h;refine⟨_,_,rfl,hfin _ _ _ _ _,?_,c,r1,r2,λrest2 gs2 τ d ht2 h2 ha=>?_⟩
              . intro op hop;simp at hop;rcases hop with rfl|rfl<;>exact⟨rfl,rfl,by simp,by simp⟩
              . unfold communicate;dsimp only;simp only[hhp,hw gs2 h2];rw[if_neg hill,if_neg hemp,q3 τ d ha];simp only[reR,hh1,heq,hw0,h2];rfl
            . rename_i hw0 _;cases hw0
            . rename_i hw0 _;cases hw0
            . cases h
          . simp only at h
            cases h;refine⟨_,w1,rfl,hfin _ _ _ _ _,?_,c,r1,r2,λrest2 gs2 τ d ht2 h2 ha=>?_⟩
            . intro op hop;simp at hop;subst hop;exact⟨rfl,rfl,by simp,by simp⟩
            . unfold communicate;dsimp only;simp only[hhp,hw gs2 h2];rw[if_neg hill,if_neg hemp,q3 τ d ha];simp only[reR]
          · simp only at h; have hpanic : ∀ (v : World), ∃ x, (runtimePanic (.plain "send on closed channel") : Sem Unit).run P v = .halt (.panic x) v ∧ ∀ v', (runtimePanic (.plain "send on closed channel") : Sem Unit).run P v' = .halt (.panic x) v' := fun v => ⟨_, rfl, fun _ => rfl⟩
            obtain⟨x,e1,e2⟩:=hpanic w1;rw[e1]at h;simp only at h
            cases h;refine⟨_,w1,rfl,λhg=>⟨kK hg.top _,hg.below,hg.st⟩,by simp,c,r1,r2,λrest2 gs2 τ d ht2 h2 ha=>?_⟩;unfold communicate;dsimp only;simp only[hhp,hw gs2 h2];rw[if_neg hill,if_neg hemp,q3 τ d ha];simp only[reR];rw[e2]
variable {P : Program}
def kLA(gs:Array Goroutine):Prop:=∀(j:Nat) (x:Goroutine),0 < j->gs[j]? = some x->x.status = .running∨x.status = .finished
theorem xK{gs:Array Goroutine}(h:kLA gs)(r:Nat)(b:Bool):partners (gs.setIfInBounds 0 ph) r b=[]:=by
 refine partners_nil λj x hx=>?_
 rcases getElem?_stand gs 0 j x hx with⟨_,rfl⟩|⟨hj,hx⟩
 . rfl
 . refine offersAt_of_not_blocked ?_ _ _;rcases h j x (by omega) hx with e|e<;>rw[e]<;>simp
theorem kP{gs:Array Goroutine}{g g':Goroutine}{w':World}(h:kLA gs):(gs.map (woken P g g' w')).setIfInBounds 0 g'=gs.setIfInBounds 0 g':=by
 apply Array.ext
 . simp
 . intro j h1 h2;rcases Nat.eq_zero_or_pos j with rfl|hj
   . simp
   . have hne:0≠j:=by omega
     have h2':j < gs.size:=by simpa using h2
     rw[Array.getElem_setIfInBounds_ne _ hne,Array.getElem_setIfInBounds_ne _ hne,Array.getElem_map]
     . have hs:=h j gs[j] hj (Array.getElem?_eq_getElem h2');unfold woken
       split
       . exact again_running _ hs
       . rfl
     . simpa using h2'
structure OwnStep (P:Program) (g:Goroutine) (w:World) (g':Goroutine) (w':World):Prop where
 win:∃ c,w'.drawn=w.drawn+c/\w'.tape=w.tape/\∀ τ d,Agree w.tape w.drawn τ d c->step P (solo g (re w τ d)) = .next (solo g' (re w' τ (d+c)))
 beside:∀(gs:Array Goroutine) (sl:Option (Nat×Nat)),gs[0]? = some g->kLA gs ->
  ∃ ops,runT P (crowd gs w sl) 0=(.next (crowd (gs.setIfInBounds 0 g') w' sl),ops)/\(∀ op∈ops,op.g=0)/\∀ t:Trace,Deaf (t++ops) 0=Deaf t 0
theorem dO(g:Goroutine):kLA #[g]:=λj x hj hx=>by
 have:j=0:=by
  have:=(Qe.1 hx).1;simp at this;omega
 omega
theorem a0A{t:Trace}{ops:Array MemOp}(h:∀ op∈ops,e6A 0 op):Deaf (t++ops) 0=Deaf t 0:=by
 obtain⟨l⟩:=ops;rw[Deaf_append];have:∀(l:List MemOp) (d:Nat),(∀ op∈l,e6A 0 op)->l.foldl (deafStep 0) d=d:=by
  intro l
  induction l with
  | nil=>intro d _;rfl
  | cons x l ih =>
    intro d hl;have hx:=hl x (by simp);have e:deafStep 0 d x=d:=by
     obtain⟨_,_,h1,h2⟩:=hx;unfold deafStep
     split<;>first|rfl|(rename_i hq;rw[hq]at h1;exact absurd rfl h1)|(rename_i hq;rw[hq]at h2;exact absurd rfl h2)|skip
     all_goals (rename_i hq;first|exact absurd hq h1|exact absurd hq h2)
    simp only[List.foldl_cons,e];exact ih d λop hop=>hl op (Qh _ hop)
 exact this l _ λop hop=>h op (by simpa using hop)
theorem kY{t:Trace}{fn:FuncId}{pos:String}{es:Array Event}(h:Bal 0 es):Deaf (t++MemOp.ofEvents 0 fn pos es) 0=Deaf t 0:=by
 rw[Deaf_own];exact h _
theorem aO{g:Goroutine}{w:World}(hr:g.status = .running):step P (solo g w)=(runT P (crowd #[g] w none) 0).1:=by
 unfold step;rw[stepT_solo hr];rfl
theorem sN(g g':Goroutine):(#[g]:Array Goroutine).setIfInBounds 0 g'=#[g']:=rfl
theorem eO{gs:Array Goroutine}{g g₂:Goroutine}{w w1:World}{cc:Nat}{es:Array Event}{sl:Option (Nat×Nat)}(hgs:gs[0]? = some g)(hs:stepG P true g w = .coroswitch g₂ cc true w1 es) :
 runT P (crowd gs w sl) 0=((match w1.heap[cc]? with
   | some (.coro (some h))=>.next (crowd ((gs.setIfInBounds 0 { g₂ with status:=.finished }).modify h λo=>{ o with status:=.running }) { w1 with heap:=w1.heap.setIfInBounds cc (.coro none) } sl)
   | some (.coro none) => match endThrow g₂.frame "coroswitch on exited coro" w1 with
     | .go x v _=>.next (crowd (gs.setIfInBounds 0 x) v sl)
     | _ => .ended (.stuck "" "") w1
   | _ => .ended (.stuck "coroswitch: no coroutine" "") w1), MemOp.ofEvents 0 g.frame.fn g.frame.place es) := by
 obtain⟨hlt,rfl⟩:=Qe.1 hgs;have hsw:=swapAt_of_lt hlt { (default:Goroutine) with status:=.finished }
 show runT P { world:=w,gs:=gs,rest:={ timers:=#[],alone:=none,slice:=sl } } 0=_
 unfold runT;simp only[hsw,hs,GStep.es,beq_self_eq_true];have hset:∀ x,(gs.set 0 { (default:Goroutine) with status:=.finished } hlt).setIfInBounds 0 x=gs.setIfInBounds 0 x:=λx=>by
  simp[Array.setIfInBounds,hlt]
 cases hob:w1.heap[cc]? with
 | none=>rfl
 | some o =>
   cases o with
   | coro p =>
     cases p with
     | none=>simp only[hset,endThrow,dieOf];rfl
     | some k=>simp only[hset,if_true];rfl
   | _=>rfl
theorem z2A(T:Tame P){g:Goroutine}{w:World}{m':Machine}(hg:GOk g)(hr:g.status = .running)(h:step P (solo g w) = .next m')(hsz:m'.gs.size=1)
    (hst:∀ x,m'.gs[0]? = some x->x.status = .running):∃ g' w',m'=solo g' w'/\GOk g'/\g'.status = .running/\OwnStep P g w g' w':=by
  rw[aO hr]at h;have G:=fFA T (main:=true) hg w;have h0:(#[g]:Array Goroutine)[0]? = some g:=rfl
  cases hs:stepG P true g w with
  | go g' w' es =>
    rcases G with G|⟨hS,c,q1,q2,q3⟩
    . simp only[hs]at G;cases G
    . simp only[hs,SOk,gw]at hS q1 q2 q3;have e:=runT_crowd_go (P:=P) (sl:=none) (i:=0) h0 hs;rw[e,kP (dO g),sN]at h;simp only[Stepped.next.injEq]at h;subst h;refine⟨g',w',rfl,hS.1,hst g' rfl,⟨c,q1,q2,λτ d ha=>?_⟩,λgs sl hgs ha=>?_⟩
      . have e2:stepG P true g (re w τ d) = .go g' (re w' τ (d+c)) es:=q3 τ d ha;rw[aO hr,runT_crowd_go (P:=P) (sl:=none) (i:=0) h0 e2,kP (dO g),sN];rfl
      . exact⟨_,by rw[runT_crowd_go (P:=P) (sl:=sl) (i:=0) hgs hs,kP ha],λop hop=>by obtain⟨e,_,rfl⟩:=Conc.mem_ofEvents hop;rfl,λt=>kY hS.2⟩
  | comm g₂ cases bl sh w1 es =>
    rcases G with G|⟨hS,c,q1,q2,q3⟩
    . simp only[hs]at G;cases G
    . simp only[hs,SOk,gw]at hS q1 q2 q3;have e:=runT_crowd_comm (P:=P) (sl:=none) (i:=0) h0 hs;rw[e]at h;simp only at h;generalize hx:communicate P (crowd #[g] w none).rest ((#[g]:Array Goroutine).setIfInBounds 0 ph) 0 g₂ cases bl sh w1=x at h;obtain⟨st,ops⟩:=x;simp only at h;subst h;obtain⟨g',w',hm,hok,hops,c',r1,r2,r3⟩:=dIA (by rfl) (xK (dO g)) hx;subst hm;have hrun:g'.status = .running:=hst g' rfl;refine⟨g',w',rfl,hok hS.1,hrun,⟨c+c',by rw[r1,q1];omega,by rw[r2,q2],λτ d ha=>?_⟩,λgs sl hgs haw=>?_⟩
      . have e2:stepG P true g (re w τ d) = .comm g₂ cases bl sh (re w1 τ (d+c)) es:=q3 τ d ha.left;rw[aO hr,runT_crowd_comm (P:=P) (sl:=none) (i:=0) h0 e2];have:=r3 (crowd #[g] (re w τ d) none).rest ((#[g]:Array Goroutine).setIfInBounds 0 ph) τ (d+c) rfl (xK (dO g)) (by rw[q1,q2];exact ha.right);rw[this,Nat.add_assoc];rfl
      . have e3:=r3 (crowd gs w sl).rest (gs.setIfInBounds 0 ph) w1.tape w1.drawn rfl (xK haw) (λ_ _ _=>rfl);have e4:re w1 w1.tape w1.drawn=w1:=rfl;have e5:re w' w1.tape (w1.drawn+c')=w':=by rw[<- r1,<- r2];rfl
        rw[e4,e5]at e3;refine⟨MemOp.ofEvents 0 g.frame.fn g.frame.place es++ops,by rw[runT_crowd_comm (P:=P) (sl:=sl) (i:=0) hgs hs,e3];simp only[crowd,Array.setIfInBounds_setIfInBounds],?_,λt=>?_⟩
        . intro op hop;rcases Array.mem_append.1 hop with hop|hop
          . obtain⟨e,_,rfl⟩:=Conc.mem_ofEvents hop;rfl
          . exact(hops op hop).1
        . rw[<- Array.append_assoc,a0A hops,kY hS.2]
  | spawn g₂ child w1 es =>
    exfalso;have e:(runT P (crowd #[g] w none) 0).1 = .next { world:=w1,gs:=((#[g]:Array Goroutine).setIfInBounds 0 g₂).push child,rest:=(crowd #[g] w none).rest }:=by
     simp[runT,crowd,Array.swapAt!,hs]
    rw[e]at h;simp only[Stepped.next.injEq]at h;subst h;simp at hsz
  | coroswitch g₂ cc ex w1 es =>
    rcases G with G|⟨hS,c,q1,q2,q3⟩
    . simp only[hs]at G;cases G
    . cases ex with
      | false=>simp only[hs,SOk]at hS
      | true =>
        simp only[hs,SOk,gw]at hS q1 q2 q3;have q3':∀ τ d,Agree w.tape w.drawn τ d c->stepG P true g (re w τ d) = .coroswitch g₂ cc true (re w1 τ (d+c)) es:=q3;have e:=eO (P:=P) (sl:=none) h0 hs;rw[e]at h;simp only at h;have hops:∀ op∈MemOp.ofEvents 0 g.frame.fn g.frame.place es,op.g=0:=λop hop=>by obtain⟨e,_,rfl⟩:=Conc.mem_ofEvents hop;rfl
        cases hob:w1.heap[cc]? with
        | none=>rw[hob]at h;cases h
        | some o =>
          rw[hob]at h;have hob':∀ τ d,(re w1 τ d).heap[cc]? = some o:=λ_ _=>hob
          cases o with
          | coro p =>
            cases p with
            | none =>
              simp only[endThrow,dieOf,Stepped.next.injEq,sN]at h;subst h;refine⟨_,w1,rfl,⟨hS.1.top,by simp,(by simp[xE])⟩,rfl,⟨c,q1,q2,λτ d ha=>?_⟩,λgs sl hgs haw=>⟨_,?_,hops,λt=>kY hS.2⟩⟩
              . rw[aO hr,eO (P:=P) (sl:=none) h0 (q3' τ d ha)];simp only[hob',endThrow,dieOf,sN];rfl
              . rw[eO (P:=P) (sl:=sl) hgs hs];simp only[hob,endThrow,dieOf]
            | some k =>
              simp only[sN,Stepped.next.injEq]at h;subst h;rcases Nat.eq_zero_or_pos k with rfl|hk
              . refine⟨{ g₂ with status:=.running },{ w1 with heap:=w1.heap.setIfInBounds cc (.coro none) },rfl,⟨hS.1.top,hS.1.below,(by simp[xE])⟩,rfl,⟨c,q1,q2,λτ d ha=>?_⟩,λgs sl hgs haw=>⟨_,?_,hops,λt=>kY hS.2⟩⟩
                . rw[aO hr,eO (P:=P) (sl:=none) h0 (q3' τ d ha)];simp only[hob',sN];rfl
                . rw[eO (P:=P) (sl:=sl) hgs hs];simp only[hob];have hlt:0 < gs.size:=(Qe.1 hgs).1;congr 3
                  rw[modify_eq_set _ 0 _ { g₂ with status:=.finished } (by simp[hlt])];simp
              . have:=hst { g₂ with status:=.finished } (by
                  simp only[crowd];rw[Array.getElem?_modify];simp[show k≠0 by omega])
                cases this
          | _=>cases h
  | ended o w1 es =>
    exfalso;have e:(runT P (crowd #[g] w none) 0).1 = .ended o w1:=by simp[runT,crowd,Array.swapAt!,hs]
    rw[e]at h;cases h
  | _ =>
    exfalso;rcases G with G|⟨hS,_⟩
    . simp only[hs]at G;cases G
    . simp only[hs,SOk]at hS
variable {P : Program}
theorem kPA{x:Goroutine}{w:World}{m:Machine}(hst:xE x)(hn:x.status≠.running)(h:step P (solo x w) = .next m):m=solo x w:=by
 rcases hst with e|e|e|e
 . exact absurd e hn
 . exfalso;simp[step,stepT,move,ask,askOn,solo,runnable_eq,due,ahead,Goroutine.canRun,List.range_succ,pure,e]at h
   split at h
   . rename_i hm
     split at hm<;>cases hm
   . rename_i hm
     split at hm<;>(cases hm;cases h)
 . simp[step,stepT,move,ask,askOn,solo,runnable_eq,due,ahead,Goroutine.canRun,List.range_succ,pure,e]at h;exact h.symm
 . exfalso;simp[step,stepT,move,ask,askOn,solo,runnable_eq,due,ahead,Goroutine.canRun,List.range_succ,pure,e]at h
   split at h
   . rename_i hm
     split at hm<;>cases hm
   . rename_i hm
     split at hm<;>(cases hm;cases h)
theorem oOA{x:Goroutine}{w:World}(hst:xE x)(hn:x.status≠.running):∀(n:Nat) {m:Machine},runN P n (solo x w) = .next m->m=solo x w:=by
 intro n
 induction n with
 | zero=>intro m h;simp only[runN,Stepped.next.injEq]at h;exact h.symm
 | succ n ih =>
   intro m h;simp only[runN]at h
   cases hs:step P (solo x w) with
   | ended o v=>rw[hs]at h;cases h
   | next m' =>
     rw[hs]at h;obtain rfl:=kPA hst hn hs;exact ih h
theorem vUA(n:Nat){m m':Machine}(h:runN P n m = .next m'):m.gs.size<=m'.gs.size:=by
 have e:=runNT_fst P n m #[];generalize hx:runNT P n m #[]=x at e;obtain⟨s,t⟩:=x;simp only at e;rw[h]at e;subst e;exact runNT_size P n m m' #[] t hx
theorem rVA(T:Tame P){g:Goroutine}{w:World}{m':Machine}(hg:GOk g)(hr:g.status = .running)(h:step P (solo g w) = .next m')(hsz:m'.gs.size=1):∃ x v,m'=solo x v/\xE x:=by
 rw[aO hr]at h;have G:=fFA T (main:=true) hg w;have h0:(#[g]:Array Goroutine)[0]? = some g:=rfl
 cases hs:stepG P true g w with
 | go g' w' es =>
   rcases G with G|⟨hS,_⟩
   . simp only[hs]at G;cases G
   . simp only[hs,SOk]at hS;rw[runT_crowd_go (P:=P) (sl:=none) (i:=0) h0 hs,kP (dO g),sN]at h;simp only[Stepped.next.injEq]at h;subst h;exact⟨g',w',rfl,hS.1.st⟩
 | comm g₂ cases bl sh w1 es =>
   rcases G with G|⟨hS,_⟩
   . simp only[hs]at G;cases G
   . simp only[hs,SOk]at hS;rw[runT_crowd_comm (P:=P) (sl:=none) (i:=0) h0 hs]at h;simp only at h;generalize hx:communicate P (crowd #[g] w none).rest ((#[g]:Array Goroutine).setIfInBounds 0 ph) 0 g₂ cases bl sh w1=x at h;obtain⟨st,ops⟩:=x;simp only at h;subst h;obtain⟨g',w',hm,hok,_⟩:=dIA (by rfl) (xK (dO g)) hx;subst hm;exact⟨g',w',rfl,(hok hS.1).st⟩
 | spawn g₂ child w1 es =>
   exfalso;have e:(runT P (crowd #[g] w none) 0).1 = .next { world:=w1,gs:=((#[g]:Array Goroutine).setIfInBounds 0 g₂).push child,rest:=(crowd #[g] w none).rest }:=by
    simp[runT,crowd,Array.swapAt!,hs]
   rw[e]at h;simp only[Stepped.next.injEq]at h;subst h;simp at hsz
 | coroswitch g₂ cc ex w1 es =>
   rcases G with G|⟨hS,_⟩
   . simp only[hs]at G;cases G
   . cases ex with
     | false=>simp only[hs,SOk]at hS
     | true =>
       rw[eO (P:=P) (sl:=none) h0 hs]at h;simp only at h
       cases hob:w1.heap[cc]? with
       | none=>rw[hob]at h;cases h
       | some o =>
         rw[hob]at h
         cases o with
         | coro p =>
           cases p with
           | none =>
             simp only[endThrow,dieOf,Stepped.next.injEq,sN]at h;subst h;exact⟨_,w1,rfl,.inl rfl⟩
           | some k =>
             simp only[sN,Stepped.next.injEq]at h;subst h;rcases Nat.eq_zero_or_pos k with rfl|hk
             . exact⟨{ g₂ with status:=.running },_,rfl,.inl rfl⟩
             . refine⟨{ g₂ with status:=.finished },{ w1 with heap:=w1.heap.setIfInBounds cc (.coro none) },?_,.inr (.inr (.inr rfl))⟩;have:(#[{ g₂ with status:=GoStatus.finished }]:Array Goroutine).modify k (λo=>{ o with status:=.running })=#[{ g₂ with status:=.finished }]:=by
                apply Array.ext
                . simp
                . intro j h1 h2;have:j=0:=by simp at h2;omega
                  subst this;rw[Array.getElem_modify];simp[show k≠0 by omega]
               simp only[this];rfl
         | _=>cases h
 | ended o w1 es =>
   exfalso;have e:(runT P (crowd #[g] w none) 0).1 = .ended o w1:=by simp[runT,crowd,Array.swapAt!,hs]
   rw[e]at h;cases h
 | _ =>
   exfalso;rcases G with G|⟨hS,_⟩
   . simp only[hs]at G;cases G
   . simp only[hs,SOk]at hS
theorem qX(T:Tame P){g g1:Goroutine}{w w1:World}{n:Nat}(hg:GOk g)(hr:g.status = .running)(h1:g1.status = .running)(h:runN P (n+1) (solo g w) = .next (solo g1 w1)) :
 ∃ g' w',GOk g'/\g'.status = .running/\OwnStep P g w g' w'/\step P (solo g w) = .next (solo g' w')/\runN P n (solo g' w') = .next (solo g1 w1):=by
 simp only[runN]at h
 cases hs:step P (solo g w) with
 | ended o v=>rw[hs]at h;cases h
 | next m' =>
   rw[hs]at h;simp only at h;have hle:=vUA n h;have hge:=stepT_size P (solo g w) m' true (by unfold step at hs;exact hs);have hsz:m'.gs.size=1:=by simp[solo]at hle hge;omega
   obtain⟨x,v,rfl,hx⟩:=rVA T hg hr hs hsz;have hxr:x.status = .running:=by
    by_cases hxr:x.status = .running
    . exact hxr
    . have:=oOA hx hxr n h;simp only[solo,Machine.mk.injEq]at this;have e:g1=x:=by
       have:=this.2.1
       simpa using this
      rw[<- e];exact h1
   obtain⟨g',w',e,ho,hr',hown⟩:=z2A T hg hr hs hsz (λy hy=>by
     have:y=x:=by simpa [solo] using hy.symm
     rw[this];exact hxr)
   have e':x=g'/\v=w':=by
    simp only[solo,Machine.mk.injEq]at e;exact⟨by simpa using e.2.1,e.1⟩
   obtain⟨rfl,rfl⟩:=e';exact⟨x,v,ho,hr',hown,rfl,h⟩
variable {P : Program}
theorem y8A(w:World)(τ τ':Nat->Question->Nat)(d d':Nat):re (re w τ d) τ' d'=re w τ' d':=rfl
theorem uAB{w:World}{τ:Nat->Question->Nat}{d:Nat}(h1:w.tape=τ)(h2:w.drawn=d):re w τ d=w:=by subst h1 h2;rfl
theorem jRA(T:Tame P){g1:Goroutine}(h1:g1.status = .running):∀(n:Nat) (g:Goroutine) (w w1:World) (τ τ':Nat->Question->Nat) (d d':Nat),GOk g->g.status = .running ->
 (∀ i q,τ' (d'+i) q=τ (d+i) q)->runN P n (solo g (re w τ d)) = .next (solo g1 w1)->∃ k,runN P n (solo g (re w τ' d')) = .next (solo g1 (re w1 τ' k)):=by
 intro n
 induction n with
 | zero =>
   intro g w w1 τ τ' d d' _ _ _ h;simp only[runN,Stepped.next.injEq,solo,Machine.mk.injEq]at h;obtain⟨rfl,e,_⟩:=h;have e:g=g1:=by simpa using e
   subst e;exact⟨d',rfl⟩
 | succ n ih =>
   intro g w w1 τ τ' d d' hg hr ht h;obtain⟨g',w',hg',hr',hown,hs,hn⟩:=qX T hg hr h1 h;obtain⟨c,q1,q2,q3⟩:=hown.win;have q1:w'.drawn=d+c:=q1;have q2:w'.tape=τ:=q2;have hstep:=q3 τ' d' (λi _ q=>ht i q);rw[y8A]at hstep;obtain⟨k,hk⟩:=ih g' w' w1 τ τ' (d+c) (d'+c) hg' hr' (λi q=>by rw[Nat.add_assoc,Nat.add_assoc];exact ht (c+i) q) (by rw[uAB q2 q1];exact hn);exact⟨k,by simp only[runN,hstep];exact hk⟩
def LoneOk(P:Program)(Stop:Goroutine->World->Prop)(g:Goroutine)(w:World):Prop :=
 ∀ τ d,∃ n g1 w1,runN P n (solo g (re w τ d)) = .next (solo g1 w1)/\g1.status = .running/\Stop g1 w1
def Ends(P:Program)(Stop:Goroutine->World->Prop)(g:Goroutine)(w:World):Prop :=
 ∀ X:Goroutine->World->Prop,(∀ g w,Stop g w->X g w)->(∀ g w,g.status = .running->(∀ d,∃ g' w',OwnStep P g (w.at d) g' w'/\X g' w')->X g w)->X g w
theorem Ends.stop{Stop:Goroutine->World->Prop}{g:Goroutine}{w:World}(h:Stop g w):Ends P Stop g w:=λ_ h0 _=>h0 g w h
theorem Ends.step{Stop:Goroutine->World->Prop}{g:Goroutine}{w:World}(hr:g.status = .running)(h:∀ d,∃ g' w',OwnStep P g (w.at d) g' w'/\Ends P Stop g' w'):Ends P Stop g w :=
 λX h0 h1=>h1 g w hr λd=>let⟨g',w',a,b⟩:=h d;⟨g',w',a,b X h0 h1⟩
section
variable {Stop : Goroutine -> World -> Prop}
theorem LoneOk.next(T:Tame P)(hStop:∀ g w τ d,Stop g w->Stop g (re w τ d)){g:Goroutine}{w:World}(hg:GOk g)(hr:g.status = .running)(hns:¬ Stop g w)(h:LoneOk P Stop g w)(d:Nat) :
 ∃ g' w',GOk g'/\g'.status = .running/\OwnStep P g (w.at d) g' w'/\LoneOk P Stop g' w':=by
 obtain⟨n,g1,w1,hn,h1,hs⟩:=h w.tape d
 cases n with
 | zero =>
   exfalso;simp only[runN,Stepped.next.injEq,solo,Machine.mk.injEq]at hn;obtain⟨rfl,e,_⟩:=hn;have e:g=g1:=by simpa using e
   subst e;exact hns (hStop g (re w w.tape d) w.tape w.drawn hs)
 | succ n =>
   obtain⟨g',w',hg',hr',hown,_,_⟩:=qX T hg hr h1 hn;refine⟨g',w',hg',hr',hown,λτ' d'=>?_⟩;obtain⟨c,q1,q2,q3⟩:=hown.win
   let T0:Nat->Question->Nat:=λi q=>if i < c then w.tape (d+i) q else τ' (d'+(i - c)) q
   obtain⟨m,g2,w2,hm,h2,hs2⟩:=h T0 0;have hag:Agree w.tape d T0 0 c:=λi hi q=>by simp only[T0,Nat.zero_add,hi,if_true]
   have hstep:step P (solo g (re w T0 0)) = .next (solo g' (re w' T0 (0+c))):=q3 T0 0 hag;rw[Nat.zero_add]at hstep
   cases m with
   | zero =>
     exfalso;simp only[runN,Stepped.next.injEq,solo,Machine.mk.injEq]at hm;obtain⟨rfl,e,_⟩:=hm;have e:g=g2:=by simpa using e
     subst e;exact hns (hStop g (re w T0 0) w.tape w.drawn hs2)
   | succ m =>
     simp only[runN,hstep]at hm;obtain⟨k,hk⟩:=jRA T h2 m g' w' w2 T0 τ' c d' hg' hr' (λi q=>by
       simp only[T0];rw[if_neg (by omega),show c+i - c=i by omega]) hm
     exact⟨m,g2,_,hk,h2,hStop _ _ _ _ hs2⟩
theorem path{S:Type}{R:S->S->Prop}(h:∀ s,∃ s',R s s')(s0:S):∃ f:Nat->S,f 0=s0/\∀ n,R (f n) (f (n+1)) :=
 ⟨λn=>Nat.rec s0 (λ_ s=>Classical.choose (h s)) n,rfl,λ_=>Classical.choose_spec (h _)⟩
def rJ(C:Nat->Nat):Nat->Nat
  | 0=>0
  | n+1=>rJ C n+C n
theorem jNA(C:Nat->Nat){a b:Nat}(h:a<=b):rJ C a<=rJ C b:=by
 induction h with
 | refl=>exact Qd _
 | step _ ih=>exact Ql ih (Nat.le_add_right _ _)
open Classical in
noncomputable def splice(τ:Nat->Question->Nat)(C D:Nat->Nat):Nat->Question->Nat:=λi q =>
 if h:∃ k,rJ C k<=i/\i < rJ C (k+1) then τ (D (Classical.choose h)+(i - rJ C (Classical.choose h))) q else 0
theorem uIA(τ:Nat->Question->Nat)(C D:Nat->Nat)(k:Nat):Agree τ (D k) (splice τ C D) (rJ C k) (C k):=by
 intro i hi q;have hex:∃ k',rJ C k'<=rJ C k+i/\rJ C k+i < rJ C (k'+1):=⟨k,Nat.le_add_right _ _,by simp only[rJ];omega⟩;unfold splice;rw[dif_pos hex];have hc:=Classical.choose_spec hex;have key:∀ m,rJ C m<=rJ C k+i->rJ C k+i < rJ C (m+1)->m=k:=by
  intro m h1 h2;rcases Nat.lt_trichotomy m k with h|h|h
  . have:=jNA C (show m+1<=k from h);omega
  . exact h
  . have:=jNA C (show k+1<=m from h);simp only[rJ]at this;omega
 have hk:Classical.choose hex=k:=key _ hc.1 hc.2;rw[hk,Nat.add_sub_cancel_left]
theorem xIA(T:Tame P)(hStop:∀ g w τ d,Stop g w->Stop g (re w τ d)){g:Goroutine}{w:World}(hg:GOk g)(hr:g.status = .running)(h:LoneOk P Stop g w):Ends P Stop g w:=by
 apply Classical.byContradiction;intro hno
 let Bad:Goroutine×World->Prop:=λx=>GOk x.1/\x.1.status = .running/\LoneOk P Stop x.1 x.2/\¬ Ends P Stop x.1 x.2
 let R:{ x // Bad x }->{ x // Bad x }->Prop:=λs s'=>∃ d,OwnStep P s.1.1 (s.1.2.at d) s'.1.1 s'.1.2
 have hR:∀ s,∃ s',R s s':=by
  rintro⟨⟨a,v⟩,ha,har,hal,hae⟩;have hns:¬ Stop a v:=λhs=>hae (Ends.stop hs)
  have:∃ d,∀ g' w',OwnStep P a (v.at d) g' w'->¬ Ends P Stop g' w':=by
   apply Classical.byContradiction;intro hc;refine hae (Ends.step har λd=>?_);apply Classical.byContradiction;intro hd;exact hc ⟨d,λg' w' ho he=>hd ⟨g',w',ho,he⟩⟩
  obtain⟨d,hd⟩:=this;obtain⟨g',w',hg',hr',ho,hl⟩:=LoneOk.next T hStop ha har hns hal d;exact⟨⟨(g',w'),hg',hr',hl,hd g' w' ho⟩,d,ho⟩
 obtain⟨f,hf0,hf⟩:=path hR ⟨(g,w),hg,hr,h,hno⟩;have hw:∀ n,∃ d c,(f (n+1)).1.2.tape=(f n).1.2.tape/\∀ τ p,Agree (f n).1.2.tape d τ p c->step P (solo (f n).1.1 (re (f n).1.2 τ p)) = .next (solo (f (n+1)).1.1 (re (f (n+1)).1.2 τ (p+c))):=by
  intro n;obtain⟨d,ho⟩:=hf n;obtain⟨c,_,q2,q3⟩:=ho.win;exact⟨d,c,q2,λτ p ha=>q3 τ p ha⟩
 let D:Nat->Nat:=λn=>Classical.choose (hw n)
 let C:Nat->Nat:=λn=>Classical.choose (Classical.choose_spec (hw n))
 have hDC:∀ n,(f (n+1)).1.2.tape=(f n).1.2.tape/\∀ τ p,Agree (f n).1.2.tape (D n) τ p (C n)->step P (solo (f n).1.1 (re (f n).1.2 τ p)) = .next (solo (f (n+1)).1.1 (re (f (n+1)).1.2 τ (p+C n))) :=
  λn=>Classical.choose_spec (Classical.choose_spec (hw n))
 have htape:∀ n,(f n).1.2.tape=w.tape:=by
  intro n
  induction n with
  | zero=>rw[hf0]
  | succ n ih=>rw[(hDC n).1,ih]
 let S:=splice w.tape C D
 have hrun:∀ n,runN P n (solo g (re w S 0)) = .next (solo (f n).1.1 (re (f n).1.2 S (rJ C n))):=by
  intro n
  induction n with
  | zero=>rw[hf0];rfl
  | succ n ih =>
    have hs:=(hDC n).2 S (rJ C n) (by rw[htape n];exact uIA w.tape C D n);rw[runN_add P n 1,ih];simp only[runN,hs];rfl
 obtain⟨n,g1,w1,hn,h1,hs⟩:=h S 0;rw[hrun n]at hn;simp only[Stepped.next.injEq,solo,Machine.mk.injEq]at hn;obtain⟨e1,e2,_⟩:=hn;have e2:(f n).1.1=g1:=by simpa using e2
 have hst:Stop (f n).1.1 (re (f n).1.2 S (rJ C n)):=by rw[e1,e2];exact hs
 exact(f n).2.2.2.2 (Ends.stop (hStop (f n).1.1 (re (f n).1.2 S (rJ C n)) (f n).1.2.tape (f n).1.2.drawn hst))
end
end Go.Lx
