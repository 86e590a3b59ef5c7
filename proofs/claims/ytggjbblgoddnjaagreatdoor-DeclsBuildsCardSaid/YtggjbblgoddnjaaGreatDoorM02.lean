/- Part 2 of what the proof rests on. -/
import GoSem.ClaimLeaving
import Derived.Test.YtggjbblgoddnjaaGreatDoorM01
set_option linter.unusedSimpArgs false
set_option linter.unusedVariables false
namespace Go.Lx
open Go.RowKit
structure Ch (C:Nat→Prop) (w w':World):Prop where
 os:w'.os=w.os
 output:w'.output=w.output
 size:w.heap.size≤w'.heap.size
 block:∀ b,b < w.heap.size→¬ C b→w'.heap[b]? = w.heap[b]?
theorem Ch.refl{C:Nat→Prop}(w:World):Ch C w w:=⟨rfl,rfl,Nat.le_refl _,fun _ _ _=>rfl⟩
theorem Ch.of_under{C:Nat→Prop}{w w':World}(h:Under w w'):Ch C w w':=⟨h.os,h.output,h.size,fun b hb _=>h.low b hb⟩
theorem Ch.trans{C D:Nat→Prop}{a b c:World}(h:Ch C a b)(k:Ch D b c)(hD:∀ i,i < a.heap.size→D i→C i):Ch C a c :=
 ⟨k.os.trans h.os,k.output.trans h.output,Nat.le_trans h.size k.size,fun i hi hc=>(k.block i (Nat.lt_of_lt_of_le hi h.size) (fun hd=>hc (hD i hi hd))).trans (h.block i hi hc)⟩
theorem Ch.under{C:Nat→Prop}{a b c:World}(h:Ch C a b)(k:Under b c):Ch C a c:=h.trans (Ch.of_under (C:=fun _=>False) k) fun _ _ h=>h.elim
theorem Ch.weak{C D:Nat→Prop}{a b:World}(h:Ch C a b)(k:∀ i,i < a.heap.size→C i→D i):Ch D a b:=⟨h.os,h.output,h.size,fun i hi hc=>h.block i hi fun hd=>hc (k i hi hd)⟩
theorem Ch.set{C:Nat→Prop}{a b:World}(h:Ch C a b){g:Nat}(hg:g < a.heap.size→C g)(j:Nat)(u:Value):Ch C a (b.setCell ⟨g,j,none⟩ u) :=
 ⟨h.os,h.output,by rw[hAA];exact h.size,fun i hi hc=>(heap_set b _ u i (by show i≠g;intro e;subst e;exact hc (hg hi))).trans (h.block i hi hc)⟩
theorem Ch.turned{C:Nat→Prop}{a b c:World}(h:Ch C a b){r:Option Nat}(k:Turned r b c)(hr:∀ g,r=some g→g < a.heap.size→C g):Ch C a c :=
 ⟨k.os.trans h.os,k.output.trans h.output,Nat.le_trans h.size k.size,fun i hi hc=>(k.block i (Nat.lt_of_lt_of_le hi h.size) (fun e=>hc (hr i e.symm hi))).trans (h.block i hi hc)⟩
theorem Ch.grown{C:Nat→Prop}{a b c:World}(h:Ch C a b){r:Option Nat}(k:b.grownBy c r)(hr:∀ g,r=some g→g < a.heap.size→C g):Ch C a c :=
 ⟨k.os.trans h.os,k.output.trans h.output,Nat.le_trans h.size k.size,fun i hi hc=>(k.block i (Nat.lt_of_lt_of_le hi h.size) (fun e=>hc (hr i e.symm hi))).trans (h.block i hi hc)⟩
theorem aVA{C:Nat→Prop}{w w':World}{b:Nat}{t:TypeId}{cs:Array Value}(h:BoxAt w b t cs)(k:Ch C w w')(hc:¬ C b):BoxAt w' b t cs:=(k.block b h.lt hc).trans h
theorem qO{C:Nat→Prop}{w w':World}{base:Nat}{e:TypeId}{s n:Nat}{v:Value}{xs:List Value}(h:w.ownsRow base e s v n xs)(k:Ch C w w')(hc:∀ g,v.ownBlock=some g→¬ C g):w'.ownsRow base e s v n xs:=by
 refine⟨h.1,?_⟩;rcases h.2 with hn | ⟨g,cap,cur,rfl,hb,hgg,rest⟩
 · exact .inl hn
 · exact .inr ⟨g,cap,cur,rfl,hb,by rw[k.block g (Array.getElem?_eq_some_iff.1 hgg).1 (hc g rfl)];exact hgg,rest⟩
theorem gB{w:World}{b:Nat}{t e:TypeId}{cs:Array Value}{base s n:Nat}{v:Value}{xs:List Value}(h:BoxAt w b t cs)(k:w.ownsRow base e s v n xs)(hne:e≠t):v.ownBlock≠some b:=by
 rcases k.2 with⟨rfl,_⟩ | ⟨g,cap,cur,rfl,_,hg,_⟩
 · simp[Value.ownBlock]
 · intro e0; obtain rfl : g = b := by simpa [Value.ownBlock] using e0
   unfold BoxAt at h;rw[h]at hg
   cases hg;exact hne rfl
theorem fAA{w:World}{b:Nat}{e:TypeId}{ks:xG}{base s n:Nat}{v:Value}{xs:List Value}(h:MapAt w b ks)(k:w.ownsRow base e s v n xs):v.ownBlock≠some b:=by
 obtain⟨es,cl,hb,_⟩:=h;rcases k.2 with⟨rfl,_⟩ | ⟨g,cap,cur,rfl,_,hg,_⟩
 · simp[Value.ownBlock]
 · intro e0; obtain rfl : g = b := by simpa [Value.ownBlock] using e0
   rw[hb]at hg
   cases hg
theorem aDA{w:World}{a b:Nat}{t:TypeId}{cs:Array Value}{ks:xG}(h:BoxAt w a t cs)(k:MapAt w b ks):a≠b:=by
 rintro rfl;obtain⟨es,cl,hb,_⟩:=k;unfold BoxAt at h;rw[h]at hb
 cases hb
theorem uK{W0 w:World}{C:Nat→Prop}{w':World}(h:Under W0 w)(k:Ch C w w')(hC:∀ b,C b→W0.heap.size≤b):Under W0 w' :=
 ⟨k.os.trans h.os,k.output.trans h.output,Nat.le_trans h.size k.size,fun b hb=>(k.block b (Nat.lt_of_lt_of_le hb h.size) fun hc=>by have:=hC b hc;omega).trans (h.low b hb)⟩
end Go.Lx
namespace Go.Lx
def re(w:World)(τ:Nat→Question→Nat)(d:Nat):World:={ w with tape:=τ,drawn:=d }
def Agree(τ:Nat→Question→Nat)(d:Nat)(τ':Nat→Question→Nat)(d' c:Nat):Prop:=∀ i,i < c→∀ q,τ' (d'+i) q=τ (d+i) q
theorem Agree.head{τ τ':Nat→Question→Nat}{d d' c:Nat}(h:Agree τ d τ' d' (1+c))(q:Question):τ' d' q=τ d q:=by simpa using h 0 (by omega) q
theorem Agree.tail{τ τ':Nat→Question→Nat}{d d' c:Nat}(h:Agree τ d τ' d' (1+c)):Agree τ (d+1) τ' (d'+1) c:=fun i hi q=>by
 have:=h (1+i) (by omega) q
 rwa [← Nat.add_assoc,← Nat.add_assoc]at this
theorem Agree.left{τ τ':Nat→Question→Nat}{d d' a b:Nat}(h:Agree τ d τ' d' (a+b)):Agree τ d τ' d' a:=fun i hi q=>h i (by omega) q
theorem Agree.right{τ τ':Nat→Question→Nat}{d d' a b:Nat}(h:Agree τ d τ' d' (a+b)):Agree τ (d+a) τ' (d'+a) b:=fun i hi q=>by
 have:=h (a+i) (by omega) q
 rwa [← Nat.add_assoc,← Nat.add_assoc]at this
def reR{α:Type}(r:Result α)(τ:Nat→Question→Nat)(d:Nat):Result α :=
 match r with
 | .ok a w=>.ok a (re w τ d)
 | .halt h w=>.halt h (re w τ d)
def wOf {α : Type} : Result α → World
  | .ok _ w=>w
  | .halt _ w=>w
theorem rYA{α:Type}(a:Ask α):∀(w:World),∃ c,(w.ask a).2.drawn=w.drawn+c∧(w.ask a).2.tape=w.tape ∧
 ∀ τ d,Agree w.tape w.drawn τ d c→(re w τ d).ask a=((w.ask a).1,re (w.ask a).2 τ (d+c)):=by
 induction a with
 | done a=>exact fun w=>⟨0,rfl,rfl,fun τ d _=>rfl⟩
 | ask what range k ih =>
   intro w;by_cases hf:(Question.extern what range).forced=true
   · obtain ⟨c, h1, h2, h3⟩ := ih 0 w; refine ⟨c, ?_, ?_, fun τ d ha => ?_⟩
     · simpa only[World.ask,hf,if_true] using h1
     · simpa only[World.ask,hf,if_true] using h2
     · simpa only[World.ask,hf,if_true] using h3 τ d ha
   · simp only [Bool.not_eq_true] at hf; obtain ⟨c, h1, h2, h3⟩ := ih ((Question.extern what range).cut (w.tape w.drawn (Question.extern what range))) { w with drawn := w.drawn + 1 }; refine ⟨1 + c, ?_, ?_, fun τ d ha => ?_⟩
     · simp only[World.ask,hf,Bool.false_eq_true,if_false];rw[h1];show w.drawn+1+c=_;omega
     · simp only[World.ask,hf,Bool.false_eq_true,if_false];exact h2
     · have e:=ha.head (Question.extern what range);have:=h3 τ (d+1) ha.tail;simp only[World.ask,hf,Bool.false_eq_true,if_false];rw[show(re w τ d).tape (re w τ d).drawn (Question.extern what range)=w.tape w.drawn (Question.extern what range) from e];rw[show({ re w τ d with drawn:=(re w τ d).drawn+1 }:World)=re { w with drawn:=w.drawn+1 } τ (d+1) from rfl];rw[this,Nat.add_assoc]
theorem tYA(cl:Sys)(w:World):(w.sys cl).1 = .wouldBlock∨∃ c,(w.sys cl).2.drawn=w.drawn+c∧(w.sys cl).2.tape=w.tape ∧
 ∀ τ d,Agree w.tape w.drawn τ d c→(re w τ d).sys cl=((w.sys cl).1,re (w.sys cl).2 τ (d+c)):=by
 obtain⟨c,h1,h2,h3⟩:=rYA (Kernel.perform cl w.os) w;generalize ha:w.ask (Kernel.perform cl w.os)=x at h1 h2 h3;obtain⟨⟨r,os⟩,w'⟩:=x;by_cases hr:r = .wouldBlock
 · subst hr
   left
   simp only[World.sys,ha]
 · right
   have e:∀(v:World),v.ask (Kernel.perform cl v.os)=((r,os),w')→v.sys cl=(r,{ w' with os }):=by
    intro v hv;simp only[World.sys,hv]
   refine⟨c,?_,?_,fun τ d hag=>?_⟩
   · rw[e w ha];exact h1
   · rw[e w ha];exact h2
   · have h := h3 τ d hag; rw [e w ha]; simp only [World.sys]; rw [show (re w τ d).os = w.os from rfl, h]
     split
     · rename_i h';simp only[Prod.mk.injEq]at h';exact absurd h'.1.1 hr
     · rename_i h';simp only[Prod.mk.injEq]at h';obtain⟨⟨rfl,rfl⟩,rfl⟩:=h';rfl
def kU : Halt → Prop
  | .blocked | .waiting | .stuck _ | .unsupported _=>True
  | _=>False
def calm : Halt → Prop
  | .fatal _=>False
  | _=>True
def dead : Halt → Prop
  | .stuck _ | .unsupported (.noEntry _)=>True
  | _=>False
def Safe (P : Program) {α : Type} (φ : α → Prop) : Nat → Sem α → Prop
  | d,.pure a=>d=0∧φ a
  | d,.load _ _ k=>∀ v,Safe P φ d (k v)
  | d,.store _ _ _ k=>Safe P φ d k
  | d,.new _ k=>∀ r,Safe P φ d (k r)
  | d,.shape _ k=>∀ s,Safe P φ d (k s)
  | d,.freeze _ _ k=>Safe P φ d k
  | d,.frozen _ k=>∀ b,Safe P φ d (k b)
  | d,.getObj _ k=>∀ o,Safe P φ d (k o)
  | d,.setObj _ _ k=>Safe P φ d k
  | d,.choose _ k=>∀ n,Safe P φ d (k n)
  | d,.sys _ k=>(∃ h,dead h∧k .wouldBlock = .halt h)∧∀ r,Safe P φ d (k r)
  | d,.program k=>Safe P φ d (k P)
  | d, .mark m k => match m with
    | .disable=>Safe P φ (d+1) k
    | .enable=>0 < d∧Safe P φ (d - 1) k
    | _=>Safe P φ d k
  | d,.halt h=>calm h∧(d=0∨kU h)
def hHA(P:Program){α:Type}(s:Sem α)(w:World)(es:Array Event):Prop :=
 ∃ c,(wOf (s.runT P w es).1).drawn=w.drawn+c∧(wOf (s.runT P w es).1).tape=w.tape ∧
  ∀ τ d,Agree w.tape w.drawn τ d c→s.runT P (re w τ d) es=(reR (s.runT P w es).1 τ (d+c),(s.runT P w es).2)
def eX{α:Type}(r:Result α):Prop:=∃ h w',dead h∧r = .halt h w'
theorem aCA(P:Program)(w:World)(τ:Nat→Question→Nat)(d:Nat)(a:Addr)(b:Bool):(re w τ d).farLoad P a b=w.farLoad P a b:=rfl
theorem lGA(P:Program)(w:World)(τ:Nat→Question→Nat)(d:Nat)(at_:Addr)(u:TypeId)(a:Addr)(v:Value)(b:Bool) :
 (re w τ d).viewStore P at_ u a v b=(w.viewStore P at_ u a v b).map fun x=>(re x.1 τ d,x.2):=by
 unfold World.viewStore;rw[show(re w τ d).seen P at_ u a b=w.seen P at_ u a b from rfl];simp only[bind,Except.bind,pure,Except.pure]
 repeat' (first | rfl | split)
theorem iR(P:Program)(w:World)(τ:Nat→Question→Nat)(d:Nat)(a:Addr)(v:Value)(b:Bool) :
 (re w τ d).farStore P a v b=(w.farStore P a v b).map fun x=>(re x.1 τ d,x.2):=by
 unfold World.farStore;rw[show(re w τ d).heap=w.heap from rfl]
 cases w.heap[a.block]? with
 | none=>rfl
 | some o =>
   cases o with
   | view at_ u =>
     simp only[lGA]
     cases w.viewStore P at_ u a v b<;>rfl
   | _=>rfl
theorem uDA{P:Program}{w w':World}{a:Addr}{v:Value}{b:Bool}{t:List Addr}(h:w.farStore P a v b = .ok (w',t)):w'.drawn=w.drawn∧w'.tape=w.tape:=by
 have e:=iR P w w.tape w.drawn a v b;rw[show re w w.tape w.drawn=w from rfl,h]at e;simp only[Except.map,Except.ok.injEq,Prod.mk.injEq]at e;have:=e.1;exact⟨by rw[this];rfl,by rw[this];rfl⟩
theorem nWA{P:Program}{α:Type}{φ:α→Prop}(s:Sem α):∀(d:Nat),Safe P φ d s→∀(w:World) (es:Array Event),eX (s.runT P w es).1∨hHA P s w es:=by
 induction s with
 | pure a=>exact fun _ _ w es=>.inr ⟨0,rfl,rfl,fun τ d _=>rfl⟩
 | halt h=>exact fun _ _ w es=>.inr ⟨0,rfl,rfl,fun τ d _=>rfl⟩
 | load m a k ih =>
   intro d hs w es
   cases hc:w.cell? a with
   | some v =>
     have e:∀ τ d,(re w τ d).cell? a=some v:=fun _ _=>hc
     have:=ih v d (hs v) w (es.push ⟨.cell a,false,m == .atomic⟩)
     simpa only[hHA,Sem.runT,hc,e] using this
   | none =>
     have e:∀ τ d,(re w τ d).cell? a=none:=fun _ _=>hc
     cases hf:w.farLoad P a (m == .atomic) with
     | ok x =>
       obtain⟨v,t⟩:=x;have:=ih v d (hs v) w (es++t.toArray.map (⟨.cell ·,false,m == .atomic⟩))
       simpa only[hHA,Sem.runT,hc,e,aCA,hf] using this
     | error h =>
       right
       exact⟨0,by simp only[Sem.runT,hc,hf];rfl,by simp only[Sem.runT,hc,hf];rfl,fun τ d _=>by simp only[Sem.runT,hc,e,aCA,hf];rfl⟩
 | store m a v k ih =>
   intro d hs w es;by_cases hv:(∃ x,v = .agg x)∨∃ x,v = .tuple x
   · right
     rcases hv with⟨x,rfl⟩ | ⟨x,rfl⟩<;>exact⟨0,rfl,rfl,fun τ d _=>rfl⟩
   · have e0 : ∀ (w : World), (Sem.store m a v k).runT P w es = match w.cell? a with
         | some _ =>
           if w.frozen? a then (.halt (.unsupported (.unsafePointer "a write to bytes that a string shares")) w, es)
           else k.runT P (w.setCell a v) (es.push ⟨.cell a,true,m == .atomic⟩)
         | none => match w.farStore P a v (m == .atomic) with
           | .ok (w,touched)=>k.runT P w (es++touched.toArray.map (⟨.cell ·,true,m == .atomic⟩))
           | .error h=>(.halt h w,es):=by
       intro w
       cases v<;>first | rfl | exact absurd (.inl ⟨_,rfl⟩) hv | exact absurd (.inr ⟨_,rfl⟩) hv
     cases hc:w.cell? a with
     | some x =>
       have e:∀ τ d,(re w τ d).cell? a=some x:=fun _ _=>hc
       cases hz:w.frozen? a with
       | true =>
         have ez:∀ τ d,(re w τ d).frozen? a=true:=fun _ _=>hz
         right
         exact⟨0,by simp only[e0,hc,hz,if_true];rfl,by simp only[e0,hc,hz,if_true];rfl,fun τ d _=>by simp only[e0,hc,e,hz,ez,if_true];rfl⟩
       | false =>
         have ez:∀ τ d,(re w τ d).frozen? a=false:=fun _ _=>hz
         have:=ih d hs (w.setCell a v) (es.push ⟨.cell a,true,m == .atomic⟩);simp only[hHA,e0,hc,e,hz,ez,Bool.false_eq_true,if_false];exact this
     | none =>
       have e:∀ τ d,(re w τ d).cell? a=none:=fun _ _=>hc
       cases hf:w.farStore P a v (m == .atomic) with
       | ok x =>
         obtain⟨w',t⟩:=x;have ef:∀ τ d,(re w τ d).farStore P a v (m == .atomic) = .ok (re w' τ d,t):=fun τ d=>by rw[iR,hf];rfl
         obtain⟨q1,q2⟩:=uDA hf;have:=ih d hs w' (es++t.toArray.map (⟨.cell ·,true,m == .atomic⟩));simp only[hHA,e0,hc,e,hf,ef]at this ⊢;rw[q1,q2]at this;exact this
       | error h =>
         have ef:∀ τ d,(re w τ d).farStore P a v (m == .atomic) = .error h:=fun τ d=>by rw[iR,hf];rfl
         right
         exact⟨0,by simp only[e0,hc,hf];rfl,by simp only[e0,hc,hf];rfl,fun τ d _=>by simp only[e0,hc,e,hf,ef];rfl⟩
 | new o k ih => 
   intro d hs w es;exact ih w.heap.size d (hs _) { w with heap:=w.heap.push o } es
 | shape r k ih=>intro d hs w es;exact ih (w.shape? r) d (hs _) w es
 | freeze a n k ih => 
   intro d hs w es;have:=ih d hs (w.freeze a n) es;have e:∀ τ d,(re w τ d).freeze a n=re (w.freeze a n) τ d:=fun τ d=>by unfold World.freeze;split<;>rfl
   have e1:(w.freeze a n).drawn=w.drawn:=by unfold World.freeze;split<;>rfl
   have e2:(w.freeze a n).tape=w.tape:=by unfold World.freeze;split<;>rfl
   simp only[hHA,Sem.runT,e]at this ⊢;rw[e1,e2]at this;exact this
 | frozen a k ih=>intro d hs w es;exact ih (w.frozen? a) d (hs _) w es
 | getObj r k ih =>
   intro d hs w es
   cases hr:w.heap[r]? with
   | none =>
     have e:∀ τ d,(re w τ d).heap[r]? = none:=fun _ _=>hr
     right
     exact⟨0,by simp only[Sem.runT,hr];rfl,by simp only[Sem.runT,hr];rfl,fun τ d _=>by simp only[Sem.runT,hr,e];rfl⟩
   | some o =>
     have e:∀ τ d,(re w τ d).heap[r]? = some o:=fun _ _=>hr
     by_cases hc:∃ c e f,o = .cells c e f
     · obtain ⟨c, e', f, rfl⟩ := hc
       right
       exact⟨0,by simp only[Sem.runT,hr];rfl,by simp only[Sem.runT,hr];rfl,fun τ d _=>by simp only[Sem.runT,hr,e];rfl⟩
     · have := ih o d (hs o) w (es.push ⟨.obj r, false, o.isChan⟩); have e0 : ∀ (w : World), w.heap[r]? = some o → (Sem.getObj r k).runT P w es = (k o).runT P w (es.push ⟨.obj r, false, o.isChan⟩) := by
        intro w hw;simp only[Sem.runT,hw]
        cases o<;>first | rfl | exact absurd ⟨_,_,_,rfl⟩ hc
       simp only[hHA,e0 w hr,e0 _ (e _ _)];exact this
 | setObj r o k ih =>
   intro d hs w es
   cases hr:w.heap[r]? with
   | none =>
     have e:∀ τ d,(re w τ d).heap[r]? = none:=fun _ _=>hr
     right
     exact⟨0,by simp only[Sem.runT,hr];rfl,by simp only[Sem.runT,hr];rfl,fun τ d _=>by simp only[Sem.runT,hr,e];rfl⟩
   | some o' =>
     have e:∀ τ d,(re w τ d).heap[r]? = some o':=fun _ _=>hr
     by_cases hc:∃ c e f,o' = .cells c e f
     · obtain ⟨c, e', f, rfl⟩ := hc
       right
       exact⟨0,by simp only[Sem.runT,hr];rfl,by simp only[Sem.runT,hr];rfl,fun τ d _=>by simp only[Sem.runT,hr,e];rfl⟩
     · have := ih d hs { w with heap := w.heap.setIfInBounds r o } (es.push ⟨.obj r, true, o.isChan⟩); have e0 : ∀ (w : World), w.heap[r]? = some o' → (Sem.setObj r o k).runT P w es = k.runT P { w with heap := w.heap.setIfInBounds r o } (es.push ⟨.obj r, true, o.isChan⟩) := by
        intro w hw;simp only[Sem.runT,hw]
        cases o'<;>first | rfl | exact absurd ⟨_,_,_,rfl⟩ hc
       simp only[hHA,e0 w hr,e0 _ (e _ _)];exact this
 | choose q k ih =>
   intro d hs w es;by_cases hf:q.forced=true
   · have := ih 0 d (hs 0) w es
     simpa only[hHA,Sem.runT,hf,if_true] using this
   · simp only [Bool.not_eq_true] at hf; rcases ih (q.cut (w.tape w.drawn q)) d (hs _) { w with drawn := w.drawn + 1 } es with h | ⟨c, h1, h2, h3⟩
     · left
       simpa only[Sem.runT,hf,Bool.false_eq_true,if_false] using h
     · right
       refine⟨1+c,?_,?_,fun τ d ha=>?_⟩
       · simp only[Sem.runT,hf,Bool.false_eq_true,if_false];rw[h1];show w.drawn+1+c=_;omega
       · simp only[Sem.runT,hf,Bool.false_eq_true,if_false];exact h2
       · have e:=ha.head q;have:=h3 τ (d+1) ha.tail;simp only[Sem.runT,hf,Bool.false_eq_true,if_false];rw[show(re w τ d).tape (re w τ d).drawn q=w.tape w.drawn q from e];rw[show({ re w τ d with drawn:=(re w τ d).drawn+1 }:World)=re { w with drawn:=w.drawn+1 } τ (d+1) from rfl];rw[this,Nat.add_assoc]
 | sys c k ih =>
   intro d hs w es;obtain⟨⟨x,hd,hx⟩,hk⟩:=hs;rcases tYA c w with hb | ⟨n,h1,h2,h3⟩
   · left
     refine⟨x,(w.sys c).2,hd,?_⟩;simp only[Sem.runT];rw[hb,hx];rfl
   · rcases ih (w.sys c).1 d (hk _) (w.sys c).2 (es.push ⟨.output, true, false⟩) with h | ⟨n', g1, g2, g3⟩
     · left;simpa only[Sem.runT] using h
     · right
       refine⟨n+n',?_,?_,fun τ d ha=>?_⟩
       · simp only[Sem.runT];rw[g1,h1];omega
       · simp only[Sem.runT];rw[g2,h2]
       · simp only[Sem.runT];rw[h3 τ d ha.left];have:=g3 τ (d+n) (by rw[h1,h2];exact ha.right);rw[this,Nat.add_assoc]
 | program k ih=>intro d hs w es;exact ih P d hs w es
 | mark m k ih =>
   intro d hs w es;have:∃ d',Safe P φ d' k:=by
    cases m with
    | disable=>exact⟨_,hs⟩
    | enable=>exact⟨_,hs.2⟩
    | _=>exact⟨_,hs⟩
   obtain⟨d',h'⟩:=this;exact ih d' h' w (es.push ⟨.mark m,false,true⟩)
def bDA(d:Nat)(e:Event):Nat:=match e.loc with | .mark .disable=>d+1 | .mark .enable=>d - 1 | _=>d
theorem lI(d:Nat)(es:Array Event):deafBehind d es=es.toList.foldl bDA d:=by
 unfold deafBehind;rw[← Array.foldl_toList];rfl
theorem vE(d:Nat)(a b:Array Event):deafBehind d (a++b)=deafBehind (deafBehind d a) b:=by
 simp only[lI,Array.toList_append,List.foldl_append]
theorem fP{d:Nat}{es:Array Event}(h:∀ e∈es,∀ m,e.loc≠.mark m):deafBehind d es=d:=by
 rw[lI];obtain⟨l⟩:=es
 induction l generalizing d with
 | nil=>rfl
 | cons e l ih =>
   have h1:bDA d e=d:=by
    have:=h e (by simp);unfold bDA
    split<;>first | rfl | (rename_i hl;exact absurd hl (this _))
   simp only[List.foldl_cons,h1];exact ih fun x hx=>h x (by simp at hx ⊢;exact .inr hx)
def Bal(d:Nat)(new:Array Event):Prop:=∀ x,deafBehind (x+d) new=x
def BalR {α : Type} (φ : α → Prop) (d : Nat) (new : Array Event) : Result α → Prop
  | .ok a _=>φ a∧Bal d new
  | .halt h _=>calm h∧(kU h∨Bal d new)
theorem Bal.cons{d:Nat}{pre new:Array Event}(h:Bal d new)(hp:∀ e∈pre,∀ m,e.loc≠.mark m):Bal d (pre++new):=fun x=>by
 rw[vE,fP hp];exact h x
theorem BalR.cons{α:Type}{φ:α→Prop}{d:Nat}{pre new:Array Event}{r:Result α}(h:BalR φ d new r)(hp:∀ e∈pre,∀ m,e.loc≠.mark m):BalR φ d (pre++new) r:=by
 cases r with
 | ok a w=>exact⟨h.1,h.2.cons hp⟩
 | halt x w=>exact⟨h.1,h.2.imp id fun b=>b.cons hp⟩
theorem lM{α:Type}{φ:α→Prop}{d:Nat}{es pre:Array Event}{x:Result α×Array Event}(h:∃ new,x.2=(es++pre)++new∧BalR φ d new x.1)(hp:∀ e∈pre,∀ m,e.loc≠.mark m) :
 ∃ new,x.2=es++new∧BalR φ d new x.1:=by
 obtain⟨new,h1,h2⟩:=h;exact⟨pre++new,by rw[h1,Array.append_assoc],h2.cons hp⟩
theorem oGA{P:Program}{w:World}{a:Addr}{b:Bool}{h:Halt}(e:w.farLoad P a b = .error h):kU h:=by
 unfold World.farLoad World.noCell at e
 repeat' (split at e<;>first | (cases e;done) | (cases e;trivial) | skip)
theorem eEA{P:Program}{w:World}{a:Addr}{v:Value}{b:Bool}{h:Halt}(e:w.farStore P a v b = .error h):kU h:=by
 unfold World.farStore World.noCell at e
 repeat' (split at e<;>first | (cases e;done) | (cases e;trivial) | skip)
theorem gM(es:Array Event)(e:Event):es.push e=es++#[e]:=by simp
theorem tN{α:Type}{φ:α→Prop}{d:Nat}{es:Array Event}{h:Halt}{w:World}(hh:kU h):∃ new,(Result.halt (α:=α) h w,es).2=es++new∧BalR φ d new (Result.halt (α:=α) h w,es).1 :=
 ⟨#[],by simp,(by cases h<;>first | trivial | exact absurd hh id),.inl hh⟩
theorem pWA{P:Program}{α:Type}{φ:α→Prop}(s:Sem α):∀(d:Nat),Safe P φ d s→∀(w:World) (es:Array Event),
 ∃ new,(s.runT P w es).2=es++new∧BalR φ d new (s.runT P w es).1:=by
 induction s with
 | pure a =>
   rintro d ⟨rfl,ha⟩ w es;exact⟨#[],by simp[Sem.runT],ha,fun x=>rfl⟩
 | halt h =>
   intro d hs w es;refine⟨#[],by simp[Sem.runT],?_⟩;obtain⟨hq,hs⟩:=hs;rcases hs with rfl | hs
   · exact⟨hq,.inr fun x=>rfl⟩
   · exact⟨hq,.inl hs⟩
 | load m a k ih =>
   intro d hs w es
   cases hc:w.cell? a with
   | some v =>
     have:=ih v d (hs v) w (es.push ⟨.cell a,false,m == .atomic⟩);simp only[Sem.runT,hc];rw[gM]at this ⊢;exact lM this (by simp)
   | none =>
     cases hf:w.farLoad P a (m == .atomic) with
     | ok x =>
       obtain⟨v,t⟩:=x;have:=ih v d (hs v) w (es++t.toArray.map (⟨.cell ·,false,m == .atomic⟩));simp only[Sem.runT,hc,hf];exact lM this (by intro e he m;simp at he;obtain⟨_,_,rfl⟩:=he;simp)
     | error h =>
       simp only[Sem.runT,hc,hf];exact tN (oGA hf)
 | store m a v k ih =>
   intro d hs w es;by_cases hv:(∃ x,v = .agg x)∨∃ x,v = .tuple x
   · rcases hv with⟨x,rfl⟩ | ⟨x,rfl⟩<;>exact tN trivial
   · have e0 : ∀ (w : World), (Sem.store m a v k).runT P w es = match w.cell? a with
         | some _ =>
           if w.frozen? a then (.halt (.unsupported (.unsafePointer "a write to bytes that a string shares")) w, es)
           else k.runT P (w.setCell a v) (es.push ⟨.cell a,true,m == .atomic⟩)
         | none => match w.farStore P a v (m == .atomic) with
           | .ok (w,touched)=>k.runT P w (es++touched.toArray.map (⟨.cell ·,true,m == .atomic⟩))
           | .error h=>(.halt h w,es):=by
       intro w
       cases v<;>first | rfl | exact absurd (.inl ⟨_,rfl⟩) hv | exact absurd (.inr ⟨_,rfl⟩) hv
     rw[e0]
     cases hc:w.cell? a with
     | some x =>
       simp only
       split
       · exact tN trivial
       · have:=ih d hs (w.setCell a v) (es.push ⟨.cell a,true,m == .atomic⟩);rw[gM]at this ⊢;exact lM this (by simp)
     | none =>
       cases hf:w.farStore P a v (m == .atomic) with
       | ok x =>
         obtain⟨w',t⟩:=x;exact lM (ih d hs w' (es++t.toArray.map (⟨.cell ·,true,m == .atomic⟩))) (by intro e he m;simp at he;obtain⟨_,_,rfl⟩:=he;simp)
       | error h=>exact tN (eEA hf)
 | new o k ih=>intro d hs w es;exact ih w.heap.size d (hs _) { w with heap:=w.heap.push o } es
 | shape r k ih=>intro d hs w es;exact ih (w.shape? r) d (hs _) w es
 | freeze a n k ih=>intro d hs w es;exact ih d hs (w.freeze a n) es
 | frozen a k ih=>intro d hs w es;exact ih (w.frozen? a) d (hs _) w es
 | getObj r k ih =>
   intro d hs w es;simp only[Sem.runT]
   split
   · exact tN trivial
   · rename_i o _ _;have:=ih o d (hs o) w (es.push ⟨.obj r,false,o.isChan⟩);rw[gM]at this ⊢;exact lM this (by simp)
   · exact tN trivial
 | setObj r o k ih =>
   intro d hs w es;simp only[Sem.runT]
   split
   · exact tN trivial
   · have:=ih d hs { w with heap:=w.heap.setIfInBounds r o } (es.push ⟨.obj r,true,o.isChan⟩);rw[gM]at this ⊢;exact lM this (by simp)
   · exact tN trivial
 | choose q k ih =>
   intro d hs w es;simp only[Sem.runT]
   split
   · exact ih 0 d (hs 0) w es
   · exact ih _ d (hs _) _ es
 | sys c k ih =>
   intro d hs w es;have:=ih (w.sys c).1 d (hs.2 _) (w.sys c).2 (es.push ⟨.output,true,false⟩);simp only[Sem.runT];rw[gM]at this ⊢;exact lM this (by simp)
 | program k ih=>intro d hs w es;exact ih P d hs w es
 | mark m k ih =>
   intro d hs w es;have key:∀ d',Safe P φ d' k→(∀ x,bDA (x+d) ⟨.mark m,false,true⟩=x+d')→∃ new,((Sem.mark m k).runT P w es).2=es++new∧BalR φ d new ((Sem.mark m k).runT P w es).1:=by
    intro d' hd' hst;obtain⟨new,h1,h2⟩:=ih d' hd' w (es.push ⟨.mark m,false,true⟩);refine⟨#[⟨.mark m,false,true⟩]++new,by simp only[Sem.runT];rw[h1,gM,Array.append_assoc],?_⟩;have hb:Bal d' new→Bal d (#[⟨.mark m,false,true⟩]++new):=fun b x=>by
     rw[vE,show deafBehind (x+d) #[⟨.mark m,false,true⟩]=bDA (x+d) ⟨.mark m,false,true⟩ from by rw[lI];rfl,hst x];exact b x
    simp only[Sem.runT]
    revert h2
    cases(k.runT P w (es.push ⟨.mark m,false,true⟩)).1 with
    | ok a w=>exact fun h2=>⟨h2.1,hb h2.2⟩
    | halt h w=>exact fun h2=>⟨h2.1,h2.2.imp id hb⟩
   cases m with
   | disable=>exact key (d+1) hs fun x=>rfl
   | enable=>exact key (d - 1) hs.2 fun x=>by have:=hs.1;simp only[bDA];omega
   | _=>exact key d hs fun x=>rfl
end Go.Lx
