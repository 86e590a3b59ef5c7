/- Part 9 of what the proof rests on. -/
import Derived.Test.YtggjbblgoddnjaaGreatDoorM08
set_option linter.unusedSimpArgs false
set_option linter.unusedVariables false
namespace Go.Lx
open Go.Conc
open Go.ConcN (sumTo upd sumTo_upd upd_ne upd_same)
inductive MAct where
 | box
 | recv (v:Value)
inductive SAct where
 | box
 | send (v:Value)
def recvs : List MAct → List Value
  | []=>[]
  | .box::l=>recvs l
  | .recv v::l=>v::recvs l
def sends : List SAct → List Value
  | []=>[]
  | .box::l=>sends l
  | .send v::l=>v::sends l
structure Shared where
 P:Program
 d:Deal
 q:Nat
 T0:TypeId→Prop
 T1:TypeId→Prop
 tb:TypeId
 z:Value
 zc:Value
 zq:Value
 Fin:Goroutine→World→Prop
structure Shared.Fit (X:Shared):Prop where
 dis:∀ ty,X.T0 ty→¬ X.T1 ty
 tb0:¬ X.T0 X.tb
 tb1:¬ X.T1 X.tb
 cB:X.d.c < X.d.B
 qB:X.q < X.d.B
 cq:X.d.c≠X.q
variable (X : Shared)
def Shared.rcv:Array CommCase:=#[rcase X.d.c X.z]
def Shared.sel(v:Value):Array CommCase:=#[scase X.d.c v X.zc,rcase X.q X.zq]
def g1A(main:Bool)(T:TypeId→Prop)(K:Option Nat→Goroutine→World→Prop)(g:Goroutine)(w:World):Prop :=
 g.status = .running∧∃ g' w' es,stepG X.P main g w = .go g' w' es∧Boxes X.tb w w'∧(∀ e∈es,jU X.d T (some w.heap.size) w' e)∧K (some w.heap.size) g' w'
def AtRecv(v:Value)(K:Goroutine→World→Prop)(g:Goroutine)(w:World):Prop :=
 g.status = .running∧stepG X.P true g w = .comm g X.rcv true (.recv true) w #[]∧K (g.finishComm X.P X.rcv (.recv true) 0 v true) w
def AtEnd(g:Goroutine)(w:World):Prop :=
 g.status = .running∧stepG X.P true g w = .comm g X.rcv true (.recv true) w #[]∧X.Fin (g.finishComm X.P X.rcv (.recv true) 0 X.z false) w
def AtSend(v:Value)(K:Goroutine→World→Prop)(g:Goroutine)(w:World):Prop :=
 g.status = .running∧stepG X.P false g w = .comm g (X.sel v) true .select w #[]∧K (g.finishComm X.P (X.sel v) .select 0 undef false) w
def AtClose(g:Goroutine)(w:World):Prop :=
 g.status = .running∧mayWake X.P g=true∧∀ s r tm,w.heap[X.d.c]? = some (.chan 0 #[] false s r tm) →
  ∃ g' k,stepG X.P false g w = .go g' (w.setChan X.d.c 0 #[] true s r tm) #[⟨.obj X.d.c,false,true⟩,⟨.obj X.d.c,true,true⟩]∧QuitsD X.P k 0 g'
def StopM : List MAct → Option Nat → Goroutine → World → Prop
  | [],_=>AtEnd X
  | .recv v::l,o=>AtRecv X v fun g w=>∃ m,Goes X.P true (Rely X.d X.T0 o) (Does X.d X.T0 o) (StopM l o) m g w
  | .box::l,_=>g1A X true X.T0 fun o' g w=>∃ m,Goes X.P true (Rely X.d X.T0 o') (Does X.d X.T0 o') (StopM l o') m g w
def StopS : List SAct → Option Nat → Goroutine → World → Prop
  | [],_=>AtClose X
  | .send v::l,o=>AtSend X v fun g w=>∃ m,Goes X.P false (Rely X.d X.T1 o) (Does X.d X.T1 o) (StopS l o) m g w
  | .box::l,_=>g1A X false X.T1 fun o' g w=>∃ m,Goes X.P false (Rely X.d X.T1 o') (Does X.d X.T1 o') (StopS l o') m g w
abbrev GoM(l:List MAct)(o:Option Nat)(m:Nat):Goroutine→World→Prop:=Goes X.P true (Rely X.d X.T0 o) (Does X.d X.T0 o) (StopM X l o) m
abbrev GoS(l:List SAct)(o:Option Nat)(m:Nat):Goroutine→World→Prop:=Goes X.P false (Rely X.d X.T1 o) (Does X.d X.T1 o) (StopS X l o) m
inductive IsM (l : List MAct) (o : Option Nat) (g : Goroutine) (w : World) : Nat → Prop
  | walks {m:Nat} (h:GoM X l o m g w):IsM l o g w (m+1)
  | waits {g₀:Goroutine} (e:g=parked g₀ X.rcv (.recv true)) (h:∀ w₁,Rely X.d X.T0 o w w₁→StopM X l o g₀ w₁) (hl:∀ l',l≠.box::l'):IsM l o g w 0
inductive IsS (l : List SAct) (o : Option Nat) (g : Goroutine) (w : World) : Nat → Prop
  | walks {m:Nat} (h:GoS X l o m g w):IsS l o g w (m+1)
  | waits {g₀:Goroutine} {v:Value} {l':List SAct} (hl:l = .send v::l') (e:g=parked g₀ (X.sel v) .select) (h:∀ w₁,Rely X.d X.T1 o w w₁→StopS X l o g₀ w₁):IsS l o g w 0
def Gets(P:Program)(Stop:Goroutine→World→Prop)(gs:Array Goroutine)(w:World)(sl:Option (Nat×Nat))(t:Trace):Prop :=
 ∃(N:Nat) (gs':Array Goroutine) (g':Goroutine) (w':World) (sl':Option (Nat×Nat)) (t':Trace) (q':Nat→Nat),
  runNT P N (crowd gs w sl) t=(.next (crowd gs' w' sl'),t')∧gs'[0]? = some g'∧Stop g' w'∧Leavers P t' gs' q'∧Kn t'
theorem RunsTo.gets{P:Program}{Stop:Goroutine→World→Prop}{gs:Array Goroutine}{w:World}{sl:Option (Nat×Nat)}{t:Trace}(h:RunsTo P Stop gs w sl t):Gets P Stop gs w sl t:=by
 obtain⟨N,gs',g',w',sl',t',q',h1,_,h2,h3,h4,h5⟩:=h;exact⟨N,gs',g',w',sl',t',q',h1,h2,h3,h4,h5⟩
theorem Gets.step {P : Program} {Stop : Goroutine → World → Prop} {gs gs1 : Array Goroutine} {w w1 : World} {sl sl1 : Option (Nat × Nat)} {t u : Trace}
    (h:stepT P (crowd gs w sl)=(.next (crowd gs1 w1 sl1),u)) (hg:Gets P Stop gs1 w1 sl1 (t++u)):Gets P Stop gs w sl t:=by
  obtain⟨N,gs',g',w',sl',t',q',h1,h2,h3,h4,h5⟩:=hg;exact⟨N+1,gs',g',w',sl',t',q',by simp only[runNT,h];exact h1,h2,h3,h4,h5⟩
theorem kBA {P : Program} : ∀ (N K : Nat) (m m' : Machine) (t t' : Trace), runNT P N m t = (.next m', t') → runNT P (N + K) m t = runNT P K m' t'
  | 0, K, m, m', t, t', h => by
    simp only[runNT,Prod.mk.injEq,Stepped.next.injEq]at h;rw[Nat.zero_add,h.1,h.2]
  | N + 1, K, m, m', t, t', h => by
    rw[show N+1+K=(N+K)+1 by omega];simp only[runNT]at h ⊢;rcases e:stepT P m with⟨r,ops⟩
    rw[e]at h
    cases r with
    | next m1=>exact kBA N K _ _ _ _ h
    | _=>simp at h
theorem Gets.trans {P : Program} {S1 S2 : Goroutine → World → Prop} {gs : Array Goroutine} {w : World} {sl : Option (Nat × Nat)} {t : Trace} (h : Gets P S1 gs w sl t)
    (h2:∀ gs' g' w' sl' t' q',gs'[0]? = some g'→S1 g' w'→Leavers P t' gs' q'→Kn t'→Gets P S2 gs' w' sl' t'):Gets P S2 gs w sl t:=by
  obtain⟨N,gs',g',w',sl',t',q',e,h0,hS,hL,hK⟩:=h;obtain⟨N2,gs2,g2,w2,sl2,t2,q2,e2,h02,hS2,hL2,hK2⟩:=h2 gs' g' w' sl' t' q' h0 hS hL hK;exact⟨N+N2,gs2,g2,w2,sl2,t2,q2,by rw[kBA N N2 _ _ _ _ e];exact e2,h02,hS2,hL2,hK2⟩
open Go.ConcN (sumTo upd sumTo_upd upd_ne upd_same)
variable {X : Shared}
structure Inv (X:Shared) (n top:Nat) (cl:Bool) (gs:Array Goroutine) (w:World) (t:Trace) (qs:Nat→Nat) (M S:Nat→Prop) (o0 o1:Option Nat):Prop where
 pos:0 < n
 size:gs.size=n+1
 topl:top≤n+1
 old:∀ j x,0 < j→j < top→gs[j]? = some x→QuitsD X.P (qs j) (Deaf t j) x
 above:∀ j,n < j→Deaf t j=0
 pair:Pair 0 n X.d.B M S t
 hears0:Deaf t 0=0
 hearsN:cl=false→Deaf t n=0
 split:Split X.d X.T0 X.T1 w.heap M S o0 o1
 quit:∃ s r tm,w.heap[X.q]? = some (.chan 0 #[] false s r tm)
 chan:∃ s r tm,w.heap[X.d.c]? = some (.chan 0 #[] cl s r tm)
variable {n top : Nat} {cl : Bool} {gs : Array Goroutine} {w w' : World} {t u : Trace} {qs : Nat → Nat} {M S : Nat → Prop} {o0 o1 o0' o1' : Option Nat}
theorem Inv.at(h:Inv X n top cl gs w t qs M S o0 o1)(e:Nat):Inv X n top cl gs (w.at e) t qs M S o0 o1 :=
 ⟨h.pos,h.size,h.topl,h.old,h.above,h.pair,h.hears0,h.hearsN,h.split,h.quit,h.chan⟩
theorem kOA{f:Goroutine→Goroutine}{i:Nat}{y:Goroutine}(h:∀ j x,j≠i→gs[j]? = some x→f x=x):(gs.map f).setIfInBounds i y=gs.setIfInBounds i y:=by
 apply Array.ext_getElem?;intro j;by_cases hj:i=j
 · subst hj; by_cases hlt : i < gs.size
   · rw[Array.getElem?_setIfInBounds_self_of_lt (by simpa using hlt),Array.getElem?_setIfInBounds_self_of_lt hlt]
   · rw[Array.getElem?_eq_none (by simpa using hlt),Array.getElem?_eq_none (by simpa using hlt)]
 · rw [Array.getElem?_setIfInBounds_ne hj, Array.getElem?_setIfInBounds_ne hj, Array.getElem?_map]
   cases e:gs[j]? with
   | none=>rfl
   | some x=>simp[h j x (fun e=>hj e.symm) e]
theorem Split.low(s:Split X.d X.T0 X.T1 w.heap M S o0 o1)(hM:∀ b,M b→X.d.B≤b)(h:Turn X.d X.T0 o0 w w'){b:Nat}(hb:b < X.d.B):w'.heap[b]? = w.heap[b]? := by
 refine h.rest b (Nat.lt_of_lt_of_le hb s.bsize) fun ho=>?_
 have:=hM b (s.mine ho);omega
theorem Inv.step0 (F : X.Fit) (h : Inv X n top cl gs w t qs M S o0 o1) (hlow : ∀ b, b < X.d.B → w'.heap[b]? = w.heap[b]?) (hs : Split X.d X.T0 X.T1 w'.heap (More M w w') S o0' o1)
    {es:Array Event} (hev:∀ e∈es,jU X.d X.T0 o0' w' e) (fn:FuncId) (pos:String) (g':Goroutine) :
    Inv X n top cl (gs.setIfInBounds 0 g') w' (t++MemOp.ofEvents 0 fn pos es) qs (More M w w') S o0' o1:=by
  have hu:∀ op∈MemOp.ofEvents 0 fn pos es,op.g=0:=fun op hop=>by obtain⟨e,_,rfl⟩:=Conc.mem_ofEvents hop;rfl
  have hd0:Deaf (t++MemOp.ofEvents 0 fn pos es) 0=0:=by
   rw[Deaf_own,deafBehind_still (fun e he=>(hev e he).2)];exact h.hears0
  refine⟨h.pos,by simpa using h.size,h.topl,fun j x hj hjt hx=>?_,fun j hj=>?_,?_,hd0,fun hc=>(Deaf_other t (Nat.ne_of_lt h.pos) _ hu).trans (h.hearsN hc),hs,?_,?_⟩
  · rw[Array.getElem?_setIfInBounds_ne (by omega)]at hx;rw[Deaf_other t (by omega) _ hu];exact h.old j x hj hjt hx
  · rw[Deaf_other t (g':=0) (by omega) _ hu];exact h.above j hj
  · refine h.pair.app hu (fun op hop x hx hm=>?_) (fun b hb=>.inl hb) (bBA h.split h.pair.apart) (kFA h.split h.pair.highM);obtain⟨e,he,rfl⟩:=Conc.mem_ofEvents hop;exact iCA hs (hev e he) x hx hm
  · rw[hlow _ F.qB];exact h.quit
  · rw[hlow _ F.cB];exact h.chan
theorem Inv.stepN (F : X.Fit) (h : Inv X n n cl gs w t qs M S o0 o1) (hlow : ∀ b, b < X.d.B → w'.heap[b]? = w.heap[b]?) (hs : Split X.d X.T1 X.T0 w'.heap (More S w w') M o1' o0)
    {es:Array Event} (hev:∀ e∈es,jU X.d X.T1 o1' w' e) (fn:FuncId) (pos:String) (g':Goroutine) :
    Inv X n n cl (gs.setIfInBounds n g') w' (t++MemOp.ofEvents n fn pos es) qs M (More S w w') o0 o1':=by
  have hu:∀ op∈MemOp.ofEvents n fn pos es,op.g=n:=fun op hop=>by obtain⟨e,_,rfl⟩:=Conc.mem_ofEvents hop;rfl
  have hd0:cl=false→Deaf (t++MemOp.ofEvents n fn pos es) n=0:=fun hc=>by
   rw[Deaf_own,deafBehind_still (fun e he=>(hev e he).2)];exact h.hearsN hc
  have hp:=h.pos;refine⟨h.pos,by simpa using h.size,h.topl,fun j x hj hjt hx=>?_,fun j hj=>?_,?_,(Deaf_other t (by omega) _ hu).trans h.hears0,hd0,hs.symm,?_,?_⟩
  · rw[Array.getElem?_setIfInBounds_ne (by omega)]at hx;rw[Deaf_other t (by omega) _ hu];exact h.old j x hj hjt hx
  · rw[Deaf_other t (g':=n) (by omega) _ hu];exact h.above j hj
  · refine(h.pair.symm.app hu (fun op hop x hx hm=>?_) (fun b hb=>.inl hb) (bBA h.split.symm h.pair.symm.apart) (kFA h.split.symm h.pair.symm.highM)).symm;obtain⟨e,he,rfl⟩:=Conc.mem_ofEvents hop;exact iCA hs (hev e he) x hx hm
  · rw[hlow _ F.qB];exact h.quit
  · rw[hlow _ F.cB];exact h.chan
theorem Inv.slip (h : Inv X n top cl gs w t qs M S o0 o1) {i k : Nat} {g' : Goroutine} {es : Array Event} (hi0 : 0 < i) (hit : i < top) (hm : ∀ e ∈ es, Event.mute e = true)
    (hnt:i=n→cl=true)
    (hq:QuitsD X.P k (deafBehind (Deaf t i) es) g') (fn:FuncId) (pos:String) :
    Inv X n top cl (gs.setIfInBounds i g') w (t++MemOp.ofEvents i fn pos es) (upd qs i k) M S o0 o1:=by
  have hu:∀ op∈MemOp.ofEvents i fn pos es,op.g=i:=fun op hop=>by obtain⟨e,_,rfl⟩:=Conc.mem_ofEvents hop;rfl
  have hn:∀ op∈MemOp.ofEvents i fn pos es,op.act.touch? = none:=fun op hop=>by obtain⟨e,he,rfl⟩:=Conc.mem_ofEvents hop;exact touch_mute (hm e he)
  have hil:i < gs.size:=by have:=h.size;have:=h.topl;omega
  refine⟨h.pos,by simpa using h.size,h.topl,fun j y hj hjt hy=>?_,fun j hj=>?_,h.pair.dull hn,(Deaf_other t (by omega) _ hu).trans h.hears0,fun hc=>?_,h.split,h.quit,h.chan⟩
  · by_cases hji : i = j
    · subst hji;rw[Array.getElem?_setIfInBounds_self_of_lt hil]at hy;obtain rfl:=Option.some.inj hy;rw[upd_same,Deaf_own];exact hq
    · rw[Array.getElem?_setIfInBounds_ne hji]at hy;rw[upd_ne qs k (Ne.symm hji),Deaf_other t hji _ hu];exact h.old j y hj hjt hy
  · have:=h.topl;rw[Deaf_other t (g':=i) (by omega) _ hu];exact h.above j hj
  · by_cases hin : i = n
    · rw[hnt hin]at hc;cases hc
    · exact(Deaf_other t hin _ hu).trans (h.hearsN hc)
theorem wG{P:Program}{i:Nat}{g g':Goroutine}(hst:∀ j x,j≠i→gs[j]? = some x→x.status = .running∨x.status = .finished∨x.again w'=x) :
 (gs.map (woken P g g' w')).setIfInBounds i g'=gs.setIfInBounds i g':=by
 refine kOA fun j x hj hx=>?_
 unfold woken
 split
 · rcases hst j x hj hx with h | h | h
   · exact again_running _ (.inl h)
   · exact again_running _ (.inr h)
   · exact h
 · rfl
open Go.ConcN (sumTo upd sumTo_upd upd_ne upd_same)
variable {X : Shared} {n top : Nat} {cl : Bool} {gs : Array Goroutine} {w w' : World} {t u : Trace} {qs : Nat → Nat} {M S : Nat → Prop} {o0 o1 o0' o1' : Option Nat}
theorem gN{P:Program}{main:Bool}{R:World→World→Prop}{D:World→World→Array Event→Prop}{Stop:Goroutine→World→Prop}{m:Nat}{g:Goroutine}{w:World}(h:Goes P main R D Stop m g w) :
 (∀ w₁,R w w₁→Stop g w₁)∨∃ m',m=m'+1∧g.status = .running∧∀ w₁,R w w₁→∃ g' w' es,stepG P main g w₁ = .go g' w' es∧D w₁ w' es∧Goes P main R D Stop m' g' w':=by
 cases m with
 | zero=>exact .inl h
 | succ m =>
   rcases h with h | ⟨hs,h⟩
   · exact .inl h
   · refine .inr ⟨m, rfl, hs, fun w₁ h₁ => ?_⟩; have := h w₁ h₁
     revert this
     cases stepG P main g w₁<;>simp only[GStep.goes,false_implies];rename_i g' w' es;exact fun⟨a,b⟩=>⟨g',w',es,rfl,a,b⟩
theorem StopM.running{l:List MAct}{o:Option Nat}{g:Goroutine}{w:World}(h:StopM X l o g w):g.status = .running:=by
 cases l with
 | nil=>exact h.1
 | cons a l=>cases a<;>exact h.1
theorem StopS.running{l:List SAct}{o:Option Nat}{g:Goroutine}{w:World}(h:StopS X l o g w):g.status = .running:=by
 cases l with
 | nil=>exact h.1
 | cons a l=>cases a<;>exact h.1
theorem GoM.running{l:List MAct}{o:Option Nat}{m:Nat}{g:Goroutine}{w:World}(h:GoM X l o m g w):g.status = .running :=
 (gN h).elim (fun h=>(h w (Rely.refl w)).running) fun⟨_,_,h,_⟩=>h
theorem GoS.running{l:List SAct}{o:Option Nat}{m:Nat}{g:Goroutine}{w:World}(h:GoS X l o m g w):g.status = .running :=
 (gN h).elim (fun h=>(h w (Rely.refl w)).running) fun⟨_,_,h,_⟩=>h
theorem jQ{i k m:Nat}(hlt:i < m)(hq:qs i=k+1):sumTo m (upd qs i k) < sumTo m qs:=by
 have h:sumTo m (upd qs i k)+(k+1)=sumTo m qs+k:=by
  have:=sumTo_upd qs k id hlt
  simpa [hq] using this
 omega
theorem n4A{Q:Nat→Nat→Nat→Prop}(h:∀ A K L,(∀ A' K' L',(A' < A∨(A'=A∧(K' < K∨(K'=K∧L' < L))))→Q A' K' L')→Q A K L):∀ A K L,Q A K L:=by
 intro A
 induction A using Nat.strongRecOn with
 | ind A ihA =>
 intro K
 induction K using Nat.strongRecOn with
 | ind K ihK =>
 intro L
 induction L using Nat.strongRecOn with
 | ind L ihL =>
 refine h A K L fun A' K' L' hlt=>?_
 rcases hlt with h | ⟨rfl,h | ⟨rfl,h⟩⟩
 · exact ihA A' h K' L'
 · exact ihK K' h L'
 · exact ihL L' h
theorem aO{P:Program}{k e r:Nat}{x:Goroutine}{send:Bool}(h:QuitsD P k e x):offersAt x r send=[] :=
 offersAt_of_not_blocked (by rcases h.status with h | h<;>rw[h]<;>simp) r send
inductive IsB (X : Shared) (l : List MAct) (o : Option Nat) (g : Goroutine) (w : World) : Nat → Prop
  | walks {m:Nat} (h:GoM X l o m g w):IsB X l o g w (m+1)
  | woken {g₀:Goroutine} (hl:l=[]) (e:g={ parked g₀ X.rcv (.recv true) with status:=.running }) (h:∀ w₁,Rely X.d X.T0 o w w₁→AtEnd X g₀ w₁):IsB X l o g w 0
theorem IsB.running{l:List MAct}{o:Option Nat}{m:Nat}{g:Goroutine}{w:World}(h:IsB X l o g w m):g.status = .running:=by
 cases h with
 | walks h=>exact GoM.running h
 | woken _ e _=>rw[e]
theorem IsB.rely{l:List MAct}{o:Option Nat}{m:Nat}{g:Goroutine}{w w₁:World}(h:IsB X l o g w m)(r:Rely X.d X.T0 o w w₁):IsB X l o g w₁ m:=by
 cases h with
 | walks h=>exact .walks (Goes.rely (R:=Rely X.d X.T0 o) (fun _ _ _ a b=>a.trans b) h r)
 | woken hl e h=>exact .woken hl e fun w₂ h₂=>h w₂ (r.trans h₂)
theorem kZ {g g₀ : Goroutine} {p : Nat} {sl : Option (Nat × Nat)} (hI : Inv X n (n + 1) true gs w t qs M S o0 o1) (hS : Shut n X.d.c p t) (h0 : gs[0]? = some g)
    (hst:stepG X.P true g w = .comm g₀ X.rcv true (.recv true) w #[]) (hFin:X.Fin (g₀.finishComm X.P X.rcv (.recv true) 0 X.z false) w) {sl0:Option (Nat×Nat)} {w0:World}
    (hstep:stepT X.P (crowd gs w0 sl0)=runT X.P (crowd gs w sl) 0):Gets X.P X.Fin gs w0 sl0 t:=by
  obtain⟨s,r,tm,hc⟩:=hI.chan;have hp:partners (gs.setIfInBounds 0 ph) X.d.c true=[]:=by
   refine partners_nil fun j x hj=>?_
   rcases getElem?_stand gs 0 j x hj with⟨_,rfl⟩ | ⟨hj0,hx⟩
   · rfl
   · have hjl:=(Array.getElem?_eq_some_iff.1 hx).1;have:=hI.size;exact aO (hI.old j x (by omega) (by omega) hx)
  have hrun:=crowd_recv_closed (P:=X.P) (sl:=sl) (i:=0) h0 (show stepG X.P (0==0) g w=_ from hst) hc hp;rw[hrun]at hstep;refine Gets.step hstep ?_;have h0l:0 < gs.size:=(Array.getElem?_eq_some_iff.1 h0).1;have hev:(MemOp.ofEvents 0 g.frame.fn g.frame.place #[])=#[]:=rfl;rw[hev,Array.empty_append];have hu:∀ op∈(#[{ g:=0,fn:=g₀.frame.fn,pos:=g₀.frame.place,act:=.recvClosed X.d.c }]:Array MemOp),op.g=0:=by simp
  refine⟨0,_,_,_,_,_,qs,rfl,by simp[h0l];rfl,hFin,⟨fun j x hj hx=>?_,fun j hj=>?_⟩,dVA hI.pair hI.hears0 hS⟩
  · rw[Array.getElem?_setIfInBounds_ne (by omega)]at hx;rw[Deaf_other t (by omega) _ hu];have hjl:=(Array.getElem?_eq_some_iff.1 hx).1;have:=hI.size;exact hI.old j x hj (by omega) hx
  · have := hI.size; have hj' : gs.size ≤ j := by simpa using hj
    rw[Deaf_other t (g:=j) (g':=0) (by omega) _ hu];exact hI.above j (by omega)
theorem qP{g:Goroutine}(hI:Inv X n (n+1) cl gs w t qs M S o0 o1)(h0:gs[0]? = some g)(hr:g.status = .running):∀(i j:Nat) (x:Goroutine),j≠i→gs[j]? = some x→x.status = .running∨x.status = .finished∨x.again w'=x:=by
 intro i j x _ hx;rcases Nat.eq_zero_or_pos j with rfl | hj
 · rw[h0]at hx;obtain rfl:=Option.some.inj hx;exact .inl hr
 · have hjl:=(Array.getElem?_eq_some_iff.1 hx).1;have:=hI.size;exact(hI.old j x hj (by omega) hx).status.imp id .inl
theorem iWA(F:X.Fit):∀(A K L:Nat),∀(l:List MAct) (g:Goroutine) (gs:Array Goroutine) (w:World) (sl:Option (Nat×Nat)) (t:Trace) (qs:Nat→Nat) (M S:Nat→Prop) (o0 o1:Option Nat) (p:Nat),
 l.length=A→recvs l=[]→IsB X l o0 g w K→sumTo gs.size qs=L→gs[0]? = some g→Inv X n (n+1) true gs w t qs M S o0 o1→Shut n X.d.c p t→Gets X.P X.Fin gs w sl t:=by
 refine n4A fun A K L ih=>?_
 intro l g gs w sl t qs M S o0 o1 p hA hr hB hL h0 hI hS;have hrun:=hB.running;have h0l:0 < gs.size:=(Array.getElem?_eq_some_iff.1 h0).1;have haw:∀ x∈gs,awake x:=by
  intro x hx;obtain⟨j,hj,rfl⟩:=Array.mem_iff_getElem.1 hx;rcases Nat.eq_zero_or_pos j with rfl | hpos
  · have : gs[0] = g := by simpa [Array.getElem?_eq_getElem hj] using h0
    rw[this];exact awake_of (.inl hrun)
  · have:=hI.size;exact awake_of ((hI.old j _ hpos (by omega) (Array.getElem?_eq_getElem hj)).status.elim .inl fun x=>.inr (.inr x))
 obtain⟨i,x,e,sl',hi,hx,hst⟩:=crowd_pick (P:=X.P) (w:=w) (sl:=sl) haw ⟨0,g,h0,hrun⟩;have hIe:=hI.at e;have hR:Rely X.d X.T0 o0 w (w.at e):=Rely.at w e;rcases Nat.eq_zero_or_pos i with rfl | hpos
 · rw [h0] at hi; obtain rfl := Option.some.inj hi
   cases hB with
   | woken hl eg hE =>
     obtain⟨h1,h2,h3⟩:=hE _ hR;refine kZ hIe hS h0 ?_ h3 hst;rw[eg,stepG_tries];have:({ g with status:=.running }:Goroutine)=g:=by cases g;simp_all
     exact h2
   | walks hG =>
     rename_i m;rcases gN hG with hstop | ⟨m',rfl,_,hgo⟩
     · have hs := hstop _ hR
       cases l with
       | nil=>exact kZ hIe hS h0 hs.2.1 hs.2.2 hst
       | cons a l =>
         cases a with
         | recv v=>simp[recvs]at hr
         | box =>
           obtain ⟨_, g', w', es, hstep, hbx, hev, m2, hG2⟩ := hs; rw [runT_crowd_go (P := X.P) (i := 0) h0 (show stepG X.P (0 == 0) _ (w.at e) = _ from hstep), wG (qP hIe h0 hrun 0)] at hst; refine Gets.step hst ?_; have hs' := hIe.split.box F.tb0 F.tb1 hbx; have hI' := hIe.step0 F (fun b hb => hbx.old (Nat.lt_of_lt_of_le hb hIe.split.bsize)) hs' hev g.frame.fn g.frame.place g'; exact ih l.length (m2 + 1) (sumTo (gs.setIfInBounds 0 g').size qs) (.inl (by rw [← hA]; simp)) l g' _ w' sl' _ qs _ S _ o1 p rfl (by simpa [recvs] using hr) (.walks hG2) rfl (by simp [h0l]) hI'
             (hS.app fun op hop hg => by
               obtain⟨e,_,rfl⟩:=Conc.mem_ofEvents hop;exact absurd hg (Nat.ne_of_lt hI.pos))
     · obtain ⟨g', w', es, hstep, ⟨hT, hev⟩, hG2⟩ := hgo _ hR; rw [runT_crowd_go (P := X.P) (i := 0) h0 (show stepG X.P (0 == 0) _ (w.at e) = _ from hstep), wG (qP hIe h0 hrun 0)] at hst; refine Gets.step hst ?_; have hs' := hIe.split.turn F.dis hT; have hI' := hIe.step0 F (fun b hb => hIe.split.low hIe.pair.highM hT hb) hs' hev g.frame.fn g.frame.place g'; exact ih A (m' + 1) (sumTo (gs.setIfInBounds 0 g').size qs) (.inr ⟨rfl, .inl (by omega)⟩) l g' _ w' sl' _ qs _ S _ o1 p hA hr (.walks hG2) rfl (by simp [h0l]) hI'
         (hS.app fun op hop hg => by
           obtain⟨e,_,rfl⟩:=Conc.mem_ofEvents hop;exact absurd hg (Nat.ne_of_lt hI.pos))
 · have hil := (Array.getElem?_eq_some_iff.1 hi).1; have hsz := hI.size; have hq := hI.old i x hpos (by omega) hi
   cases hqi:qs i with
   | zero=>rw[hqi]at hq;rw[hq.1]at hx;cases hx
   | succ k =>
     rw[hqi]at hq;rcases hq with⟨hf,_⟩ | ⟨_,g',es,hm,hstp,hq'⟩
     · rw[hf]at hx;cases hx
     have hi0:(i==0)=false:=by simp;omega
     rw[runT_crowd_go (P:=X.P) (i:=i) hi (by rw[hi0];exact hstp (w.at e)),wG (qP hIe h0 hrun i)]at hst;refine Gets.step hst ?_;have hI':=hIe.slip hpos (by omega) hm (fun _=>rfl) hq' x.frame.fn x.frame.place;have hdec:sumTo (gs.setIfInBounds i g').size (upd qs i k) < L:=by
      rw[← hL,Array.size_setIfInBounds];exact jQ hil hqi
     exact ih A K (sumTo (gs.setIfInBounds i g').size (upd qs i k)) (.inr ⟨rfl, .inr ⟨rfl, hdec⟩⟩) l g _ (w.at e) sl' _ _ M S o0 o1 p hA hr (hB.rely hR) rfl (by rw [Array.getElem?_setIfInBounds_ne (by omega)]; exact h0) hI'
       (hS.app fun op hop _ => by
         obtain⟨e,he,rfl⟩:=Conc.mem_ofEvents hop;exact touch_mute (hm e he))
open Go.ConcN (sumTo upd sumTo_upd upd_ne upd_same)
variable {X : Shared} {n top : Nat} {cl : Bool} {gs arr : Array Goroutine} {w w' : World} {t u : Trace} {qs : Nat → Nat} {M S : Nat → Prop} {o0 o1 o0' o1' : Option Nat}
theorem Inv.crew(h:Inv X n n cl gs w t qs M S o0 o1)(hs:arr.size=n+1)(ho:∀ j x,0 < j→j < n→arr[j]? = some x→gs[j]? = some x):Inv X n n cl arr w t qs M S o0 o1 :=
 ⟨h.pos,hs,h.topl,fun j x hj hjt hx=>h.old j x hj hjt (ho j x hj hjt hx),h.above,h.pair,h.hears0,h.hearsN,h.split,h.quit,h.chan⟩
theorem Inv.dull(F:X.Fit)(h:Inv X n n false gs w t qs M S o0 o1)(hn:∀ op∈u,op.act.touch? = none)(hd:∀ op∈u,op.act≠.mark .disable∧op.act≠.mark .enable){s r:Nat}{tm:Bool} :
 Inv X n n false gs (w.setChan X.d.c 0 #[] false s r tm) (t++u) qs M S o0 o1:=by
 have hlt:X.d.c < w.heap.size:=Nat.lt_of_lt_of_le F.cB h.split.bsize;refine⟨h.pos,h.size,h.topl,fun j x hj hjt hx=>?_,fun j hj=>?_,h.pair.dull hn,(Deaf_still t 0 u hd).trans h.hears0,fun hc=>(Deaf_still t n u hd).trans (h.hearsN hc),h.split.chan F.cB,?_,?_⟩
 · rw[Deaf_still t j u hd];exact h.old j x hj hjt hx
 · rw[Deaf_still t j u hd];exact h.above j hj
 · simp only[World.setChan];rw[Array.getElem?_setIfInBounds_ne F.cq];exact h.quit
 · exact⟨s,r,tm,by simp only[World.setChan];rw[Array.getElem?_setIfInBounds_self_of_lt hlt]⟩
theorem Inv.shut (F : X.Fit) (h : Inv X n n false gs w t qs M S o0 o1) (hs : arr.size = n + 1) (ho : ∀ j x, 0 < j → j < n → arr[j]? = some x → gs[j]? = some x) {g' : Goroutine} {k : Nat} (hg : arr[n]? = some g')
    (hq:QuitsD X.P k 0 g') (fn:FuncId) (pos:String) {s r:Nat} {tm:Bool} :
    Inv X n (n+1) true arr (w.setChan X.d.c 0 #[] true s r tm) (t++#[{ g:=n,fn,pos,act:=.close X.d.c }]) (upd qs n k) M S o0 o1∧Shut n X.d.c t.size (t++#[{ g:=n,fn,pos,act:=.close X.d.c }]):=by
  have hlt:X.d.c < w.heap.size:=Nat.lt_of_lt_of_le F.cB h.split.bsize;have hd:∀ op∈(#[{ g:=n,fn,pos,act:=.close X.d.c }]:Array MemOp),op.act≠.mark .disable∧op.act≠.mark .enable:=by simp
  have hy:(t++#[({ g:=n,fn,pos,act:=.close X.d.c }:MemOp)])[t.size]? = some { g:=n,fn,pos,act:=.close X.d.c }:=by rw[Array.getElem?_append_right (Nat.le_refl _)];simp
  refine⟨⟨h.pos,hs,Nat.le_refl _,fun j x hj hjt hx=>?_,fun j hj=>?_,h.pair.dull (by simp[MemAct.touch?]),(Deaf_still t 0 _ hd).trans h.hears0,(fun hc=>by cases hc),h.split.chan F.cB,?_,?_⟩,?_⟩
  · rw [Deaf_still t j _ hd]; by_cases hjn : j = n
    · subst hjn;rw[hg]at hx;obtain rfl:=Option.some.inj hx;rw[upd_same,h.hearsN rfl];exact hq
    · rw[upd_ne qs k hjn];exact h.old j x hj (by omega) (ho j x hj (by omega) hx)
  · rw[Deaf_still t j _ hd];exact h.above j hj
  · simp only[World.setChan];rw[Array.getElem?_setIfInBounds_ne F.cq];exact h.quit
  · exact⟨s,r,tm,by simp only[World.setChan];rw[Array.getElem?_setIfInBounds_self_of_lt hlt]⟩
  · refine ⟨by rw [act?_of hy], g?_of hy, ⟨n, g?_of hy, ?_⟩, fun i x hx hgi => ?_⟩
    · rw[deaf_old (Nat.le_refl _)];exact h.hearsN rfl
    · obtain ⟨y, hy', hyx⟩ := touch_of hx; rcases getElem?_append_cases hy' with ⟨hi, _⟩ | ⟨_, hyu⟩
      · exact hi
      · simp at hyu; subst hyu
        cases hyx
theorem pTA{v:Value}{g:Goroutine}{sh:CommShape}{s r s' r':Nat}{tm tm':Bool}(hc:w.heap[X.d.c]? = some (.chan 0 #[] false s r tm))(hq:w.heap[X.q]? = some (.chan 0 #[] false s' r' tm')) :
 (parked g (X.sel v) sh).again w=parked g (X.sel v) sh:=by
 simp[Goroutine.again,parked,Shared.sel,scase,rcase,hc,hq]
theorem pOA{v:Value}{g:Goroutine}{sh:CommShape}(F:X.Fit):offersAt (parked g (X.sel v) sh) X.d.c true=[0]∧offersAt (parked g (X.sel v) sh) X.d.c false=[]∧offersAt (parked g (X.sel v) sh) X.q true=[]:=by
 have h1:¬ X.q=X.d.c:=fun e=>F.cq e.symm
 have h2:¬ X.d.c=X.q:=F.cq;refine⟨?_,?_,?_⟩<;>simp[offersAt,parked,Shared.sel,scase,rcase,h1,h2]
theorem IsM.status{l:List MAct}{o:Option Nat}{g:Goroutine}{k:Nat}(h:IsM X l o g w k):(g.status = .running∧0 < k)∨(g.status = .blocked∧k=0):=by
 cases h with
 | walks h=>exact .inl ⟨GoM.running h,by omega⟩
 | waits e _ _=>exact .inr ⟨by rw[e];rfl,rfl⟩
theorem IsS.status{l:List SAct}{o:Option Nat}{g:Goroutine}{k:Nat}(h:IsS X l o g w k):(g.status = .running∧0 < k)∨(g.status = .blocked∧k=0):=by
 cases h with
 | walks h=>exact .inl ⟨GoS.running h,by omega⟩
 | waits _ e _=>exact .inr ⟨by rw[e];rfl,rfl⟩
theorem IsM.rely{l:List MAct}{o:Option Nat}{g:Goroutine}{k:Nat}{w₁:World}(h:IsM X l o g w k)(r:Rely X.d X.T0 o w w₁):IsM X l o g w₁ k:=by
 cases h with
 | walks h=>exact .walks (Goes.rely (R:=Rely X.d X.T0 o) (fun _ _ _ a b=>a.trans b) h r)
 | waits e h hl=>exact .waits e (fun w₂ h₂=>h w₂ (r.trans h₂)) hl
theorem IsS.rely{l:List SAct}{o:Option Nat}{g:Goroutine}{k:Nat}{w₁:World}(h:IsS X l o g w k)(r:Rely X.d X.T1 o w w₁):IsS X l o g w₁ k:=by
 cases h with
 | walks h=>exact .walks (Goes.rely (R:=Rely X.d X.T1 o) (fun _ _ _ a b=>a.trans b) h r)
 | waits hl e h=>exact .waits hl e fun w₂ h₂=>h w₂ (r.trans h₂)
theorem wMA {as : List MAct} {bs : List SAct} {g0 g1 : Goroutine} {k0 k1 : Nat} (hI : Inv X n n cl gs w t qs M S o0 o1) (h0 : gs[0]? = some g0) (hn : gs[n]? = some g1) (hM : IsM X as o0 g0 w k0) (hS : IsS X bs o1 g1 w k1)
    (hc:∃ s r tm,w'.heap[X.d.c]? = some (.chan 0 #[] false s r tm)) (hq:∃ s r tm,w'.heap[X.q]? = some (.chan 0 #[] false s r tm)) (i:Nat) :
    ∀ j x,j≠i→gs[j]? = some x→x.status = .running∨x.status = .finished∨x.again w'=x:=by
  intro j x _ hx;obtain⟨s,r,tm,hc⟩:=hc;obtain⟨s',r',tm',hq⟩:=hq;rcases Nat.eq_zero_or_pos j with rfl | hj
  · rw [h0] at hx; obtain rfl := Option.some.inj hx
    cases hM with
    | walks h=>exact .inl (GoM.running h)
    | waits e _ _=>exact .inr (.inr (by rw[e];exact again_recv_open hc))
  · by_cases hjn : j = n
    · subst hjn; rw [hn] at hx; obtain rfl := Option.some.inj hx
      cases hS with
      | walks h=>exact .inl (GoS.running h)
      | waits _ e _=>exact .inr (.inr (by rw[e];exact pTA hc hq))
    · have hjl:=(Array.getElem?_eq_some_iff.1 hx).1;have:=hI.size;exact(hI.old j x hj (by omega) hx).status.imp id .inl
end Go.Lx
