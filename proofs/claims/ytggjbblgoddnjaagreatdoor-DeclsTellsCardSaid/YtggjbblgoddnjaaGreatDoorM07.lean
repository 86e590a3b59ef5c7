/- Part 7 of what the proof rests on. -/
import Derived.Conc.CrowdComm
import Derived.Conc.Company
import Derived.Conc.CompanyMem
import Derived.Test.YtggjbblgoddnjaaGreatDoorM06
set_option linter.unusedSimpArgs false
set_option linter.unusedVariables false
namespace Go.Lx
open Go.Conc
variable {P : Program} {gs : Array Goroutine} {w w₁ : World} {sl : Option (Nat × Nat)} {i j k : Nat} {g g₂ gj : Goroutine} {es : Array Event} {cases : Array CommCase} {shape shj : CommShape} {blocking : Bool}
  {c cap s r:Nat} {buf:Array Value} {closed tm:Bool} {v z zj:Value}
theorem rCA (hi : gs[i]? = some g) (h : stepG P (i == 0) g w = .comm g₂ cases blocking shape w₁ es) (hk : cases[k]? = some (scase c v z))
    (ho:∀(m:Nat) (c':CommCase),m≠k→cases[m]? = some c'→NoWays w₁ (gs.setIfInBounds i ph) c')
    (hc:w₁.heap[c]? = some (.chan cap buf false s r tm))
    (hij:j≠i) (hj:gs[j]? = some (parked gj #[rcase c zj] shj)) (hp:partners (gs.setIfInBounds i ph) c false=[(j,0)]) :
    runT P (crowd gs w sl) i = (.next (crowd ((gs.setIfInBounds j (gj.finishComm P #[rcase c zj] shj 0 v true)).setIfInBounds i (g₂.finishComm P cases shape k undef false)) (w₁.setChan c cap buf false (s + 1) (r + 1) tm) sl),
      MemOp.ofEvents i g.frame.fn g.frame.place es ++ #[{ g := i, fn := g₂.frame.fn, pos := g₂.frame.place, act := .send c s }, { g := j, fn := gj.frame.fn, pos := gj.frame.place, act := .recv c r cap },
        { g:=i,fn:=g₂.frame.fn,pos:=g₂.frame.place,act:=.sendDone c s },{ g:=j,fn:=gj.frame.fn,pos:=gj.frame.place,act:=.recvDone c r }]):=by
  have hw:ways w₁ (gs.setIfInBounds i ph) (scase c v z)=[.partner j 0]:=by simp[ways,scase,hc,hp]
  have hj':=stand_get (i:=i) hij hj;have hfp:=finishPartner_at P (gs.setIfInBounds i ph) hj' (cs:=#[rcase c zj]) (sh:=shj) rfl 0 v;have hgd:(gs.setIfInBounds i ph).getD j default=parked gj #[rcase c zj] shj:=by rw[Array.getD_eq_getD_getElem?,hj'];rfl
  rw[runT_crowd_comm hi h];unfold communicate;simp only[ready_one hk (by rw[hw];simp) ho,hw];rw[if_neg]
  · simp[choose,Sem.run,Question.forced,bind,Sem.bind,pure,scase,hc,World.setChan,crowd,hfp,hgd,set_stand2,finishComm_parked,rcase,parked];rfl
  · rw[Bool.not_eq_true];exact any_ill (made_of_one hk (made_send v z hc) ho)
theorem cCA (hi : gs[i]? = some g) (h : stepG P (i == 0) g w = .comm g₂ #[rcase c z] blocking shape w₁ es) (hc : w₁.heap[c]? = some (.chan cap #[] closed s r tm))
    (hij:j≠i) (hj:gs[j]? = some (parked gj cases shj)) (hk:cases[k]? = some (scase c v zj)) (hp:partners (gs.setIfInBounds i ph) c true=[(j,k)]) :
    runT P (crowd gs w sl) i = (.next (crowd ((gs.setIfInBounds j (gj.finishComm P cases shj k undef false)).setIfInBounds i (g₂.finishComm P #[rcase c z] shape 0 v true)) (w₁.setChan c cap #[] closed (s + 1) (r + 1) tm) sl),
      MemOp.ofEvents i g.frame.fn g.frame.place es ++ #[{ g := j, fn := gj.frame.fn, pos := gj.frame.place, act := .send c s }, { g := i, fn := g₂.frame.fn, pos := g₂.frame.place, act := .recv c r cap },
        { g:=j,fn:=gj.frame.fn,pos:=gj.frame.place,act:=.sendDone c s },{ g:=i,fn:=g₂.frame.fn,pos:=g₂.frame.place,act:=.recvDone c r }]):=by
  have hj':=stand_get (i:=i) hij hj;have hfp:=finishPartner_at P (gs.setIfInBounds i ph) hj' (cs:=cases) (sh:=shj) rfl k undef;have hgd:(gs.setIfInBounds i ph).getD j default=parked gj cases shj:=by rw[Array.getD_eq_getD_getElem?,hj'];rfl
  have hov:offeredValue (gs.setIfInBounds i ph) j k=v:=by simp[offeredValue,hj',parked,hk,scase]
  rw[runT_crowd_comm hi h];simp[communicate,ways,rcase,hc,hp,choose,Sem.run,Question.forced,bind,Sem.bind,pure,World.setChan,crowd,hfp,hgd,hov,set_stand2,finishComm_parked,hk,scase];rfl
structure Deal where
 B:Nat
 c:Nat
def Own(d:Deal)(T:TypeId→Prop)(o:Option Nat)(w:World)(b:Nat):Prop :=
 (d.B≤b∧∃ cs ty fz,w.heap[b]? = some (.cells cs ty fz)∧T ty)∨o=some b
structure Rely (d:Deal) (T:TypeId→Prop) (o:Option Nat) (w w₁:World):Prop where
 tape:w₁.tape=w.tape
 os:w₁.os=w.os
 output:w₁.output=w.output
 size:w.heap.size≤w₁.heap.size
 low:∀ b,b < d.B→b≠d.c→w₁.heap[b]? = w.heap[b]?
 own:∀ b,Own d T o w b→w₁.heap[b]? = w.heap[b]?
def jU(d:Deal)(T:TypeId→Prop)(o:Option Nat)(w':World)(e:Event):Prop :=
 (∀ x,(MemAct.ofEvent e).touch? = some x→x.loc.isMemory=true→∃ a,x.loc = .cell a∧(Own d T o w' a.block∨(a.block < d.B∧x.write=false)))∧e.loc≠.mark .disable∧e.loc≠.mark .enable
structure Turn (d:Deal) (T:TypeId→Prop) (o:Option Nat) (w w':World):Prop where
 tape:w'.tape=w.tape
 os:w'.os=w.os
 output:w'.output=w.output
 size:w.heap.size≤w'.heap.size
 rest:∀ b,b < w.heap.size→¬ Own d T o w b→w'.heap[b]? = w.heap[b]?
 typ:∀ b,b < w.heap.size→Own d T o w b→∀ cs ty fz,w.heap[b]? = some (.cells cs ty fz)→∃ cs' fz',w'.heap[b]? = some (.cells cs' ty fz')
 boxed:∀ b,o=some b→(∀ cs ty fz,w.heap[b]?≠some (.cells cs ty fz))→∀ cs ty fz,w'.heap[b]?≠some (.cells cs ty fz)
 new:∀ b,w.heap.size≤b→b < w'.heap.size→∃ cs ty fz,w'.heap[b]? = some (.cells cs ty fz)∧T ty
def Does(d:Deal)(T:TypeId→Prop)(o:Option Nat)(w w':World)(es:Array Event):Prop:=Turn d T o w w'∧∀ e∈es,jU d T o w' e
variable {d : Deal} {T : TypeId → Prop} {o : Option Nat}
theorem Own.rely{w w₁:World}{b:Nat}(h:Own d T o w b)(hr:Rely d T o w w₁):Own d T o w₁ b:=by
 rcases h with h | h
 · obtain⟨hb,cs,ty,fz,hc,ht⟩:=h;exact .inl ⟨hb,cs,ty,fz,by rw[hr.own b (.inl ⟨hb,cs,ty,fz,hc,ht⟩)];exact hc,ht⟩
 · exact .inr h
theorem Rely.refl(w:World):Rely d T o w w:=⟨rfl,rfl,rfl,Nat.le_refl _,fun _ _ _=>rfl,fun _ _=>rfl⟩
theorem Rely.at(w:World)(n:Nat):Rely d T o w (w.at n):=⟨rfl,rfl,rfl,Nat.le_refl _,fun _ _ _=>rfl,fun _ _=>rfl⟩
theorem Rely.trans{a b c:World}(h:Rely d T o a b)(h':Rely d T o b c):Rely d T o a c :=
 ⟨h'.tape.trans h.tape,h'.os.trans h.os,h'.output.trans h.output,Nat.le_trans h.size h'.size,fun x hx hc=>(h'.low x hx hc).trans (h.low x hx hc),fun x hx=>(h'.own x (hx.rely h)).trans (h.own x hx)⟩
theorem Turn.refl(w:World):Turn d T o w w:=⟨rfl,rfl,rfl,Nat.le_refl _,fun _ _ _=>rfl,fun _ _ _ cs _ fz h=>⟨cs,fz,h⟩,fun _ _ h=>h,fun b h1 h2=>absurd h2 (by omega)⟩
theorem Does.idle(w:World):Does d T o w w #[]:=⟨Turn.refl w,by simp⟩
theorem terms:Terms (Rely d T o) (Does d T o):=⟨fun _ _ _=>Rely.trans,Does.idle⟩
theorem Rely.chan(w:World){cap s r:Nat}{buf:Array Value}{cl tm:Bool}(hB:d.c < d.B)(ho:o≠some d.c):Rely d T o w (w.setChan d.c cap buf cl s r tm):=by
 refine⟨rfl,rfl,rfl,by simp[World.setChan],fun b hb hc=>?_,fun b hb=>?_⟩
 · simp only[World.setChan];rw[Array.getElem?_setIfInBounds_ne (Ne.symm hc)]
 · have hne : d.c ≠ b := by
     rintro rfl;rcases hb with⟨hb,_⟩ | hb
     · omega
     · exact ho hb
   simp only[World.setChan];rw[Array.getElem?_setIfInBounds_ne hne]
structure Boxes (tb:TypeId) (w w':World):Prop where
 tape:w'.tape=w.tape
 os:w'.os=w.os
 output:w'.output=w.output
 heap:∃ cs fz,w'.heap=w.heap.push (.cells cs tb fz)
section
variable {P : Program} {main : Bool} {R : World → World → Prop} {D : World → World → Array Event → Prop}
theorem CallsC.rely(T:Terms R D){f:FuncId}{args:Array Value}{n:Nat}{w w₁:World}{Post:Value→World→Prop}(h:CallsC P main R D f args n w Post)(r:R w w₁):CallsC P main R D f args n w₁ Post:=by
 obtain⟨fn,c,hf,hn,hb,hw⟩:=h;exact⟨fn,c,hf,hn,hb,wpC_rely T hw r⟩
theorem CallsC.more{f:FuncId}{args:Array Value}{n n':Nat}{w:World}{Post:Value→World→Prop}(h:CallsC P main R D f args n w Post)(hn:n≤n'):CallsC P main R D f args n' w Post:=by
 obtain⟨fn,c,hf,hn',hb,hw⟩:=h;exact⟨fn,c,hf,hn',hb,wpC_more hw hn⟩
theorem dMA (T : Terms R D) {b : Frame} {a : Act} {k : List Item} {cs : List Frame} {w : World} {ops : Array Oper} {i : Nat} {rest : List Nat} {o : Oper} {f : FuncId} {vs : Array Value}
    {nf m:Nat} {Post:Value→World→Prop} {Stop:Goroutine→World→Prop}
    (ho:ops[i]? = some o) (hw:Region.wanted o (yielded ops a.tmps)=true) (hk:b.kind≠.early)
    (hrun:∀ w₁,R w w₁→(execOp a.eval o).run P w₁ = .ok (.enter f vs) w₁) (hl:∀ w₁,R w w₁→D w₁ w₁ (listed P b.fn a o w₁))
    (hcall:CallsC P main R D f vs nf w Post)
    (hnext:∀ v w',Post v w'→Goes P main R D Stop m (G (b.at (a.put o.dst v) (.inRegion ops rest::k)) cs) w') :
    Goes P main R D Stop (m+nf+3) (G (b.at a (.inRegion ops (i::rest)::k)) cs) w:=by
  obtain⟨fn,c,hf,hname,hbody,hwp⟩:=hcall;have hfin:∀ v,(b.at a (.inRegion ops (i::rest)::k)).finish v=b.at (a.put o.dst v) (.inRegion ops rest::k):=fun v=>by rw[Frame.finish_at,ho];rfl
  have hleave:∀(a':Act) (w':World) (todo:List Item),(a'.defers=[]∧∃ v,ResultsC P fn a'.tmps v∧Post v w') →
   Goes P main R D Stop (m+1) (G { (base f).at a' todo with mode:=.returning } (b.at a (.inRegion ops (i::rest)::k)::cs)) w':=by
   rintro a' w' todo ⟨hd,v,hr,hp⟩;refine Goes.step rfl fun w₁ h₁=>?_
   rw[stepG_leave (b:=base f) rfl hd hf (hr w₁).1 (hr w₁).2,hfin];exact⟨T.idle _,(hnext v w' hp).rely T.trans h₁⟩
  have hbodyG:Goes P main R D Stop (m+2+nf) (G ((base f).at { tmps:=vs++Array.replicate (fn.ntmps - vs.size) undef,defers:=[] } [.code c]) (b.at a (.inRegion ops (i::rest)::k)::cs)) w:=by
   refine hwp (base f) [] _ Stop (m+2) rfl (by simp[base]) fun e a' w' q=>?_
   cases e with
   | normal=>exact Goes.step rfl fun w₁ h₁=>by rw[stepG_end];exact⟨T.idle _,(hleave a' w' [] q).rely T.trans h₁⟩
   | ret=>exact fun todo=>(hleave a' w' todo q).more
   | exit id=>exact q.elim
   | goto l=>exact q.elim
   | panic ch=>exact q.elim
   | outgrown=>exact q.elim
  have e:m+nf+3=(m+2+nf)+1:=by omega
  rw[e];refine Goes.step rfl fun w₁ h₁=>?_
  rw[stepG_enter ho hw hk (hrun w₁ h₁),enter_at _ hf hbody];exact⟨hl w₁ h₁,hbodyG.rely T.trans h₁⟩
variable {fn : FuncId} {ops : Array Oper} {Q : Exit → Act → World → Prop} {md : Region.Mode} {S : World → Prop}
theorem lPA (T : Terms R D) {a : Act} {w : World} {i : Nat} {rest : List Nat} {o : Oper} {f : FuncId} {vs : Array Value} {nf n : Nat} {Post : Value → World → Prop}
    (ho:ops[i]? = some o) (hw:Region.wanted o (yielded ops a.tmps)=true)
    (hrun:∀ w₁,R w w₁→(execOp a.eval o).run P w₁ = .ok (.enter f vs) w₁) (hl:∀ w₁,R w w₁→D w₁ w₁ (listed P fn a o w₁))
    (hcall:CallsC P main R D f vs nf w Post) (hnext:∀ v w',Post v w'→OpsC P main R D fn ops rest n Q (a.put o.dst v) w'):OpsC P main R D fn ops (i::rest) (n+nf+3) Q a w:=by
  intro b k cs Stop m hb hk hc;have:=dMA (Stop:=Stop) (m:=m+n) (b:=b) (k:=k) (cs:=cs) T ho hw hk hrun (fun w₁ h₁=>hb▸hl w₁ h₁) hcall fun v w' hp=>hnext v w' hp b k cs Stop m hb hk hc
  exact this.mono (by omega)
theorem nG (T : Terms R D) {a : Act} {w : World} {i : Nat} {rest : List Nat} {o : Oper} {f : FuncId} {args : Array Operand} {ats : Array TypeId} {vs : Array Value} {nf n : Nat} {Post : Value → World → Prop}
    (ho:ops[i]? = some o) (hw:Region.wanted o (yielded ops a.tmps)=true) (hop:o.op = .call { callee:=.value (.func f),args,argTypes:=ats })
    (hcall:CallsC P main R D f vs nf w Post) (hargs:args.map a.eval=vs) (hnext:∀ v w',Post v w'→OpsC P main R D fn ops rest n Q (a.put o.dst v) w'):OpsC P main R D fn ops (i::rest) (n+nf+3) Q a w :=
  opsC_call T ho hw hop (by rw[hargs];exact hcall) hnext
def OpX(P:Program)(main:Bool)(R:World→World→Prop)(D:World→World→Array Event→Prop)(fn:FuncId)(ops:Array Oper)(c:Nat)(i:Nat)(K:Act→World→Prop)(a:Act)(w:World):Prop :=
 match ops[i]? with
 | none=>False
 | some o => if Region.wanted o (yielded ops a.tmps) then
     (∀ w₁,R w w₁→uponK o a (fun a' w'=>D w₁ w' (listed P fn a o w₁)∧K a' w') ((execOp a.eval o).run P w₁)) ∨
     (∃ f vs nf Post,nf+3≤c∧(∀ w₁,R w w₁→(execOp a.eval o).run P w₁ = .ok (.enter f vs) w₁)∧(∀ w₁,R w w₁→D w₁ w₁ (listed P fn a o w₁))∧CallsC P main R D f vs nf w Post∧∀ v w',Post v w'→K (a.put o.dst v) w')
   else K (a.put o.dst undef) w
theorem oJA{c i:Nat}{a:Act}{w:World}{K K':Act→World→Prop}(h:∀ a w,K a w→K' a w)(hh:OpX P main R D fn ops c i K a w):OpX P main R D fn ops c i K' a w:=by
 unfold OpX at *
 split
 · simp_all
 · rename_i o ho; simp only [ho] at hh
   split
   · rename_i hw; simp only [hw, if_true] at hh; rcases hh with hh | ⟨f, vs, nf, Post, h1, h2, h2', h3, h4⟩
     · exact .inl fun w₁ h₁=>uponK_mono (fun a' w' x=>⟨x.1,h _ _ x.2⟩) (hh w₁ h₁)
     · exact .inr ⟨f,vs,nf,Post,h1,h2,h2',h3,fun v w' p=>h _ _ (h4 v w' p)⟩
   · rename_i hw;simp only[hw]at hh;exact h _ _ hh
theorem jKA(T:Terms R D){c i:Nat}{rest:List Nat}{n:Nat}{a:Act}{w:World}(hc:1≤c)(h:OpX P main R D fn ops c i (fun a' w'=>OpsC P main R D fn ops rest n Q a' w') a w):OpsC P main R D fn ops (i::rest) (n+c) Q a w:=by
 unfold OpX at h
 split at h
 · exact h.elim
 · rename_i o ho
   split at h
   · rename_i hw; rcases h with h | ⟨f, vs, nf, Post, h1, h2, h2', h3, h4⟩
     · exact opsC_more (opsC_cons ho hw h) (by omega)
     · exact opsC_more (lPA T ho hw h2 h2' h3 h4) (by omega)
   · rename_i hw;exact opsC_more (opsC_unwanted T ho (by simpa using hw) h) (by omega)
def AnyX (P : Program) (main : Bool) (R : World → World → Prop) (D : World → World → Array Event → Prop) (fn : FuncId) (md : Region.Mode) (ops : Array Oper) (c : Nat) (Q : Exit → Act → World → Prop) (S : World → Prop) : Nat → Array Bool → Act → World → Prop
  | 0,listed,a,w=>Region.ready md ops listed=[]∧Q .normal a w
  | fuel + 1, listed, a, w =>
    (Region.ready md ops listed=[]→Q .normal a w) ∧
    ∀ i∈Region.ready md ops listed,OpX P main R D fn ops c i (fun a' w'=>S w'∧AnyX P main R D fn md ops c Q S fuel (listed.setIfInBounds i true) a' w') a w
theorem AnyX.rely(T:Terms R D){c:Nat}(hSR:∀ x y,S x→R x y→S y)(hQR:∀ a x y,Q .normal a x→R x y→Q .normal a y) :
 ∀(fuel:Nat) (listed:Array Bool) (a:Act) (w w₁:World),AnyX P main R D fn md ops c Q S fuel listed a w→R w w₁→AnyX P main R D fn md ops c Q S fuel listed a w₁
 | 0,_,_,_,_,h,r=>⟨h.1,hQR _ _ _ h.2 r⟩
 | fuel + 1, listed, a, w, w₁, h, r => ⟨fun e => hQR _ _ _ (h.1 e) r, fun i hi => by
     have:=h.2 i hi;unfold OpX at *
     split
     · simp_all
     · rename_i o ho; simp only [ho] at this
       split
       · rename_i hw; simp only [hw, if_true] at this; rcases this with this | ⟨f, vs, nf, Post, h1, h2, h2', h3, h4⟩
         · exact .inl fun w₂ h₂=>this w₂ (T.trans _ _ _ r h₂)
         · exact .inr ⟨f,vs,nf,Post,h1,fun w₂ h₂=>h2 w₂ (T.trans _ _ _ r h₂),fun w₂ h₂=>h2' w₂ (T.trans _ _ _ r h₂),CallsC.rely T h3 r,h4⟩
       · rename_i hw;simp only[hw]at this;exact⟨hSR _ _ this.1 r,AnyX.rely T hSR hQR fuel _ _ _ _ this.2 r⟩⟩
theorem lOA(T:Terms R D){c:Nat}(hc:1≤c):∀(fuel t:Nat) (listed:Array Bool) (a:Act) (w:World),AnyX P main R D fn md ops c Q S fuel listed a w →
 OpsC P main R D fn ops (Region.linearise.go md ops fuel t listed []) (fuel * c+1) Q a w:=by
 intro fuel
 induction fuel with
 | zero=>intro t listed a w h;simpa [Region.linearise.go] using opsC_nil T h.2
 | succ fuel ih =>
   intro t listed a w h;obtain⟨h₀,h₁⟩:=h;simp only[Region.linearise.go]
   change OpsC P main R D fn ops (match (Region.ready md ops listed)[t % (Region.ready md ops listed).length]? with
     | some i=>Region.linearise.go md ops fuel (t / (Region.ready md ops listed).length) (listed.setIfInBounds i true) [i]
     | none=>[].reverse) ((fuel+1) * c+1) Q a w
   have hm:(fuel+1) * c+1=(fuel * c+1)+c:=by rw[Nat.succ_mul];omega
   rw[hm]
   cases hi:(Region.ready md ops listed)[t % (Region.ready md ops listed).length]? with
   | none =>
     have hnil:Region.ready md ops listed=[]:=by
      cases hr:Region.ready md ops listed with
      | nil=>rfl
      | cons x xs =>
        rw[hr]at hi;have hlt:t % (x::xs).length < (x::xs).length:=Nat.mod_lt _ (by simp);simp at hi;simp at hlt;omega
     exact opsC_more (by simpa using opsC_nil T (h₀ hnil)) (by omega)
   | some i =>
     simp only[];rw[linearise_go_acc,List.reverse_singleton,List.singleton_append];exact jKA T hc (oJA (fun a' w' x=>ih _ _ a' w' x.2) (h₁ i (List.mem_of_getElem? hi)))
theorem xAA {c : Nat} (hSR : ∀ x y, S x → R x y → S y) {i : Nat} {o : Oper} {v : Value} {a : Act} (hi : ops[i]? = some o) (hy : YieldsIfC P D fn ops S o v a)
    {K:Act→World→Prop} (hK:∀ a x y,K a x→R x y→K a y) {w:World} (hS:S w) (h:K (a.put o.dst v) w):OpX P main R D fn ops c i K a w:=by
  unfold OpX;simp only[hi];rcases hy with⟨hw,hv⟩ | ⟨hw,rfl⟩
  · simp only [hw, if_true]; refine .inl fun w₁ h₁ => ?_
    rw[(hv w₁ (hSR _ _ hS h₁)).1];exact⟨(hv w₁ (hSR _ _ hS h₁)).2,hK _ _ _ h h₁⟩
  · simp only[hw,Bool.false_eq_true,if_false];exact h
theorem vQA {c j : Nat} {oi oj : Oper} {v : Value} (hj : ops[j]? = some oj) (hap : oi.apart ops oj = true)
    (hsi:∀ cs b,oi.op≠.select cs b) (hsj:∀ cs b,oj.op≠.select cs b) {K:Act→World→Prop} {a:Act} {w:World}
    (hy:YieldsIfC P D fn ops S oi v a) (h:OpX P main R D fn ops c j K (a.put oi.dst v) w) :
    OpX P main R D fn ops c j (fun a' w'=>YieldsIfC P D fn ops S oi v a'∧K (a'.put oi.dst v) w') a w:=by
  obtain⟨h1,h2,h3⟩:=Oper.apart_spec hap;have keep:∀(a:Act),YieldsIfC P D fn ops S oi v a→∀ u,YieldsIfC P D fn ops S oi v (a.put oj.dst u):=fun a hy u =>
   hy.of_same (execOp_put oi hsi a oj.dst u h3) (wanted_put oi a oj.dst u h3)
  unfold OpX at *;simp only[hj]at *;rw[wanted_put oj a oi.dst v h1]at h
  split
  · rename_i hw; simp only [hw, if_true] at h; unfold listed at *; rw [execOp_put oj hsj a oi.dst v h1] at h; rcases h with h | ⟨f, vs, nf, Post, g1, g2, g2', g3, g4⟩
    · refine .inl fun w₁ h₁ => ?_
      have h:=h w₁ h₁;generalize (execOp a.eval oj).run P w₁=r at *
      cases r with
      | ok n w' =>
        cases n<;>simp only[uponK]at h ⊢
        case value u=>exact⟨h.1,keep a hy u,by rw[← Act.put_comm a v u h2];exact h.2⟩
        case skip=>exact⟨h.1,keep a hy _,by rw[← Act.put_comm a v undef h2];exact h.2⟩
      | halt x w'=>simp only[uponK]at h
    · exact .inr ⟨f,vs,nf,Post,g1,g2,g2',g3,fun u w' p=>⟨keep a hy u,by rw[← Act.put_comm a v u h2];exact g4 u w' p⟩⟩
  · rename_i hw;simp only[hw]at h;exact⟨keep a hy _,by rw[← Act.put_comm a v undef h2];exact h⟩
theorem qNA (T : Terms R D) {c : Nat} (hSR : ∀ x y, S x → R x y → S y) (hQR : ∀ a x y, Q .normal a x → R x y → Q .normal a y) {i : Nat} {oi : Oper} {v : Value} (hi : ops[i]? = some oi)
    (hsel:∀(j:Nat) (o:Oper) cs b,ops[j]? = some o→o.op≠.select cs b) :
    ∀(fuel:Nat) (listed:Array Bool) (a:Act) (w:World),
     (∀ j oj,ops[j]? = some oj→j≠i→listed.getD j true=false→(∀ e∈oj.after,Region.binds md e=true→e.on≠i)→oi.apart ops oj=true) →
     i∈Region.ready md ops listed→YieldsIfC P D fn ops S oi v a→S w →
     AnyX P main R D fn md ops c Q S fuel (listed.setIfInBounds i true) (a.put oi.dst v) w→AnyX P main R D fn md ops c Q S (fuel+1) listed a w:=by
  have hK:∀ fuel listed,∀ a x y,(S x∧AnyX P main R D fn md ops c Q S fuel listed a x)→R x y→(S y∧AnyX P main R D fn md ops c Q S fuel listed a y) :=
   fun fuel listed a x y h r=>⟨hSR _ _ h.1 r,AnyX.rely T hSR hQR fuel listed a x y h.2 r⟩
  intro fuel
  induction fuel with
  | zero =>
    intro listed a w _ hr hy hS H;refine⟨fun h=>(by rw[h]at hr;cases hr),fun j hj=>?_⟩;by_cases hji:j=i
    · subst hji;exact xAA hSR hi hy (hK _ _) hS ⟨hS,H⟩
    · have := ready_mono hj hji; rw [H.1] at this
      cases this
  | succ fuel ih =>
    intro listed a w hfree hr hy hS H;refine⟨fun h=>(by rw[h]at hr;cases hr),fun j hj=>?_⟩;by_cases hji:j=i
    · subst hji;exact xAA hSR hi hy (hK _ _) hS ⟨hS,H⟩
    · have h1 := H.2 j (ready_mono hj hji); obtain ⟨hjun, oj, hoj, hall⟩ := mem_ready.1 hj; have hnot : ∀ e ∈ oj.after, Region.binds md e = true → e.on ≠ i := fun e he hb heq => by
       have h1:=hall e he hb;have h0:=(mem_ready.1 hr).1;rw[heq]at h1;rcases Nat.lt_or_ge i listed.size with h' | h'
       · simp[h']at h0 h1;rw[h0]at h1;cases h1
       · simp[Array.getElem?_eq_none h']at h1
      have h2:=vQA hoj (hfree j oj hoj hji hjun hnot) (fun cs b=>hsel i oi cs b hi) (fun cs b=>hsel j oj cs b hoj) hy h1;have hfree':∀ k ok,ops[k]? = some ok→k≠i→(listed.setIfInBounds j true).getD k true=false →
       (∀ e∈ok.after,Region.binds md e=true→e.on≠i)→oi.apart ops ok=true:=fun k ok hk hki hun hno=>by
       refine hfree k ok hk hki ?_ hno;by_cases hjk:j=k
       · subst hjk;exact hjun
       · rw[getD_set_ne true hjk]at hun;exact hun
      refine oJA (fun a' w' h3=>⟨h3.2.1,ih (listed.setIfInBounds j true) a' w' hfree' (ready_mono hr (Ne.symm hji)) h3.1 h3.2.1 ?_⟩) h2;rw[Array.setIfInBounds_comm _ _ hji];exact h3.2.2
theorem iFA (T : Terms R D) {c : Nat} (hSR : ∀ x y, S x → R x y → S y) (hQR : ∀ a x y, Q .normal a x → R x y → Q .normal a y) {i : Nat} {oi : Oper} {v : Value} {fuel : Nat} {listed : Array Bool} {a : Act} {w : World} (hi : ops[i]? = some oi)
    (hs:Region.noSelect ops=true) (hf:Region.free md ops listed i=true) (hr:(Region.ready md ops listed).contains i=true)
    (hy:YieldsIfC P D fn ops S oi v a) (hS:S w) (h:AnyX P main R D fn md ops c Q S fuel (listed.setIfInBounds i true) (a.put oi.dst v) w):AnyX P main R D fn md ops c Q S (fuel+1) listed a w :=
  qNA T hSR hQR hi (Region.noSelect_spec hs) fuel listed a w (Region.free_spec hi hf) (by simpa using hr) hy hS h
theorem uOA {c i : Nat} {fuel : Nat} {listed' : Array Bool} {a : Act} {w : World} {o : Oper} {f : FuncId} {vs : Array Value} {nf : Nat} {Post : Value → World → Prop} (hr : Region.ready md ops listed' = [i])
    (ho:ops[i]? = some o) (hw:Region.wanted o (yielded ops a.tmps)=true)
    (hrun:∀ w₁,R w w₁→(execOp a.eval o).run P w₁ = .ok (.enter f vs) w₁) (hl:∀ w₁,R w w₁→D w₁ w₁ (listed P fn a o w₁)) (hcall:CallsC P main R D f vs nf w Post) (hc:nf+3≤c)
    (h:∀ v w',Post v w'→S w'∧AnyX P main R D fn md ops c Q S fuel (listed'.setIfInBounds i true) (a.put o.dst v) w'):AnyX P main R D fn md ops c Q S (fuel+1) listed' a w:=by
  refine⟨fun h0=>(by rw[hr]at h0;cases h0),fun j hj=>?_⟩;rw[hr,List.mem_singleton]at hj;subst hj;unfold OpX;simp only[ho,hw,if_true];exact .inr ⟨f,vs,nf,Post,hc,hrun,hl,hcall,h⟩
theorem iVA {c i : Nat} {fuel : Nat} {listed' : Array Bool} {a : Act} {w : World} {o : Oper} (hr : Region.ready md ops listed' = [i])
    (ho:ops[i]? = some o) (hw:Region.wanted o (yielded ops a.tmps)=true)
    (h:∀ w₁,R w w₁→uponK o a (fun a' w'=>D w₁ w' (listed P fn a o w₁)∧S w'∧AnyX P main R D fn md ops c Q S fuel (listed'.setIfInBounds i true) a' w') ((execOp a.eval o).run P w₁)):AnyX P main R D fn md ops c Q S (fuel+1) listed' a w:=by
  refine⟨fun h0=>(by rw[hr]at h0;cases h0),fun j hj=>?_⟩;rw[hr,List.mem_singleton]at hj;subst hj;unfold OpX;simp only[ho,hw,if_true];exact .inl h
theorem xJ {c : Nat} {listed : Array Bool} {a : Act} {w : World} (hr : Region.ready md ops listed = []) (h : Q .normal a w) : ∀ fuel, AnyX P main R D fn md ops c Q S fuel listed a w
  | 0=>⟨hr,h⟩
  | _+1=>⟨fun _=>h,fun i hi=>by rw[hr]at hi;cases hi⟩
theorem zG (T : Terms R D) (hd : LetsDraw D) {id : Nat} {a : Act} {w : World} (c : Nat) (hc : 1 ≤ c) (hm : P.follows .mixedOrders = true)
    (h:∀ w₁,R w w₁→AnyX P main R D fn .any ops c Q S ops.size (Array.replicate ops.size false) a { w₁ with drawn:=w₁.drawn+1 }):(Code.region id ops true).wpC P main R D fn (ops.size * c+1+1) Q a w :=
  wpC_region_draw hd fun w₁ h₁ t=>by
   simp only[Region.schedule,hm,Bool.true_or,if_true];exact lOA T hc ops.size t _ a _ (h w₁ h₁)
theorem eDA {a : Act} {w : World} {o : Oper} {f : FuncId} {fn : Func} {x : Operand} {args : Array Operand} {ats : Array TypeId} {caps : Array Value} (hop : o.op = .call { callee := .value x, args, argTypes := ats })
    (hx : a.eval x = .func (.func f) #[] caps) (hf : P.funcs[f]? = some fn) (hname : (fn.name == "runtime.NumGoroutine") = false) (hb : fn.body.isNone = false) : (execOp a.eval o).run P w = .ok (.enter f (args.map a.eval ++ caps)) w := by
  have h1 : ¬ fn.name = "runtime.NumGoroutine" := by simpa using hname
  have h2:¬ fn.body=none:=by cases hx:fn.body<;>simp_all
  unfold execOp;simp[hop,resolve,Deferred.ofValue,invoke,callFunc,hf,h1,h2,hx]
theorem jW {a : Act} {w : World} {o : Oper} {f : FuncId} {fn : Func} {x : Operand} {args : Array Operand} {ats : Array TypeId} {caps : Array Value} (hop : o.op = .call { callee := .value x, args, argTypes := ats })
    (hx : a.eval x = .func (.func f) #[] caps) (hf : P.funcs[f]? = some fn) (hname : (fn.name == "runtime.NumGoroutine") = false) (hb : fn.body.isNone = false) (es : Array Event) : (execOp a.eval o).events P w es = es := by
  have h1 : ¬ fn.name = "runtime.NumGoroutine" := by simpa using hname
  have h2:¬ fn.body=none:=by cases hx:fn.body<;>simp_all
  unfold execOp;simp[hop,resolve,Deferred.ofValue,invoke,callFunc,hf,h1,h2,hx]
theorem oM (T : Terms R D) {c i : Nat} {fuel : Nat} {listed' : Array Bool} {a : Act} {w : World} {o : Oper} {f : FuncId} {x : Operand} {args : Array Operand} {ats : Array TypeId} {caps vs : Array Value} {nf : Nat} {Post : Value → World → Prop}
    (hr:Region.ready md ops listed'=[i]) (ho:ops[i]? = some o) (hw:Region.wanted o (yielded ops a.tmps)=true) (hop:o.op = .call { callee:=.value x,args,argTypes:=ats }) (hx:a.eval x = .func (.func f) #[] caps)
    (hcall:CallsC P main R D f vs nf w Post) (hc:nf+3≤c) (hargs:args.map a.eval++caps=vs)
    (h:∀ v w',Post v w'→S w'∧AnyX P main R D fn md ops c Q S fuel (listed'.setIfInBounds i true) (a.put o.dst v) w'):AnyX P main R D fn md ops c Q S (fuel+1) listed' a w:=by
  have h':=hcall;obtain⟨fn',c',hf,hname,hb,_⟩:=h';have hb':fn'.body.isNone=false:=by rw[hb];rfl
  refine uOA hr ho hw (fun w₁ _=>by rw[eDA hop hx hf hname hb',hargs]) (fun w₁ _=>?_) hcall hc h;have:listed P fn a o w₁=#[]:=by unfold listed;rw[jW hop hx hf hname hb'];exact seen_none P _
  rw[this];exact T.idle _
theorem zKA{b:Frame}{a:Act}{k:List Item}{cs:List Frame}{w:World}{c:Code}:stepG P main (G (b.at a (.code (.scope c)::k)) cs) w = .go (G (b.at a (.code c :: .inScope c::k)) cs) w:=by simp[G,stepG,stepG.exec,Frame.at]
theorem pDA{b:Frame}{a:Act}{k:List Item}{cs:List Frame}{w:World}{c:Code}:stepG P main (G (b.at a (.inScope c::k)) cs) w = .go (G (b.at a k) cs) w:=by simp[G,stepG,stepG.exec,Frame.at]
end
end Go.Lx
