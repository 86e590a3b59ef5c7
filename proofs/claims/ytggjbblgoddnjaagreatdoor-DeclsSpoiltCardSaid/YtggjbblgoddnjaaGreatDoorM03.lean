/- Part 3 of what the proof rests on. -/
import Derived.Below
import Derived.WalkKit
import Derived.Test.YtggjbblgoddnjaaGreatDoorM00
import Derived.Test.YtggjbblgoddnjaaGreatDoorM02
set_option linter.unusedSimpArgs false
set_option linter.unusedVariables false
namespace Go.Lx
open Go.Conc
variable {d : Deal} {T : TypeId → Prop} {o : Option Nat}
def hRA(d:Deal)(T:TypeId→Prop)(o:Option Nat)(b:Nat)(x:Obj):Prop :=
 (b < d.B∧b≠d.c)∨(d.B≤b∧∃ cs ty fz,x = .cells cs ty fz∧T ty)∨o=some b
structure Holds (d:Deal) (T:TypeId→Prop) (o:Option Nat) (L:List (Nat×Obj)) (w:World):Prop where
 has:∀ p∈L,w.heap[p.1]? = some p.2
 safe:∀ p∈L,hRA d T o p.1 p.2
 big:d.B≤w.heap.size
 box:∀ b,o=some b→b < w.heap.size
variable {L L' : List (Nat × Obj)} {w w' w₁ : World}
theorem Holds.rely(h:Holds d T o L w)(r:Rely d T o w w₁):Holds d T o L w₁:=by
 refine⟨fun p hp=>?_,h.safe,Nat.le_trans h.big r.size,fun b hb=>Nat.lt_of_lt_of_le (h.box b hb) r.size⟩;have e:=h.has p hp;rcases h.safe p hp with⟨hl,hc⟩ | ⟨hb,cs,ty,fz,hx,ht⟩ | hb
 · rw[r.low _ hl hc];exact e
 · rw[r.own _ (.inl ⟨hb,cs,ty,fz,by rw[e,hx],ht⟩)];exact e
 · rw[r.own _ (.inr hb)];exact e
theorem Holds.lt(h:Holds d T o L w){b:Nat}{x:Obj}(hp:(b,x)∈L):b < w.heap.size:=(Array.getElem?_eq_some_iff.1 (h.has _ hp)).1
theorem Holds.cell(h:Holds d T o L w){b:Nat}{cs:Array Value}{ty:TypeId}{fz:Nat×Nat}(hp:(b,Obj.cells cs ty fz)∈L)(i:Nat):w.cell? ⟨b,i,none⟩=cs[i]? := by
 have e:=h.has _ hp;simp only at e;simp[World.cell?,e]
theorem Holds.frozen(h:Holds d T o L w){b:Nat}{cs:Array Value}{ty:TypeId}(hp:(b,Obj.cells cs ty (0,0))∈L)(i:Nat):w.frozen? ⟨b,i,none⟩=false:=by
 have e:=h.has _ hp;simp only at e;simp[World.frozen?,e]
theorem Holds.own(h:Holds d T o L w){b:Nat}{x:Obj}(hp:(b,x)∈L):Own d T o w b∨b < d.B:=by
 have e:=h.has _ hp;rcases h.safe _ hp with⟨hl,_⟩ | ⟨hb,cs,ty,fz,hx,ht⟩ | hb
 · exact .inr hl
 · simp only at hx e hb;exact .inl (.inl ⟨hb,cs,ty,fz,by rw[e,hx],ht⟩)
 · exact .inl (.inr hb)
theorem Holds.read(h:Holds d T o L w){b:Nat}{x:Obj}(hp:(b,x)∈L)(i:Nat)(s:Bool):wY d T o w ⟨.cell ⟨b,i,none⟩,false,s⟩:=by
 refine⟨fun y hy _=>?_,by simp,by simp⟩;simp[MemAct.ofEvent,MemAct.touch?]at hy;subst hy;refine⟨⟨b,i,none⟩,rfl,?_⟩;rcases h.own hp with ho | hl
 · exact .inl ho
 · exact .inr ⟨hl,rfl⟩
theorem sS{b:Nat}(ho:Own d T o w b)(i:Nat)(wr s:Bool):wY d T o w ⟨.cell ⟨b,i,none⟩,wr,s⟩:=by
 refine⟨fun y hy _=>?_,by simp,by simp⟩;simp[MemAct.ofEvent,MemAct.touch?]at hy;subst hy;exact⟨⟨b,i,none⟩,rfl,.inl ho⟩
theorem oOA(f:FuncId)(wr s:Bool):wY d T o w ⟨.mark (.extern f),wr,s⟩ :=
 ⟨fun y hy _=>by simp[MemAct.ofEvent,MemAct.touch?]at hy,by simp,by simp⟩
theorem Does.reads{es:Array Event}(h:∀ e∈es,wY d T o w e):Does d T o w w es:=⟨Turn.refl w,h⟩
theorem Turn.set{b i:Nat}(ho:Own d T o w b)(v:Value):Turn d T o w (w.setCell ⟨b,i,none⟩ v):=by
 have hsz:(w.setCell ⟨b,i,none⟩ v).heap.size=w.heap.size:=by simp[World.setCell]
 refine⟨rfl,rfl,rfl,by rw[hsz];exact Nat.le_refl _,fun x hx hno=>?_,fun x hx _ cs ty fz hc=>?_,fun x hxo hn cs ty fz=>?_,fun x h1 h2=>absurd h2 (by rw[hsz];omega)⟩
 · exact heap_set w _ v x fun e=>hno (by rw[show x=b from e];exact ho)
 · by_cases hxb : x = b
   · subst hxb;exact⟨_,_,sM w hc v⟩
   · exact⟨cs,fz,by rw[heap_set w _ v x hxb];exact hc⟩
 · by_cases hxb : x = b
   · subst hxb; simp only [World.setCell]; rw [Array.getElem?_modify]; simp only [if_true]
     cases hc:w.heap[x]? with
     | none=>simp
     | some ob =>
       cases ob with
       | cells c t f=>exact absurd hc (hn _ _ _)
       | _=>simp
   · rw[heap_set w _ v x hxb];exact hn cs ty fz
theorem Turn.alloc{cs:Array Value}{ty:TypeId}{fz:Nat×Nat}(ht:T ty)(hbox:∀ b,o=some b→b < w.heap.size):Turn d T o w (w.alloc (.cells cs ty fz)):=by
 have hsz:(w.alloc (.cells cs ty fz)).heap.size=w.heap.size+1:=by simp[World.alloc,-World.alloc_eq]
 have hold:∀ x,x < w.heap.size→(w.alloc (.cells cs ty fz)).heap[x]? = w.heap[x]? := fun x hx=>by
  simp only[World.alloc];rw[Array.getElem?_push_lt hx,Array.getElem?_eq_getElem hx]
 refine⟨rfl,rfl,rfl,by rw[hsz];omega,fun x hx _=>hold x hx,fun x hx _ c t f hc=>⟨c,f,by rw[hold x hx];exact hc⟩,fun x hxo hn c t f=>?_,fun x h1 h2=>?_⟩
 · rw[hold x (hbox x hxo)];exact hn c t f
 · obtain rfl : x = w.heap.size := by rw [hsz] at h2; omega
   exact⟨cs,ty,fz,by simp[World.alloc,-World.alloc_eq],ht⟩
theorem Holds.set (h : Holds d T o L w) {b i : Nat} {cs : Array Value} {ty : TypeId} {fz : Nat × Nat} (hp : (b, Obj.cells cs ty fz) ∈ L) (v : Value)
    (hL:∀ p∈L',p=(b,Obj.cells (cs.setIfInBounds i v) ty fz)∨(p∈L∧p.1≠b)):Holds d T o L' (w.setCell ⟨b,i,none⟩ v):=by
  have hsz:(w.setCell ⟨b,i,none⟩ v).heap.size=w.heap.size:=by simp[World.setCell]
  refine⟨fun p hp'=>?_,fun p hp'=>?_,by rw[hsz];exact h.big,fun x hx=>by rw[hsz];exact h.box x hx⟩
  · rcases hL p hp' with rfl | ⟨hpL, hne⟩
    · exact sM w (h.has _ hp) v
    · rw[heap_set w _ v _ hne];exact h.has p hpL
  · rcases hL p hp' with rfl | ⟨hpL, _⟩
    · rcases h.safe _ hp with hs | ⟨hb, cs', ty', fz', hx, ht⟩ | hs
      · exact .inl hs
      · simp only[Obj.cells.injEq]at hx;obtain⟨rfl,rfl,rfl⟩:=hx;exact .inr (.inl ⟨hb,_,_,_,rfl,ht⟩)
      · exact .inr (.inr hs)
    · exact h.safe p hpL
theorem Holds.alloc (h : Holds d T o L w) {cs : Array Value} {ty : TypeId} {fz : Nat × Nat} (ht : T ty)
    (hL:∀ p∈L',p=(w.heap.size,Obj.cells cs ty fz)∨p∈L):Holds d T o L' (w.alloc (.cells cs ty fz)):=by
  have hsz:(w.alloc (.cells cs ty fz)).heap.size=w.heap.size+1:=by simp[World.alloc,-World.alloc_eq]
  refine⟨fun p hp'=>?_,fun p hp'=>?_,by rw[hsz];have:=h.big;omega,fun x hx=>by rw[hsz];have:=h.box x hx;omega⟩
  · rcases hL p hp' with rfl | hpL
    · simp[World.alloc,-World.alloc_eq]
    · have:=h.lt hpL;simp only[World.alloc];rw[Array.getElem?_push_lt this,← Array.getElem?_eq_getElem];exact h.has p hpL
  · rcases hL p hp' with rfl | hpL
    · exact .inr (.inl ⟨h.big,_,_,_,rfl,ht⟩)
    · exact h.safe p hpL
theorem Holds.cons(h:Holds d T o L w)(cs:Array Value){ty:TypeId}(ht:T ty):Holds d T o ((w.heap.size,Obj.cells cs ty (0,0))::L) (w.alloc (.cells cs ty)) :=
 h.alloc ht fun p hp=>by
  rcases List.mem_cons.1 hp with rfl | hp
  · exact .inl rfl
  · exact .inr hp
theorem Holds.set1{b i:Nat}{cs:Array Value}{ty:TypeId}{fz:Nat×Nat}(h:Holds d T o ((b,Obj.cells cs ty fz)::L) w)(hn:∀ p∈L,p.1≠b)(v:Value):Holds d T o ((b,Obj.cells (cs.setIfInBounds i v) ty fz)::L) (w.setCell ⟨b,i,none⟩ v) :=
 h.set List.mem_cons_self v fun p hp=>by
  rcases List.mem_cons.1 hp with rfl | hp
  · exact .inl rfl
  · exact .inr ⟨List.mem_cons_of_mem _ hp,hn p hp⟩
theorem Holds.set3{b:Nat}{x0 x1 x2:Value}{ty:TypeId}{fz:Nat×Nat}(h:Holds d T o ((b,Obj.cells #[x0,x1,x2] ty fz)::L) w)(hn:∀ p∈L,p.1≠b)(v0 v1 v2:Value) :
 Holds d T o ((b,Obj.cells #[v0,v1,v2] ty fz)::L) (((w.setCell ⟨b,0,none⟩ v0).setCell ⟨b,1,none⟩ v1).setCell ⟨b,2,none⟩ v2) :=
 ((h.set1 (i:=0) hn v0).set1 (i:=1) hn v1).set1 (i:=2) hn v2
theorem Holds.set4{b:Nat}{x0 x1 x2 x3:Value}{ty:TypeId}{fz:Nat×Nat}(h:Holds d T o ((b,Obj.cells #[x0,x1,x2,x3] ty fz)::L) w)(hn:∀ p∈L,p.1≠b)(v0 v1 v2 v3:Value) :
 Holds d T o ((b,Obj.cells #[v0,v1,v2,v3] ty fz)::L) ((((w.setCell ⟨b,0,none⟩ v0).setCell ⟨b,1,none⟩ v1).setCell ⟨b,2,none⟩ v2).setCell ⟨b,3,none⟩ v3) :=
 (((h.set1 (i:=0) hn v0).set1 (i:=1) hn v1).set1 (i:=2) hn v2).set1 (i:=3) hn v3
theorem Holds.weak(h:Holds d T o L w)(hL:∀ p∈L',p∈L):Holds d T o L' w:=⟨fun p hp=>h.has p (hL p hp),fun p hp=>h.safe p (hL p hp),h.big,h.box⟩
theorem Holds.boxed {tb : TypeId} (h : Holds d T o L w) {cs : Array Value} {fz : Nat × Nat}
    (hL:∀ p∈L',p=(w.heap.size,Obj.cells cs tb fz)∨(p∈L∧hRA d T none p.1 p.2)):Holds d T (some w.heap.size) L' (w.alloc (.cells cs tb fz)):=by
  have hsz:(w.alloc (.cells cs tb fz)).heap.size=w.heap.size+1:=by simp[World.alloc,-World.alloc_eq]
  refine⟨fun p hp'=>?_,fun p hp'=>?_,by rw[hsz];have:=h.big;omega,fun x hx=>by rw[hsz];cases hx;omega⟩
  · rcases hL p hp' with rfl | ⟨hpL, _⟩
    · simp[World.alloc,-World.alloc_eq]
    · have:=h.lt hpL;simp only[World.alloc];rw[Array.getElem?_push_lt this,← Array.getElem?_eq_getElem];exact h.has p hpL
  · rcases hL p hp' with rfl | ⟨_, hs⟩
    · exact .inr (.inr rfl)
    · rcases hs with hs | hs | hs
      · exact .inl hs
      · exact .inr (.inl hs)
      · cases hs
theorem Turn.own_back(h:Turn d T o w w'){b:Nat}(hb:b < w.heap.size)(ho:Own d T o w' b):Own d T o w b:=by
 by_cases hno:Own d T o w b
 · exact hno
 · rcases ho with ⟨hB, cs, ty, fz, hc, ht⟩ | ho
   · rw[h.rest b hb hno]at hc;exact .inl ⟨hB,cs,ty,fz,hc,ht⟩
   · exact .inr ho
theorem Turn.own_fwd(h:Turn d T o w w'){b:Nat}(hb:b < w.heap.size)(ho:Own d T o w b):Own d T o w' b:=by
 rcases id ho with⟨hB,cs,ty,fz,hc,ht⟩ | hx
 · obtain⟨cs',fz',hc'⟩:=h.typ b hb ho cs ty fz hc;exact .inl ⟨hB,cs',ty,fz',hc',ht⟩
 · exact .inr hx
theorem Turn.trans{w2:World}(h:Turn d T o w w')(h2:Turn d T o w' w2)(hB:d.B≤w.heap.size):Turn d T o w w2:=by
 refine⟨h2.tape.trans h.tape,h2.os.trans h.os,h2.output.trans h.output,Nat.le_trans h.size h2.size,fun b hb hno=>?_,fun b hb ho cs ty fz hc=>?_,fun b hb hn=>h2.boxed b hb (h.boxed b hb hn),fun b hb hb2=>?_⟩
 · rw[h2.rest b (Nat.lt_of_lt_of_le hb h.size) fun ho=>hno (h.own_back hb ho),h.rest b hb hno]
 · obtain⟨cs',fz',hc'⟩:=h.typ b hb ho cs ty fz hc;exact h2.typ b (Nat.lt_of_lt_of_le hb h.size) (h.own_fwd hb ho) cs' ty fz' hc'
 · rcases Nat.lt_or_ge b w'.heap.size with hlt | hge
   · obtain⟨cs,ty,fz,hc,ht⟩:=h.new b hb hlt;obtain⟨cs',fz',hc'⟩:=h2.typ b hlt (.inl ⟨Nat.le_trans hB hb,cs,ty,fz,hc,ht⟩) cs ty fz hc;exact⟨cs',ty,fz',hc',ht⟩
   · exact h2.new b hge hb2
theorem Turn.set3{b:Nat}(ho:Own d T o w b)(hb:b < w.heap.size)(hB:d.B≤w.heap.size)(v0 v1 v2:Value) :
 Turn d T o w (((w.setCell ⟨b,0,none⟩ v0).setCell ⟨b,1,none⟩ v1).setCell ⟨b,2,none⟩ v2):=by
 have t0:=Turn.set (i:=0) ho v0;have o0:=t0.own_fwd hb ho;have t1:=t0.trans (Turn.set (i:=1) o0 v1) hB;exact t1.trans (Turn.set (i:=2) (t1.own_fwd hb ho) v2) hB
theorem Turn.set4{b:Nat}(ho:Own d T o w b)(hb:b < w.heap.size)(hB:d.B≤w.heap.size)(v0 v1 v2 v3:Value) :
 Turn d T o w ((((w.setCell ⟨b,0,none⟩ v0).setCell ⟨b,1,none⟩ v1).setCell ⟨b,2,none⟩ v2).setCell ⟨b,3,none⟩ v3):=by
 have t2:=Turn.set3 ho hb hB v0 v1 v2;exact t2.trans (Turn.set (i:=3) (t2.own_fwd hb ho) v3) hB
theorem Holds.mine(h:Holds d T o L w){b:Nat}{cs:Array Value}{ty:TypeId}{fz:Nat×Nat}(hp:(b,Obj.cells cs ty fz)∈L)(hb:d.B≤b)(ht:T ty):Own d T o w b:=.inl ⟨hb,cs,ty,fz,h.has _ hp,ht⟩
theorem Holds.boxOwn{b:Nat}(_:Holds d T (some b) L w):Own d T (some b) w b:=.inr rfl
theorem draws:LetsDraw (Does d T o):=fun w=>⟨⟨rfl,rfl,rfl,Nat.le_refl _,fun _ _ _=>rfl,fun _ _ _ cs _ fz h=>⟨cs,fz,h⟩,fun _ _ h=>h,fun b h1 h2=>absurd h2 (by show ¬ b < w.heap.size;omega)⟩,by simp⟩
theorem gP(w:World):Rely d T o w { w with drawn:=w.drawn+1 }:=Rely.at w _
variable {P : Program} {w : World} {es : Array Event}
theorem dJ(t ty:TypeId)(s:ByteArray)(h:P.underlying t=some .string):(Builtin.len_ #[t] ty #[.string s]).events P w es=es:=by
 simp[Builtin.len_,run_underlying h]
theorem gK(t:TypeId)(s:ByteArray)(k:IntKind)(i:Int)(h:P.underlying t=some .string)(hi:0≤i∧i < s.size):(Instr.index t (.string s) (.int k i)).events P w es=es:=by
 have h2:i.toNat < s.size:=by omega
 have h3:(if 0≤i then s[i.toNat]? else none)=some s[i.toNat]:=by rw[if_pos hi.1,ByteArray.getElem?_lt' s _ h2]
 simp[Instr.index,asIntOf,run_underlying h,h3]
theorem uQ(k:IntKind)(i:Int)(y:Nat)(code:BoundsCode)(h0:0≤i)(h1:i≤y):(Instr.sliceBound (.int k i) y code).events P w es=es:=by
 simp[Instr.sliceBound,asIntOf,h0,h1]
theorem kSA(t:TypeId)(s:ByteArray)(k:IntKind)(l:Nat)(ht:P.underlying t=some .string)(h1:l≤s.size):(Instr.sliceAt t (.string s) (some (.int k (l:Int))) none none).events P w es=es:=by
 simp[Instr.sliceAt,Instr.slice,run_underlying ht,Instr.sliceBounds,uQ,h1]
theorem kPA(t:TypeId)(s:ByteArray)(k k':IntKind)(l h:Int)(ht:P.underlying t=some .string)(h0:0≤l)(h1:l≤h)(h2:h≤s.size):(Instr.sliceAt t (.string s) (some (.int k l)) (some (.int k' h)) none).events P w es=es:=by
 have h4:0≤h:=by omega
 have h5:l≤h.toNat:=by omega
 simp[Instr.sliceAt,Instr.slice,run_underlying ht,Instr.sliceBounds,run_sliceBound,uQ,h2,h4];exact uQ _ _ _ _ h0 h5
theorem nAA(P:Program)(w:World)(a:Addr)(m:Mode)(f:Fn)(x y:Array Value):(store a (.func f x y) m).run P w=stored P w a (.func f x y) m:=run_store P w a _ m rfl
theorem zCA(P:Program)(w:World)(es:Array Event)(a:Addr)(m:Mode)(f:Fn)(x y:Array Value):(store a (.func f x y) m).events P w es=storedEv P w es a (.func f x y) m:=events_store P w es a _ m rfl
theorem yT(P:Program)(w:World)(es:Array Event)(a:Addr)(m:Mode)(s:ByteArray):(store a (.string s) m).events P w es=storedEv P w es a (.string s) m:=events_store P w es a _ m rfl
end Go.Lx
namespace Go.Lx
open Go Go.Conc
variable {P : Program} {main : Bool} {R : World → World → Prop} {D : World → World → Array Event → Prop} {fn : FuncId} {md : Region.Mode} {ops : Array Oper} {c : Nat} {Q : Exit → Act → World → Prop} {S : World → Prop}
theorem dC (T : Terms R D) (hSR : ∀ x y, S x → R x y → S y) (hQR : ∀ a x y, Q .normal a x → R x y → Q .normal a y) (i : Nat) {oi : Oper} {v : Value} {fuel : Nat} {listed : Array Bool} {a : Act} {w : World} (hi : ops[i]? = some oi)
    (hb:(Region.noSelect ops&&Region.free md ops listed i&&(Region.ready md ops listed).contains i)=true) (hw:Region.wanted oi (yielded ops a.tmps)=true) (hS:S w)
    (hy:∀ w,S w→(∀ K:Result Next→Prop,K (.ok (.value v) w)→K ((execOp a.eval oi).run P w))∧D w w (Conc.listed P fn a oi w))
    (h:AnyX P main R D fn md ops c Q S fuel (listed.setIfInBounds i true) (a.put oi.dst v) w):AnyX P main R D fn md ops c Q S (fuel+1) listed a w:=by
  simp only[Bool.and_eq_true]at hb;exact mKA T hSR hQR hi hb.1.1 hb.1.2 hb.2 (.inl ⟨hw,fun w hw=>⟨run_eq_of (hy w hw).1,(hy w hw).2⟩⟩) hS h
theorem xZ (T : Terms R D) (hSR : ∀ x y, S x → R x y → S y) (hQR : ∀ a x y, Q .normal a x → R x y → Q .normal a y) (i : Nat) {oi : Oper} {fuel : Nat} {listed : Array Bool} {a : Act} {w : World} (hi : ops[i]? = some oi)
    (hb:(Region.noSelect ops&&Region.free md ops listed i&&(Region.ready md ops listed).contains i)=true) (hw:Region.wanted oi (yielded ops a.tmps)=false) (hS:S w)
    (h:AnyX P main R D fn md ops c Q S fuel (listed.setIfInBounds i true) (a.put oi.dst undef) w):AnyX P main R D fn md ops c Q S (fuel+1) listed a w:=by
  simp only[Bool.and_eq_true]at hb;exact mKA T hSR hQR hi hb.1.1 hb.1.2 hb.2 (.inr ⟨hw,rfl⟩) hS h
end Go.Lx
namespace Go.Lx
open Go.Conc
def Mine(B:Nat)(M:Nat→Prop)(x:Touch):Prop:=(∃ a,x.loc = .cell a∧(M a.block∨(a.block < B∧x.write=false)))∨((∃ c,x.loc = .obj c)∧x.kind = .atomic)
structure Pair (m n B:Nat) (M S:Nat→Prop) (t:Trace):Prop where
 pos:n≠m
 clean:∀ said,¬ Race said t
 known:∀ i x,touchAt t i=some x→x.loc.isMemory=true→(Knows t m i∧Knows t n i)∨(t.g? i=some m∧Mine B M x)∨(t.g? i=some n∧Mine B S x)
 apart:∀ b,M b→¬ S b
 highM:∀ b,M b→B≤b
 highS:∀ b,S b→B≤b
theorem Pair.symm{m n B:Nat}{M S:Nat→Prop}{t:Trace}(h:Pair m n B M S t):Pair n m B S M t :=
 ⟨h.pos.symm,h.clean,fun i x hx hm=>(h.known i x hx hm).elim (fun y=>.inl ⟨y.2,y.1⟩) fun y=>.inr y.symm,fun b hs hm=>h.apart b hm hs,h.highS,h.highM⟩
theorem Mine.mono{B:Nat}{M M':Nat→Prop}{x:Touch}(h:Mine B M x)(hM:∀ b,M b→M' b):Mine B M' x:=by
 rcases h with⟨a,h1,h2⟩ | h
 · exact .inl ⟨a,h1,h2.imp (hM _) id⟩
 · exact .inr h
theorem gTA{B:Nat}{M S:Nat→Prop}{x y:Touch}{said:Bool}(hM:Mine B M x)(hS:Mine B S y)(hap:∀ b,M b→¬ S b)(h1:∀ b,M b→B≤b)(h2:∀ b,S b→B≤b):¬ x.conflicts said y:=by
 rintro⟨hl,_,hw,hp⟩;rcases hM with⟨a,ha,hm⟩ | ⟨⟨c,hc⟩,hk⟩
 case inr =>
   rcases hS with⟨a',ha',_⟩ | ⟨_,hk'⟩
   · rw[hc,ha']at hl;cases hl
   · rw[hk,hk']at hp;rcases hp with hp | hp | ⟨_,hp,_⟩<;>cases hp
 rcases hS with⟨a',ha',hs⟩ | ⟨⟨c,hc⟩,_⟩
 case inr=>rw[ha,hc]at hl;cases hl
 have:a=a':=by
  have:=ha.symm.trans (hl.trans ha');exact Loc.cell.inj this
 subst this;rcases hm with hm | ⟨hm,wm⟩<;>rcases hs with hs | ⟨hs,ws⟩
 · exact hap _ hm hs
 · have:=h1 _ hm;omega
 · have:=h2 _ hs;omega
 · rcases hw with h | h
   · rw[wm]at h;cases h
   · rw[ws]at h;cases h
theorem lGA{said:Bool}{x y:Touch}(h:x.conflicts said y):y.conflicts said x:=by
 obtain⟨h1,h2,h3,h4⟩:=h;refine⟨h1.symm,by rw[← h1];exact h2,h3.symm,?_⟩;rcases h4 with h | h | ⟨h,h',h''⟩
 · exact .inr (.inl h)
 · exact .inl h
 · exact .inr (.inr ⟨h,h'',h'⟩)
theorem g?_of{t:Trace}{i:Nat}{op:MemOp}(h:t[i]? = some op):t.g? i=some op.g:=by simp[Trace.g?,h]
theorem cGA{t:Trace}{i g:Nat}(h:t.g? i=some g):Knows t g i:=by
 unfold Trace.g? at h;obtain⟨op,ho,rfl⟩:=Option.map_eq_some_iff.1 h;exact knows_own ho
variable {m n B : Nat} {M S M' : Nat → Prop} {t u : Trace}
theorem Pair.app (h : Pair m n B M S t) (hu : ∀ op ∈ u, op.g = m) (hm : ∀ op ∈ u, ∀ x, op.act.touch? = some x → x.loc.isMemory = true → Mine B M' x)
    (hMM:∀ b,M b→M' b) (hap:∀ b,M' b→¬ S b) (hhi:∀ b,M' b→B≤b):Pair m n B M' S (t++u):=by
  refine⟨h.pos,fun said=>noRace_append (h.clean said) hu fun i a ha op hop b hb hc=>?_,fun i a ha hmem=>?_,hap,hhi,h.highS⟩
  · rcases h.known i a ha hc.2.1 with hk | ⟨hg, _⟩ | ⟨hg, hs⟩
    · exact hk.1
    · exact cGA hg
    · exact absurd (lGA hc) (gTA (hm op hop b hb (hc.1▸hc.2.1)) hs hap hhi h.highS)
  · obtain ⟨x, hx, hxa⟩ := touch_of ha; rcases getElem?_append_cases hx with ⟨hi, hx'⟩ | ⟨_, hxu⟩
    · rcases h.known i a (by rw [touchAt_of hx']; exact hxa) hmem with hk | ⟨hg, hk⟩ | ⟨hg, hk⟩
      · exact .inl ⟨hk.1.app u,hk.2.app u⟩
      · exact .inr (.inl ⟨by rw[g?_old hi];exact hg,hk.mono hMM⟩)
      · exact .inr (.inr ⟨by rw[g?_old hi];exact hg,hk⟩)
    · exact .inr (.inl ⟨by rw[g?_of hx,hu x hxu],hm x hxu a hxa hmem⟩)
theorem nV{said:Bool}(h:¬ Race said t)(hn:∀ op∈u,op.act.touch? = none):¬ Race said (t++u):=by
 rintro⟨i,j,hij,⟨a,b,ha,hb,hc⟩,n1,n2⟩;obtain⟨x,hx,hxa⟩:=touch_of ha;obtain⟨y,hy,hyb⟩:=touch_of hb;rcases getElem?_append_cases hy with⟨hj,hy'⟩ | ⟨hj,hyu⟩
 · have hi : i < t.size := Nat.lt_trans hij hj; have hx' : t[i]? = some x := by rw [← getElem?_append_old (u := u) hi]; exact hx
   exact h ⟨i,j,hij,⟨a,b,by simp[Trace.act?,hx',hxa],by simp[Trace.act?,hy',hyb],hc⟩,fun e=>n1 (hb_app u e),fun e=>n2 (hb_app u e)⟩
 · rw[hn y hyu]at hyb;cases hyb
theorem Pair.dull(h:Pair m n B M S t)(hn:∀ op∈u,op.act.touch? = none):Pair m n B M S (t++u):=by
 refine⟨h.pos,fun said=>nV (h.clean said) hn,fun i a ha hmem=>?_,h.apart,h.highM,h.highS⟩;obtain⟨x,hx,hxa⟩:=touch_of ha;rcases getElem?_append_cases hx with⟨hi,hx'⟩ | ⟨_,hxu⟩
 · rcases h.known i a (by rw [touchAt_of hx']; exact hxa) hmem with hk | ⟨hg, hk⟩ | ⟨hg, hk⟩
   · exact .inl ⟨hk.1.app u,hk.2.app u⟩
   · exact .inr (.inl ⟨by rw[g?_old hi];exact hg,hk⟩)
   · exact .inr (.inr ⟨by rw[g?_old hi];exact hg,hk⟩)
 · rw[hn x hxu]at hxa;cases hxa
theorem Deaf_still(t:Trace)(g:Nat)(u:Trace)(hu:∀ op∈u,op.act≠.mark .disable∧op.act≠.mark .enable):Deaf (t++u) g=Deaf t g:=by
 obtain⟨l⟩:=u;rw[Deaf_append];generalize Deaf t g=k
 induction l with
 | nil=>rfl
 | cons y l ih =>
   have hy:=hu y (by simp);have e1:deafStep g k y=k:=by
    unfold deafStep
    split
    · rename_i e;exact absurd e hy.1
    · rename_i e;exact absurd e hy.2
    · rfl
   rw[List.foldl_cons,e1];exact ih (fun op hop=>hu op (by simp at hop ⊢;exact .inr hop))
theorem tUA{t:Trace}(h:Kn t)(hn:n≠0)(hd:Deaf t n=0)(fn fn':FuncId)(pos pos':String) :
 Pair 0 n B (fun _=>False) (fun _=>False) (t++#[{ g:=0,fn,pos,act:=.go n },{ g:=n,fn:=fn',pos:=pos',act:=.start }]):=by
 let y:MemOp:={ g:=0,fn,pos,act:=.go n }
 let z:MemOp:={ g:=n,fn:=fn',pos:=pos',act:=.start }
 have hy:(t++#[y,z])[t.size]? = some y:=by rw[Array.getElem?_append_right (Nat.le_refl _)];simp
 have hz:(t++#[y,z])[t.size+1]? = some z:=by rw[Array.getElem?_append_right (by omega)];simp
 have hearsY:(t++#[y,z]).heard t.size:=⟨0,by simp[Trace.g?,hy,y],by rw[deaf_old (Nat.le_refl _)];exact h.hears⟩;have hearsZ:(t++#[y,z]).heard (t.size+1):=by
  refine⟨n,by simp[Trace.g?,hz,z],?_⟩;rw[deaf_succ hy,deaf_old (Nat.le_refl _)];exact hd
 have hyz:HappensBefore (t++#[y,z]) t.size (t.size+1):=.single (.inr ⟨.spawn (child:=n) (by simp[Trace.act?,hy,y]) (by simp[Trace.act?,hz,z]) (by simp[Trace.g?,hz,z]),hearsY,hearsZ⟩);refine⟨hn,fun said=>nV (h.clean said) (by simp[MemAct.touch?]),fun i a ha hmem=>?_,by simp,by simp,by simp⟩;obtain⟨x,hx,hxa⟩:=touch_of ha;rcases getElem?_append_cases hx with⟨hi,hx'⟩ | ⟨_,hxu⟩
 · have hk:=h.known i a (by rw[touchAt_of hx'];exact hxa) hmem;refine .inl ⟨hk.app _,?_⟩;exact⟨t.size+1,z,hz,rfl,.inr ((hk.hb_new (Nat.le_refl _) hy rfl).trans hyz)⟩
 · have : x.act.touch? = none := by
     simp at hxu;rcases hxu with rfl | rfl<;>rfl
   rw[this]at hxa;cases hxa
structure Shut (n c p:Nat) (t:Trace):Prop where
 act:t.act? p=some (.close c)
 g:t.g? p=some n
 heard:t.heard p
 last:∀ i x,touchAt t i=some x→t.g? i=some n→i < p
theorem Shut.app{c p:Nat}(h:Shut n c p t)(hu:∀ op∈u,op.g=n→op.act.touch? = none):Shut n c p (t++u):=by
 have hp:p < t.size:=lt_of_act? h.act;refine⟨by rw[act?_old hp];exact h.act,by rw[g?_old hp];exact h.g,(heard_old hp).2 h.heard,fun i x hx hg=>?_⟩;obtain⟨y,hy,hyx⟩:=touch_of hx;rcases getElem?_append_cases hy with⟨hi,hy'⟩ | ⟨_,hyu⟩
 · exact h.last i x (by rw[touchAt_of hy'];exact hyx) (by rw[← g?_old (u:=u) hi];exact hg)
 · rw[g?_of hy]at hg;rw[hu y hyu (Option.some.inj hg)]at hyx;cases hyx
theorem l4A{c p:Nat}{fn:FuncId}{pos:String}(h:Pair 0 n B M S t)(hh:Deaf t 0=0)(hs:Shut n c p t):Kn (t++#[{ g:=0,fn,pos,act:=.recvClosed c }]):=by
 let y:MemOp:={ g:=0,fn,pos,act:=.recvClosed c }
 have hp:p < t.size:=lt_of_act? hs.act;have hy:(t++#[y])[t.size]? = some y:=by rw[Array.getElem?_append_right (Nat.le_refl _)];simp
 have d0:Deaf (t++#[y]) 0=Deaf t 0:=Deaf_still t 0 _ (by simp[y]);have hearsY:(t++#[y]).heard t.size:=⟨0,by simp[Trace.g?,hy,y],by rw[deaf_old (Nat.le_refl _)];exact hh⟩;have hpy:HappensBefore (t++#[y]) p t.size:=.single (.inr ⟨.closed (c:=c) (by rw[act?_old hp];exact hs.act) (by simp[Trace.act?,hy,y]),(heard_old hp).2 hs.heard,hearsY⟩);refine⟨fun said=>nV (h.clean said) (by simp[MemAct.touch?]),fun i a ha hmem=>?_,d0.trans hh⟩;obtain⟨x,hx,hxa⟩:=touch_of ha;rcases getElem?_append_cases hx with⟨hi,hx'⟩ | ⟨_,hxu⟩
 · have hta : touchAt t i = some a := by rw [touchAt_of hx']; exact hxa
   rcases h.known i a hta hmem with hk | ⟨hg,hk⟩ | ⟨hg,hk⟩
   · exact hk.1.app _
   · exact(cGA hg).app _
   · have hip:=hs.last i a hta hg;have hpo:HappensBefore t i p:=.single (.inl ⟨hip,n,hg,hs.g⟩);exact⟨t.size,y,hy,rfl,.inr ((hb_app #[y] hpo).trans hpy)⟩
 · have : x.act.touch? = none := by
     simp at hxu;subst hxu;rfl
   rw[this]at hxa;cases hxa
structure Split (d:Deal) (T0 T1:TypeId→Prop) (h:Array Obj) (M S:Nat→Prop) (o0 o1:Option Nat):Prop where
 bsize:d.B≤h.size
 own0:∀ b cs ty fz,d.B≤b→h[b]? = some (.cells cs ty fz)→T0 ty→M b
 own1:∀ b cs ty fz,d.B≤b→h[b]? = some (.cells cs ty fz)→T1 ty→S b
 lowM:∀ b,M b→b < h.size
 lowS:∀ b,S b→b < h.size
 box0:∀ b,o0=some b→M b
 box1:∀ b,o1=some b→S b
variable {d : Deal} {T0 T1 : TypeId → Prop} {tb : TypeId} {w w' : World} {M S : Nat → Prop} {o0 o1 : Option Nat}
theorem Split.symm{h:Array Obj}(s:Split d T0 T1 h M S o0 o1):Split d T1 T0 h S M o1 o0:=⟨s.bsize,s.own1,s.own0,s.lowS,s.lowM,s.box1,s.box0⟩
def More(M:Nat→Prop)(w w':World)(b:Nat):Prop:=M b∨(w.heap.size≤b∧b < w'.heap.size)
theorem Split.mine(s:Split d T0 T1 w.heap M S o0 o1){b:Nat}(h:Own d T0 o0 w b):M b:=by
 rcases h with⟨hb,cs,ty,fz,hc,ht⟩ | h
 · exact s.own0 b cs ty fz hb hc ht
 · exact s.box0 b h
theorem Split.felt(s:Split d T0 T1 w.heap M S o0 o1)(hap:∀ b,M b→¬ S b)(hM:∀ b,M b→d.B≤b)(h:Turn d T0 o0 w w'):Rely d T1 o1 w w':=by
 refine⟨h.tape,h.os,h.output,h.size,fun b hb _=>?_,fun b hb=>?_⟩
 · refine h.rest b (Nat.lt_of_lt_of_le hb s.bsize) fun ho => ?_
   have:=hM b (s.mine ho);omega
 · exact h.rest b (s.lowS b (s.symm.mine hb)) fun ho=>hap b (s.mine ho) (s.symm.mine hb)
theorem Boxes.old(h:Boxes tb w w'){b:Nat}(hb:b < w.heap.size):w'.heap[b]? = w.heap[b]? := by
 obtain⟨cs,fz,e⟩:=h.heap;rw[e,Array.getElem?_push_lt hb,Array.getElem?_eq_getElem hb]
theorem Boxes.size(h:Boxes tb w w'):w'.heap.size=w.heap.size+1:=by
 obtain⟨cs,fz,e⟩:=h.heap;rw[e,Array.size_push]
theorem Boxes.new(h:Boxes tb w w'):∃ cs fz,w'.heap[w.heap.size]? = some (.cells cs tb fz):=by
 obtain⟨cs,fz,e⟩:=h.heap;exact⟨cs,fz,by rw[e];simp⟩
theorem Split.feltBox(s:Split d T0 T1 w.heap M S o0 o1)(h:Boxes tb w w'):Rely d T1 o1 w w':=by
 refine⟨h.tape,h.os,h.output,by rw[h.size];omega,fun b hb _=>h.old (Nat.lt_of_lt_of_le hb s.bsize),fun b hb=>h.old (s.lowS b (s.symm.mine hb))⟩
theorem wHA(s:Split d T0 T1 w.heap M S o0 o1)(hap:∀ b,M b→¬ S b):∀ b,More M w w' b→¬ S b:=by
 rintro b (h | h) hS
 · exact hap b h hS
 · have:=s.lowS b hS;omega
theorem kJA(s:Split d T0 T1 w.heap M S o0 o1)(hM:∀ b,M b→d.B≤b):∀ b,More M w w' b→d.B≤b:=by
 rintro b (h | h)
 · exact hM b h
 · exact Nat.le_trans s.bsize h.1
theorem Split.turn(s:Split d T0 T1 w.heap M S o0 o1)(hdis:∀ ty,T0 ty→¬ T1 ty)(h:Turn d T0 o0 w w'):Split d T0 T1 w'.heap (More M w w') S o0 o1:=by
 have back:∀ b cs ty fz,b < w.heap.size→w'.heap[b]? = some (.cells cs ty fz)→(∃ cs' fz',w.heap[b]? = some (.cells cs' ty fz'))∨(o0=some b∧∀ cs ty fz,w.heap[b]?≠some (.cells cs ty fz)):=by
  intro b cs ty fz hb hc;by_cases ho:Own d T0 o0 w b
  · by_cases hex : ∃ cs' ty' fz', w.heap[b]? = some (.cells cs' ty' fz')
    · obtain ⟨cs', ty', fz', e⟩ := hex; obtain ⟨cs2, fz2, e2⟩ := h.typ b hb ho cs' ty' fz' e; rw [e2] at hc
      injection hc with hc;injection hc with _ hty _
      subst hty;exact .inl ⟨cs',fz',e⟩
    · rcases ho with ⟨_, cs', ty', fz', e, _⟩ | ho
      · exact absurd ⟨cs',ty',fz',e⟩ hex
      · exact .inr ⟨ho,fun cs ty fz e=>hex ⟨cs,ty,fz,e⟩⟩
  · exact .inl ⟨cs,fz,by rw[← h.rest b hb ho];exact hc⟩
 refine⟨Nat.le_trans s.bsize h.size,fun b cs ty fz hb hc ht=>?_,fun b cs ty fz hb hc ht=>?_,fun b hb=>?_,fun b hb=>Nat.lt_of_lt_of_le (s.lowS b hb) h.size,fun b hb=>.inl (s.box0 b hb),s.box1⟩
 · rcases Nat.lt_or_ge b w.heap.size with hlt | hge
   · rcases back b cs ty fz hlt hc with ⟨cs', fz', e⟩ | ⟨e, _⟩
     · exact .inl (s.own0 b cs' ty fz' hb e ht)
     · exact .inl (s.box0 b e)
   · exact .inr ⟨hge,(Array.getElem?_eq_some_iff.1 hc).1⟩
 · rcases Nat.lt_or_ge b w.heap.size with hlt | hge
   · by_cases ho : Own d T0 o0 w b
     · rcases ho with ⟨_, cs', ty', fz', e, ht'⟩ | ho
       · obtain ⟨cs2, fz2, e2⟩ := h.typ b hlt (.inl ⟨hb, cs', ty', fz', e, ht'⟩) cs' ty' fz' e; rw [e2] at hc
         injection hc with hc;injection hc with _ hty _
         subst hty;exact absurd ht (hdis _ ht')
       · rcases back b cs ty fz hlt hc with ⟨cs', fz', e⟩ | ⟨_, e⟩
         · exact s.own1 b cs' ty fz' hb e ht
         · exact absurd hc (h.boxed b ho e cs ty fz)
     · exact s.own1 b cs ty fz hb (by rw[← h.rest b hlt ho];exact hc) ht
   · obtain ⟨cs', ty', fz', e, ht'⟩ := h.new b hge (Array.getElem?_eq_some_iff.1 hc).1; rw [e] at hc
     injection hc with hc;injection hc with _ hty _
     subst hty;exact absurd ht (hdis _ ht')
 · rcases hb with hb | hb
   · exact Nat.lt_of_lt_of_le (s.lowM b hb) h.size
   · exact hb.2
theorem Split.box(s:Split d T0 T1 w.heap M S o0 o1)(h0:¬ T0 tb)(h1:¬ T1 tb)(h:Boxes tb w w'):Split d T0 T1 w'.heap (More M w w') S (some w.heap.size) o1:=by
 have hs:=h.size;obtain⟨csn,fzn,hn⟩:=h.new;have key:∀ b cs ty fz,w'.heap[b]? = some (.cells cs ty fz)→b < w.heap.size∨(b=w.heap.size∧ty=tb):=by
  intro b cs ty fz hc;have hlt:=(Array.getElem?_eq_some_iff.1 hc).1;rcases Nat.lt_or_ge b w.heap.size with hb | hb
  · exact .inl hb
  · have : b = w.heap.size := by omega
    subst this;rw[hn]at hc
    injection hc with hc;injection hc with _ hty _
    exact .inr ⟨rfl,hty.symm⟩
 refine⟨by have:=s.bsize;omega,fun b cs ty fz hb hc ht=>?_,fun b cs ty fz hb hc ht=>?_,fun b hb=>?_,fun b hb=>by have:=s.lowS b hb;omega,fun b hb=>?_,s.box1⟩
 · rcases key b cs ty fz hc with hlt | ⟨_, rfl⟩
   · exact .inl (s.own0 b cs ty fz hb (by rw[← h.old hlt];exact hc) ht)
   · exact absurd ht h0
 · rcases key b cs ty fz hc with hlt | ⟨_, rfl⟩
   · exact s.own1 b cs ty fz hb (by rw[← h.old hlt];exact hc) ht
   · exact absurd ht h1
 · rcases hb with hb | hb
   · have:=s.lowM b hb;omega
   · exact hb.2
 · obtain rfl:=Option.some.inj hb;exact .inr ⟨Nat.le_refl _,by omega⟩
theorem Split.same{h h':Array Obj}(s:Split d T0 T1 h M S o0 o1)(hs:h'.size=h.size)(hc:∀ b,d.B≤b→h'[b]? = h[b]?):Split d T0 T1 h' M S o0 o1 :=
 ⟨by rw [hs]; exact s.bsize, fun b cs ty fz hb e => s.own0 b cs ty fz hb (by rw [← hc b hb]; exact e), fun b cs ty fz hb e => s.own1 b cs ty fz hb (by rw [← hc b hb]; exact e),
   fun b hb=>by rw[hs];exact s.lowM b hb,fun b hb=>by rw[hs];exact s.lowS b hb,s.box0,s.box1⟩
theorem Split.chan(s:Split d T0 T1 w.heap M S o0 o1)(hB:d.c < d.B){cap st r:Nat}{buf:Array Value}{cl tm:Bool}:Split d T0 T1 (w.setChan d.c cap buf cl st r tm).heap M S o0 o1 :=
 s.same (by simp[World.setChan]) fun b hb=>by
  simp only[World.setChan];rw[Array.getElem?_setIfInBounds_ne (by omega)]
theorem iEA(s:Split d T0 T1 w'.heap M S o0 o1){e:Event}(h:wY d T0 o0 w' e)(x:Touch)(hx:(MemAct.ofEvent e).touch? = some x)(hm:x.loc.isMemory=true):Mine d.B M x:=by
 obtain⟨a,ha,hb⟩:=h.1 x hx hm;exact .inl ⟨a,ha,hb.imp (fun o=>s.mine o) id⟩
open Go.ConcN (sumTo upd sumTo_upd upd_ne upd_same)
inductive MAct where
 | box
 | recv (v:Value)
inductive SAct where
 | box
 | send (v:Value)
def recvs : List MAct → List Value
  | []=>[]
  | .box::l=>recvs l
  | .recv v::l=>v::recvs l
def sends : List SAct → List Value
  | []=>[]
  | .box::l=>sends l
  | .send v::l=>v::sends l
structure Shared where
 P:Program
 d:Deal
 q:Nat
 T0:TypeId→Prop
 T1:TypeId→Prop
 tb:TypeId
 z:Value
 zc:Value
 zq:Value
 Fin:Goroutine→World→Prop
structure Shared.Fit (X:Shared):Prop where
 dis:∀ ty,X.T0 ty→¬ X.T1 ty
 tb0:¬ X.T0 X.tb
 tb1:¬ X.T1 X.tb
 cB:X.d.c < X.d.B
 qB:X.q < X.d.B
 cq:X.d.c≠X.q
variable (X : Shared)
def Shared.rcv:Array CommCase:=#[rcase X.d.c X.z]
def Shared.sel(v:Value):Array CommCase:=#[scase X.d.c v X.zc,rcase X.q X.zq]
def aBB(main:Bool)(T:TypeId→Prop)(K:Option Nat→Goroutine→World→Prop)(g:Goroutine)(w:World):Prop :=
 g.status = .running∧∃ g' w' es,stepG X.P main g w = .go g' w' es∧Boxes X.tb w w'∧(∀ e∈es,wY X.d T (some w.heap.size) w' e)∧K (some w.heap.size) g' w'
def AtRecv(v:Value)(K:Goroutine→World→Prop)(g:Goroutine)(w:World):Prop :=
 g.status = .running∧stepG X.P true g w = .comm g X.rcv true (.recv true) w #[]∧K (g.finishComm X.P X.rcv (.recv true) 0 v true) w
def AtEnd(g:Goroutine)(w:World):Prop :=
 g.status = .running∧stepG X.P true g w = .comm g X.rcv true (.recv true) w #[]∧X.Fin (g.finishComm X.P X.rcv (.recv true) 0 X.z false) w
def AtSend(v:Value)(K:Goroutine→World→Prop)(g:Goroutine)(w:World):Prop :=
 g.status = .running∧stepG X.P false g w = .comm g (X.sel v) true .select w #[]∧K (g.finishComm X.P (X.sel v) .select 0 undef false) w
def AtClose(g:Goroutine)(w:World):Prop :=
 g.status = .running∧mayWake X.P g=true∧∀ s r tm,w.heap[X.d.c]? = some (.chan 0 #[] false s r tm) →
  ∃ g' k,stepG X.P false g w = .go g' (w.setChan X.d.c 0 #[] true s r tm) #[⟨.obj X.d.c,false,true⟩,⟨.obj X.d.c,true,true⟩]∧QuitsD X.P k 0 g'
def StopM : List MAct → Option Nat → Goroutine → World → Prop
  | [],_=>AtEnd X
  | .recv v::l,o=>AtRecv X v fun g w=>∃ m,Goes X.P true (Rely X.d X.T0 o) (Does X.d X.T0 o) (StopM l o) m g w
  | .box::l,_=>aBB X true X.T0 fun o' g w=>∃ m,Goes X.P true (Rely X.d X.T0 o') (Does X.d X.T0 o') (StopM l o') m g w
def StopS : List SAct → Option Nat → Goroutine → World → Prop
  | [],_=>AtClose X
  | .send v::l,o=>AtSend X v fun g w=>∃ m,Goes X.P false (Rely X.d X.T1 o) (Does X.d X.T1 o) (StopS l o) m g w
  | .box::l,_=>aBB X false X.T1 fun o' g w=>∃ m,Goes X.P false (Rely X.d X.T1 o') (Does X.d X.T1 o') (StopS l o') m g w
abbrev GoM(l:List MAct)(o:Option Nat)(m:Nat):Goroutine→World→Prop:=Goes X.P true (Rely X.d X.T0 o) (Does X.d X.T0 o) (StopM X l o) m
abbrev GoS(l:List SAct)(o:Option Nat)(m:Nat):Goroutine→World→Prop:=Goes X.P false (Rely X.d X.T1 o) (Does X.d X.T1 o) (StopS X l o) m
inductive IsM (l : List MAct) (o : Option Nat) (g : Goroutine) (w : World) : Nat → Prop
  | walks {m:Nat} (h:GoM X l o m g w):IsM l o g w (m+1)
  | waits {g₀:Goroutine} (e:g=parked g₀ X.rcv (.recv true)) (h:∀ w₁,Rely X.d X.T0 o w w₁→StopM X l o g₀ w₁) (hl:∀ l',l≠.box::l'):IsM l o g w 0
inductive IsS (l : List SAct) (o : Option Nat) (g : Goroutine) (w : World) : Nat → Prop
  | walks {m:Nat} (h:GoS X l o m g w):IsS l o g w (m+1)
  | waits {g₀:Goroutine} {v:Value} {l':List SAct} (hl:l = .send v::l') (e:g=parked g₀ (X.sel v) .select) (h:∀ w₁,Rely X.d X.T1 o w w₁→StopS X l o g₀ w₁):IsS l o g w 0
def Gets(P:Program)(Stop:Goroutine→World→Prop)(gs:Array Goroutine)(w:World)(sl:Option (Nat×Nat))(t:Trace):Prop :=
 ∃(N:Nat) (gs':Array Goroutine) (g':Goroutine) (w':World) (sl':Option (Nat×Nat)) (t':Trace) (q':Nat→Nat),
  runNT P N (crowd gs w sl) t=(.next (crowd gs' w' sl'),t')∧gs'[0]? = some g'∧Stop g' w'∧Leavers P t' gs' q'∧Kn t'
theorem RunsTo.gets{P:Program}{Stop:Goroutine→World→Prop}{gs:Array Goroutine}{w:World}{sl:Option (Nat×Nat)}{t:Trace}(h:RunsTo P Stop gs w sl t):Gets P Stop gs w sl t:=by
 obtain⟨N,gs',g',w',sl',t',q',h1,_,h2,h3,h4,h5⟩:=h;exact⟨N,gs',g',w',sl',t',q',h1,h2,h3,h4,h5⟩
theorem Gets.step {P : Program} {Stop : Goroutine → World → Prop} {gs gs1 : Array Goroutine} {w w1 : World} {sl sl1 : Option (Nat × Nat)} {t u : Trace}
    (h:stepT P (crowd gs w sl)=(.next (crowd gs1 w1 sl1),u)) (hg:Gets P Stop gs1 w1 sl1 (t++u)):Gets P Stop gs w sl t:=by
  obtain⟨N,gs',g',w',sl',t',q',h1,h2,h3,h4,h5⟩:=hg;exact⟨N+1,gs',g',w',sl',t',q',by simp only[runNT,h];exact h1,h2,h3,h4,h5⟩
theorem eIA {P : Program} : ∀ (N K : Nat) (m m' : Machine) (t t' : Trace), runNT P N m t = (.next m', t') → runNT P (N + K) m t = runNT P K m' t'
  | 0, K, m, m', t, t', h => by
    simp only[runNT,Prod.mk.injEq,Stepped.next.injEq]at h;rw[Nat.zero_add,h.1,h.2]
  | N + 1, K, m, m', t, t', h => by
    rw[show N+1+K=(N+K)+1 by omega];simp only[runNT]at h ⊢;rcases e:stepT P m with⟨r,ops⟩
    rw[e]at h
    cases r with
    | next m1=>exact eIA N K _ _ _ _ h
    | _=>simp at h
theorem Gets.trans {P : Program} {S1 S2 : Goroutine → World → Prop} {gs : Array Goroutine} {w : World} {sl : Option (Nat × Nat)} {t : Trace} (h : Gets P S1 gs w sl t)
    (h2:∀ gs' g' w' sl' t' q',gs'[0]? = some g'→S1 g' w'→Leavers P t' gs' q'→Kn t'→Gets P S2 gs' w' sl' t'):Gets P S2 gs w sl t:=by
  obtain⟨N,gs',g',w',sl',t',q',e,h0,hS,hL,hK⟩:=h;obtain⟨N2,gs2,g2,w2,sl2,t2,q2,e2,h02,hS2,hL2,hK2⟩:=h2 gs' g' w' sl' t' q' h0 hS hL hK;exact⟨N+N2,gs2,g2,w2,sl2,t2,q2,by rw[eIA N N2 _ _ _ _ e];exact e2,h02,hS2,hL2,hK2⟩
open Go.ConcN (sumTo upd sumTo_upd upd_ne upd_same)
variable {X : Shared}
structure Inv (X:Shared) (n top:Nat) (cl:Bool) (gs:Array Goroutine) (w:World) (t:Trace) (qs:Nat→Nat) (M S:Nat→Prop) (o0 o1:Option Nat):Prop where
 pos:0 < n
 size:gs.size=n+1
 topl:top≤n+1
 old:∀ j x,0 < j→j < top→gs[j]? = some x→QuitsD X.P (qs j) (Deaf t j) x
 above:∀ j,n < j→Deaf t j=0
 pair:Pair 0 n X.d.B M S t
 hears0:Deaf t 0=0
 hearsN:cl=false→Deaf t n=0
 split:Split X.d X.T0 X.T1 w.heap M S o0 o1
 quit:∃ s r tm,w.heap[X.q]? = some (.chan 0 #[] false s r tm)
 chan:∃ s r tm,w.heap[X.d.c]? = some (.chan 0 #[] cl s r tm)
variable {n top : Nat} {cl : Bool} {gs : Array Goroutine} {w w' : World} {t u : Trace} {qs : Nat → Nat} {M S : Nat → Prop} {o0 o1 o0' o1' : Option Nat}
theorem Inv.at(h:Inv X n top cl gs w t qs M S o0 o1)(e:Nat):Inv X n top cl gs (w.at e) t qs M S o0 o1 :=
 ⟨h.pos,h.size,h.topl,h.old,h.above,h.pair,h.hears0,h.hearsN,h.split,h.quit,h.chan⟩
theorem wVA{f:Goroutine→Goroutine}{i:Nat}{y:Goroutine}(h:∀ j x,j≠i→gs[j]? = some x→f x=x):(gs.map f).setIfInBounds i y=gs.setIfInBounds i y:=by
 apply Array.ext_getElem?;intro j;by_cases hj:i=j
 · subst hj; by_cases hlt : i < gs.size
   · rw[Array.getElem?_setIfInBounds_self_of_lt (by simpa using hlt),Array.getElem?_setIfInBounds_self_of_lt hlt]
   · rw[Array.getElem?_eq_none (by simpa using hlt),Array.getElem?_eq_none (by simpa using hlt)]
 · rw [Array.getElem?_setIfInBounds_ne hj, Array.getElem?_setIfInBounds_ne hj, Array.getElem?_map]
   cases e:gs[j]? with
   | none=>rfl
   | some x=>simp[h j x (fun e=>hj e.symm) e]
theorem Split.low(s:Split X.d X.T0 X.T1 w.heap M S o0 o1)(hM:∀ b,M b→X.d.B≤b)(h:Turn X.d X.T0 o0 w w'){b:Nat}(hb:b < X.d.B):w'.heap[b]? = w.heap[b]? := by
 refine h.rest b (Nat.lt_of_lt_of_le hb s.bsize) fun ho=>?_
 have:=hM b (s.mine ho);omega
theorem Inv.step0 (F : X.Fit) (h : Inv X n top cl gs w t qs M S o0 o1) (hlow : ∀ b, b < X.d.B → w'.heap[b]? = w.heap[b]?) (hs : Split X.d X.T0 X.T1 w'.heap (More M w w') S o0' o1)
    {es:Array Event} (hev:∀ e∈es,wY X.d X.T0 o0' w' e) (fn:FuncId) (pos:String) (g':Goroutine) :
    Inv X n top cl (gs.setIfInBounds 0 g') w' (t++MemOp.ofEvents 0 fn pos es) qs (More M w w') S o0' o1:=by
  have hu:∀ op∈MemOp.ofEvents 0 fn pos es,op.g=0:=fun op hop=>by obtain⟨e,_,rfl⟩:=Conc.mem_ofEvents hop;rfl
  have hd0:Deaf (t++MemOp.ofEvents 0 fn pos es) 0=0:=by
   rw[Deaf_own,deafBehind_still (fun e he=>(hev e he).2)];exact h.hears0
  refine⟨h.pos,by simpa using h.size,h.topl,fun j x hj hjt hx=>?_,fun j hj=>?_,?_,hd0,fun hc=>(Deaf_other t (Nat.ne_of_lt h.pos) _ hu).trans (h.hearsN hc),hs,?_,?_⟩
  · rw[Array.getElem?_setIfInBounds_ne (by omega)]at hx;rw[Deaf_other t (by omega) _ hu];exact h.old j x hj hjt hx
  · rw[Deaf_other t (g':=0) (by omega) _ hu];exact h.above j hj
  · refine h.pair.app hu (fun op hop x hx hm=>?_) (fun b hb=>.inl hb) (wHA h.split h.pair.apart) (kJA h.split h.pair.highM);obtain⟨e,he,rfl⟩:=Conc.mem_ofEvents hop;exact iEA hs (hev e he) x hx hm
  · rw[hlow _ F.qB];exact h.quit
  · rw[hlow _ F.cB];exact h.chan
theorem Inv.stepN (F : X.Fit) (h : Inv X n n cl gs w t qs M S o0 o1) (hlow : ∀ b, b < X.d.B → w'.heap[b]? = w.heap[b]?) (hs : Split X.d X.T1 X.T0 w'.heap (More S w w') M o1' o0)
    {es:Array Event} (hev:∀ e∈es,wY X.d X.T1 o1' w' e) (fn:FuncId) (pos:String) (g':Goroutine) :
    Inv X n n cl (gs.setIfInBounds n g') w' (t++MemOp.ofEvents n fn pos es) qs M (More S w w') o0 o1':=by
  have hu:∀ op∈MemOp.ofEvents n fn pos es,op.g=n:=fun op hop=>by obtain⟨e,_,rfl⟩:=Conc.mem_ofEvents hop;rfl
  have hd0:cl=false→Deaf (t++MemOp.ofEvents n fn pos es) n=0:=fun hc=>by
   rw[Deaf_own,deafBehind_still (fun e he=>(hev e he).2)];exact h.hearsN hc
  have hp:=h.pos;refine⟨h.pos,by simpa using h.size,h.topl,fun j x hj hjt hx=>?_,fun j hj=>?_,?_,(Deaf_other t (by omega) _ hu).trans h.hears0,hd0,hs.symm,?_,?_⟩
  · rw[Array.getElem?_setIfInBounds_ne (by omega)]at hx;rw[Deaf_other t (by omega) _ hu];exact h.old j x hj hjt hx
  · rw[Deaf_other t (g':=n) (by omega) _ hu];exact h.above j hj
  · refine(h.pair.symm.app hu (fun op hop x hx hm=>?_) (fun b hb=>.inl hb) (wHA h.split.symm h.pair.symm.apart) (kJA h.split.symm h.pair.symm.highM)).symm;obtain⟨e,he,rfl⟩:=Conc.mem_ofEvents hop;exact iEA hs (hev e he) x hx hm
  · rw[hlow _ F.qB];exact h.quit
  · rw[hlow _ F.cB];exact h.chan
theorem Inv.slip (h : Inv X n top cl gs w t qs M S o0 o1) {i k : Nat} {g' : Goroutine} {es : Array Event} (hi0 : 0 < i) (hit : i < top) (hm : ∀ e ∈ es, Event.mute e = true)
    (hnt:i=n→cl=true)
    (hq:QuitsD X.P k (deafBehind (Deaf t i) es) g') (fn:FuncId) (pos:String) :
    Inv X n top cl (gs.setIfInBounds i g') w (t++MemOp.ofEvents i fn pos es) (upd qs i k) M S o0 o1:=by
  have hu:∀ op∈MemOp.ofEvents i fn pos es,op.g=i:=fun op hop=>by obtain⟨e,_,rfl⟩:=Conc.mem_ofEvents hop;rfl
  have hn:∀ op∈MemOp.ofEvents i fn pos es,op.act.touch? = none:=fun op hop=>by obtain⟨e,he,rfl⟩:=Conc.mem_ofEvents hop;exact touch_mute (hm e he)
  have hil:i < gs.size:=by have:=h.size;have:=h.topl;omega
  refine⟨h.pos,by simpa using h.size,h.topl,fun j y hj hjt hy=>?_,fun j hj=>?_,h.pair.dull hn,(Deaf_other t (by omega) _ hu).trans h.hears0,fun hc=>?_,h.split,h.quit,h.chan⟩
  · by_cases hji : i = j
    · subst hji;rw[Array.getElem?_setIfInBounds_self_of_lt hil]at hy;obtain rfl:=Option.some.inj hy;rw[upd_same,Deaf_own];exact hq
    · rw[Array.getElem?_setIfInBounds_ne hji]at hy;rw[upd_ne qs k (Ne.symm hji),Deaf_other t hji _ hu];exact h.old j y hj hjt hy
  · have:=h.topl;rw[Deaf_other t (g':=i) (by omega) _ hu];exact h.above j hj
  · by_cases hin : i = n
    · rw[hnt hin]at hc;cases hc
    · exact(Deaf_other t hin _ hu).trans (h.hearsN hc)
theorem yH{P:Program}{i:Nat}{g g':Goroutine}(hst:∀ j x,j≠i→gs[j]? = some x→x.status = .running∨x.status = .finished∨x.again w'=x) :
 (gs.map (woken P g g' w')).setIfInBounds i g'=gs.setIfInBounds i g':=by
 refine wVA fun j x hj hx=>?_
 unfold woken
 split
 · rcases hst j x hj hx with h | h | h
   · exact again_running _ (.inl h)
   · exact again_running _ (.inr h)
   · exact h
 · rfl
open Go.ConcN (sumTo upd sumTo_upd upd_ne upd_same)
variable {X : Shared} {n top : Nat} {cl : Bool} {gs : Array Goroutine} {w w' : World} {t u : Trace} {qs : Nat → Nat} {M S : Nat → Prop} {o0 o1 o0' o1' : Option Nat}
theorem wP{P:Program}{main:Bool}{R:World→World→Prop}{D:World→World→Array Event→Prop}{Stop:Goroutine→World→Prop}{m:Nat}{g:Goroutine}{w:World}(h:Goes P main R D Stop m g w) :
 (∀ w₁,R w w₁→Stop g w₁)∨∃ m',m=m'+1∧g.status = .running∧∀ w₁,R w w₁→∃ g' w' es,stepG P main g w₁ = .go g' w' es∧D w₁ w' es∧Goes P main R D Stop m' g' w':=by
 cases m with
 | zero=>exact .inl h
 | succ m =>
   rcases h with h | ⟨hs,h⟩
   · exact .inl h
   · refine .inr ⟨m, rfl, hs, fun w₁ h₁ => ?_⟩; have := h w₁ h₁
     revert this
     cases stepG P main g w₁<;>simp only[GStep.goes,false_implies];rename_i g' w' es;exact fun⟨a,b⟩=>⟨g',w',es,rfl,a,b⟩
theorem StopM.running{l:List MAct}{o:Option Nat}{g:Goroutine}{w:World}(h:StopM X l o g w):g.status = .running:=by
 cases l with
 | nil=>exact h.1
 | cons a l=>cases a<;>exact h.1
theorem StopS.running{l:List SAct}{o:Option Nat}{g:Goroutine}{w:World}(h:StopS X l o g w):g.status = .running:=by
 cases l with
 | nil=>exact h.1
 | cons a l=>cases a<;>exact h.1
theorem GoM.running{l:List MAct}{o:Option Nat}{m:Nat}{g:Goroutine}{w:World}(h:GoM X l o m g w):g.status = .running :=
 (wP h).elim (fun h=>(h w (Rely.refl w)).running) fun⟨_,_,h,_⟩=>h
theorem GoS.running{l:List SAct}{o:Option Nat}{m:Nat}{g:Goroutine}{w:World}(h:GoS X l o m g w):g.status = .running :=
 (wP h).elim (fun h=>(h w (Rely.refl w)).running) fun⟨_,_,h,_⟩=>h
theorem gU{i k m:Nat}(hlt:i < m)(hq:qs i=k+1):sumTo m (upd qs i k) < sumTo m qs:=by
 have h:sumTo m (upd qs i k)+(k+1)=sumTo m qs+k:=by
  have:=sumTo_upd qs k id hlt
  simpa [hq] using this
 omega
theorem oEB{Q:Nat→Nat→Nat→Prop}(h:∀ A K L,(∀ A' K' L',(A' < A∨(A'=A∧(K' < K∨(K'=K∧L' < L))))→Q A' K' L')→Q A K L):∀ A K L,Q A K L:=by
 intro A
 induction A using Nat.strongRecOn with
 | ind A ihA =>
 intro K
 induction K using Nat.strongRecOn with
 | ind K ihK =>
 intro L
 induction L using Nat.strongRecOn with
 | ind L ihL =>
 refine h A K L fun A' K' L' hlt=>?_
 rcases hlt with h | ⟨rfl,h | ⟨rfl,h⟩⟩
 · exact ihA A' h K' L'
 · exact ihK K' h L'
 · exact ihL L' h
theorem rQ{P:Program}{k e r:Nat}{x:Goroutine}{send:Bool}(h:QuitsD P k e x):offersAt x r send=[] :=
 offersAt_of_not_blocked (by rcases h.status with h | h<;>rw[h]<;>simp) r send
inductive IsB (X : Shared) (l : List MAct) (o : Option Nat) (g : Goroutine) (w : World) : Nat → Prop
  | walks {m:Nat} (h:GoM X l o m g w):IsB X l o g w (m+1)
  | woken {g₀:Goroutine} (hl:l=[]) (e:g={ parked g₀ X.rcv (.recv true) with status:=.running }) (h:∀ w₁,Rely X.d X.T0 o w w₁→AtEnd X g₀ w₁):IsB X l o g w 0
theorem IsB.running{l:List MAct}{o:Option Nat}{m:Nat}{g:Goroutine}{w:World}(h:IsB X l o g w m):g.status = .running:=by
 cases h with
 | walks h=>exact GoM.running h
 | woken _ e _=>rw[e]
theorem IsB.rely{l:List MAct}{o:Option Nat}{m:Nat}{g:Goroutine}{w w₁:World}(h:IsB X l o g w m)(r:Rely X.d X.T0 o w w₁):IsB X l o g w₁ m:=by
 cases h with
 | walks h=>exact .walks (Goes.rely (R:=Rely X.d X.T0 o) (fun _ _ _ a b=>a.trans b) h r)
 | woken hl e h=>exact .woken hl e fun w₂ h₂=>h w₂ (r.trans h₂)
theorem lDA {g g₀ : Goroutine} {p : Nat} {sl : Option (Nat × Nat)} (hI : Inv X n (n + 1) true gs w t qs M S o0 o1) (hS : Shut n X.d.c p t) (h0 : gs[0]? = some g)
    (hst:stepG X.P true g w = .comm g₀ X.rcv true (.recv true) w #[]) (hFin:X.Fin (g₀.finishComm X.P X.rcv (.recv true) 0 X.z false) w) {sl0:Option (Nat×Nat)} {w0:World}
    (hstep:stepT X.P (crowd gs w0 sl0)=runT X.P (crowd gs w sl) 0):Gets X.P X.Fin gs w0 sl0 t:=by
  obtain⟨s,r,tm,hc⟩:=hI.chan;have hp:partners (gs.setIfInBounds 0 ph) X.d.c true=[]:=by
   refine partners_nil fun j x hj=>?_
   rcases getElem?_stand gs 0 j x hj with⟨_,rfl⟩ | ⟨hj0,hx⟩
   · rfl
   · have hjl:=(Array.getElem?_eq_some_iff.1 hx).1;have:=hI.size;exact rQ (hI.old j x (by omega) (by omega) hx)
  have hrun:=crowd_recv_closed (P:=X.P) (sl:=sl) (i:=0) h0 (show stepG X.P (0==0) g w=_ from hst) hc hp;rw[hrun]at hstep;refine Gets.step hstep ?_;have h0l:0 < gs.size:=(Array.getElem?_eq_some_iff.1 h0).1;have hev:(MemOp.ofEvents 0 g.frame.fn g.frame.place #[])=#[]:=rfl;rw[hev,Array.empty_append];have hu:∀ op∈(#[{ g:=0,fn:=g₀.frame.fn,pos:=g₀.frame.place,act:=.recvClosed X.d.c }]:Array MemOp),op.g=0:=by simp
  refine⟨0,_,_,_,_,_,qs,rfl,by simp[h0l];rfl,hFin,⟨fun j x hj hx=>?_,fun j hj=>?_⟩,l4A hI.pair hI.hears0 hS⟩
  · rw[Array.getElem?_setIfInBounds_ne (by omega)]at hx;rw[Deaf_other t (by omega) _ hu];have hjl:=(Array.getElem?_eq_some_iff.1 hx).1;have:=hI.size;exact hI.old j x hj (by omega) hx
  · have := hI.size; have hj' : gs.size ≤ j := by simpa using hj
    rw[Deaf_other t (g:=j) (g':=0) (by omega) _ hu];exact hI.above j (by omega)
theorem jT{g:Goroutine}(hI:Inv X n (n+1) cl gs w t qs M S o0 o1)(h0:gs[0]? = some g)(hr:g.status = .running):∀(i j:Nat) (x:Goroutine),j≠i→gs[j]? = some x→x.status = .running∨x.status = .finished∨x.again w'=x:=by
 intro i j x _ hx;rcases Nat.eq_zero_or_pos j with rfl | hj
 · rw[h0]at hx;obtain rfl:=Option.some.inj hx;exact .inl hr
 · have hjl:=(Array.getElem?_eq_some_iff.1 hx).1;have:=hI.size;exact(hI.old j x hj (by omega) hx).status.imp id .inl
theorem r3A(F:X.Fit):∀(A K L:Nat),∀(l:List MAct) (g:Goroutine) (gs:Array Goroutine) (w:World) (sl:Option (Nat×Nat)) (t:Trace) (qs:Nat→Nat) (M S:Nat→Prop) (o0 o1:Option Nat) (p:Nat),
 l.length=A→recvs l=[]→IsB X l o0 g w K→sumTo gs.size qs=L→gs[0]? = some g→Inv X n (n+1) true gs w t qs M S o0 o1→Shut n X.d.c p t→Gets X.P X.Fin gs w sl t:=by
 refine oEB fun A K L ih=>?_
 intro l g gs w sl t qs M S o0 o1 p hA hr hB hL h0 hI hS;have hrun:=hB.running;have h0l:0 < gs.size:=(Array.getElem?_eq_some_iff.1 h0).1;have haw:∀ x∈gs,awake x:=by
  intro x hx;obtain⟨j,hj,rfl⟩:=Array.mem_iff_getElem.1 hx;rcases Nat.eq_zero_or_pos j with rfl | hpos
  · have : gs[0] = g := by simpa [Array.getElem?_eq_getElem hj] using h0
    rw[this];exact awake_of (.inl hrun)
  · have:=hI.size;exact awake_of ((hI.old j _ hpos (by omega) (Array.getElem?_eq_getElem hj)).status.elim .inl fun x=>.inr (.inr x))
 obtain⟨i,x,e,sl',hi,hx,hst⟩:=crowd_pick (P:=X.P) (w:=w) (sl:=sl) haw ⟨0,g,h0,hrun⟩;have hIe:=hI.at e;have hR:Rely X.d X.T0 o0 w (w.at e):=Rely.at w e;rcases Nat.eq_zero_or_pos i with rfl | hpos
 · rw [h0] at hi; obtain rfl := Option.some.inj hi
   cases hB with
   | woken hl eg hE =>
     obtain⟨h1,h2,h3⟩:=hE _ hR;refine lDA hIe hS h0 ?_ h3 hst;rw[eg,stepG_tries];have:({ g with status:=.running }:Goroutine)=g:=by cases g;simp_all
     exact h2
   | walks hG =>
     rename_i m;rcases wP hG with hstop | ⟨m',rfl,_,hgo⟩
     · have hs := hstop _ hR
       cases l with
       | nil=>exact lDA hIe hS h0 hs.2.1 hs.2.2 hst
       | cons a l =>
         cases a with
         | recv v=>simp[recvs]at hr
         | box =>
           obtain ⟨_, g', w', es, hstep, hbx, hev, m2, hG2⟩ := hs; rw [runT_crowd_go (P := X.P) (i := 0) h0 (show stepG X.P (0 == 0) _ (w.at e) = _ from hstep), yH (jT hIe h0 hrun 0)] at hst; refine Gets.step hst ?_; have hs' := hIe.split.box F.tb0 F.tb1 hbx; have hI' := hIe.step0 F (fun b hb => hbx.old (Nat.lt_of_lt_of_le hb hIe.split.bsize)) hs' hev g.frame.fn g.frame.place g'; exact ih l.length (m2 + 1) (sumTo (gs.setIfInBounds 0 g').size qs) (.inl (by rw [← hA]; simp)) l g' _ w' sl' _ qs _ S _ o1 p rfl (by simpa [recvs] using hr) (.walks hG2) rfl (by simp [h0l]) hI'
             (hS.app fun op hop hg => by
               obtain⟨e,_,rfl⟩:=Conc.mem_ofEvents hop;exact absurd hg (Nat.ne_of_lt hI.pos))
     · obtain ⟨g', w', es, hstep, ⟨hT, hev⟩, hG2⟩ := hgo _ hR; rw [runT_crowd_go (P := X.P) (i := 0) h0 (show stepG X.P (0 == 0) _ (w.at e) = _ from hstep), yH (jT hIe h0 hrun 0)] at hst; refine Gets.step hst ?_; have hs' := hIe.split.turn F.dis hT; have hI' := hIe.step0 F (fun b hb => hIe.split.low hIe.pair.highM hT hb) hs' hev g.frame.fn g.frame.place g'; exact ih A (m' + 1) (sumTo (gs.setIfInBounds 0 g').size qs) (.inr ⟨rfl, .inl (by omega)⟩) l g' _ w' sl' _ qs _ S _ o1 p hA hr (.walks hG2) rfl (by simp [h0l]) hI'
         (hS.app fun op hop hg => by
           obtain⟨e,_,rfl⟩:=Conc.mem_ofEvents hop;exact absurd hg (Nat.ne_of_lt hI.pos))
 · have hil := (Array.getElem?_eq_some_iff.1 hi).1; have hsz := hI.size; have hq := hI.old i x hpos (by omega) hi
   cases hqi:qs i with
   | zero=>rw[hqi]at hq;rw[hq.1]at hx;cases hx
   | succ k =>
     rw[hqi]at hq;rcases hq with⟨hf,_⟩ | ⟨_,g',es,hm,hstp,hq'⟩
     · rw[hf]at hx;cases hx
     have hi0:(i==0)=false:=by simp;omega
     rw[runT_crowd_go (P:=X.P) (i:=i) hi (by rw[hi0];exact hstp (w.at e)),yH (jT hIe h0 hrun i)]at hst;refine Gets.step hst ?_;have hI':=hIe.slip hpos (by omega) hm (fun _=>rfl) hq' x.frame.fn x.frame.place;have hdec:sumTo (gs.setIfInBounds i g').size (upd qs i k) < L:=by
      rw[← hL,Array.size_setIfInBounds];exact gU hil hqi
     exact ih A K (sumTo (gs.setIfInBounds i g').size (upd qs i k)) (.inr ⟨rfl, .inr ⟨rfl, hdec⟩⟩) l g _ (w.at e) sl' _ _ M S o0 o1 p hA hr (hB.rely hR) rfl (by rw [Array.getElem?_setIfInBounds_ne (by omega)]; exact h0) hI'
       (hS.app fun op hop _ => by
         obtain⟨e,he,rfl⟩:=Conc.mem_ofEvents hop;exact touch_mute (hm e he))
open Go.ConcN (sumTo upd sumTo_upd upd_ne upd_same)
variable {X : Shared} {n top : Nat} {cl : Bool} {gs arr : Array Goroutine} {w w' : World} {t u : Trace} {qs : Nat → Nat} {M S : Nat → Prop} {o0 o1 o0' o1' : Option Nat}
theorem Inv.crew(h:Inv X n n cl gs w t qs M S o0 o1)(hs:arr.size=n+1)(ho:∀ j x,0 < j→j < n→arr[j]? = some x→gs[j]? = some x):Inv X n n cl arr w t qs M S o0 o1 :=
 ⟨h.pos,hs,h.topl,fun j x hj hjt hx=>h.old j x hj hjt (ho j x hj hjt hx),h.above,h.pair,h.hears0,h.hearsN,h.split,h.quit,h.chan⟩
theorem Inv.dull(F:X.Fit)(h:Inv X n n false gs w t qs M S o0 o1)(hn:∀ op∈u,op.act.touch? = none)(hd:∀ op∈u,op.act≠.mark .disable∧op.act≠.mark .enable){s r:Nat}{tm:Bool} :
 Inv X n n false gs (w.setChan X.d.c 0 #[] false s r tm) (t++u) qs M S o0 o1:=by
 have hlt:X.d.c < w.heap.size:=Nat.lt_of_lt_of_le F.cB h.split.bsize;refine⟨h.pos,h.size,h.topl,fun j x hj hjt hx=>?_,fun j hj=>?_,h.pair.dull hn,(Deaf_still t 0 u hd).trans h.hears0,fun hc=>(Deaf_still t n u hd).trans (h.hearsN hc),h.split.chan F.cB,?_,?_⟩
 · rw[Deaf_still t j u hd];exact h.old j x hj hjt hx
 · rw[Deaf_still t j u hd];exact h.above j hj
 · simp only[World.setChan];rw[Array.getElem?_setIfInBounds_ne F.cq];exact h.quit
 · exact⟨s,r,tm,by simp only[World.setChan];rw[Array.getElem?_setIfInBounds_self_of_lt hlt]⟩
theorem Inv.shut (F : X.Fit) (h : Inv X n n false gs w t qs M S o0 o1) (hs : arr.size = n + 1) (ho : ∀ j x, 0 < j → j < n → arr[j]? = some x → gs[j]? = some x) {g' : Goroutine} {k : Nat} (hg : arr[n]? = some g')
    (hq:QuitsD X.P k 0 g') (fn:FuncId) (pos:String) {s r:Nat} {tm:Bool} :
    Inv X n (n+1) true arr (w.setChan X.d.c 0 #[] true s r tm) (t++#[{ g:=n,fn,pos,act:=.close X.d.c }]) (upd qs n k) M S o0 o1∧Shut n X.d.c t.size (t++#[{ g:=n,fn,pos,act:=.close X.d.c }]):=by
  have hlt:X.d.c < w.heap.size:=Nat.lt_of_lt_of_le F.cB h.split.bsize;have hd:∀ op∈(#[{ g:=n,fn,pos,act:=.close X.d.c }]:Array MemOp),op.act≠.mark .disable∧op.act≠.mark .enable:=by simp
  have hy:(t++#[({ g:=n,fn,pos,act:=.close X.d.c }:MemOp)])[t.size]? = some { g:=n,fn,pos,act:=.close X.d.c }:=by rw[Array.getElem?_append_right (Nat.le_refl _)];simp
  refine⟨⟨h.pos,hs,Nat.le_refl _,fun j x hj hjt hx=>?_,fun j hj=>?_,h.pair.dull (by simp[MemAct.touch?]),(Deaf_still t 0 _ hd).trans h.hears0,(fun hc=>by cases hc),h.split.chan F.cB,?_,?_⟩,?_⟩
  · rw [Deaf_still t j _ hd]; by_cases hjn : j = n
    · subst hjn;rw[hg]at hx;obtain rfl:=Option.some.inj hx;rw[upd_same,h.hearsN rfl];exact hq
    · rw[upd_ne qs k hjn];exact h.old j x hj (by omega) (ho j x hj (by omega) hx)
  · rw[Deaf_still t j _ hd];exact h.above j hj
  · simp only[World.setChan];rw[Array.getElem?_setIfInBounds_ne F.cq];exact h.quit
  · exact⟨s,r,tm,by simp only[World.setChan];rw[Array.getElem?_setIfInBounds_self_of_lt hlt]⟩
  · refine ⟨by rw [act?_of hy], g?_of hy, ⟨n, g?_of hy, ?_⟩, fun i x hx hgi => ?_⟩
    · rw[deaf_old (Nat.le_refl _)];exact h.hearsN rfl
    · obtain ⟨y, hy', hyx⟩ := touch_of hx; rcases getElem?_append_cases hy' with ⟨hi, _⟩ | ⟨_, hyu⟩
      · exact hi
      · simp at hyu; subst hyu
        cases hyx
theorem xYA{v:Value}{g:Goroutine}{sh:CommShape}{s r s' r':Nat}{tm tm':Bool}(hc:w.heap[X.d.c]? = some (.chan 0 #[] false s r tm))(hq:w.heap[X.q]? = some (.chan 0 #[] false s' r' tm')) :
 (parked g (X.sel v) sh).again w=parked g (X.sel v) sh:=by
 simp[Goroutine.again,parked,Shared.sel,scase,rcase,hc,hq]
theorem rSA{v:Value}{g:Goroutine}{sh:CommShape}(F:X.Fit):offersAt (parked g (X.sel v) sh) X.d.c true=[0]∧offersAt (parked g (X.sel v) sh) X.d.c false=[]∧offersAt (parked g (X.sel v) sh) X.q true=[]:=by
 have h1:¬ X.q=X.d.c:=fun e=>F.cq e.symm
 have h2:¬ X.d.c=X.q:=F.cq;refine⟨?_,?_,?_⟩<;>simp[offersAt,parked,Shared.sel,scase,rcase,h1,h2]
theorem IsM.status{l:List MAct}{o:Option Nat}{g:Goroutine}{k:Nat}(h:IsM X l o g w k):(g.status = .running∧0 < k)∨(g.status = .blocked∧k=0):=by
 cases h with
 | walks h=>exact .inl ⟨GoM.running h,by omega⟩
 | waits e _ _=>exact .inr ⟨by rw[e];rfl,rfl⟩
theorem IsS.status{l:List SAct}{o:Option Nat}{g:Goroutine}{k:Nat}(h:IsS X l o g w k):(g.status = .running∧0 < k)∨(g.status = .blocked∧k=0):=by
 cases h with
 | walks h=>exact .inl ⟨GoS.running h,by omega⟩
 | waits _ e _=>exact .inr ⟨by rw[e];rfl,rfl⟩
theorem IsM.rely{l:List MAct}{o:Option Nat}{g:Goroutine}{k:Nat}{w₁:World}(h:IsM X l o g w k)(r:Rely X.d X.T0 o w w₁):IsM X l o g w₁ k:=by
 cases h with
 | walks h=>exact .walks (Goes.rely (R:=Rely X.d X.T0 o) (fun _ _ _ a b=>a.trans b) h r)
 | waits e h hl=>exact .waits e (fun w₂ h₂=>h w₂ (r.trans h₂)) hl
theorem IsS.rely{l:List SAct}{o:Option Nat}{g:Goroutine}{k:Nat}{w₁:World}(h:IsS X l o g w k)(r:Rely X.d X.T1 o w w₁):IsS X l o g w₁ k:=by
 cases h with
 | walks h=>exact .walks (Goes.rely (R:=Rely X.d X.T1 o) (fun _ _ _ a b=>a.trans b) h r)
 | waits hl e h=>exact .waits hl e fun w₂ h₂=>h w₂ (r.trans h₂)
theorem nTA {as : List MAct} {bs : List SAct} {g0 g1 : Goroutine} {k0 k1 : Nat} (hI : Inv X n n cl gs w t qs M S o0 o1) (h0 : gs[0]? = some g0) (hn : gs[n]? = some g1) (hM : IsM X as o0 g0 w k0) (hS : IsS X bs o1 g1 w k1)
    (hc:∃ s r tm,w'.heap[X.d.c]? = some (.chan 0 #[] false s r tm)) (hq:∃ s r tm,w'.heap[X.q]? = some (.chan 0 #[] false s r tm)) (i:Nat) :
    ∀ j x,j≠i→gs[j]? = some x→x.status = .running∨x.status = .finished∨x.again w'=x:=by
  intro j x _ hx;obtain⟨s,r,tm,hc⟩:=hc;obtain⟨s',r',tm',hq⟩:=hq;rcases Nat.eq_zero_or_pos j with rfl | hj
  · rw [h0] at hx; obtain rfl := Option.some.inj hx
    cases hM with
    | walks h=>exact .inl (GoM.running h)
    | waits e _ _=>exact .inr (.inr (by rw[e];exact again_recv_open hc))
  · by_cases hjn : j = n
    · subst hjn; rw [hn] at hx; obtain rfl := Option.some.inj hx
      cases hS with
      | walks h=>exact .inl (GoS.running h)
      | waits _ e _=>exact .inr (.inr (by rw[e];exact xYA hc hq))
    · have hjl:=(Array.getElem?_eq_some_iff.1 hx).1;have:=hI.size;exact(hI.old j x hj (by omega) hx).status.imp id .inl
open Go.ConcN (sumTo upd sumTo_upd upd_ne upd_same)
variable {X : Shared} {n top : Nat} {cl : Bool} {gs : Array Goroutine} {w w' : World} {t u : Trace} {qs : Nat → Nat} {M S : Nat → Prop} {o0 o1 o0' o1' : Option Nat}
structure Both (X:Shared) (n:Nat) (as:List MAct) (bs:List SAct) (k0 k1:Nat) (gs:Array Goroutine) (w:World) (t:Trace) (qs:Nat→Nat) (M S:Nat→Prop) (o0 o1:Option Nat) (g0 g1:Goroutine):Prop where
 inv:Inv X n n false gs w t qs M S o0 o1
 h0:gs[0]? = some g0
 hn:gs[n]? = some g1
 isM:IsM X as o0 g0 w k0
 isS:IsS X bs o1 g1 w k1
 same:recvs as=sends bs
 alive:0 < k0+k1
theorem Both.at{as:List MAct}{bs:List SAct}{k0 k1:Nat}{g0 g1:Goroutine}(h:Both X n as bs k0 k1 gs w t qs M S o0 o1 g0 g1)(e:Nat):Both X n as bs k0 k1 gs (w.at e) t qs M S o0 o1 g0 g1 :=
 ⟨h.inv.at e,h.h0,h.hn,h.isM.rely (Rely.at w e),h.isS.rely (Rely.at w e),h.same,h.alive⟩
def Done(X:Shared)(n:Nat)(A K L:Nat):Prop :=
 ∀(as:List MAct) (bs:List SAct) (k0 k1:Nat) (gs:Array Goroutine) (w:World) (sl:Option (Nat×Nat)) (t:Trace) (qs:Nat→Nat) (M S:Nat→Prop) (o0 o1:Option Nat) (g0 g1:Goroutine),
  as.length+bs.length=A→k0+k1=K→sumTo gs.size qs=L→Both X n as bs k0 k1 gs w t qs M S o0 o1 g0 g1→Gets X.P X.Fin gs w sl t
section
variable {as : List MAct} {bs : List SAct} {k0 k1 : Nat} {g0 g1 : Goroutine} {A K L : Nat} {sl sl' : Option (Nat × Nat)} {w0 : World}
theorem pI{i:Nat}{y:Goroutine}(hi:i < gs.size):(gs.setIfInBounds i y)[i]? = some y:=Array.getElem?_setIfInBounds_self_of_lt hi
theorem dHA (F : X.Fit) (h : Both X n as bs k0 k1 gs w t qs M S o0 o1 g0 g1) (hlow : ∀ b, b < X.d.B → w'.heap[b]? = w.heap[b]?) (hs : Split X.d X.T0 X.T1 w'.heap (More M w w') S o0' o1)
    (hR:Rely X.d X.T1 o1 w w') {es:Array Event} (hev:∀ e∈es,wY X.d X.T0 o0' w' e) {g':Goroutine} (hst:stepG X.P true g0 w = .go g' w' es)
    (hstep:stepT X.P (crowd gs w0 sl)=runT X.P (crowd gs w sl') 0) {as':List MAct} {m:Nat} (hG:GoM X as' o0' m g' w') (hsame:recvs as'=sends bs)
    (hD:Done X n (as'.length+bs.length) (m+1+k1) (sumTo gs.size qs)):Gets X.P X.Fin gs w0 sl t:=by
  have hq':∃ s r tm,w'.heap[X.q]? = some (.chan 0 #[] false s r tm):=by rw[hlow _ F.qB];exact h.inv.quit
  have hc':∃ s r tm,w'.heap[X.d.c]? = some (.chan 0 #[] false s r tm):=by rw[hlow _ F.cB];exact h.inv.chan
  rw[runT_crowd_go (P:=X.P) (i:=0) h.h0 (show stepG X.P (0==0) _ _=_ from hst),yH (nTA h.inv h.h0 h.hn h.isM h.isS hc' hq' 0)]at hstep;refine Gets.step hstep ?_;have h0l:0 < gs.size:=(Array.getElem?_eq_some_iff.1 h.h0).1;have hp:=h.inv.pos;refine hD as' bs (m+1) k1 _ w' _ _ qs _ S o0' o1 g' g1 rfl rfl (by simp) ⟨h.inv.step0 F hlow hs hev _ _ g',pI h0l,?_,.walks hG,h.isS.rely hR,hsame,by omega⟩;rw[Array.getElem?_setIfInBounds_ne (by omega)];exact h.hn
theorem eFA (F : X.Fit) (h : Both X n as bs k0 k1 gs w t qs M S o0 o1 g0 g1) (hlow : ∀ b, b < X.d.B → w'.heap[b]? = w.heap[b]?) (hs : Split X.d X.T1 X.T0 w'.heap (More S w w') M o1' o0)
    (hR:Rely X.d X.T0 o0 w w') {es:Array Event} (hev:∀ e∈es,wY X.d X.T1 o1' w' e) {g':Goroutine} (hst:stepG X.P false g1 w = .go g' w' es)
    (hstep:stepT X.P (crowd gs w0 sl)=runT X.P (crowd gs w sl') n) {bs':List SAct} {m:Nat} (hG:GoS X bs' o1' m g' w') (hsame:recvs as=sends bs')
    (hD:Done X n (as.length+bs'.length) (k0+(m+1)) (sumTo gs.size qs)):Gets X.P X.Fin gs w0 sl t:=by
  have hq':∃ s r tm,w'.heap[X.q]? = some (.chan 0 #[] false s r tm):=by rw[hlow _ F.qB];exact h.inv.quit
  have hc':∃ s r tm,w'.heap[X.d.c]? = some (.chan 0 #[] false s r tm):=by rw[hlow _ F.cB];exact h.inv.chan
  have hp:=h.inv.pos;have hn0:(n==0)=false:=by simp;omega
  rw[runT_crowd_go (P:=X.P) (i:=n) h.hn (by rw[hn0];exact hst),yH (nTA h.inv h.h0 h.hn h.isM h.isS hc' hq' n)]at hstep;refine Gets.step hstep ?_;have hnl:n < gs.size:=(Array.getElem?_eq_some_iff.1 h.hn).1;refine hD as bs' k0 (m+1) _ w' _ _ qs M _ o0 o1' g0 g' rfl rfl (by simp) ⟨h.inv.stepN F hlow hs hev _ _ g',?_,pI hnl,h.isM.rely hR,.walks hG,hsame,by omega⟩;rw[Array.getElem?_setIfInBounds_ne (by omega)];exact h.h0
theorem kXA (F : X.Fit) (h : Both X n as bs k0 k1 gs w t qs M S o0 o1 g0 g1) {i : Nat} {x : Goroutine} (hi : gs[i]? = some x) (hx : x.status = .running) (hpos : 0 < i) (hin : i ≠ n)
    (hstep:stepT X.P (crowd gs w0 sl)=runT X.P (crowd gs w sl') i) (hD:∀ L',L' < sumTo gs.size qs→Done X n (as.length+bs.length) (k0+k1) L'):Gets X.P X.Fin gs w0 sl t:=by
  have hil:=(Array.getElem?_eq_some_iff.1 hi).1;have hsz:=h.inv.size;have hq:=h.inv.old i x hpos (by omega) hi
  cases hqi:qs i with
  | zero=>rw[hqi]at hq;rw[hq.1]at hx;cases hx
  | succ k =>
    rw[hqi]at hq;rcases hq with⟨hf,_⟩ | ⟨_,g',es,hm,hstp,hq'⟩
    · rw[hf]at hx;cases hx
    have hi0:(i==0)=false:=by simp;omega
    rw[runT_crowd_go (P:=X.P) (i:=i) hi (by rw[hi0];exact hstp w),yH (nTA h.inv h.h0 h.hn h.isM h.isS h.inv.chan h.inv.quit i)]at hstep;refine Gets.step hstep ?_;refine hD (sumTo gs.size (upd qs i k)) (gU hil hqi) as bs k0 k1 _ w _ _ _ M S o0 o1 g0 g1 rfl rfl (by simp) ⟨h.inv.slip hpos (by omega) hm (fun e=>absurd e hin) hq' _ _,?_,?_,h.isM,h.isS,h.same,h.alive⟩
    · rw[Array.getElem?_setIfInBounds_ne (by omega)];exact h.h0
    · rw[Array.getElem?_setIfInBounds_ne (by omega)];exact h.hn
theorem fO(i:Nat)(fn:FuncId)(pos:String):MemOp.ofEvents i fn pos #[]=#[]:=rfl
theorem dLA(h:Both X n as bs k0 k1 gs w t qs M S o0 o1 g0 g1)(r:Nat)(send:Bool):partners (gs.setIfInBounds 0 ph) r send=(offersAt g1 r send).map fun k=>(n,k):=by
 have hp:=h.inv.pos;have hsz:=h.inv.size;refine partners_one (by rw[Array.getElem?_setIfInBounds_ne (by omega)];exact h.hn) fun j x hjn hj=>?_
 rcases getElem?_stand gs 0 j x hj with⟨_,rfl⟩ | ⟨hj0,hx⟩
 · rfl
 · have hjl:=(Array.getElem?_eq_some_iff.1 hx).1;exact rQ (h.inv.old j x (by omega) (by omega) hx)
theorem qW(h:Both X n as bs k0 k1 gs w t qs M S o0 o1 g0 g1)(r:Nat)(send:Bool):partners (gs.setIfInBounds n ph) r send=(offersAt g0 r send).map fun k=>(0,k):=by
 have hp:=h.inv.pos;have hsz:=h.inv.size;refine partners_one (by rw[Array.getElem?_setIfInBounds_ne (by omega)];exact h.h0) fun j x hj0 hj=>?_
 rcases getElem?_stand gs n j x hj with⟨_,rfl⟩ | ⟨hjn,hx⟩
 · rfl
 · have hjl:=(Array.getElem?_eq_some_iff.1 hx).1;exact rQ (h.inv.old j x (by omega) (by omega) hx)
theorem jEA (F : X.Fit) (h : Both X n as bs k0 k1 gs w t qs M S o0 o1 g0 g1) (hst : stepG X.P true g0 w = .comm g0 X.rcv true (.recv true) w #[]) (hrun : g1.status = .running) (hk1 : 0 < k1)
    (hstep:stepT X.P (crowd gs w0 sl)=runT X.P (crowd gs w sl') 0) (hstop:∀ w₁,Rely X.d X.T0 o0 w w₁→StopM X as o0 g0 w₁) (hl:∀ l',as≠.box::l')
    (hD:Done X n (as.length+bs.length) (0+k1) (sumTo gs.size qs)):Gets X.P X.Fin gs w0 sl t:=by
  have hp:=h.inv.pos;obtain⟨s,r,tm,hc⟩:=h.inv.chan;have hno:∀ cc∈X.rcv,NoWays w (gs.setIfInBounds 0 ph) cc:=by
   intro cc hcc;simp[Shared.rcv]at hcc;subst hcc;refine ways_recv_none hc ?_;rw[dLA h,offersAt_of_not_blocked (by rw[hrun];simp)];rfl
  rw[crowd_waits (P:=X.P) (i:=0) h.h0 (show stepG X.P (0==0) _ _=_ from hst) hno,fO]at hstep;refine Gets.step hstep ?_;rw[Array.append_empty];have h0l:0 < gs.size:=(Array.getElem?_eq_some_iff.1 h.h0).1;refine hD as bs 0 k1 _ w _ t qs M S o0 o1 _ g1 rfl rfl (by simp) ⟨h.inv.crew (by simpa using h.inv.size) (fun j x hj _ hx=>by rwa [Array.getElem?_setIfInBounds_ne (by omega)]at hx),pI h0l,?_,.waits rfl hstop hl,h.isS,h.same,by omega⟩;rw[Array.getElem?_setIfInBounds_ne (by omega)];exact h.hn
theorem uUA (F : X.Fit) (h : Both X n as bs k0 k1 gs w t qs M S o0 o1 g0 g1) {v : Value} {bs' : List SAct} (hb : bs = .send v :: bs') (hst : stepG X.P false g1 w = .comm g1 (X.sel v) true .select w #[]) (hrun : g0.status = .running) (hk0 : 0 < k0)
    (hstep:stepT X.P (crowd gs w0 sl)=runT X.P (crowd gs w sl') n) (hstop:∀ w₁,Rely X.d X.T1 o1 w w₁→StopS X bs o1 g1 w₁)
    (hD:Done X n (as.length+bs.length) (k0+0) (sumTo gs.size qs)):Gets X.P X.Fin gs w0 sl t:=by
  have hp:=h.inv.pos;have hn0:(n==0)=false:=by simp;omega
  obtain⟨s,r,tm,hc⟩:=h.inv.chan;obtain⟨s',r',tm',hq⟩:=h.inv.quit;have hno:∀ cc∈X.sel v,NoWays w (gs.setIfInBounds n ph) cc:=by
   intro cc hcc;simp[Shared.sel]at hcc;rcases hcc with rfl | rfl
   · refine ways_send_none hc (by simp) ?_;rw[qW h,offersAt_of_not_blocked (by rw[hrun];simp)];rfl
   · refine ways_recv_none hq ?_;rw[qW h,offersAt_of_not_blocked (by rw[hrun];simp)];rfl
  rw[crowd_waits (P:=X.P) (i:=n) h.hn (by rw[hn0];exact hst) hno,fO]at hstep;refine Gets.step hstep ?_;rw[Array.append_empty];have hnl:n < gs.size:=(Array.getElem?_eq_some_iff.1 h.hn).1;refine hD as bs k0 0 _ w _ t qs M S o0 o1 g0 _ rfl rfl (by simp) ⟨h.inv.crew (by simpa using h.inv.size) (fun j x hj hjn hx=>by rwa [Array.getElem?_setIfInBounds_ne (by omega)]at hx),?_,pI hnl,h.isM,.waits hb rfl hstop,h.same,by omega⟩;rw[Array.getElem?_setIfInBounds_ne (by omega)];exact h.h0
end
open Go.ConcN (sumTo upd sumTo_upd upd_ne upd_same)
variable {X : Shared} {n top : Nat} {cl : Bool} {gs : Array Goroutine} {w w' : World} {t u : Trace} {qs : Nat → Nat} {M S : Nat → Prop} {o0 o1 o0' o1' : Option Nat}
variable {as : List MAct} {bs : List SAct} {k0 k1 : Nat} {g0 g1 : Goroutine} {A K L : Nat} {sl sl' : Option (Nat × Nat)} {w0 : World}
theorem dUA(hB:X.d.c < X.d.B)(hM:∀ b,M b→X.d.B≤b)(hb:∀ b,o0=some b→M b):o0≠some X.d.c:=fun e=>by have:=hM _ (hb _ e);omega
theorem lNA (F : X.Fit) (h : Both X n as bs k0 k1 gs w t qs M S o0 o1 g0 g1) {as' : List MAct} {bs' : List SAct} {g0' g1' : Goroutine} {m0 m1 : Nat} (hG : GoM X as' o0 m0 g0' w) (hH : GoS X bs' o1 m1 g1' w) (hsame : recvs as' = sends bs')
    {arr:Array Goroutine} (harr:arr.size=n+1) (ha0:arr[0]? = some g0') (han:arr[n]? = some g1') (haj:∀ j,j≠0→j≠n→arr[j]? = gs[j]?)
    (hn:∀ op∈u,op.act.touch? = none) (hd:∀ op∈u,op.act≠.mark .disable∧op.act≠.mark .enable) {s r:Nat} {tm:Bool}
    (hstep:stepT X.P (crowd gs w0 sl)=(.next (crowd arr (w.setChan X.d.c 0 #[] false s r tm) sl'),u))
    (hD:Done X n (as'.length+bs'.length) (m0+1+(m1+1)) (sumTo gs.size qs)):Gets X.P X.Fin gs w0 sl t:=by
  refine Gets.step hstep ?_;have hp:=h.inv.pos;have r0:Rely X.d X.T0 o0 w (w.setChan X.d.c 0 #[] false s r tm):=Rely.chan w F.cB (dUA F.cB h.inv.pair.highM h.inv.split.box0);have r1:Rely X.d X.T1 o1 w (w.setChan X.d.c 0 #[] false s r tm):=Rely.chan w F.cB (dUA F.cB h.inv.pair.highS h.inv.split.box1);refine hD as' bs' (m0+1) (m1+1) arr _ _ _ qs M S o0 o1 g0' g1' rfl rfl (by rw[harr,h.inv.size]) ⟨(h.inv.dull F hn hd).crew harr (fun j x hj hjn hx=>by rwa [haj j (by omega) (by omega)]at hx),ha0,han,?_,?_,hsame,by omega⟩
  · exact(IsM.walks hG:IsM X as' o0 g0' w (m0+1)).rely r0
  · exact(IsS.walks hH:IsS X bs' o1 g1' w (m1+1)).rely r1
theorem gZA (F : X.Fit) (h : Both X n as bs k0 k1 gs w t qs M S o0 o1 g0 g1) {v : Value} {as' : List MAct} {bs' : List SAct} {gp : Goroutine} (hb : bs = .send v :: bs') (hg1 : g1 = parked gp (X.sel v) .select)
    (hst:stepG X.P true g0 w = .comm g0 X.rcv true (.recv true) w #[]) {m0 m1:Nat} (hG:GoM X as' o0 m0 (g0.finishComm X.P X.rcv (.recv true) 0 v true) w) (hH:GoS X bs' o1 m1 (gp.finishComm X.P (X.sel v) .select 0 undef false) w)
    (hsame:recvs as'=sends bs') (hstep:stepT X.P (crowd gs w0 sl)=runT X.P (crowd gs w sl') 0)
    (hD:Done X n (as'.length+bs'.length) (m0+1+(m1+1)) (sumTo gs.size qs)):Gets X.P X.Fin gs w0 sl t:=by
  obtain⟨s,r,tm,hc⟩:=h.inv.chan;have hp:=h.inv.pos;have hsz:=h.inv.size;have hpar:partners (gs.setIfInBounds 0 ph) X.d.c true=[(n,0)]:=by
   rw[dLA h,hg1,(rSA F).1];rfl
  have hrun:=rEA (P:=X.P) (sl:=sl') (i:=0) (j:=n) (k:=0) (v:=v) (zj:=X.zc) h.h0 (show stepG X.P (0==0) _ _=_ from hst) hc (by omega) (by rw[h.hn,hg1]) (by simp[Shared.sel]) hpar;rw[hrun,fO,Array.empty_append]at hstep;refine lNA F h hG hH hsame (by simp[hsz]) ?_ ?_ (fun j h1 h2=>?_) ?_ ?_ hstep hD
  · exact pI (by simp[hsz])
  · rw[Array.getElem?_setIfInBounds_ne (by omega)];exact pI (by omega)
  · rw[Array.getElem?_setIfInBounds_ne (by omega),Array.getElem?_setIfInBounds_ne (by omega)]
  · simp[MemAct.touch?]
  · simp
theorem pXA (F : X.Fit) (h : Both X n as bs k0 k1 gs w t qs M S o0 o1 g0 g1) {v : Value} {as' : List MAct} {bs' : List SAct} {gp : Goroutine} (hg0 : g0 = parked gp X.rcv (.recv true))
    (hst:stepG X.P false g1 w = .comm g1 (X.sel v) true .select w #[]) {m0 m1:Nat} (hG:GoM X as' o0 m0 (gp.finishComm X.P X.rcv (.recv true) 0 v true) w) (hH:GoS X bs' o1 m1 (g1.finishComm X.P (X.sel v) .select 0 undef false) w)
    (hsame:recvs as'=sends bs') (hstep:stepT X.P (crowd gs w0 sl)=runT X.P (crowd gs w sl') n)
    (hD:Done X n (as'.length+bs'.length) (m0+1+(m1+1)) (sumTo gs.size qs)):Gets X.P X.Fin gs w0 sl t:=by
  obtain⟨s,r,tm,hc⟩:=h.inv.chan;obtain⟨s',r',tm',hq⟩:=h.inv.quit;have hp:=h.inv.pos;have hsz:=h.inv.size;have hn0:(n==0)=false:=by simp;omega
  have hpar:partners (gs.setIfInBounds n ph) X.d.c false=[(0,0)]:=by
   rw[qW h,hg0];simp only[Shared.rcv,offersAt_parked_recv,if_true,List.map_cons,List.map_nil]
  have ho:∀(m:Nat) (c':CommCase),m≠0→(X.sel v)[m]? = some c'→NoWays w (gs.setIfInBounds n ph) c':=by
   intro m c' hm hc';have hm1:m=1:=by
    have:=(Array.getElem?_eq_some_iff.1 hc').1;simp[Shared.sel]at this;omega
   subst hm1;simp[Shared.sel]at hc';subst hc';refine ways_recv_none hq ?_;rw[qW h,hg0];simp only[Shared.rcv,offersAt_parked_recv',List.map_nil]
  have hrun:=wFA (P:=X.P) (sl:=sl') (i:=n) (j:=0) (k:=0) (gj:=gp) (zj:=X.z) (shj:=.recv true) h.hn (by rw[hn0];exact hst) (show(X.sel v)[0]? = some (scase X.d.c v X.zc) by simp[Shared.sel]) ho hc (by omega) (by rw[h.h0,hg0];rfl) hpar;rw[hrun,fO,Array.empty_append]at hstep;refine lNA F h hG hH hsame (by simp[hsz]) ?_ ?_ (fun j h1 h2=>?_) ?_ ?_ hstep hD
  · rw[Array.getElem?_setIfInBounds_ne (by omega)];exact pI (by omega)
  · exact pI (by simp[hsz])
  · rw[Array.getElem?_setIfInBounds_ne (by omega),Array.getElem?_setIfInBounds_ne (by omega)]
  · simp[MemAct.touch?]
  · simp
theorem xZA{l:List MAct}(h:recvs l=[])(hb:∀ l',l≠.box::l'):l=[]:=by
 cases l with
 | nil=>rfl
 | cons a l => cases a with
   | box=>exact absurd rfl (hb l)
   | recv v=>simp[recvs]at h
theorem Both.look(h:Both X n as [] k0 k1 gs w t qs M S o0 o1 g0 g1)(fn:FuncId)(pos:String):Inv X n n false gs w (t++MemOp.ofEvents n fn pos #[⟨.obj X.d.c,false,true⟩]) qs M S o0 o1:=by
 have hu:∀ op∈MemOp.ofEvents n fn pos #[⟨.obj X.d.c,false,true⟩],op={ g:=n,fn,pos,act:=.access ⟨.obj X.d.c,false,true⟩ }:=fun op hop=>by
  rw[ofEvents_eq]at hop;simpa [MemAct.ofEvent] using hop
 have hd:∀ op∈MemOp.ofEvents n fn pos #[⟨.obj X.d.c,false,true⟩],op.act≠.mark .disable∧op.act≠.mark .enable:=fun op hop=>by rw[hu op hop];simp
 have hI:=h.inv;refine⟨hI.pos,hI.size,hI.topl,fun j x hj hjt hx=>?_,fun j hj=>?_,?_,(Deaf_still t 0 _ hd).trans hI.hears0,fun hc=>(Deaf_still t n _ hd).trans (hI.hearsN hc),hI.split,hI.quit,hI.chan⟩
 · rw[Deaf_still t j _ hd];exact hI.old j x hj hjt hx
 · rw[Deaf_still t j _ hd];exact hI.above j hj
 · refine(hI.pair.symm.app (fun op hop=>by rw[hu op hop]) (fun op hop x hx hm=>?_) (fun b hb=>hb) hI.pair.symm.apart hI.pair.symm.highM).symm;rw[hu op hop]at hx;simp only[MemAct.touch?,Option.some.injEq]at hx;subst hx;exact .inr ⟨⟨_,rfl⟩,rfl⟩
theorem kVA(F:X.Fit)(h:Both X n as [] k0 k1 gs w t qs M S o0 o1 g0 g1)(hC:AtClose X g1 w)(hstep:stepT X.P (crowd gs w0 sl)=runT X.P (crowd gs w sl') n):Gets X.P X.Fin gs w0 sl t:=by
 obtain⟨s,r,tm,hc⟩:=h.inv.chan;obtain⟨hrun1,hwake,hcl⟩:=hC;obtain⟨g',k,hst,hq⟩:=hcl s r tm hc;have hp:=h.inv.pos;have hsz:=h.inv.size;have hn0:(n==0)=false:=by simp;omega
 have hgo:=runT_crowd_go (P:=X.P) (sl:=sl') (i:=n) h.hn (by rw[hn0];exact hst);rw[hgo]at hstep;refine Gets.step hstep ?_;have hev:MemOp.ofEvents n g1.frame.fn g1.frame.place #[⟨.obj X.d.c,false,true⟩,⟨.obj X.d.c,true,true⟩]=MemOp.ofEvents n g1.frame.fn g1.frame.place #[⟨.obj X.d.c,false,true⟩]++#[{ g:=n,fn:=g1.frame.fn,pos:=g1.frame.place,act:=.close X.d.c }]:=by
  rw[ofEvents_eq,ofEvents_eq];simp[MemAct.ofEvent]
 rw[hev,← Array.append_assoc];have hgs:g'.status≠.blocked∧g'.status≠.waiting:=by
  rcases hq.status with h | h<;>rw[h]<;>simp
 have hwk:∀ x,woken X.P g1 g' (w.setChan X.d.c 0 #[] true s r tm) x=x.again (w.setChan X.d.c 0 #[] true s r tm):=by
  intro x;unfold woken;rw[if_pos];simp[hwake,hgs]
 have hold:∀ j x,0 < j→j < n→(((gs.map (woken X.P g1 g' (w.setChan X.d.c 0 #[] true s r tm))).setIfInBounds n g')[j]?)=some x→gs[j]? = some x:=by
  intro j x hj hjn hx;rw[Array.getElem?_setIfInBounds_ne (by omega),Array.getElem?_map]at hx;obtain⟨y,hy,rfl⟩:=Option.map_eq_some_iff.1 hx;rw[woken_quitsD (h.inv.old j y hj hjn hy)];exact hy
 obtain⟨hI,hS⟩:=(h.look g1.frame.fn g1.frame.place).shut F (arr:=(gs.map (woken X.P g1 g' (w.setChan X.d.c 0 #[] true s r tm))).setIfInBounds n g') (by simp[hsz]) hold (pI (by simp[hsz])) hq g1.frame.fn g1.frame.place (s:=s) (r:=r) (tm:=tm);have r0:Rely X.d X.T0 o0 w (w.setChan X.d.c 0 #[] true s r tm):=Rely.chan w F.cB (dUA F.cB h.inv.pair.highM h.inv.split.box0);have hlt:X.d.c < w.heap.size:=Nat.lt_of_lt_of_le F.cB h.inv.split.bsize;have hcc:(w.setChan X.d.c 0 #[] true s r tm).heap[X.d.c]? = some (.chan 0 #[] true s r tm):=by simp only[World.setChan];rw[Array.getElem?_setIfInBounds_self_of_lt hlt]
 have hr:recvs as=[]:=h.same;have h0':((gs.map (woken X.P g1 g' (w.setChan X.d.c 0 #[] true s r tm))).setIfInBounds n g')[0]? = some (g0.again (w.setChan X.d.c 0 #[] true s r tm)):=by
  rw[Array.getElem?_setIfInBounds_ne (by omega),Array.getElem?_map,h.h0,Option.map_some,hwk]
 obtain⟨hI0,h00,hn0',hM,hS1,hsame,hal⟩:=h
 cases hM with
 | walks hG =>
   rw[again_running _ (.inl (GoM.running hG))]at h0';exact r3A F _ _ _ as g0 _ _ _ _ _ M S o0 o1 _ rfl hr ((IsB.walks hG:IsB X as o0 g0 w _).rely r0) rfl h0' hI hS
 | waits e hstop hl =>
   obtain rfl:=xZA hr hl;rw[e,Shared.rcv,again_recv_closed hcc]at h0';exact r3A F _ _ _ [] _ _ _ _ _ _ M S o0 o1 _ rfl rfl (IsB.woken rfl rfl fun w₁ h₁=>hstop w₁ (r0.trans h₁)) rfl h0' hI hS
theorem oBB(F:X.Fit):∀ A K L,Done X n A K L:=by
 refine oEB fun A K L ih=>?_
 intro as bs k0 k1 gs w sl t qs M S o0 o1 g0 g1 hA hK hL hB;have hp:=hB.inv.pos;have hsz:=hB.inv.size;have haw:∀ x∈gs,awake x:=by
  intro x hx;obtain⟨j,hj,rfl⟩:=Array.mem_iff_getElem.1 hx;by_cases hj0:j=0
  · subst hj0; have : gs[0] = g0 := by simpa [Array.getElem?_eq_getElem hj] using hB.h0
    rw[this];exact awake_of (hB.isM.status.elim (fun h=>.inl h.1) fun h=>.inr (.inl h.1))
  · by_cases hjn : j = n
    · subst hjn; have : gs[j] = g1 := by simpa [Array.getElem?_eq_getElem hj] using hB.hn
      rw[this];exact awake_of (hB.isS.status.elim (fun h=>.inl h.1) fun h=>.inr (.inl h.1))
    · exact awake_of ((hB.inv.old j _ (by omega) (by omega) (Array.getElem?_eq_getElem hj)).status.elim .inl fun x=>.inr (.inr x))
 have hsome:∃(i:Nat) (g:Goroutine),gs[i]? = some g∧g.status = .running:=by
  rcases hB.isM.status with h | ⟨_,h⟩
  · exact⟨0,g0,hB.h0,h.1⟩
  · rcases hB.isS.status with h' | ⟨_, h'⟩
    · exact⟨n,g1,hB.hn,h'.1⟩
    · have:=hB.alive;omega
 obtain⟨i,x,e,sl',hi,hx,hst⟩:=crowd_pick (P:=X.P) (w:=w) (sl:=sl) haw hsome;have hE:=hB.at e;by_cases hi0:i=0
 · subst hi0; rw [hB.h0] at hi; obtain rfl := Option.some.inj hi; have hM := hE.isM
   cases hM with
   | waits eg _ _=>rw[eg]at hx;cases hx
   | walks hG =>
     rename_i m;rcases wP hG with hstop | ⟨m',rfl,_,hgo⟩
     · have hs := hstop _ (Rely.refl _)
       cases as with
       | nil =>
         have hS:=hE.isS;have hsame:=hE.same
         cases hS with
         | waits hl _ _=>rw[hl]at hsame;simp[recvs,sends]at hsame
         | walks hH=>exact jEA F hE hs.2.1 (GoS.running hH) (by omega) hst hstop (by simp) (ih _ _ _ (.inr ⟨hA,.inl (by omega)⟩))
       | cons a as =>
         cases a with
         | box =>
           obtain⟨_,g',w',es,hstep,hbx,hev,m2,hG2⟩:=hs;exact dHA F hE (fun b hb=>hbx.old (Nat.lt_of_lt_of_le hb hE.inv.split.bsize)) (hE.inv.split.box F.tb0 F.tb1 hbx) (hE.inv.split.feltBox hbx) hev hstep hst hG2 hE.same (ih _ _ _ (.inl (by rw[← hA];simp)))
         | recv v =>
           obtain⟨_,hstep,m2,hG2⟩:=hs;have hS:=hE.isS;have hsame:=hE.same
           cases hS with
           | waits hl eg hstop1 =>
             subst hl;simp[recvs,sends]at hsame;obtain⟨rfl,hsame⟩:=hsame;obtain⟨_,_,m3,hH⟩:=hstop1 _ (Rely.refl _);exact gZA F hE rfl eg hstep hG2 hH hsame hst (ih _ _ _ (.inl (by rw[← hA];simp;omega)))
           | walks hH=>exact jEA F hE hstep (GoS.running hH) (by omega) hst hstop (by simp) (ih _ _ _ (.inr ⟨hA,.inl (by omega)⟩))
     · obtain⟨g',w',es,hstep,⟨hT,hev⟩,hG2⟩:=hgo _ (Rely.refl _);exact dHA F hE (fun b hb=>hE.inv.split.low hE.inv.pair.highM hT hb) (hE.inv.split.turn F.dis hT) (hE.inv.split.felt hE.inv.pair.apart hE.inv.pair.highM hT) hev hstep hst hG2 hE.same (ih _ _ _ (.inr ⟨hA,.inl (by omega)⟩))
 · by_cases hin : i = n
   · subst hin; rw [hB.hn] at hi; obtain rfl := Option.some.inj hi; have hS := hE.isS
     cases hS with
     | waits _ eg _=>rw[eg]at hx;cases hx
     | walks hH =>
       rename_i m;rcases wP hH with hstop | ⟨m',rfl,_,hgo⟩
       · have hs := hstop _ (Rely.refl _)
         cases bs with
         | nil=>exact kVA F hE hs hst
         | cons a bs =>
           cases a with
           | box =>
             obtain⟨_,g',w',es,hstep,hbx,hev,m2,hG2⟩:=hs;exact eFA F hE (fun b hb=>hbx.old (Nat.lt_of_lt_of_le hb hE.inv.split.bsize)) (hE.inv.split.symm.box F.tb1 F.tb0 hbx) (hE.inv.split.symm.feltBox hbx) hev hstep hst hG2 hE.same (ih _ _ _ (.inl (by rw[← hA];simp)))
           | send v =>
             obtain⟨_,hstep,m2,hG2⟩:=hs;have hM:=hE.isM;have hsame:=hE.same
             cases hM with
             | waits eg hstop0 hl =>
               cases as with
               | nil=>simp[recvs,sends]at hsame
               | cons a as =>
                 cases a with
                 | box=>exact absurd rfl (hl as)
                 | recv v' =>
                   simp[recvs,sends]at hsame;obtain⟨rfl,hsame⟩:=hsame;obtain⟨_,_,m3,hG3⟩:=hstop0 _ (Rely.refl _);exact pXA F hE eg hstep hG3 hG2 hsame hst (ih _ _ _ (.inl (by rw[← hA];simp;omega)))
             | walks hG=>exact uUA F hE rfl hstep (GoM.running hG) (by omega) hst hstop (ih _ _ _ (.inr ⟨hA,.inl (by omega)⟩))
       · obtain ⟨g', w', es, hstep, ⟨hT, hev⟩, hG2⟩ := hgo _ (Rely.refl _); have hdis : ∀ ty, X.T1 ty → ¬ X.T0 ty := fun ty h1 h0 => F.dis ty h0 h1
         exact eFA F hE (fun b hb => by
             refine hT.rest b (Nat.lt_of_lt_of_le hb hE.inv.split.bsize) fun ho=>?_
             have:=hE.inv.pair.highS b (hE.inv.split.symm.mine ho);omega) (hE.inv.split.symm.turn hdis hT) (hE.inv.split.symm.felt hE.inv.pair.symm.apart hE.inv.pair.highS hT) hev hstep hst hG2 hE.same (ih _ _ _ (.inr ⟨hA,.inl (by omega)⟩))
   · exact kXA F hE hi hx (by omega) hin hst fun L' hL'=>by rw[hA,hK];exact ih _ _ _ (.inr ⟨rfl,.inr ⟨rfl,by omega⟩⟩)
open Go.ConcN (sumTo upd sumTo_upd upd_ne upd_same)
structure AtGo (X:Shared) (as:List MAct) (bs:List SAct) (g:Goroutine) (w:World):Prop where
 fit:X.Fit
 run:g.status = .running
 size:X.d.B=w.heap.size
 quit:∃ s r tm,w.heap[X.q]? = some (.chan 0 #[] false s r tm)
 chan:∃ s r tm,w.heap[X.d.c]? = some (.chan 0 #[] false s r tm)
 same:recvs as=sends bs
 step:∀ e,∃ g' child,stepG X.P true g (w.at e) = .spawn g' child (w.at e) #[]∧(∃ m,GoM X as none m g' (w.at e))∧(∃ m,GoS X bs none m child (w.at e))
theorem bEB{X:Shared}{as:List MAct}{bs:List SAct}{g:Goroutine}{w:World}(h:AtGo X as bs g w) :
 ∀(L e:Nat) (gs:Array Goroutine) (sl:Option (Nat×Nat)) (t:Trace) (q:Nat→Nat),sumTo gs.size q=L→gs[0]? = some g→Leavers X.P t gs q→Kn t→Gets X.P X.Fin gs (w.at e) sl t:=by
 intro L
 induction L using Nat.strongRecOn with
 | ind L ih =>
 intro e0 gs sl t q hL h0 hl hK;have hlt0:0 < gs.size:=(Array.getElem?_eq_some_iff.1 h0).1;have haw:∀ x∈gs,awake x:=by
  intro x hx;obtain⟨i,hi,rfl⟩:=Array.mem_iff_getElem.1 hx;rcases Nat.eq_zero_or_pos i with rfl | hpos
  · have : gs[0] = g := by simpa [Array.getElem?_eq_getElem hi] using h0
    rw[this];exact awake_of (.inl h.run)
  · exact awake_of ((hl.old i _ hpos (Array.getElem?_eq_getElem hi)).status.elim .inl fun x=>.inr (.inr x))
 obtain⟨i,x,e,sl',hi,hx,hst⟩:=crowd_pick (P:=X.P) (w:=w.at e0) (sl:=sl) haw ⟨0,g,h0,h.run⟩;have hat:(w.at e0).at e=w.at e:=rfl;rw[hat]at hst;rcases Nat.eq_zero_or_pos i with rfl | hpos
 · rw [h0] at hi; obtain rfl := Option.some.inj hi; obtain ⟨g', child, hs, ⟨m0, hG⟩, ⟨m1, hH⟩⟩ := h.step e; rw [runT_crowd_spawn (P := X.P) (i := 0) h0 (show stepG X.P (0 == 0) _ _ = _ from hs)] at hst; refine Gets.step hst ?_; have hops : ((MemOp.ofEvents 0 g.frame.fn g.frame.place #[]).push { g := 0, fn := g.frame.fn, pos := g.frame.place, act := .go gs.size } |>.push { g := gs.size, fn := child.frame.fn, pos := g.frame.place, act := .start })
       = #[{ g:=0,fn:=g.frame.fn,pos:=g.frame.place,act:=.go gs.size },{ g:=gs.size,fn:=child.frame.fn,pos:=g.frame.place,act:=.start }]:=rfl
   rw[hops];have hd:∀ op∈(#[{ g:=0,fn:=g.frame.fn,pos:=g.frame.place,act:=.go gs.size },{ g:=gs.size,fn:=child.frame.fn,pos:=g.frame.place,act:=.start }]:Array MemOp),op.act≠.mark .disable∧op.act≠.mark .enable:=by simp
   have hsz:((gs.setIfInBounds 0 g').push child).size=gs.size+1:=by simp
   refine oBB h.fit (n:=gs.size) _ _ _ as bs (m0+1) (m1+1) _ (w.at e) sl' _ q (fun _=>False) (fun _=>False) none none g' child rfl rfl rfl ⟨⟨hlt0,hsz,Nat.le_succ _,fun j y hj hjn hy=>?_,fun j hj=>?_,tUA hK (by omega) (hl.above _ (Nat.le_refl _)) _ _ _ _,?_,fun _=>?_,?_,h.quit,h.chan⟩,?_,?_,.walks hG,.walks hH,h.same,by omega⟩
   · rw[Array.getElem?_push_lt (by simpa using hjn),← Array.getElem?_eq_getElem,Array.getElem?_setIfInBounds_ne (by omega)]at hy;rw[Deaf_still t j _ hd];exact hl.old j y hj hy
   · rw[Deaf_still t j _ hd];exact hl.above j (by omega)
   · rw[Deaf_still t 0 _ hd];exact hK.hears
   · rw[Deaf_still t _ _ hd];exact hl.above _ (Nat.le_refl _)
   · refine ⟨by rw [h.size]; exact Nat.le_refl _, fun b cs ty fz hb hc _ => ?_, fun b cs ty fz hb hc _ => ?_, by simp, by simp, by simp, by simp⟩
     · have:=(Array.getElem?_eq_some_iff.1 hc).1;have hwe:(w.at e).heap.size=w.heap.size:=rfl;rw[h.size]at hb;omega
     · have:=(Array.getElem?_eq_some_iff.1 hc).1;have hwe:(w.at e).heap.size=w.heap.size:=rfl;rw[h.size]at hb;omega
   · rw[Array.getElem?_push_lt (by simpa using hlt0),← Array.getElem?_eq_getElem];exact pI hlt0
   · have : gs.size = (gs.setIfInBounds 0 g').size := by simp
     rw[this,Array.getElem?_push_size]
 · have hq := hl.old i x hpos hi; have hi0 : (i == 0) = false := by simp; omega
   have hlt:i < gs.size:=(Array.getElem?_eq_some_iff.1 hi).1
   cases hqi:q i with
   | zero=>rw[hqi]at hq;rw[hq.1]at hx;cases hx
   | succ k =>
     rw[hqi]at hq;rcases hq with⟨hf,_⟩ | ⟨_,g',es,hm,hstp,hq'⟩
     · rw[hf]at hx;cases hx
     have hund:(gs.map (woken X.P x g' (w.at e))).setIfInBounds i g'=gs.setIfInBounds i g':=by
      refine yH fun j y _ hy=>?_
      rcases Nat.eq_zero_or_pos j with rfl | hj
      · rw[h0]at hy;obtain rfl:=Option.some.inj hy;exact .inl h.run
      · exact(hl.old j y hj hy).status.imp id .inl
     have hu:∀ op∈MemOp.ofEvents i x.frame.fn x.frame.place es,op.g=i:=fun op hop=>by obtain⟨e,_,rfl⟩:=Conc.mem_ofEvents hop;rfl
     rw [runT_crowd_go (P := X.P) (i := i) hi (by rw [hi0]; exact hstp (w.at e)), hund] at hst; refine Gets.step hst ?_; refine ih (sumTo (gs.setIfInBounds i g').size (upd q i k)) ?_ e _ sl' _ (upd q i k) rfl (by rw [Array.getElem?_setIfInBounds_ne (by omega)]; exact h0) ⟨fun j y hj hy => ?_, fun j hj => ?_⟩
       (hK.appMute (g:=i) (by omega) hu (fun op hop=>by obtain⟨e,he,rfl⟩:=Conc.mem_ofEvents hop;exact touch_mute (hm e he)))
     · rw[← hL,Array.size_setIfInBounds];exact gU hlt hqi
     · by_cases hji : i = j
       · subst hji;rw[pI hlt]at hy;obtain rfl:=Option.some.inj hy;rw[upd_same,Deaf_own];exact hq'
       · rw[Array.getElem?_setIfInBounds_ne hji]at hy;rw[upd_ne q k (Ne.symm hji),Deaf_other t hji _ hu];exact hl.old j y hj hy
     · have hj' : gs.size ≤ j := by simpa using hj
       rw[Deaf_other t (g':=i) (by omega) _ hu];exact hl.above j hj'
theorem phase{X:Shared}{as:List MAct}{bs:List SAct}{g:Goroutine}{w:World}(h:AtGo X as bs g w){gs:Array Goroutine}{sl:Option (Nat×Nat)}{t:Trace}{q:Nat→Nat}(h0:gs[0]? = some g)(hL:Leavers X.P t gs q)(hK:Kn t) :
 Gets X.P X.Fin gs w sl t:=bEB h _ w.drawn gs sl t q rfl h0 hL hK
end Go.Lx
