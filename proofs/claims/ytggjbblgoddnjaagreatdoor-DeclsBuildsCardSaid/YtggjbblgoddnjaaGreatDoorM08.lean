/- Part 8 of what the proof rests on. -/
import Derived.Below
import Derived.WalkKit
import Derived.Test.YtggjbblgoddnjaaGreatDoorM00
import Derived.Test.YtggjbblgoddnjaaGreatDoorM07
set_option linter.unusedSimpArgs false
set_option linter.unusedVariables false
namespace Go.Lx
open Go.Conc
variable {d : Deal} {T : TypeId → Prop} {o : Option Nat}
def tNA(d:Deal)(T:TypeId→Prop)(o:Option Nat)(b:Nat)(x:Obj):Prop :=
 (b < d.B∧b≠d.c)∨(d.B≤b∧∃ cs ty fz,x = .cells cs ty fz∧T ty)∨o=some b
structure Holds (d:Deal) (T:TypeId→Prop) (o:Option Nat) (L:List (Nat×Obj)) (w:World):Prop where
 has:∀ p∈L,w.heap[p.1]? = some p.2
 safe:∀ p∈L,tNA d T o p.1 p.2
 big:d.B≤w.heap.size
 box:∀ b,o=some b→b < w.heap.size
variable {L L' : List (Nat × Obj)} {w w' w₁ : World}
theorem Holds.rely(h:Holds d T o L w)(r:Rely d T o w w₁):Holds d T o L w₁:=by
 refine⟨fun p hp=>?_,h.safe,Nat.le_trans h.big r.size,fun b hb=>Nat.lt_of_lt_of_le (h.box b hb) r.size⟩;have e:=h.has p hp;rcases h.safe p hp with⟨hl,hc⟩ | ⟨hb,cs,ty,fz,hx,ht⟩ | hb
 · rw[r.low _ hl hc];exact e
 · rw[r.own _ (.inl ⟨hb,cs,ty,fz,by rw[e,hx],ht⟩)];exact e
 · rw[r.own _ (.inr hb)];exact e
theorem Holds.lt(h:Holds d T o L w){b:Nat}{x:Obj}(hp:(b,x)∈L):b < w.heap.size:=(Array.getElem?_eq_some_iff.1 (h.has _ hp)).1
theorem Holds.cell(h:Holds d T o L w){b:Nat}{cs:Array Value}{ty:TypeId}{fz:Nat×Nat}(hp:(b,Obj.cells cs ty fz)∈L)(i:Nat):w.cell? ⟨b,i,none⟩=cs[i]? := by
 have e:=h.has _ hp;simp only at e;simp[World.cell?,e]
theorem Holds.frozen(h:Holds d T o L w){b:Nat}{cs:Array Value}{ty:TypeId}(hp:(b,Obj.cells cs ty (0,0))∈L)(i:Nat):w.frozen? ⟨b,i,none⟩=false:=by
 have e:=h.has _ hp;simp only at e;simp[World.frozen?,e]
theorem Holds.own(h:Holds d T o L w){b:Nat}{x:Obj}(hp:(b,x)∈L):Own d T o w b∨b < d.B:=by
 have e:=h.has _ hp;rcases h.safe _ hp with⟨hl,_⟩ | ⟨hb,cs,ty,fz,hx,ht⟩ | hb
 · exact .inr hl
 · simp only at hx e hb;exact .inl (.inl ⟨hb,cs,ty,fz,by rw[e,hx],ht⟩)
 · exact .inl (.inr hb)
theorem Holds.read(h:Holds d T o L w){b:Nat}{x:Obj}(hp:(b,x)∈L)(i:Nat)(s:Bool):jU d T o w ⟨.cell ⟨b,i,none⟩,false,s⟩:=by
 refine⟨fun y hy _=>?_,by simp,by simp⟩;simp[MemAct.ofEvent,MemAct.touch?]at hy;subst hy;refine⟨⟨b,i,none⟩,rfl,?_⟩;rcases h.own hp with ho | hl
 · exact .inl ho
 · exact .inr ⟨hl,rfl⟩
theorem wO{b:Nat}(ho:Own d T o w b)(i:Nat)(wr s:Bool):jU d T o w ⟨.cell ⟨b,i,none⟩,wr,s⟩:=by
 refine⟨fun y hy _=>?_,by simp,by simp⟩;simp[MemAct.ofEvent,MemAct.touch?]at hy;subst hy;exact⟨⟨b,i,none⟩,rfl,.inl ho⟩
theorem aJA(f:FuncId)(wr s:Bool):jU d T o w ⟨.mark (.extern f),wr,s⟩ :=
 ⟨fun y hy _=>by simp[MemAct.ofEvent,MemAct.touch?]at hy,by simp,by simp⟩
theorem Does.reads{es:Array Event}(h:∀ e∈es,jU d T o w e):Does d T o w w es:=⟨Turn.refl w,h⟩
theorem Turn.set{b i:Nat}(ho:Own d T o w b)(v:Value):Turn d T o w (w.setCell ⟨b,i,none⟩ v):=by
 have hsz:(w.setCell ⟨b,i,none⟩ v).heap.size=w.heap.size:=by simp[World.setCell]
 refine⟨rfl,rfl,rfl,by rw[hsz];exact Nat.le_refl _,fun x hx hno=>?_,fun x hx _ cs ty fz hc=>?_,fun x hxo hn cs ty fz=>?_,fun x h1 h2=>absurd h2 (by rw[hsz];omega)⟩
 · exact heap_set w _ v x fun e=>hno (by rw[show x=b from e];exact ho)
 · by_cases hxb : x = b
   · subst hxb;exact⟨_,_,jK w hc v⟩
   · exact⟨cs,fz,by rw[heap_set w _ v x hxb];exact hc⟩
 · by_cases hxb : x = b
   · subst hxb; simp only [World.setCell]; rw [Array.getElem?_modify]; simp only [if_true]
     cases hc:w.heap[x]? with
     | none=>simp
     | some ob =>
       cases ob with
       | cells c t f=>exact absurd hc (hn _ _ _)
       | _=>simp
   · rw[heap_set w _ v x hxb];exact hn cs ty fz
theorem Turn.alloc{cs:Array Value}{ty:TypeId}{fz:Nat×Nat}(ht:T ty)(hbox:∀ b,o=some b→b < w.heap.size):Turn d T o w (w.alloc (.cells cs ty fz)):=by
 have hsz:(w.alloc (.cells cs ty fz)).heap.size=w.heap.size+1:=by simp[World.alloc,-World.alloc_eq]
 have hold:∀ x,x < w.heap.size→(w.alloc (.cells cs ty fz)).heap[x]? = w.heap[x]? := fun x hx=>by
  simp only[World.alloc];rw[Array.getElem?_push_lt hx,Array.getElem?_eq_getElem hx]
 refine⟨rfl,rfl,rfl,by rw[hsz];omega,fun x hx _=>hold x hx,fun x hx _ c t f hc=>⟨c,f,by rw[hold x hx];exact hc⟩,fun x hxo hn c t f=>?_,fun x h1 h2=>?_⟩
 · rw[hold x (hbox x hxo)];exact hn c t f
 · obtain rfl : x = w.heap.size := by rw [hsz] at h2; omega
   exact⟨cs,ty,fz,by simp[World.alloc,-World.alloc_eq],ht⟩
theorem Holds.set (h : Holds d T o L w) {b i : Nat} {cs : Array Value} {ty : TypeId} {fz : Nat × Nat} (hp : (b, Obj.cells cs ty fz) ∈ L) (v : Value)
    (hL:∀ p∈L',p=(b,Obj.cells (cs.setIfInBounds i v) ty fz)∨(p∈L∧p.1≠b)):Holds d T o L' (w.setCell ⟨b,i,none⟩ v):=by
  have hsz:(w.setCell ⟨b,i,none⟩ v).heap.size=w.heap.size:=by simp[World.setCell]
  refine⟨fun p hp'=>?_,fun p hp'=>?_,by rw[hsz];exact h.big,fun x hx=>by rw[hsz];exact h.box x hx⟩
  · rcases hL p hp' with rfl | ⟨hpL, hne⟩
    · exact jK w (h.has _ hp) v
    · rw[heap_set w _ v _ hne];exact h.has p hpL
  · rcases hL p hp' with rfl | ⟨hpL, _⟩
    · rcases h.safe _ hp with hs | ⟨hb, cs', ty', fz', hx, ht⟩ | hs
      · exact .inl hs
      · simp only[Obj.cells.injEq]at hx;obtain⟨rfl,rfl,rfl⟩:=hx;exact .inr (.inl ⟨hb,_,_,_,rfl,ht⟩)
      · exact .inr (.inr hs)
    · exact h.safe p hpL
theorem Holds.alloc (h : Holds d T o L w) {cs : Array Value} {ty : TypeId} {fz : Nat × Nat} (ht : T ty)
    (hL:∀ p∈L',p=(w.heap.size,Obj.cells cs ty fz)∨p∈L):Holds d T o L' (w.alloc (.cells cs ty fz)):=by
  have hsz:(w.alloc (.cells cs ty fz)).heap.size=w.heap.size+1:=by simp[World.alloc,-World.alloc_eq]
  refine⟨fun p hp'=>?_,fun p hp'=>?_,by rw[hsz];have:=h.big;omega,fun x hx=>by rw[hsz];have:=h.box x hx;omega⟩
  · rcases hL p hp' with rfl | hpL
    · simp[World.alloc,-World.alloc_eq]
    · have:=h.lt hpL;simp only[World.alloc];rw[Array.getElem?_push_lt this,← Array.getElem?_eq_getElem];exact h.has p hpL
  · rcases hL p hp' with rfl | hpL
    · exact .inr (.inl ⟨h.big,_,_,_,rfl,ht⟩)
    · exact h.safe p hpL
theorem Holds.cons(h:Holds d T o L w)(cs:Array Value){ty:TypeId}(ht:T ty):Holds d T o ((w.heap.size,Obj.cells cs ty (0,0))::L) (w.alloc (.cells cs ty)) :=
 h.alloc ht fun p hp=>by
  rcases List.mem_cons.1 hp with rfl | hp
  · exact .inl rfl
  · exact .inr hp
theorem Holds.set1{b i:Nat}{cs:Array Value}{ty:TypeId}{fz:Nat×Nat}(h:Holds d T o ((b,Obj.cells cs ty fz)::L) w)(hn:∀ p∈L,p.1≠b)(v:Value):Holds d T o ((b,Obj.cells (cs.setIfInBounds i v) ty fz)::L) (w.setCell ⟨b,i,none⟩ v) :=
 h.set List.mem_cons_self v fun p hp=>by
  rcases List.mem_cons.1 hp with rfl | hp
  · exact .inl rfl
  · exact .inr ⟨List.mem_cons_of_mem _ hp,hn p hp⟩
theorem Holds.set3{b:Nat}{x0 x1 x2:Value}{ty:TypeId}{fz:Nat×Nat}(h:Holds d T o ((b,Obj.cells #[x0,x1,x2] ty fz)::L) w)(hn:∀ p∈L,p.1≠b)(v0 v1 v2:Value) :
 Holds d T o ((b,Obj.cells #[v0,v1,v2] ty fz)::L) (((w.setCell ⟨b,0,none⟩ v0).setCell ⟨b,1,none⟩ v1).setCell ⟨b,2,none⟩ v2) :=
 ((h.set1 (i:=0) hn v0).set1 (i:=1) hn v1).set1 (i:=2) hn v2
theorem Holds.set4{b:Nat}{x0 x1 x2 x3:Value}{ty:TypeId}{fz:Nat×Nat}(h:Holds d T o ((b,Obj.cells #[x0,x1,x2,x3] ty fz)::L) w)(hn:∀ p∈L,p.1≠b)(v0 v1 v2 v3:Value) :
 Holds d T o ((b,Obj.cells #[v0,v1,v2,v3] ty fz)::L) ((((w.setCell ⟨b,0,none⟩ v0).setCell ⟨b,1,none⟩ v1).setCell ⟨b,2,none⟩ v2).setCell ⟨b,3,none⟩ v3) :=
 (((h.set1 (i:=0) hn v0).set1 (i:=1) hn v1).set1 (i:=2) hn v2).set1 (i:=3) hn v3
theorem Holds.weak(h:Holds d T o L w)(hL:∀ p∈L',p∈L):Holds d T o L' w:=⟨fun p hp=>h.has p (hL p hp),fun p hp=>h.safe p (hL p hp),h.big,h.box⟩
theorem Holds.boxed {tb : TypeId} (h : Holds d T o L w) {cs : Array Value} {fz : Nat × Nat}
    (hL:∀ p∈L',p=(w.heap.size,Obj.cells cs tb fz)∨(p∈L∧tNA d T none p.1 p.2)):Holds d T (some w.heap.size) L' (w.alloc (.cells cs tb fz)):=by
  have hsz:(w.alloc (.cells cs tb fz)).heap.size=w.heap.size+1:=by simp[World.alloc,-World.alloc_eq]
  refine⟨fun p hp'=>?_,fun p hp'=>?_,by rw[hsz];have:=h.big;omega,fun x hx=>by rw[hsz];cases hx;omega⟩
  · rcases hL p hp' with rfl | ⟨hpL, _⟩
    · simp[World.alloc,-World.alloc_eq]
    · have:=h.lt hpL;simp only[World.alloc];rw[Array.getElem?_push_lt this,← Array.getElem?_eq_getElem];exact h.has p hpL
  · rcases hL p hp' with rfl | ⟨_, hs⟩
    · exact .inr (.inr rfl)
    · rcases hs with hs | hs | hs
      · exact .inl hs
      · exact .inr (.inl hs)
      · cases hs
theorem Turn.own_back(h:Turn d T o w w'){b:Nat}(hb:b < w.heap.size)(ho:Own d T o w' b):Own d T o w b:=by
 by_cases hno:Own d T o w b
 · exact hno
 · rcases ho with ⟨hB, cs, ty, fz, hc, ht⟩ | ho
   · rw[h.rest b hb hno]at hc;exact .inl ⟨hB,cs,ty,fz,hc,ht⟩
   · exact .inr ho
theorem Turn.own_fwd(h:Turn d T o w w'){b:Nat}(hb:b < w.heap.size)(ho:Own d T o w b):Own d T o w' b:=by
 rcases id ho with⟨hB,cs,ty,fz,hc,ht⟩ | hx
 · obtain⟨cs',fz',hc'⟩:=h.typ b hb ho cs ty fz hc;exact .inl ⟨hB,cs',ty,fz',hc',ht⟩
 · exact .inr hx
theorem Turn.trans{w2:World}(h:Turn d T o w w')(h2:Turn d T o w' w2)(hB:d.B≤w.heap.size):Turn d T o w w2:=by
 refine⟨h2.tape.trans h.tape,h2.os.trans h.os,h2.output.trans h.output,Nat.le_trans h.size h2.size,fun b hb hno=>?_,fun b hb ho cs ty fz hc=>?_,fun b hb hn=>h2.boxed b hb (h.boxed b hb hn),fun b hb hb2=>?_⟩
 · rw[h2.rest b (Nat.lt_of_lt_of_le hb h.size) fun ho=>hno (h.own_back hb ho),h.rest b hb hno]
 · obtain⟨cs',fz',hc'⟩:=h.typ b hb ho cs ty fz hc;exact h2.typ b (Nat.lt_of_lt_of_le hb h.size) (h.own_fwd hb ho) cs' ty fz' hc'
 · rcases Nat.lt_or_ge b w'.heap.size with hlt | hge
   · obtain⟨cs,ty,fz,hc,ht⟩:=h.new b hb hlt;obtain⟨cs',fz',hc'⟩:=h2.typ b hlt (.inl ⟨Nat.le_trans hB hb,cs,ty,fz,hc,ht⟩) cs ty fz hc;exact⟨cs',ty,fz',hc',ht⟩
   · exact h2.new b hge hb2
theorem Turn.set3{b:Nat}(ho:Own d T o w b)(hb:b < w.heap.size)(hB:d.B≤w.heap.size)(v0 v1 v2:Value) :
 Turn d T o w (((w.setCell ⟨b,0,none⟩ v0).setCell ⟨b,1,none⟩ v1).setCell ⟨b,2,none⟩ v2):=by
 have t0:=Turn.set (i:=0) ho v0;have o0:=t0.own_fwd hb ho;have t1:=t0.trans (Turn.set (i:=1) o0 v1) hB;exact t1.trans (Turn.set (i:=2) (t1.own_fwd hb ho) v2) hB
theorem Turn.set4{b:Nat}(ho:Own d T o w b)(hb:b < w.heap.size)(hB:d.B≤w.heap.size)(v0 v1 v2 v3:Value) :
 Turn d T o w ((((w.setCell ⟨b,0,none⟩ v0).setCell ⟨b,1,none⟩ v1).setCell ⟨b,2,none⟩ v2).setCell ⟨b,3,none⟩ v3):=by
 have t2:=Turn.set3 ho hb hB v0 v1 v2;exact t2.trans (Turn.set (i:=3) (t2.own_fwd hb ho) v3) hB
theorem Holds.mine(h:Holds d T o L w){b:Nat}{cs:Array Value}{ty:TypeId}{fz:Nat×Nat}(hp:(b,Obj.cells cs ty fz)∈L)(hb:d.B≤b)(ht:T ty):Own d T o w b:=.inl ⟨hb,cs,ty,fz,h.has _ hp,ht⟩
theorem Holds.boxOwn{b:Nat}(_:Holds d T (some b) L w):Own d T (some b) w b:=.inr rfl
theorem draws:LetsDraw (Does d T o):=fun w=>⟨⟨rfl,rfl,rfl,Nat.le_refl _,fun _ _ _=>rfl,fun _ _ _ cs _ fz h=>⟨cs,fz,h⟩,fun _ _ h=>h,fun b h1 h2=>absurd h2 (by show ¬ b < w.heap.size;omega)⟩,by simp⟩
theorem nM(w:World):Rely d T o w { w with drawn:=w.drawn+1 }:=Rely.at w _
variable {P : Program} {w : World} {es : Array Event}
theorem tH(t ty:TypeId)(s:ByteArray)(h:P.underlying t=some .string):(Builtin.len_ #[t] ty #[.string s]).events P w es=es:=by
 simp[Builtin.len_,run_underlying h]
theorem uI(t:TypeId)(s:ByteArray)(k:IntKind)(i:Int)(h:P.underlying t=some .string)(hi:0≤i∧i < s.size):(Instr.index t (.string s) (.int k i)).events P w es=es:=by
 have h2:i.toNat < s.size:=by omega
 have h3:(if 0≤i then s[i.toNat]? else none)=some s[i.toNat]:=by rw[if_pos hi.1,ByteArray.getElem?_lt' s _ h2]
 simp[Instr.index,asIntOf,run_underlying h,h3]
theorem sO(k:IntKind)(i:Int)(y:Nat)(code:BoundsCode)(h0:0≤i)(h1:i≤y):(Instr.sliceBound (.int k i) y code).events P w es=es:=by
 simp[Instr.sliceBound,asIntOf,h0,h1]
theorem mLA(t:TypeId)(s:ByteArray)(k:IntKind)(l:Nat)(ht:P.underlying t=some .string)(h1:l≤s.size):(Instr.sliceAt t (.string s) (some (.int k (l:Int))) none none).events P w es=es:=by
 simp[Instr.sliceAt,Instr.slice,run_underlying ht,Instr.sliceBounds,sO,h1]
theorem dJA(t:TypeId)(s:ByteArray)(k k':IntKind)(l h:Int)(ht:P.underlying t=some .string)(h0:0≤l)(h1:l≤h)(h2:h≤s.size):(Instr.sliceAt t (.string s) (some (.int k l)) (some (.int k' h)) none).events P w es=es:=by
 have h4:0≤h:=by omega
 have h5:l≤h.toNat:=by omega
 simp[Instr.sliceAt,Instr.slice,run_underlying ht,Instr.sliceBounds,run_sliceBound,sO,h2,h4];exact sO _ _ _ _ h0 h5
theorem sV(P:Program)(w:World)(a:Addr)(m:Mode)(f:Fn)(x y:Array Value):(store a (.func f x y) m).run P w=stored P w a (.func f x y) m:=run_store P w a _ m rfl
theorem jZ(P:Program)(w:World)(es:Array Event)(a:Addr)(m:Mode)(f:Fn)(x y:Array Value):(store a (.func f x y) m).events P w es=storedEv P w es a (.func f x y) m:=events_store P w es a _ m rfl
theorem yP(P:Program)(w:World)(es:Array Event)(a:Addr)(m:Mode)(s:ByteArray):(store a (.string s) m).events P w es=storedEv P w es a (.string s) m:=events_store P w es a _ m rfl
end Go.Lx
namespace Go.Lx
open Go Go.Conc
variable {P : Program} {main : Bool} {R : World → World → Prop} {D : World → World → Array Event → Prop} {fn : FuncId} {md : Region.Mode} {ops : Array Oper} {c : Nat} {Q : Exit → Act → World → Prop} {S : World → Prop}
theorem wB (T : Terms R D) (hSR : ∀ x y, S x → R x y → S y) (hQR : ∀ a x y, Q .normal a x → R x y → Q .normal a y) (i : Nat) {oi : Oper} {v : Value} {fuel : Nat} {listed : Array Bool} {a : Act} {w : World} (hi : ops[i]? = some oi)
    (hb:(Region.noSelect ops&&Region.free md ops listed i&&(Region.ready md ops listed).contains i)=true) (hw:Region.wanted oi (yielded ops a.tmps)=true) (hS:S w)
    (hy:∀ w,S w→(∀ K:Result Next→Prop,K (.ok (.value v) w)→K ((execOp a.eval oi).run P w))∧D w w (Conc.listed P fn a oi w))
    (h:AnyX P main R D fn md ops c Q S fuel (listed.setIfInBounds i true) (a.put oi.dst v) w):AnyX P main R D fn md ops c Q S (fuel+1) listed a w:=by
  simp only[Bool.and_eq_true]at hb;exact iFA T hSR hQR hi hb.1.1 hb.1.2 hb.2 (.inl ⟨hw,fun w hw=>⟨run_eq_of (hy w hw).1,(hy w hw).2⟩⟩) hS h
theorem qV (T : Terms R D) (hSR : ∀ x y, S x → R x y → S y) (hQR : ∀ a x y, Q .normal a x → R x y → Q .normal a y) (i : Nat) {oi : Oper} {fuel : Nat} {listed : Array Bool} {a : Act} {w : World} (hi : ops[i]? = some oi)
    (hb:(Region.noSelect ops&&Region.free md ops listed i&&(Region.ready md ops listed).contains i)=true) (hw:Region.wanted oi (yielded ops a.tmps)=false) (hS:S w)
    (h:AnyX P main R D fn md ops c Q S fuel (listed.setIfInBounds i true) (a.put oi.dst undef) w):AnyX P main R D fn md ops c Q S (fuel+1) listed a w:=by
  simp only[Bool.and_eq_true]at hb;exact iFA T hSR hQR hi hb.1.1 hb.1.2 hb.2 (.inr ⟨hw,rfl⟩) hS h
end Go.Lx
namespace Go.Lx
open Go.Conc
def Mine(B:Nat)(M:Nat→Prop)(x:Touch):Prop:=(∃ a,x.loc = .cell a∧(M a.block∨(a.block < B∧x.write=false)))∨((∃ c,x.loc = .obj c)∧x.kind = .atomic)
structure Pair (m n B:Nat) (M S:Nat→Prop) (t:Trace):Prop where
 pos:n≠m
 clean:∀ said,¬ Race said t
 known:∀ i x,touchAt t i=some x→x.loc.isMemory=true→(Knows t m i∧Knows t n i)∨(t.g? i=some m∧Mine B M x)∨(t.g? i=some n∧Mine B S x)
 apart:∀ b,M b→¬ S b
 highM:∀ b,M b→B≤b
 highS:∀ b,S b→B≤b
theorem Pair.symm{m n B:Nat}{M S:Nat→Prop}{t:Trace}(h:Pair m n B M S t):Pair n m B S M t :=
 ⟨h.pos.symm,h.clean,fun i x hx hm=>(h.known i x hx hm).elim (fun y=>.inl ⟨y.2,y.1⟩) fun y=>.inr y.symm,fun b hs hm=>h.apart b hm hs,h.highS,h.highM⟩
theorem Mine.mono{B:Nat}{M M':Nat→Prop}{x:Touch}(h:Mine B M x)(hM:∀ b,M b→M' b):Mine B M' x:=by
 rcases h with⟨a,h1,h2⟩ | h
 · exact .inl ⟨a,h1,h2.imp (hM _) id⟩
 · exact .inr h
theorem vLA{B:Nat}{M S:Nat→Prop}{x y:Touch}{said:Bool}(hM:Mine B M x)(hS:Mine B S y)(hap:∀ b,M b→¬ S b)(h1:∀ b,M b→B≤b)(h2:∀ b,S b→B≤b):¬ x.conflicts said y:=by
 rintro⟨hl,_,hw,hp⟩;rcases hM with⟨a,ha,hm⟩ | ⟨⟨c,hc⟩,hk⟩
 case inr =>
   rcases hS with⟨a',ha',_⟩ | ⟨_,hk'⟩
   · rw[hc,ha']at hl;cases hl
   · rw[hk,hk']at hp;rcases hp with hp | hp | ⟨_,hp,_⟩<;>cases hp
 rcases hS with⟨a',ha',hs⟩ | ⟨⟨c,hc⟩,_⟩
 case inr=>rw[ha,hc]at hl;cases hl
 have:a=a':=by
  have:=ha.symm.trans (hl.trans ha');exact Loc.cell.inj this
 subst this;rcases hm with hm | ⟨hm,wm⟩<;>rcases hs with hs | ⟨hs,ws⟩
 · exact hap _ hm hs
 · have:=h1 _ hm;omega
 · have:=h2 _ hs;omega
 · rcases hw with h | h
   · rw[wm]at h;cases h
   · rw[ws]at h;cases h
theorem pBA{said:Bool}{x y:Touch}(h:x.conflicts said y):y.conflicts said x:=by
 obtain⟨h1,h2,h3,h4⟩:=h;refine⟨h1.symm,by rw[← h1];exact h2,h3.symm,?_⟩;rcases h4 with h | h | ⟨h,h',h''⟩
 · exact .inr (.inl h)
 · exact .inl h
 · exact .inr (.inr ⟨h,h'',h'⟩)
theorem g?_of{t:Trace}{i:Nat}{op:MemOp}(h:t[i]? = some op):t.g? i=some op.g:=by simp[Trace.g?,h]
theorem fDA{t:Trace}{i g:Nat}(h:t.g? i=some g):Knows t g i:=by
 unfold Trace.g? at h;obtain⟨op,ho,rfl⟩:=Option.map_eq_some_iff.1 h;exact knows_own ho
variable {m n B : Nat} {M S M' : Nat → Prop} {t u : Trace}
theorem Pair.app (h : Pair m n B M S t) (hu : ∀ op ∈ u, op.g = m) (hm : ∀ op ∈ u, ∀ x, op.act.touch? = some x → x.loc.isMemory = true → Mine B M' x)
    (hMM:∀ b,M b→M' b) (hap:∀ b,M' b→¬ S b) (hhi:∀ b,M' b→B≤b):Pair m n B M' S (t++u):=by
  refine⟨h.pos,fun said=>noRace_append (h.clean said) hu fun i a ha op hop b hb hc=>?_,fun i a ha hmem=>?_,hap,hhi,h.highS⟩
  · rcases h.known i a ha hc.2.1 with hk | ⟨hg, _⟩ | ⟨hg, hs⟩
    · exact hk.1
    · exact fDA hg
    · exact absurd (pBA hc) (vLA (hm op hop b hb (hc.1▸hc.2.1)) hs hap hhi h.highS)
  · obtain ⟨x, hx, hxa⟩ := touch_of ha; rcases getElem?_append_cases hx with ⟨hi, hx'⟩ | ⟨_, hxu⟩
    · rcases h.known i a (by rw [touchAt_of hx']; exact hxa) hmem with hk | ⟨hg, hk⟩ | ⟨hg, hk⟩
      · exact .inl ⟨hk.1.app u,hk.2.app u⟩
      · exact .inr (.inl ⟨by rw[g?_old hi];exact hg,hk.mono hMM⟩)
      · exact .inr (.inr ⟨by rw[g?_old hi];exact hg,hk⟩)
    · exact .inr (.inl ⟨by rw[g?_of hx,hu x hxu],hm x hxu a hxa hmem⟩)
theorem wR{said:Bool}(h:¬ Race said t)(hn:∀ op∈u,op.act.touch? = none):¬ Race said (t++u):=by
 rintro⟨i,j,hij,⟨a,b,ha,hb,hc⟩,n1,n2⟩;obtain⟨x,hx,hxa⟩:=touch_of ha;obtain⟨y,hy,hyb⟩:=touch_of hb;rcases getElem?_append_cases hy with⟨hj,hy'⟩ | ⟨hj,hyu⟩
 · have hi : i < t.size := Nat.lt_trans hij hj; have hx' : t[i]? = some x := by rw [← getElem?_append_old (u := u) hi]; exact hx
   exact h ⟨i,j,hij,⟨a,b,by simp[Trace.act?,hx',hxa],by simp[Trace.act?,hy',hyb],hc⟩,fun e=>n1 (hb_app u e),fun e=>n2 (hb_app u e)⟩
 · rw[hn y hyu]at hyb;cases hyb
theorem Pair.dull(h:Pair m n B M S t)(hn:∀ op∈u,op.act.touch? = none):Pair m n B M S (t++u):=by
 refine⟨h.pos,fun said=>wR (h.clean said) hn,fun i a ha hmem=>?_,h.apart,h.highM,h.highS⟩;obtain⟨x,hx,hxa⟩:=touch_of ha;rcases getElem?_append_cases hx with⟨hi,hx'⟩ | ⟨_,hxu⟩
 · rcases h.known i a (by rw [touchAt_of hx']; exact hxa) hmem with hk | ⟨hg, hk⟩ | ⟨hg, hk⟩
   · exact .inl ⟨hk.1.app u,hk.2.app u⟩
   · exact .inr (.inl ⟨by rw[g?_old hi];exact hg,hk⟩)
   · exact .inr (.inr ⟨by rw[g?_old hi];exact hg,hk⟩)
 · rw[hn x hxu]at hxa;cases hxa
theorem Deaf_still(t:Trace)(g:Nat)(u:Trace)(hu:∀ op∈u,op.act≠.mark .disable∧op.act≠.mark .enable):Deaf (t++u) g=Deaf t g:=by
 obtain⟨l⟩:=u;rw[Deaf_append];generalize Deaf t g=k
 induction l with
 | nil=>rfl
 | cons y l ih =>
   have hy:=hu y (by simp);have e1:deafStep g k y=k:=by
    unfold deafStep
    split
    · rename_i e;exact absurd e hy.1
    · rename_i e;exact absurd e hy.2
    · rfl
   rw[List.foldl_cons,e1];exact ih (fun op hop=>hu op (by simp at hop ⊢;exact .inr hop))
theorem iPA{t:Trace}(h:Kn t)(hn:n≠0)(hd:Deaf t n=0)(fn fn':FuncId)(pos pos':String) :
 Pair 0 n B (fun _=>False) (fun _=>False) (t++#[{ g:=0,fn,pos,act:=.go n },{ g:=n,fn:=fn',pos:=pos',act:=.start }]):=by
 let y:MemOp:={ g:=0,fn,pos,act:=.go n }
 let z:MemOp:={ g:=n,fn:=fn',pos:=pos',act:=.start }
 have hy:(t++#[y,z])[t.size]? = some y:=by rw[Array.getElem?_append_right (Nat.le_refl _)];simp
 have hz:(t++#[y,z])[t.size+1]? = some z:=by rw[Array.getElem?_append_right (by omega)];simp
 have hearsY:(t++#[y,z]).heard t.size:=⟨0,by simp[Trace.g?,hy,y],by rw[deaf_old (Nat.le_refl _)];exact h.hears⟩;have hearsZ:(t++#[y,z]).heard (t.size+1):=by
  refine⟨n,by simp[Trace.g?,hz,z],?_⟩;rw[deaf_succ hy,deaf_old (Nat.le_refl _)];exact hd
 have hyz:HappensBefore (t++#[y,z]) t.size (t.size+1):=.single (.inr ⟨.spawn (child:=n) (by simp[Trace.act?,hy,y]) (by simp[Trace.act?,hz,z]) (by simp[Trace.g?,hz,z]),hearsY,hearsZ⟩);refine⟨hn,fun said=>wR (h.clean said) (by simp[MemAct.touch?]),fun i a ha hmem=>?_,by simp,by simp,by simp⟩;obtain⟨x,hx,hxa⟩:=touch_of ha;rcases getElem?_append_cases hx with⟨hi,hx'⟩ | ⟨_,hxu⟩
 · have hk:=h.known i a (by rw[touchAt_of hx'];exact hxa) hmem;refine .inl ⟨hk.app _,?_⟩;exact⟨t.size+1,z,hz,rfl,.inr ((hk.hb_new (Nat.le_refl _) hy rfl).trans hyz)⟩
 · have : x.act.touch? = none := by
     simp at hxu;rcases hxu with rfl | rfl<;>rfl
   rw[this]at hxa;cases hxa
structure Shut (n c p:Nat) (t:Trace):Prop where
 act:t.act? p=some (.close c)
 g:t.g? p=some n
 heard:t.heard p
 last:∀ i x,touchAt t i=some x→t.g? i=some n→i < p
theorem Shut.app{c p:Nat}(h:Shut n c p t)(hu:∀ op∈u,op.g=n→op.act.touch? = none):Shut n c p (t++u):=by
 have hp:p < t.size:=lt_of_act? h.act;refine⟨by rw[act?_old hp];exact h.act,by rw[g?_old hp];exact h.g,(heard_old hp).2 h.heard,fun i x hx hg=>?_⟩;obtain⟨y,hy,hyx⟩:=touch_of hx;rcases getElem?_append_cases hy with⟨hi,hy'⟩ | ⟨_,hyu⟩
 · exact h.last i x (by rw[touchAt_of hy'];exact hyx) (by rw[← g?_old (u:=u) hi];exact hg)
 · rw[g?_of hy]at hg;rw[hu y hyu (Option.some.inj hg)]at hyx;cases hyx
theorem dVA{c p:Nat}{fn:FuncId}{pos:String}(h:Pair 0 n B M S t)(hh:Deaf t 0=0)(hs:Shut n c p t):Kn (t++#[{ g:=0,fn,pos,act:=.recvClosed c }]):=by
 let y:MemOp:={ g:=0,fn,pos,act:=.recvClosed c }
 have hp:p < t.size:=lt_of_act? hs.act;have hy:(t++#[y])[t.size]? = some y:=by rw[Array.getElem?_append_right (Nat.le_refl _)];simp
 have d0:Deaf (t++#[y]) 0=Deaf t 0:=Deaf_still t 0 _ (by simp[y]);have hearsY:(t++#[y]).heard t.size:=⟨0,by simp[Trace.g?,hy,y],by rw[deaf_old (Nat.le_refl _)];exact hh⟩;have hpy:HappensBefore (t++#[y]) p t.size:=.single (.inr ⟨.closed (c:=c) (by rw[act?_old hp];exact hs.act) (by simp[Trace.act?,hy,y]),(heard_old hp).2 hs.heard,hearsY⟩);refine⟨fun said=>wR (h.clean said) (by simp[MemAct.touch?]),fun i a ha hmem=>?_,d0.trans hh⟩;obtain⟨x,hx,hxa⟩:=touch_of ha;rcases getElem?_append_cases hx with⟨hi,hx'⟩ | ⟨_,hxu⟩
 · have hta : touchAt t i = some a := by rw [touchAt_of hx']; exact hxa
   rcases h.known i a hta hmem with hk | ⟨hg,hk⟩ | ⟨hg,hk⟩
   · exact hk.1.app _
   · exact(fDA hg).app _
   · have hip:=hs.last i a hta hg;have hpo:HappensBefore t i p:=.single (.inl ⟨hip,n,hg,hs.g⟩);exact⟨t.size,y,hy,rfl,.inr ((hb_app #[y] hpo).trans hpy)⟩
 · have : x.act.touch? = none := by
     simp at hxu;subst hxu;rfl
   rw[this]at hxa;cases hxa
structure Split (d:Deal) (T0 T1:TypeId→Prop) (h:Array Obj) (M S:Nat→Prop) (o0 o1:Option Nat):Prop where
 bsize:d.B≤h.size
 own0:∀ b cs ty fz,d.B≤b→h[b]? = some (.cells cs ty fz)→T0 ty→M b
 own1:∀ b cs ty fz,d.B≤b→h[b]? = some (.cells cs ty fz)→T1 ty→S b
 lowM:∀ b,M b→b < h.size
 lowS:∀ b,S b→b < h.size
 box0:∀ b,o0=some b→M b
 box1:∀ b,o1=some b→S b
variable {d : Deal} {T0 T1 : TypeId → Prop} {tb : TypeId} {w w' : World} {M S : Nat → Prop} {o0 o1 : Option Nat}
theorem Split.symm{h:Array Obj}(s:Split d T0 T1 h M S o0 o1):Split d T1 T0 h S M o1 o0:=⟨s.bsize,s.own1,s.own0,s.lowS,s.lowM,s.box1,s.box0⟩
def More(M:Nat→Prop)(w w':World)(b:Nat):Prop:=M b∨(w.heap.size≤b∧b < w'.heap.size)
theorem Split.mine(s:Split d T0 T1 w.heap M S o0 o1){b:Nat}(h:Own d T0 o0 w b):M b:=by
 rcases h with⟨hb,cs,ty,fz,hc,ht⟩ | h
 · exact s.own0 b cs ty fz hb hc ht
 · exact s.box0 b h
theorem Split.felt(s:Split d T0 T1 w.heap M S o0 o1)(hap:∀ b,M b→¬ S b)(hM:∀ b,M b→d.B≤b)(h:Turn d T0 o0 w w'):Rely d T1 o1 w w':=by
 refine⟨h.tape,h.os,h.output,h.size,fun b hb _=>?_,fun b hb=>?_⟩
 · refine h.rest b (Nat.lt_of_lt_of_le hb s.bsize) fun ho => ?_
   have:=hM b (s.mine ho);omega
 · exact h.rest b (s.lowS b (s.symm.mine hb)) fun ho=>hap b (s.mine ho) (s.symm.mine hb)
theorem Boxes.old(h:Boxes tb w w'){b:Nat}(hb:b < w.heap.size):w'.heap[b]? = w.heap[b]? := by
 obtain⟨cs,fz,e⟩:=h.heap;rw[e,Array.getElem?_push_lt hb,Array.getElem?_eq_getElem hb]
theorem Boxes.size(h:Boxes tb w w'):w'.heap.size=w.heap.size+1:=by
 obtain⟨cs,fz,e⟩:=h.heap;rw[e,Array.size_push]
theorem Boxes.new(h:Boxes tb w w'):∃ cs fz,w'.heap[w.heap.size]? = some (.cells cs tb fz):=by
 obtain⟨cs,fz,e⟩:=h.heap;exact⟨cs,fz,by rw[e];simp⟩
theorem Split.feltBox(s:Split d T0 T1 w.heap M S o0 o1)(h:Boxes tb w w'):Rely d T1 o1 w w':=by
 refine⟨h.tape,h.os,h.output,by rw[h.size];omega,fun b hb _=>h.old (Nat.lt_of_lt_of_le hb s.bsize),fun b hb=>h.old (s.lowS b (s.symm.mine hb))⟩
theorem bBA(s:Split d T0 T1 w.heap M S o0 o1)(hap:∀ b,M b→¬ S b):∀ b,More M w w' b→¬ S b:=by
 rintro b (h | h) hS
 · exact hap b h hS
 · have:=s.lowS b hS;omega
theorem kFA(s:Split d T0 T1 w.heap M S o0 o1)(hM:∀ b,M b→d.B≤b):∀ b,More M w w' b→d.B≤b:=by
 rintro b (h | h)
 · exact hM b h
 · exact Nat.le_trans s.bsize h.1
theorem Split.turn(s:Split d T0 T1 w.heap M S o0 o1)(hdis:∀ ty,T0 ty→¬ T1 ty)(h:Turn d T0 o0 w w'):Split d T0 T1 w'.heap (More M w w') S o0 o1:=by
 have back:∀ b cs ty fz,b < w.heap.size→w'.heap[b]? = some (.cells cs ty fz)→(∃ cs' fz',w.heap[b]? = some (.cells cs' ty fz'))∨(o0=some b∧∀ cs ty fz,w.heap[b]?≠some (.cells cs ty fz)):=by
  intro b cs ty fz hb hc;by_cases ho:Own d T0 o0 w b
  · by_cases hex : ∃ cs' ty' fz', w.heap[b]? = some (.cells cs' ty' fz')
    · obtain ⟨cs', ty', fz', e⟩ := hex; obtain ⟨cs2, fz2, e2⟩ := h.typ b hb ho cs' ty' fz' e; rw [e2] at hc
      injection hc with hc;injection hc with _ hty _
      subst hty;exact .inl ⟨cs',fz',e⟩
    · rcases ho with ⟨_, cs', ty', fz', e, _⟩ | ho
      · exact absurd ⟨cs',ty',fz',e⟩ hex
      · exact .inr ⟨ho,fun cs ty fz e=>hex ⟨cs,ty,fz,e⟩⟩
  · exact .inl ⟨cs,fz,by rw[← h.rest b hb ho];exact hc⟩
 refine⟨Nat.le_trans s.bsize h.size,fun b cs ty fz hb hc ht=>?_,fun b cs ty fz hb hc ht=>?_,fun b hb=>?_,fun b hb=>Nat.lt_of_lt_of_le (s.lowS b hb) h.size,fun b hb=>.inl (s.box0 b hb),s.box1⟩
 · rcases Nat.lt_or_ge b w.heap.size with hlt | hge
   · rcases back b cs ty fz hlt hc with ⟨cs', fz', e⟩ | ⟨e, _⟩
     · exact .inl (s.own0 b cs' ty fz' hb e ht)
     · exact .inl (s.box0 b e)
   · exact .inr ⟨hge,(Array.getElem?_eq_some_iff.1 hc).1⟩
 · rcases Nat.lt_or_ge b w.heap.size with hlt | hge
   · by_cases ho : Own d T0 o0 w b
     · rcases ho with ⟨_, cs', ty', fz', e, ht'⟩ | ho
       · obtain ⟨cs2, fz2, e2⟩ := h.typ b hlt (.inl ⟨hb, cs', ty', fz', e, ht'⟩) cs' ty' fz' e; rw [e2] at hc
         injection hc with hc;injection hc with _ hty _
         subst hty;exact absurd ht (hdis _ ht')
       · rcases back b cs ty fz hlt hc with ⟨cs', fz', e⟩ | ⟨_, e⟩
         · exact s.own1 b cs' ty fz' hb e ht
         · exact absurd hc (h.boxed b ho e cs ty fz)
     · exact s.own1 b cs ty fz hb (by rw[← h.rest b hlt ho];exact hc) ht
   · obtain ⟨cs', ty', fz', e, ht'⟩ := h.new b hge (Array.getElem?_eq_some_iff.1 hc).1; rw [e] at hc
     injection hc with hc;injection hc with _ hty _
     subst hty;exact absurd ht (hdis _ ht')
 · rcases hb with hb | hb
   · exact Nat.lt_of_lt_of_le (s.lowM b hb) h.size
   · exact hb.2
theorem Split.box(s:Split d T0 T1 w.heap M S o0 o1)(h0:¬ T0 tb)(h1:¬ T1 tb)(h:Boxes tb w w'):Split d T0 T1 w'.heap (More M w w') S (some w.heap.size) o1:=by
 have hs:=h.size;obtain⟨csn,fzn,hn⟩:=h.new;have key:∀ b cs ty fz,w'.heap[b]? = some (.cells cs ty fz)→b < w.heap.size∨(b=w.heap.size∧ty=tb):=by
  intro b cs ty fz hc;have hlt:=(Array.getElem?_eq_some_iff.1 hc).1;rcases Nat.lt_or_ge b w.heap.size with hb | hb
  · exact .inl hb
  · have : b = w.heap.size := by omega
    subst this;rw[hn]at hc
    injection hc with hc;injection hc with _ hty _
    exact .inr ⟨rfl,hty.symm⟩
 refine⟨by have:=s.bsize;omega,fun b cs ty fz hb hc ht=>?_,fun b cs ty fz hb hc ht=>?_,fun b hb=>?_,fun b hb=>by have:=s.lowS b hb;omega,fun b hb=>?_,s.box1⟩
 · rcases key b cs ty fz hc with hlt | ⟨_, rfl⟩
   · exact .inl (s.own0 b cs ty fz hb (by rw[← h.old hlt];exact hc) ht)
   · exact absurd ht h0
 · rcases key b cs ty fz hc with hlt | ⟨_, rfl⟩
   · exact s.own1 b cs ty fz hb (by rw[← h.old hlt];exact hc) ht
   · exact absurd ht h1
 · rcases hb with hb | hb
   · have:=s.lowM b hb;omega
   · exact hb.2
 · obtain rfl:=Option.some.inj hb;exact .inr ⟨Nat.le_refl _,by omega⟩
theorem Split.same{h h':Array Obj}(s:Split d T0 T1 h M S o0 o1)(hs:h'.size=h.size)(hc:∀ b,d.B≤b→h'[b]? = h[b]?):Split d T0 T1 h' M S o0 o1 :=
 ⟨by rw [hs]; exact s.bsize, fun b cs ty fz hb e => s.own0 b cs ty fz hb (by rw [← hc b hb]; exact e), fun b cs ty fz hb e => s.own1 b cs ty fz hb (by rw [← hc b hb]; exact e),
   fun b hb=>by rw[hs];exact s.lowM b hb,fun b hb=>by rw[hs];exact s.lowS b hb,s.box0,s.box1⟩
theorem Split.chan(s:Split d T0 T1 w.heap M S o0 o1)(hB:d.c < d.B){cap st r:Nat}{buf:Array Value}{cl tm:Bool}:Split d T0 T1 (w.setChan d.c cap buf cl st r tm).heap M S o0 o1 :=
 s.same (by simp[World.setChan]) fun b hb=>by
  simp only[World.setChan];rw[Array.getElem?_setIfInBounds_ne (by omega)]
theorem iCA(s:Split d T0 T1 w'.heap M S o0 o1){e:Event}(h:jU d T0 o0 w' e)(x:Touch)(hx:(MemAct.ofEvent e).touch? = some x)(hm:x.loc.isMemory=true):Mine d.B M x:=by
 obtain⟨a,ha,hb⟩:=h.1 x hx hm;exact .inl ⟨a,ha,hb.imp (fun o=>s.mine o) id⟩
end Go.Lx
