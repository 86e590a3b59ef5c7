/- Part 8 of what the proof rests on. -/
import Derived.WalkKit
import Derived.Test.YtlnlpdephijcoaaGreatDoorM07
set_option linter.unusedSimpArgs false
set_option linter.unusedVariables false
namespace Go.Lx
open Go.Conc
variable {P : Program} {w : World} {es : Array Event}
theorem fI(t ty:TypeId)(s:ByteArray)(h:P.underlying t=some .string):(Builtin.len_ #[t] ty #[.string s]).events P w es=es:=by
 simp[Builtin.len_,run_underlying h]
theorem vJ(t:TypeId)(s:ByteArray)(k:IntKind)(i:Int)(h:P.underlying t=some .string)(hi:0≤i∧i < s.size):(Instr.index t (.string s) (.int k i)).events P w es=es:=by
 have h2:i.toNat < s.size:=by omega
 have h3:(if 0≤i then s[i.toNat]? else none)=some s[i.toNat]:=by rw[if_pos hi.1,ByteArray.getElem?_lt' s _ h2]
 simp[Instr.index,asIntOf,run_underlying h,h3]
theorem xQ(k:IntKind)(i:Int)(y:Nat)(code:BoundsCode)(h0:0≤i)(h1:i≤y):(Instr.sliceBound (.int k i) y code).events P w es=es:=by
 simp[Instr.sliceBound,asIntOf,h0,h1]
theorem hRA(t:TypeId)(s:ByteArray)(k:IntKind)(l:Nat)(ht:P.underlying t=some .string)(h1:l≤s.size):(Instr.sliceAt t (.string s) (some (.int k (l:Int))) none none).events P w es=es:=by
 simp[Instr.sliceAt,Instr.slice,run_underlying ht,Instr.sliceBounds,xQ,h1]
theorem uNA(t:TypeId)(s:ByteArray)(k k':IntKind)(l h:Int)(ht:P.underlying t=some .string)(h0:0≤l)(h1:l≤h)(h2:h≤s.size):(Instr.sliceAt t (.string s) (some (.int k l)) (some (.int k' h)) none).events P w es=es:=by
 have h4:0≤h:=by omega
 have h5:l≤h.toNat:=by omega
 simp[Instr.sliceAt,Instr.slice,run_underlying ht,Instr.sliceBounds,run_sliceBound,xQ,h2,h4];exact xQ _ _ _ _ h0 h5
theorem cAA(P:Program)(w:World)(a:Addr)(m:Mode)(f:Fn)(x y:Array Value):(store a (.func f x y) m).run P w=stored P w a (.func f x y) m:=run_store P w a _ m rfl
theorem sCA(P:Program)(w:World)(es:Array Event)(a:Addr)(m:Mode)(f:Fn)(x y:Array Value):(store a (.func f x y) m).events P w es=storedEv P w es a (.func f x y) m:=events_store P w es a _ m rfl
theorem xS(P:Program)(w:World)(es:Array Event)(a:Addr)(m:Mode)(s:ByteArray):(store a (.string s) m).events P w es=storedEv P w es a (.string s) m:=events_store P w es a _ m rfl
end Go.Lx
namespace Go.Lx
open Go Go.Conc
variable {P : Program} {main : Bool} {R : World → World → Prop} {D : World → World → Array Event → Prop} {fn : FuncId} {md : Region.Mode} {ops : Array Oper} {c : Nat} {Q : Exit → Act → World → Prop} {S : World → Prop}
theorem xB (T : Terms R D) (hSR : ∀ x y, S x → R x y → S y) (hQR : ∀ a x y, Q .normal a x → R x y → Q .normal a y) (i : Nat) {oi : Oper} {v : Value} {fuel : Nat} {listed : Array Bool} {a : Act} {w : World} (hi : ops[i]? = some oi)
    (hb:(Region.noSelect ops&&Region.free md ops listed i&&(Region.ready md ops listed).contains i)=true) (hw:Region.wanted oi (yielded ops a.tmps)=true) (hS:S w)
    (hy:∀ w,S w→(∀ K:Result Next→Prop,K (.ok (.value v) w)→K ((execOp a.eval oi).run P w))∧D w w (Conc.listed P fn a oi w))
    (h:AnyX P main R D fn md ops c Q S fuel (listed.setIfInBounds i true) (a.put oi.dst v) w):AnyX P main R D fn md ops c Q S (fuel+1) listed a w:=by
  simp only[Bool.and_eq_true]at hb;exact bJA T hSR hQR hi hb.1.1 hb.1.2 hb.2 (.inl ⟨hw,fun w hw=>⟨run_eq_of (hy w hw).1,(hy w hw).2⟩⟩) hS h
theorem z8 (T : Terms R D) (hSR : ∀ x y, S x → R x y → S y) (hQR : ∀ a x y, Q .normal a x → R x y → Q .normal a y) (i : Nat) {oi : Oper} {fuel : Nat} {listed : Array Bool} {a : Act} {w : World} (hi : ops[i]? = some oi)
    (hb:(Region.noSelect ops&&Region.free md ops listed i&&(Region.ready md ops listed).contains i)=true) (hw:Region.wanted oi (yielded ops a.tmps)=false) (hS:S w)
    (h:AnyX P main R D fn md ops c Q S fuel (listed.setIfInBounds i true) (a.put oi.dst undef) w):AnyX P main R D fn md ops c Q S (fuel+1) listed a w:=by
  simp only[Bool.and_eq_true]at hb;exact bJA T hSR hQR hi hb.1.1 hb.1.2 hb.2 (.inr ⟨hw,rfl⟩) hS h
end Go.Lx
namespace Go.Lx
open Go.Conc
def Mine(B:Nat)(M:Nat→Prop)(x:Touch):Prop:=(∃ a,x.loc = .cell a∧(M a.block∨(a.block < B∧x.write=false)))∨((∃ c,x.loc = .obj c)∧x.kind = .atomic)
structure Pair (m n B:Nat) (M S:Nat→Prop) (t:Trace):Prop where
 pos:n≠m
 clean:∀ said,¬ Race said t
 known:∀ i x,touchAt t i=some x→x.loc.isMemory=true→(Knows t m i∧Knows t n i)∨(t.g? i=some m∧Mine B M x)∨(t.g? i=some n∧Mine B S x)
 apart:∀ b,M b→¬ S b
 highM:∀ b,M b→B≤b
 highS:∀ b,S b→B≤b
theorem Pair.symm{m n B:Nat}{M S:Nat→Prop}{t:Trace}(h:Pair m n B M S t):Pair n m B S M t :=
 ⟨h.pos.symm,h.clean,fun i x hx hm=>(h.known i x hx hm).elim (fun y=>.inl ⟨y.2,y.1⟩) fun y=>.inr y.symm,fun b hs hm=>h.apart b hm hs,h.highS,h.highM⟩
theorem Mine.mono{B:Nat}{M M':Nat→Prop}{x:Touch}(h:Mine B M x)(hM:∀ b,M b→M' b):Mine B M' x:=by
 rcases h with⟨a,h1,h2⟩ | h
 · exact .inl ⟨a,h1,h2.imp (hM _) id⟩
 · exact .inr h
theorem eTA{B:Nat}{M S:Nat→Prop}{x y:Touch}{said:Bool}(hM:Mine B M x)(hS:Mine B S y)(hap:∀ b,M b→¬ S b)(h1:∀ b,M b→B≤b)(h2:∀ b,S b→B≤b):¬ x.conflicts said y:=by
 rintro⟨hl,_,hw,hp⟩;rcases hM with⟨a,ha,hm⟩ | ⟨⟨c,hc⟩,hk⟩
 case inr =>
   rcases hS with⟨a',ha',_⟩ | ⟨_,hk'⟩
   · rw[hc,ha']at hl;cases hl
   · rw[hk,hk']at hp;rcases hp with hp | hp | ⟨_,hp,_⟩<;>cases hp
 rcases hS with⟨a',ha',hs⟩ | ⟨⟨c,hc⟩,_⟩
 case inr=>rw[ha,hc]at hl;cases hl
 have:a=a':=by
  have:=ha.symm.trans (hl.trans ha');exact Loc.cell.inj this
 subst this;rcases hm with hm | ⟨hm,wm⟩<;>rcases hs with hs | ⟨hs,ws⟩
 · exact hap _ hm hs
 · have:=h1 _ hm;omega
 · have:=h2 _ hs;omega
 · rcases hw with h | h
   · rw[wm]at h;cases h
   · rw[ws]at h;cases h
theorem xFA{said:Bool}{x y:Touch}(h:x.conflicts said y):y.conflicts said x:=by
 obtain⟨h1,h2,h3,h4⟩:=h;refine⟨h1.symm,by rw[← h1];exact h2,h3.symm,?_⟩;rcases h4 with h | h | ⟨h,h',h''⟩
 · exact .inr (.inl h)
 · exact .inl h
 · exact .inr (.inr ⟨h,h'',h'⟩)
theorem g?_of{t:Trace}{i:Nat}{op:MemOp}(h:t[i]? = some op):t.g? i=some op.g:=by simp[Trace.g?,h]
theorem bGA{t:Trace}{i g:Nat}(h:t.g? i=some g):Knows t g i:=by
 unfold Trace.g? at h;obtain⟨op,ho,rfl⟩:=Option.map_eq_some_iff.1 h;exact knows_own ho
variable {m n B : Nat} {M S M' : Nat → Prop} {t u : Trace}
theorem Pair.app (h : Pair m n B M S t) (hu : ∀ op ∈ u, op.g = m) (hm : ∀ op ∈ u, ∀ x, op.act.touch? = some x → x.loc.isMemory = true → Mine B M' x)
    (hMM:∀ b,M b→M' b) (hap:∀ b,M' b→¬ S b) (hhi:∀ b,M' b→B≤b):Pair m n B M' S (t++u):=by
  refine⟨h.pos,fun said=>noRace_append (h.clean said) hu fun i a ha op hop b hb hc=>?_,fun i a ha hmem=>?_,hap,hhi,h.highS⟩
  · rcases h.known i a ha hc.2.1 with hk | ⟨hg, _⟩ | ⟨hg, hs⟩
    · exact hk.1
    · exact bGA hg
    · exact absurd (xFA hc) (eTA (hm op hop b hb (hc.1▸hc.2.1)) hs hap hhi h.highS)
  · obtain ⟨x, hx, hxa⟩ := touch_of ha; rcases getElem?_append_cases hx with ⟨hi, hx'⟩ | ⟨_, hxu⟩
    · rcases h.known i a (by rw [touchAt_of hx']; exact hxa) hmem with hk | ⟨hg, hk⟩ | ⟨hg, hk⟩
      · exact .inl ⟨hk.1.app u,hk.2.app u⟩
      · exact .inr (.inl ⟨by rw[g?_old hi];exact hg,hk.mono hMM⟩)
      · exact .inr (.inr ⟨by rw[g?_old hi];exact hg,hk⟩)
    · exact .inr (.inl ⟨by rw[g?_of hx,hu x hxu],hm x hxu a hxa hmem⟩)
theorem qV{said:Bool}(h:¬ Race said t)(hn:∀ op∈u,op.act.touch? = none):¬ Race said (t++u):=by
 rintro⟨i,j,hij,⟨a,b,ha,hb,hc⟩,n1,n2⟩;obtain⟨x,hx,hxa⟩:=touch_of ha;obtain⟨y,hy,hyb⟩:=touch_of hb;rcases getElem?_append_cases hy with⟨hj,hy'⟩ | ⟨hj,hyu⟩
 · have hi : i < t.size := Nat.lt_trans hij hj; have hx' : t[i]? = some x := by rw [← getElem?_append_old (u := u) hi]; exact hx
   exact h ⟨i,j,hij,⟨a,b,by simp[Trace.act?,hx',hxa],by simp[Trace.act?,hy',hyb],hc⟩,fun e=>n1 (hb_app u e),fun e=>n2 (hb_app u e)⟩
 · rw[hn y hyu]at hyb;cases hyb
theorem Pair.dull(h:Pair m n B M S t)(hn:∀ op∈u,op.act.touch? = none):Pair m n B M S (t++u):=by
 refine⟨h.pos,fun said=>qV (h.clean said) hn,fun i a ha hmem=>?_,h.apart,h.highM,h.highS⟩;obtain⟨x,hx,hxa⟩:=touch_of ha;rcases getElem?_append_cases hx with⟨hi,hx'⟩ | ⟨_,hxu⟩
 · rcases h.known i a (by rw [touchAt_of hx']; exact hxa) hmem with hk | ⟨hg, hk⟩ | ⟨hg, hk⟩
   · exact .inl ⟨hk.1.app u,hk.2.app u⟩
   · exact .inr (.inl ⟨by rw[g?_old hi];exact hg,hk⟩)
   · exact .inr (.inr ⟨by rw[g?_old hi];exact hg,hk⟩)
 · rw[hn x hxu]at hxa;cases hxa
theorem Deaf_still(t:Trace)(g:Nat)(u:Trace)(hu:∀ op∈u,op.act≠.mark .disable∧op.act≠.mark .enable):Deaf (t++u) g=Deaf t g:=by
 obtain⟨l⟩:=u;rw[Deaf_append];generalize Deaf t g=k
 induction l with
 | nil=>rfl
 | cons y l ih =>
   have hy:=hu y (by simp);have e1:deafStep g k y=k:=by
    unfold deafStep
    split
    · rename_i e;exact absurd e hy.1
    · rename_i e;exact absurd e hy.2
    · rfl
   rw[List.foldl_cons,e1];exact ih (fun op hop=>hu op (by simp at hop ⊢;exact .inr hop))
theorem tQA{t:Trace}(h:Kn t)(hn:n≠0)(hd:Deaf t n=0)(fn fn':FuncId)(pos pos':String) :
 Pair 0 n B (fun _=>False) (fun _=>False) (t++#[{ g:=0,fn,pos,act:=.go n },{ g:=n,fn:=fn',pos:=pos',act:=.start }]):=by
 let y:MemOp:={ g:=0,fn,pos,act:=.go n }
 let z:MemOp:={ g:=n,fn:=fn',pos:=pos',act:=.start }
 have hy:(t++#[y,z])[t.size]? = some y:=by rw[Array.getElem?_append_right (Nat.le_refl _)];simp
 have hz:(t++#[y,z])[t.size+1]? = some z:=by rw[Array.getElem?_append_right (by omega)];simp
 have hearsY:(t++#[y,z]).heard t.size:=⟨0,by simp[Trace.g?,hy,y],by rw[deaf_old (Nat.le_refl _)];exact h.hears⟩;have hearsZ:(t++#[y,z]).heard (t.size+1):=by
  refine⟨n,by simp[Trace.g?,hz,z],?_⟩;rw[deaf_succ hy,deaf_old (Nat.le_refl _)];exact hd
 have hyz:HappensBefore (t++#[y,z]) t.size (t.size+1):=.single (.inr ⟨.spawn (child:=n) (by simp[Trace.act?,hy,y]) (by simp[Trace.act?,hz,z]) (by simp[Trace.g?,hz,z]),hearsY,hearsZ⟩);refine⟨hn,fun said=>qV (h.clean said) (by simp[MemAct.touch?]),fun i a ha hmem=>?_,by simp,by simp,by simp⟩;obtain⟨x,hx,hxa⟩:=touch_of ha;rcases getElem?_append_cases hx with⟨hi,hx'⟩ | ⟨_,hxu⟩
 · have hk:=h.known i a (by rw[touchAt_of hx'];exact hxa) hmem;refine .inl ⟨hk.app _,?_⟩;exact⟨t.size+1,z,hz,rfl,.inr ((hk.hb_new (Nat.le_refl _) hy rfl).trans hyz)⟩
 · have : x.act.touch? = none := by
     simp at hxu;rcases hxu with rfl | rfl<;>rfl
   rw[this]at hxa;cases hxa
structure Shut (n c p:Nat) (t:Trace):Prop where
 act:t.act? p=some (.close c)
 g:t.g? p=some n
 heard:t.heard p
 last:∀ i x,touchAt t i=some x→t.g? i=some n→i < p
theorem Shut.app{c p:Nat}(h:Shut n c p t)(hu:∀ op∈u,op.g=n→op.act.touch? = none):Shut n c p (t++u):=by
 have hp:p < t.size:=lt_of_act? h.act;refine⟨by rw[act?_old hp];exact h.act,by rw[g?_old hp];exact h.g,(heard_old hp).2 h.heard,fun i x hx hg=>?_⟩;obtain⟨y,hy,hyx⟩:=touch_of hx;rcases getElem?_append_cases hy with⟨hi,hy'⟩ | ⟨_,hyu⟩
 · exact h.last i x (by rw[touchAt_of hy'];exact hyx) (by rw[← g?_old (u:=u) hi];exact hg)
 · rw[g?_of hy]at hg;rw[hu y hyu (Option.some.inj hg)]at hyx;cases hyx
theorem b4A{c p:Nat}{fn:FuncId}{pos:String}(h:Pair 0 n B M S t)(hh:Deaf t 0=0)(hs:Shut n c p t):Kn (t++#[{ g:=0,fn,pos,act:=.recvClosed c }]):=by
 let y:MemOp:={ g:=0,fn,pos,act:=.recvClosed c }
 have hp:p < t.size:=lt_of_act? hs.act;have hy:(t++#[y])[t.size]? = some y:=by rw[Array.getElem?_append_right (Nat.le_refl _)];simp
 have d0:Deaf (t++#[y]) 0=Deaf t 0:=Deaf_still t 0 _ (by simp[y]);have hearsY:(t++#[y]).heard t.size:=⟨0,by simp[Trace.g?,hy,y],by rw[deaf_old (Nat.le_refl _)];exact hh⟩;have hpy:HappensBefore (t++#[y]) p t.size:=.single (.inr ⟨.closed (c:=c) (by rw[act?_old hp];exact hs.act) (by simp[Trace.act?,hy,y]),(heard_old hp).2 hs.heard,hearsY⟩);refine⟨fun said=>qV (h.clean said) (by simp[MemAct.touch?]),fun i a ha hmem=>?_,d0.trans hh⟩;obtain⟨x,hx,hxa⟩:=touch_of ha;rcases getElem?_append_cases hx with⟨hi,hx'⟩ | ⟨_,hxu⟩
 · have hta : touchAt t i = some a := by rw [touchAt_of hx']; exact hxa
   rcases h.known i a hta hmem with hk | ⟨hg,hk⟩ | ⟨hg,hk⟩
   · exact hk.1.app _
   · exact(bGA hg).app _
   · have hip:=hs.last i a hta hg;have hpo:HappensBefore t i p:=.single (.inl ⟨hip,n,hg,hs.g⟩);exact⟨t.size,y,hy,rfl,.inr ((hb_app #[y] hpo).trans hpy)⟩
 · have : x.act.touch? = none := by
     simp at hxu;subst hxu;rfl
   rw[this]at hxa;cases hxa
structure Split (d:Deal) (T0 T1:TypeId→Prop) (h:Array Obj) (M S:Nat→Prop) (o0 o1:Option Nat):Prop where
 bsize:d.B≤h.size
 own0:∀ b cs ty fz,d.B≤b→h[b]? = some (.cells cs ty fz)→T0 ty→M b
 own1:∀ b cs ty fz,d.B≤b→h[b]? = some (.cells cs ty fz)→T1 ty→S b
 lowM:∀ b,M b→b < h.size
 lowS:∀ b,S b→b < h.size
 box0:∀ b,o0=some b→M b
 box1:∀ b,o1=some b→S b
variable {d : Deal} {T0 T1 : TypeId → Prop} {tb : TypeId} {w w' : World} {M S : Nat → Prop} {o0 o1 : Option Nat}
theorem Split.symm{h:Array Obj}(s:Split d T0 T1 h M S o0 o1):Split d T1 T0 h S M o1 o0:=⟨s.bsize,s.own1,s.own0,s.lowS,s.lowM,s.box1,s.box0⟩
def More(M:Nat→Prop)(w w':World)(b:Nat):Prop:=M b∨(w.heap.size≤b∧b < w'.heap.size)
theorem Split.mine(s:Split d T0 T1 w.heap M S o0 o1){b:Nat}(h:Own d T0 o0 w b):M b:=by
 rcases h with⟨hb,cs,ty,fz,hc,ht⟩ | h
 · exact s.own0 b cs ty fz hb hc ht
 · exact s.box0 b h
theorem Split.felt(s:Split d T0 T1 w.heap M S o0 o1)(hap:∀ b,M b→¬ S b)(hM:∀ b,M b→d.B≤b)(h:Turn d T0 o0 w w'):Rely d T1 o1 w w':=by
 refine⟨h.tape,h.os,h.output,h.size,fun b hb _=>?_,fun b hb=>?_⟩
 · refine h.rest b (Nat.lt_of_lt_of_le hb s.bsize) fun ho => ?_
   have:=hM b (s.mine ho);omega
 · exact h.rest b (s.lowS b (s.symm.mine hb)) fun ho=>hap b (s.mine ho) (s.symm.mine hb)
theorem Boxes.old(h:Boxes tb w w'){b:Nat}(hb:b < w.heap.size):w'.heap[b]? = w.heap[b]? := by
 obtain⟨cs,fz,e⟩:=h.heap;rw[e,Array.getElem?_push_lt hb,Array.getElem?_eq_getElem hb]
theorem Boxes.size(h:Boxes tb w w'):w'.heap.size=w.heap.size+1:=by
 obtain⟨cs,fz,e⟩:=h.heap;rw[e,Array.size_push]
theorem Boxes.new(h:Boxes tb w w'):∃ cs fz,w'.heap[w.heap.size]? = some (.cells cs tb fz):=by
 obtain⟨cs,fz,e⟩:=h.heap;exact⟨cs,fz,by rw[e];simp⟩
theorem Split.feltBox(s:Split d T0 T1 w.heap M S o0 o1)(h:Boxes tb w w'):Rely d T1 o1 w w':=by
 refine⟨h.tape,h.os,h.output,by rw[h.size];omega,fun b hb _=>h.old (Nat.lt_of_lt_of_le hb s.bsize),fun b hb=>h.old (s.lowS b (s.symm.mine hb))⟩
theorem mDA(s:Split d T0 T1 w.heap M S o0 o1)(hap:∀ b,M b→¬ S b):∀ b,More M w w' b→¬ S b:=by
 rintro b (h | h) hS
 · exact hap b h hS
 · have:=s.lowS b hS;omega
theorem lJA(s:Split d T0 T1 w.heap M S o0 o1)(hM:∀ b,M b→d.B≤b):∀ b,More M w w' b→d.B≤b:=by
 rintro b (h | h)
 · exact hM b h
 · exact Nat.le_trans s.bsize h.1
theorem Split.turn(s:Split d T0 T1 w.heap M S o0 o1)(hdis:∀ ty,T0 ty→¬ T1 ty)(h:Turn d T0 o0 w w'):Split d T0 T1 w'.heap (More M w w') S o0 o1:=by
 have back:∀ b cs ty fz,b < w.heap.size→w'.heap[b]? = some (.cells cs ty fz)→(∃ cs' fz',w.heap[b]? = some (.cells cs' ty fz'))∨(o0=some b∧∀ cs ty fz,w.heap[b]?≠some (.cells cs ty fz)):=by
  intro b cs ty fz hb hc;by_cases ho:Own d T0 o0 w b
  · by_cases hex : ∃ cs' ty' fz', w.heap[b]? = some (.cells cs' ty' fz')
    · obtain ⟨cs', ty', fz', e⟩ := hex; obtain ⟨cs2, fz2, e2⟩ := h.typ b hb ho cs' ty' fz' e; rw [e2] at hc
      injection hc with hc;injection hc with _ hty _
      subst hty;exact .inl ⟨cs',fz',e⟩
    · rcases ho with ⟨_, cs', ty', fz', e, _⟩ | ho
      · exact absurd ⟨cs',ty',fz',e⟩ hex
      · exact .inr ⟨ho,fun cs ty fz e=>hex ⟨cs,ty,fz,e⟩⟩
  · exact .inl ⟨cs,fz,by rw[← h.rest b hb ho];exact hc⟩
 refine⟨Nat.le_trans s.bsize h.size,fun b cs ty fz hb hc ht=>?_,fun b cs ty fz hb hc ht=>?_,fun b hb=>?_,fun b hb=>Nat.lt_of_lt_of_le (s.lowS b hb) h.size,fun b hb=>.inl (s.box0 b hb),s.box1⟩
 · rcases Nat.lt_or_ge b w.heap.size with hlt | hge
   · rcases back b cs ty fz hlt hc with ⟨cs', fz', e⟩ | ⟨e, _⟩
     · exact .inl (s.own0 b cs' ty fz' hb e ht)
     · exact .inl (s.box0 b e)
   · exact .inr ⟨hge,(Array.getElem?_eq_some_iff.1 hc).1⟩
 · rcases Nat.lt_or_ge b w.heap.size with hlt | hge
   · by_cases ho : Own d T0 o0 w b
     · rcases ho with ⟨_, cs', ty', fz', e, ht'⟩ | ho
       · obtain ⟨cs2, fz2, e2⟩ := h.typ b hlt (.inl ⟨hb, cs', ty', fz', e, ht'⟩) cs' ty' fz' e; rw [e2] at hc
         injection hc with hc;injection hc with _ hty _
         subst hty;exact absurd ht (hdis _ ht')
       · rcases back b cs ty fz hlt hc with ⟨cs', fz', e⟩ | ⟨_, e⟩
         · exact s.own1 b cs' ty fz' hb e ht
         · exact absurd hc (h.boxed b ho e cs ty fz)
     · exact s.own1 b cs ty fz hb (by rw[← h.rest b hlt ho];exact hc) ht
   · obtain ⟨cs', ty', fz', e, ht'⟩ := h.new b hge (Array.getElem?_eq_some_iff.1 hc).1; rw [e] at hc
     injection hc with hc;injection hc with _ hty _
     subst hty;exact absurd ht (hdis _ ht')
 · rcases hb with hb | hb
   · exact Nat.lt_of_lt_of_le (s.lowM b hb) h.size
   · exact hb.2
theorem Split.box(s:Split d T0 T1 w.heap M S o0 o1)(h0:¬ T0 tb)(h1:¬ T1 tb)(h:Boxes tb w w'):Split d T0 T1 w'.heap (More M w w') S (some w.heap.size) o1:=by
 have hs:=h.size;obtain⟨csn,fzn,hn⟩:=h.new;have key:∀ b cs ty fz,w'.heap[b]? = some (.cells cs ty fz)→b < w.heap.size∨(b=w.heap.size∧ty=tb):=by
  intro b cs ty fz hc;have hlt:=(Array.getElem?_eq_some_iff.1 hc).1;rcases Nat.lt_or_ge b w.heap.size with hb | hb
  · exact .inl hb
  · have : b = w.heap.size := by omega
    subst this;rw[hn]at hc
    injection hc with hc;injection hc with _ hty _
    exact .inr ⟨rfl,hty.symm⟩
 refine⟨by have:=s.bsize;omega,fun b cs ty fz hb hc ht=>?_,fun b cs ty fz hb hc ht=>?_,fun b hb=>?_,fun b hb=>by have:=s.lowS b hb;omega,fun b hb=>?_,s.box1⟩
 · rcases key b cs ty fz hc with hlt | ⟨_, rfl⟩
   · exact .inl (s.own0 b cs ty fz hb (by rw[← h.old hlt];exact hc) ht)
   · exact absurd ht h0
 · rcases key b cs ty fz hc with hlt | ⟨_, rfl⟩
   · exact s.own1 b cs ty fz hb (by rw[← h.old hlt];exact hc) ht
   · exact absurd ht h1
 · rcases hb with hb | hb
   · have:=s.lowM b hb;omega
   · exact hb.2
 · obtain rfl:=Option.some.inj hb;exact .inr ⟨Nat.le_refl _,by omega⟩
theorem Split.same{h h':Array Obj}(s:Split d T0 T1 h M S o0 o1)(hs:h'.size=h.size)(hc:∀ b,d.B≤b→h'[b]? = h[b]?):Split d T0 T1 h' M S o0 o1 :=
 ⟨by rw [hs]; exact s.bsize, fun b cs ty fz hb e => s.own0 b cs ty fz hb (by rw [← hc b hb]; exact e), fun b cs ty fz hb e => s.own1 b cs ty fz hb (by rw [← hc b hb]; exact e),
   fun b hb=>by rw[hs];exact s.lowM b hb,fun b hb=>by rw[hs];exact s.lowS b hb,s.box0,s.box1⟩
theorem Split.chan(s:Split d T0 T1 w.heap M S o0 o1)(hB:d.c < d.B){cap st r:Nat}{buf:Array Value}{cl tm:Bool}:Split d T0 T1 (w.setChan d.c cap buf cl st r tm).heap M S o0 o1 :=
 s.same (by simp[World.setChan]) fun b hb=>by
  simp only[World.setChan];rw[Array.getElem?_setIfInBounds_ne (by omega)]
theorem sDA(s:Split d T0 T1 w'.heap M S o0 o1){e:Event}(h:uX d T0 o0 w' e)(x:Touch)(hx:(MemAct.ofEvent e).touch? = some x)(hm:x.loc.isMemory=true):Mine d.B M x:=by
 obtain⟨a,ha,hb⟩:=h.1 x hx hm;exact .inl ⟨a,ha,hb.imp (fun o=>s.mine o) id⟩
open Go.ConcN (sumTo upd sumTo_upd upd_ne upd_same)
inductive MAct where
 | box
 | recv (v:Value)
inductive SAct where
 | box
 | send (v:Value)
def recvs : List MAct → List Value
  | []=>[]
  | .box::l=>recvs l
  | .recv v::l=>v::recvs l
def sends : List SAct → List Value
  | []=>[]
  | .box::l=>sends l
  | .send v::l=>v::sends l
structure Shared where
 P:Program
 d:Deal
 q:Nat
 T0:TypeId→Prop
 T1:TypeId→Prop
 tb:TypeId
 z:Value
 zc:Value
 zq:Value
 Fin:Goroutine→World→Prop
structure Shared.Fit (X:Shared):Prop where
 dis:∀ ty,X.T0 ty→¬ X.T1 ty
 tb0:¬ X.T0 X.tb
 tb1:¬ X.T1 X.tb
 cB:X.d.c < X.d.B
 qB:X.q < X.d.B
 cq:X.d.c≠X.q
variable (X : Shared)
def Shared.rcv:Array CommCase:=#[rcase X.d.c X.z]
def Shared.sel(v:Value):Array CommCase:=#[scase X.d.c v X.zc,rcase X.q X.zq]
def t9A(main:Bool)(T:TypeId→Prop)(K:Option Nat→Goroutine→World→Prop)(g:Goroutine)(w:World):Prop :=
 g.status = .running∧∃ g' w' es,stepG X.P main g w = .go g' w' es∧Boxes X.tb w w'∧(∀ e∈es,uX X.d T (some w.heap.size) w' e)∧K (some w.heap.size) g' w'
def AtRecv(v:Value)(K:Goroutine→World→Prop)(g:Goroutine)(w:World):Prop :=
 g.status = .running∧stepG X.P true g w = .comm g X.rcv true (.recv true) w #[]∧K (g.finishComm X.P X.rcv (.recv true) 0 v true) w
def AtEnd(g:Goroutine)(w:World):Prop :=
 g.status = .running∧stepG X.P true g w = .comm g X.rcv true (.recv true) w #[]∧X.Fin (g.finishComm X.P X.rcv (.recv true) 0 X.z false) w
def AtSend(v:Value)(K:Goroutine→World→Prop)(g:Goroutine)(w:World):Prop :=
 g.status = .running∧stepG X.P false g w = .comm g (X.sel v) true .select w #[]∧K (g.finishComm X.P (X.sel v) .select 0 undef false) w
def AtClose(g:Goroutine)(w:World):Prop :=
 g.status = .running∧mayWake X.P g=true∧∀ s r tm,w.heap[X.d.c]? = some (.chan 0 #[] false s r tm) →
  ∃ g' k,stepG X.P false g w = .go g' (w.setChan X.d.c 0 #[] true s r tm) #[⟨.obj X.d.c,false,true⟩,⟨.obj X.d.c,true,true⟩]∧QuitsD X.P k 0 g'
def StopM : List MAct → Option Nat → Goroutine → World → Prop
  | [],_=>AtEnd X
  | .recv v::l,o=>AtRecv X v fun g w=>∃ m,Goes X.P true (Rely X.d X.T0 o) (Does X.d X.T0 o) (StopM l o) m g w
  | .box::l,_=>t9A X true X.T0 fun o' g w=>∃ m,Goes X.P true (Rely X.d X.T0 o') (Does X.d X.T0 o') (StopM l o') m g w
def StopS : List SAct → Option Nat → Goroutine → World → Prop
  | [],_=>AtClose X
  | .send v::l,o=>AtSend X v fun g w=>∃ m,Goes X.P false (Rely X.d X.T1 o) (Does X.d X.T1 o) (StopS l o) m g w
  | .box::l,_=>t9A X false X.T1 fun o' g w=>∃ m,Goes X.P false (Rely X.d X.T1 o') (Does X.d X.T1 o') (StopS l o') m g w
abbrev GoM(l:List MAct)(o:Option Nat)(m:Nat):Goroutine→World→Prop:=Goes X.P true (Rely X.d X.T0 o) (Does X.d X.T0 o) (StopM X l o) m
abbrev GoS(l:List SAct)(o:Option Nat)(m:Nat):Goroutine→World→Prop:=Goes X.P false (Rely X.d X.T1 o) (Does X.d X.T1 o) (StopS X l o) m
inductive IsM (l : List MAct) (o : Option Nat) (g : Goroutine) (w : World) : Nat → Prop
  | walks {m:Nat} (h:GoM X l o m g w):IsM l o g w (m+1)
  | waits {g₀:Goroutine} (e:g=parked g₀ X.rcv (.recv true)) (h:∀ w₁,Rely X.d X.T0 o w w₁→StopM X l o g₀ w₁) (hl:∀ l',l≠.box::l'):IsM l o g w 0
inductive IsS (l : List SAct) (o : Option Nat) (g : Goroutine) (w : World) : Nat → Prop
  | walks {m:Nat} (h:GoS X l o m g w):IsS l o g w (m+1)
  | waits {g₀:Goroutine} {v:Value} {l':List SAct} (hl:l = .send v::l') (e:g=parked g₀ (X.sel v) .select) (h:∀ w₁,Rely X.d X.T1 o w w₁→StopS X l o g₀ w₁):IsS l o g w 0
def Gets(P:Program)(Stop:Goroutine→World→Prop)(gs:Array Goroutine)(w:World)(sl:Option (Nat×Nat))(t:Trace):Prop :=
 ∃(N:Nat) (gs':Array Goroutine) (g':Goroutine) (w':World) (sl':Option (Nat×Nat)) (t':Trace) (q':Nat→Nat),
  runNT P N (crowd gs w sl) t=(.next (crowd gs' w' sl'),t')∧gs'[0]? = some g'∧Stop g' w'∧Leavers P t' gs' q'∧Kn t'
theorem RunsTo.gets{P:Program}{Stop:Goroutine→World→Prop}{gs:Array Goroutine}{w:World}{sl:Option (Nat×Nat)}{t:Trace}(h:RunsTo P Stop gs w sl t):Gets P Stop gs w sl t:=by
 obtain⟨N,gs',g',w',sl',t',q',h1,_,h2,h3,h4,h5⟩:=h;exact⟨N,gs',g',w',sl',t',q',h1,h2,h3,h4,h5⟩
theorem Gets.step {P : Program} {Stop : Goroutine → World → Prop} {gs gs1 : Array Goroutine} {w w1 : World} {sl sl1 : Option (Nat × Nat)} {t u : Trace}
    (h:stepT P (crowd gs w sl)=(.next (crowd gs1 w1 sl1),u)) (hg:Gets P Stop gs1 w1 sl1 (t++u)):Gets P Stop gs w sl t:=by
  obtain⟨N,gs',g',w',sl',t',q',h1,h2,h3,h4,h5⟩:=hg;exact⟨N+1,gs',g',w',sl',t',q',by simp only[runNT,h];exact h1,h2,h3,h4,h5⟩
theorem lGA {P : Program} : ∀ (N K : Nat) (m m' : Machine) (t t' : Trace), runNT P N m t = (.next m', t') → runNT P (N + K) m t = runNT P K m' t'
  | 0, K, m, m', t, t', h => by
    simp only[runNT,Prod.mk.injEq,Stepped.next.injEq]at h;rw[Nat.zero_add,h.1,h.2]
  | N + 1, K, m, m', t, t', h => by
    rw[show N+1+K=(N+K)+1 by omega];simp only[runNT]at h ⊢;rcases e:stepT P m with⟨r,ops⟩
    rw[e]at h
    cases r with
    | next m1=>exact lGA N K _ _ _ _ h
    | _=>simp at h
theorem Gets.trans {P : Program} {S1 S2 : Goroutine → World → Prop} {gs : Array Goroutine} {w : World} {sl : Option (Nat × Nat)} {t : Trace} (h : Gets P S1 gs w sl t)
    (h2:∀ gs' g' w' sl' t' q',gs'[0]? = some g'→S1 g' w'→Leavers P t' gs' q'→Kn t'→Gets P S2 gs' w' sl' t'):Gets P S2 gs w sl t:=by
  obtain⟨N,gs',g',w',sl',t',q',e,h0,hS,hL,hK⟩:=h;obtain⟨N2,gs2,g2,w2,sl2,t2,q2,e2,h02,hS2,hL2,hK2⟩:=h2 gs' g' w' sl' t' q' h0 hS hL hK;exact⟨N+N2,gs2,g2,w2,sl2,t2,q2,by rw[lGA N N2 _ _ _ _ e];exact e2,h02,hS2,hL2,hK2⟩
open Go.ConcN (sumTo upd sumTo_upd upd_ne upd_same)
variable {X : Shared}
structure Inv (X:Shared) (n top:Nat) (cl:Bool) (gs:Array Goroutine) (w:World) (t:Trace) (qs:Nat→Nat) (M S:Nat→Prop) (o0 o1:Option Nat):Prop where
 pos:0 < n
 size:gs.size=n+1
 topl:top≤n+1
 old:∀ j x,0 < j→j < top→gs[j]? = some x→QuitsD X.P (qs j) (Deaf t j) x
 above:∀ j,n < j→Deaf t j=0
 pair:Pair 0 n X.d.B M S t
 hears0:Deaf t 0=0
 hearsN:cl=false→Deaf t n=0
 split:Split X.d X.T0 X.T1 w.heap M S o0 o1
 quit:∃ s r tm,w.heap[X.q]? = some (.chan 0 #[] false s r tm)
 chan:∃ s r tm,w.heap[X.d.c]? = some (.chan 0 #[] cl s r tm)
variable {n top : Nat} {cl : Bool} {gs : Array Goroutine} {w w' : World} {t u : Trace} {qs : Nat → Nat} {M S : Nat → Prop} {o0 o1 o0' o1' : Option Nat}
theorem Inv.at(h:Inv X n top cl gs w t qs M S o0 o1)(e:Nat):Inv X n top cl gs (w.at e) t qs M S o0 o1 :=
 ⟨h.pos,h.size,h.topl,h.old,h.above,h.pair,h.hears0,h.hearsN,h.split,h.quit,h.chan⟩
theorem lTA{f:Goroutine→Goroutine}{i:Nat}{y:Goroutine}(h:∀ j x,j≠i→gs[j]? = some x→f x=x):(gs.map f).setIfInBounds i y=gs.setIfInBounds i y:=by
 apply Array.ext_getElem?;intro j;by_cases hj:i=j
 · subst hj; by_cases hlt : i < gs.size
   · rw[Array.getElem?_setIfInBounds_self_of_lt (by simpa using hlt),Array.getElem?_setIfInBounds_self_of_lt hlt]
   · rw[Array.getElem?_eq_none (by simpa using hlt),Array.getElem?_eq_none (by simpa using hlt)]
 · rw [Array.getElem?_setIfInBounds_ne hj, Array.getElem?_setIfInBounds_ne hj, Array.getElem?_map]
   cases e:gs[j]? with
   | none=>rfl
   | some x=>simp[h j x (fun e=>hj e.symm) e]
theorem Split.low(s:Split X.d X.T0 X.T1 w.heap M S o0 o1)(hM:∀ b,M b→X.d.B≤b)(h:Turn X.d X.T0 o0 w w'){b:Nat}(hb:b < X.d.B):w'.heap[b]? = w.heap[b]? := by
 refine h.rest b (Nat.lt_of_lt_of_le hb s.bsize) fun ho=>?_
 have:=hM b (s.mine ho);omega
theorem Inv.step0 (F : X.Fit) (h : Inv X n top cl gs w t qs M S o0 o1) (hlow : ∀ b, b < X.d.B → w'.heap[b]? = w.heap[b]?) (hs : Split X.d X.T0 X.T1 w'.heap (More M w w') S o0' o1)
    {es:Array Event} (hev:∀ e∈es,uX X.d X.T0 o0' w' e) (fn:FuncId) (pos:String) (g':Goroutine) :
    Inv X n top cl (gs.setIfInBounds 0 g') w' (t++MemOp.ofEvents 0 fn pos es) qs (More M w w') S o0' o1:=by
  have hu:∀ op∈MemOp.ofEvents 0 fn pos es,op.g=0:=fun op hop=>by obtain⟨e,_,rfl⟩:=Conc.mem_ofEvents hop;rfl
  have hd0:Deaf (t++MemOp.ofEvents 0 fn pos es) 0=0:=by
   rw[Deaf_own,deafBehind_still (fun e he=>(hev e he).2)];exact h.hears0
  refine⟨h.pos,by simpa using h.size,h.topl,fun j x hj hjt hx=>?_,fun j hj=>?_,?_,hd0,fun hc=>(Deaf_other t (Nat.ne_of_lt h.pos) _ hu).trans (h.hearsN hc),hs,?_,?_⟩
  · rw[Array.getElem?_setIfInBounds_ne (by omega)]at hx;rw[Deaf_other t (by omega) _ hu];exact h.old j x hj hjt hx
  · rw[Deaf_other t (g':=0) (by omega) _ hu];exact h.above j hj
  · refine h.pair.app hu (fun op hop x hx hm=>?_) (fun b hb=>.inl hb) (mDA h.split h.pair.apart) (lJA h.split h.pair.highM);obtain⟨e,he,rfl⟩:=Conc.mem_ofEvents hop;exact sDA hs (hev e he) x hx hm
  · rw[hlow _ F.qB];exact h.quit
  · rw[hlow _ F.cB];exact h.chan
theorem Inv.stepN (F : X.Fit) (h : Inv X n n cl gs w t qs M S o0 o1) (hlow : ∀ b, b < X.d.B → w'.heap[b]? = w.heap[b]?) (hs : Split X.d X.T1 X.T0 w'.heap (More S w w') M o1' o0)
    {es:Array Event} (hev:∀ e∈es,uX X.d X.T1 o1' w' e) (fn:FuncId) (pos:String) (g':Goroutine) :
    Inv X n n cl (gs.setIfInBounds n g') w' (t++MemOp.ofEvents n fn pos es) qs M (More S w w') o0 o1':=by
  have hu:∀ op∈MemOp.ofEvents n fn pos es,op.g=n:=fun op hop=>by obtain⟨e,_,rfl⟩:=Conc.mem_ofEvents hop;rfl
  have hd0:cl=false→Deaf (t++MemOp.ofEvents n fn pos es) n=0:=fun hc=>by
   rw[Deaf_own,deafBehind_still (fun e he=>(hev e he).2)];exact h.hearsN hc
  have hp:=h.pos;refine⟨h.pos,by simpa using h.size,h.topl,fun j x hj hjt hx=>?_,fun j hj=>?_,?_,(Deaf_other t (by omega) _ hu).trans h.hears0,hd0,hs.symm,?_,?_⟩
  · rw[Array.getElem?_setIfInBounds_ne (by omega)]at hx;rw[Deaf_other t (by omega) _ hu];exact h.old j x hj hjt hx
  · rw[Deaf_other t (g':=n) (by omega) _ hu];exact h.above j hj
  · refine(h.pair.symm.app hu (fun op hop x hx hm=>?_) (fun b hb=>.inl hb) (mDA h.split.symm h.pair.symm.apart) (lJA h.split.symm h.pair.symm.highM)).symm;obtain⟨e,he,rfl⟩:=Conc.mem_ofEvents hop;exact sDA hs (hev e he) x hx hm
  · rw[hlow _ F.qB];exact h.quit
  · rw[hlow _ F.cB];exact h.chan
theorem Inv.slip (h : Inv X n top cl gs w t qs M S o0 o1) {i k : Nat} {g' : Goroutine} {es : Array Event} (hi0 : 0 < i) (hit : i < top) (hm : ∀ e ∈ es, Event.mute e = true)
    (hnt:i=n→cl=true)
    (hq:QuitsD X.P k (deafBehind (Deaf t i) es) g') (fn:FuncId) (pos:String) :
    Inv X n top cl (gs.setIfInBounds i g') w (t++MemOp.ofEvents i fn pos es) (upd qs i k) M S o0 o1:=by
  have hu:∀ op∈MemOp.ofEvents i fn pos es,op.g=i:=fun op hop=>by obtain⟨e,_,rfl⟩:=Conc.mem_ofEvents hop;rfl
  have hn:∀ op∈MemOp.ofEvents i fn pos es,op.act.touch? = none:=fun op hop=>by obtain⟨e,he,rfl⟩:=Conc.mem_ofEvents hop;exact touch_mute (hm e he)
  have hil:i < gs.size:=by have:=h.size;have:=h.topl;omega
  refine⟨h.pos,by simpa using h.size,h.topl,fun j y hj hjt hy=>?_,fun j hj=>?_,h.pair.dull hn,(Deaf_other t (by omega) _ hu).trans h.hears0,fun hc=>?_,h.split,h.quit,h.chan⟩
  · by_cases hji : i = j
    · subst hji;rw[Array.getElem?_setIfInBounds_self_of_lt hil]at hy;obtain rfl:=Option.some.inj hy;rw[upd_same,Deaf_own];exact hq
    · rw[Array.getElem?_setIfInBounds_ne hji]at hy;rw[upd_ne qs k (Ne.symm hji),Deaf_other t hji _ hu];exact h.old j y hj hjt hy
  · have:=h.topl;rw[Deaf_other t (g':=i) (by omega) _ hu];exact h.above j hj
  · by_cases hin : i = n
    · rw[hnt hin]at hc;cases hc
    · exact(Deaf_other t hin _ hu).trans (h.hearsN hc)
theorem qH{P:Program}{i:Nat}{g g':Goroutine}(hst:∀ j x,j≠i→gs[j]? = some x→x.status = .running∨x.status = .finished∨x.again w'=x) :
 (gs.map (woken P g g' w')).setIfInBounds i g'=gs.setIfInBounds i g':=by
 refine lTA fun j x hj hx=>?_
 unfold woken
 split
 · rcases hst j x hj hx with h | h | h
   · exact again_running _ (.inl h)
   · exact again_running _ (.inr h)
   · exact h
 · rfl
end Go.Lx
