/- Part 0 of what the proof rests on. -/
import Derived.Below
import Derived.OwnWalk
import Derived.Maps.AppendAt
import Derived.Deep.Draws
import Derived.RangeFuncNested
import Derived.RangeFuncLeaves
import Derived.OwnWalkIn
import Derived.MapKept
set_option linter.unusedSimpArgs false
set_option linter.unusedVariables false
namespace Go.Lx
open Go.RowKit
theorem qD(w:World)(o:Obj):(w.alloc o).heap=w.heap.push o:=rfl
theorem heap_set(w:World)(a:Addr)(v:Value)(b:Nat)(hb:b≠a.block):(w.setCell a v).heap[b]? = w.heap[b]? := by
 simp only[World.setCell];rw[Array.getElem?_modify];simp[Ne.symm hb]
theorem jM(w:World){b i:Nat}{cs:Array Value}{ty:TypeId}{fz:Nat×Nat}(h:w.heap[b]? = some (.cells cs ty fz))(v:Value) :
 (w.setCell ⟨b,i,none⟩ v).heap[b]? = some (.cells (cs.setIfInBounds i v) ty fz):=by
 simp only[World.setCell];rw[Array.getElem?_modify];simp[h]
theorem pJ(w:World)(a:Addr)(v:Value):(w.setCell a v).heap.size=w.heap.size:=by simp[World.setCell]
theorem n0A(b j:Nat):(⟨b,0,none⟩:Addr).add j=⟨b,j,none⟩:=by unfold Addr.add;split<;>simp_all
section
variable {w w' : World} {base : Nat} {e : TypeId} {size n : Nat} {v : Value} {xs : List Value}
theorem fD(h:w.ownsRow base e size v n xs)(hn:0 < n):∃ g cap,v = .slice (some ⟨g,0,none⟩) n cap∧v.ownBlock=some g∧base≤g∧g < w.heap.size∧n≤cap∧cap≤maxLen:=by
 rcases h.2 with⟨_,h0⟩ | ⟨g,cap,cur,rfl,hb,hg,h1,h2,_⟩
 · omega
 · exact⟨g,cap,rfl,rfl,hb,(Array.getElem?_eq_some_iff.1 hg).1,h1,h2⟩
theorem kD(h:w.ownsRow base e size v n xs){g:Nat}(hg:v.ownBlock=some g){j:Nat}{u:Value}(hu:xs[j]? = some u):w.cell? ⟨g,j,none⟩=some u:=by
 have:=h.cells hg j u hu
 rwa [n0A]at this
theorem yDA(h:w.ownsRow base e size v n xs){g:Nat}(hg:v.ownBlock=some g)(j:Nat):w.frozen? ⟨g,j,none⟩=false:=by
 rcases h.2 with⟨rfl,_⟩ | ⟨g',cap,cur,rfl,_,hgg,_⟩
 · cases hg
 · cases hg;simp[World.frozen?,hgg]
theorem vIA(h:w.ownsRow base e size v n xs){g:Nat}(hg:v.ownBlock=some g){j:Nat}(hj:j < xs.length)(u:Value):(w.setCell ⟨g,j,none⟩ u).ownsRow base e size v n (xs.set j u):=by
 rcases h.2 with⟨rfl,_⟩ | ⟨g',cap,cur,rfl,hb,hgg,h1,h2,h3,h4⟩
 · cases hg
 · cases hg;refine⟨by rw[List.length_set];exact h.1,.inr ⟨_,cap,cur.setIfInBounds j u,rfl,hb,jM w hgg u,h1,h2,by rw[Array.size_setIfInBounds];exact h3,?_⟩⟩;rw[Array.toList_setIfInBounds,List.take_set,h4]
theorem l8(h:w.ownsRow base e size v n xs){b:Nat}(hg:v.ownBlock≠some b)(j:Nat)(u:Value):(w.setCell ⟨b,j,none⟩ u).ownsRow base e size v n xs:=by
 refine⟨h.1,?_⟩;rcases h.2 with hn | ⟨g,cap,cur,rfl,hb,hgg,rest⟩
 · exact .inl hn
 · refine .inr ⟨g,cap,cur,rfl,hb,?_,rest⟩;rw[heap_set w _ u g (fun e=>hg (by simp[Value.ownBlock,e]))];exact hgg
theorem gP{g cap:Nat}(h:w.ownsRow base e size (.slice (some ⟨g,0,none⟩) n cap) n xs){m:Nat}(hm:m≤n):w.ownsRow base e size (.slice (some ⟨g,0,none⟩) m cap) m (xs.take (m * size)):=by
 have hle:m * size≤n * size:=Nat.mul_le_mul_right _ hm;rcases h.2 with⟨h0,_⟩ | ⟨g',cap',cur,hv,hb,hgg,h1,h2,h3,h4⟩
 · cases h0
 · cases hv;refine⟨by rw[List.length_take,h.1];omega,.inr ⟨g,cap,cur,rfl,hb,hgg,by omega,h2,h3,?_⟩⟩;rw[← h4,List.take_take,Nat.min_eq_left hle]
theorem bG{row:Option Nat}(h:w.ownsRow base e size v n xs)(hg:w.grownBy w' row)(hne:v.ownBlock=none∨v.ownBlock≠row):w'.ownsRow base e size v n xs:=h.kept hg hne
end
def rA : Code → Code
  | .seq a _=>a
  | c=>c
def dA : Code → Code
  | .seq _ b=>b
  | c=>c
def bC : Code → Code
  | .block _ c=>c
  | .loop c=>c
  | .scope c=>c
  | c=>c
theorem nA{df:List Deferred}{A:Array Value}{F:(Nat→Value)→Array Value}{Pr:Prop}(h:A=F fun n=>A.getD n undef)(hp:Pr):∃ J':Nat→Value,(⟨A,df⟩:Act)=⟨F J',df⟩∧Pr:=⟨_,by rw[← h],hp⟩
structure Under (W w:World):Prop where
 os:w.os=W.os
 output:w.output=W.output
 size:W.heap.size≤w.heap.size
 low:∀ b,b < W.heap.size→w.heap[b]? = W.heap[b]?
section
variable {W w w' : World}
theorem Under.refl(a:World):Under a a:=⟨rfl,rfl,Nat.le_refl _,fun _ _=>rfl⟩
theorem Under.trans{a b c:World}(h:Under a b)(k:Under b c):Under a c:=⟨k.os.trans h.os,k.output.trans h.output,Nat.le_trans h.size k.size,fun i hi=>(k.low i (Nat.lt_of_lt_of_le hi h.size)).trans (h.low i hi)⟩
theorem aA(h:Under W w)(x:Obj):Under W (w.alloc x) :=
 ⟨h.os, h.output, by have := h.size; rw [qD, Array.size_push]; omega, fun b hb => by
   rw[qD,Array.getElem?_push_lt (Nat.lt_of_lt_of_le hb h.size),← Array.getElem?_eq_getElem];exact h.low b hb⟩
theorem qA(h:Under W w){g:Nat}(hg:W.heap.size≤g)(j:Nat)(u:Value):Under W (w.setCell ⟨g,j,none⟩ u) :=
 ⟨h.os,h.output,by rw[pJ];exact h.size,fun b hb=>by rw[heap_set w _ u b (by show b≠g;omega)];exact h.low b hb⟩
theorem bB{row:Option Nat}(h:Under W w)(hg:w.grownBy w' row)(hr:∀ g,row=some g→W.heap.size≤g):Under W w' :=
 ⟨hg.os.trans h.os,hg.output.trans h.output,Nat.le_trans h.size hg.size,fun b hb=>(hg.block b (Nat.lt_of_lt_of_le hb h.size) (fun e=>by have:=hr b e.symm;omega)).trans (h.low b hb)⟩
theorem zA(h:Under W w)(n:Nat):Under W (w.drewN n):=⟨h.os,h.output,h.size,h.low⟩
theorem bA(h:Under W w):Under W w.drew:=⟨h.os,h.output,h.size,h.low⟩
theorem aP(h:Below w.heap.size w w'):Under w w':=⟨h.os,h.output,h.size,fun b hb=>h.block b hb⟩
theorem jA(h:Under W w){b:Nat}(hb:b < W.heap.size)(j:Nat):w.cell? ⟨b,j,none⟩=W.cell? ⟨b,j,none⟩:=by simp only[World.cell?,h.low b hb]
theorem iC{base:Nat}{e:TypeId}{size n:Nat}{v:Value}{xs:List Value}(h:w.ownsRow base e size v n xs){g:Nat}(hg:v.ownBlock=some g):base≤g∧g < w.heap.size:=by
 rcases h.2 with⟨rfl,_⟩ | ⟨g',cap,cur,rfl,hb,hgg,_⟩
 · cases hg
 · cases hg;exact⟨hb,(Array.getElem?_eq_some_iff.1 hgg).1⟩
theorem own_ne{base base':Nat}{e e':TypeId}{s s' n n':Nat}{v v':Value}{xs xs':List Value}(h:w.ownsRow base e s v n xs)(h':w.ownsRow base' e' s' v' n' xs')(hne:e≠e'):v.ownBlock=none∨v.ownBlock≠v'.ownBlock:=by
 rcases h.2 with⟨rfl,_⟩ | ⟨g,c,cur,rfl,_,hg,_⟩
 · exact .inl rfl
 · right
   rcases h'.2 with⟨rfl,_⟩ | ⟨g',c',cur',rfl,_,hg',_⟩
   · simp[Value.ownBlock]
   · intro e0; obtain rfl : g = g' := by simpa [Value.ownBlock] using e0
     rw[hg]at hg'
     cases hg';exact hne rfl
theorem kDA{base base':Nat}{e:TypeId}{s n:Nat}{v:Value}{xs:List Value}(h:w.ownsRow base e s v n xs)(hb:base'≤base):w.ownsRow base' e s v n xs:=by
 refine⟨h.1,?_⟩;rcases h.2 with hn | ⟨g,cap,cur,rfl,hb',rest⟩
 · exact .inl hn
 · exact .inr ⟨g,cap,cur,rfl,Nat.le_trans hb hb',rest⟩
theorem yB{base:Nat}{e:TypeId}{s n:Nat}{v:Value}{xs:List Value}(h:w.ownsRow base e s v n xs)(hU:Under w w'):w'.ownsRow base e s v n xs:=by
 refine⟨h.1,?_⟩;rcases h.2 with hn | ⟨g,cap,cur,rfl,hb,hgg,rest⟩
 · exact .inl hn
 · exact .inr ⟨g,cap,cur,rfl,hb,by rw[hU.low g (Array.getElem?_eq_some_iff.1 hgg).1];exact hgg,rest⟩
end
theorem fP(b off j:Nat):(⟨b,off,none⟩:Addr).add j=⟨b,off+j,none⟩:=by unfold Addr.add;split<;>simp_all
def BoxAt(w:World)(b:Nat)(t:TypeId)(cs:Array Value):Prop:=w.heap[b]? = some (.cells cs t (0,0))
theorem xA(w:World)(cs:Array Value)(t:TypeId):BoxAt (w.alloc (.cells cs t)) w.heap.size t cs:=by simp[BoxAt,qD]
section
variable {w w' : World} {b : Nat} {t : TypeId} {cs : Array Value}
theorem BoxAt.lt(h:BoxAt w b t cs):b < w.heap.size:=(Array.getElem?_eq_some_iff.1 h).1
theorem BoxAt.cell(h:BoxAt w b t cs)(j:Nat):w.cell? ⟨b,j,none⟩=cs[j]? := by
 unfold BoxAt at h;simp[World.cell?,h]
theorem BoxAt.free(h:BoxAt w b t cs)(j:Nat):w.frozen? ⟨b,j,none⟩=false:=by
 unfold BoxAt at h;simp[World.frozen?,h]
theorem BoxAt.set(h:BoxAt w b t cs)(j:Nat)(u:Value):BoxAt (w.setCell ⟨b,j,none⟩ u) b t (cs.setIfInBounds j u):=jM w h u
theorem BoxAt.other(h:BoxAt w b t cs){g:Nat}(hg:b≠g)(j:Nat)(u:Value):BoxAt (w.setCell ⟨g,j,none⟩ u) b t cs:=by
 unfold BoxAt;rw[heap_set w _ u b hg];exact h
theorem BoxAt.alloc(h:BoxAt w b t cs)(o:Obj):BoxAt (w.alloc o) b t cs:=by
 have hb:=h.lt;unfold BoxAt;rw[qD,Array.getElem?_push_lt hb,← Array.getElem?_eq_getElem];exact h
theorem BoxAt.under(h:BoxAt w b t cs)(hU:Under w w'):BoxAt w' b t cs:=(hU.low b h.lt).trans h
theorem BoxAt.drew(h:BoxAt w b t cs):BoxAt w.drew b t cs:=h
theorem BoxAt.grown{row:Option Nat}(h:BoxAt w b t cs)(hg:w.grownBy w' row)(hr:some b≠row):BoxAt w' b t cs:=(hg.block b h.lt hr).trans h
end
def CellsAt(w:World)(b off:Nat)(cs:List Value):Prop:=∀(j:Nat) u,cs[j]? = some u→w.cell? ⟨b,off+j,none⟩=some u
def RowArg(w:World)(p:Option Addr)(cs:List Value):Prop:=cs≠[]→∃ b off,p=some ⟨b,off,none⟩∧b < w.heap.size∧CellsAt w b off cs
section
variable {w w' : World} {b off : Nat} {p : Option Addr} {cs ds : List Value}
theorem CellsAt.under(h:CellsAt w b off cs)(hb:b < w.heap.size)(hU:Under w w'):CellsAt w' b off cs:=fun j u hj=>(jA hU hb _).trans (h j u hj)
theorem RowArg.under(h:RowArg w p cs)(hU:Under w w'):RowArg w' p cs:=fun hne=>by
 obtain⟨b,off,e,hb,hc⟩:=h hne;exact⟨b,off,e,Nat.lt_of_lt_of_le hb hU.size,hc.under hb hU⟩
theorem vBA(w:World)(cs:List Value)(t:TypeId)(c:Nat×Nat):RowArg (w.alloc (.cells cs.toArray t c)) (some ⟨w.heap.size,0,none⟩) cs :=
 fun _=>⟨_,0,rfl,by simp,fun j u hj=>by rw[Nat.zero_add];simp only[World.cell?,qD,Array.getElem?_push_size];simp[hj]⟩
theorem RowArg.nil:RowArg w p []:=fun h=>absurd rfl h
theorem RowArg.of_own{base:Nat}{e:TypeId}{s n:Nat}{v:Value}(h:w.ownsRow base e s v n cs):∃ q c,v = .slice q n c∧n≤c∧RowArg w q cs:=by
 rcases h.2 with⟨rfl,h0⟩ | ⟨g,cap,cur,rfl,_,hg,h1,h2,_⟩
 · subst h0;exact⟨none,0,rfl,Nat.le_refl _,fun hne=>absurd (List.eq_nil_of_length_eq_zero (by rw[h.1];omega)) hne⟩
 · exact⟨_,cap,rfl,h1,fun _=>⟨g,0,rfl,(Array.getElem?_eq_some_iff.1 hg).1,fun j u hj=>by rw[Nat.zero_add];exact kD h rfl hj⟩⟩
theorem CellsAt.app(h:CellsAt w b off (cs++ds)):CellsAt w b off cs∧CellsAt w b (off+cs.length) ds :=
 ⟨fun j u hj=>h j u (by rw[List.getElem?_append_left (List.getElem?_eq_some_iff.1 hj).1];exact hj),
  fun j u hj=>by rw[Nat.add_assoc];exact h _ u (by rw[List.getElem?_append_right (by omega),Nat.add_sub_cancel_left];exact hj)⟩
end
end Go.Lx
namespace Go.Lx
structure Nd where
 k:Int
 n:Int
 m:Int
 s:ByteArray
deriving DecidableEq
def lC : List Nd → List Value
  | []=>[]
  | x::l=>.int .i64 x.k :: .int .i64 x.n :: .int .i64 x.m :: .string x.s::lC l
def ndV(x:Nd):Value:=.agg #[.int .i64 x.k,.int .i64 x.n,.int .i64 x.m,.string x.s]
theorem vT(l r:List Nd):lC (l++r)=lC l++lC r:=by
 induction l with
 | nil=>rfl
 | cons x l ih=>simp[lC,ih]
theorem uAA(l:List Nd):(lC l).length=l.length * 4:=by
 induction l with
 | nil=>rfl
 | cons x l ih=>simp[lC,ih];omega
theorem wKA{l:List Nd}(h:lC l=[]):l=[]:=by cases l with | nil=>rfl | cons x l=>simp[lC]at h
theorem rDA : ∀ {l : List Nd} {k : Nat} {x : Nd}, l[k]? = some x → (lC l)[k * 4]? = some (.int .i64 x.k) ∧ (lC l)[k * 4 + 1]? = some (.int .i64 x.n) ∧ (lC l)[k * 4 + 2]? = some (.int .i64 x.m) ∧ (lC l)[k * 4 + 3]? = some (.string x.s)
  | y::l,0,x,h=>by cases h;exact⟨rfl,rfl,rfl,rfl⟩
  | y :: l, k + 1, x, h => by
    have:=rDA (l:=l) (k:=k) (x:=x) (by simpa using h);rw[show(k+1) * 4=k * 4+4 by omega];exact this
theorem RowArg.node{w:World}{p:Option Addr}{l:List Nd}(h:RowArg w p (lC l)){k:Nat}{x:Nd}(hk:l[k]? = some x):∃ b off,p=some ⟨b,off,none⟩∧b < w.heap.size ∧
 w.cell? ⟨b,off+k * 4,none⟩=some (.int .i64 x.k)∧w.cell? ⟨b,off+k * 4+1,none⟩=some (.int .i64 x.n)∧w.cell? ⟨b,off+k * 4+2,none⟩=some (.int .i64 x.m)∧w.cell? ⟨b,off+k * 4+3,none⟩=some (.string x.s):=by
 obtain⟨b,off,e,hb,hc⟩:=h (fun e=>by rw[wKA e]at hk;simp at hk);obtain⟨h0,h1,h2,h3⟩:=rDA hk;exact⟨b,off,e,hb,hc _ _ h0,hc _ _ h1,hc _ _ h2,hc _ _ h3⟩
def dPA(c:UInt8):Int:=bits BinOp.or IntKind.u8 (c.toNat:Int) 32
def pW(c:UInt8):Bool:=decide (97≤dPA c)&&decide (dPA c≤122)||(c.toNat:Int)==95
def mIA(c:UInt8):Bool := !(decide ((c.toNat:Int) < 48)) && !(decide (57 < (c.toNat:Int)))
def okB(i:Nat)(c:UInt8):Bool:=pW c||(decide (i≠0)&&mIA c)
def oD : Nat → List UInt8 → Bool
  | _,[]=>true
  | i,c::r=>okB i c&&oD (i+1) r
def jD(s:ByteArray):Bool:=oD 0 s.data.toList&&(decide (s.size≠0)&&decide (s.size≤16))
def vJ : Nat → List Nat
  | 3=>[0,1]
  | 4=>[0,1]
  | 5=>[0,0]
  | 6=>[0,1]
  | 7=>[0,0,0]
  | 8=>[0]
  | 9=>[0]
  | 12=>[0]
  | 13=>[1,0,2,0]
  | 15=>[0,0]
  | 18=>[0,0,0]
  | 19=>[0,0]
  | 20=>[0,0,0,0]
  | 21=>[0,0,1,0,0,0]
  | 22=>[0,2,0,0,0]
  | 23=>[0,0]
  | 24=>[0,1,0,0]
  | 28=>[0]
  | _=>[]
def fN(k:Nat):Bool:=[0,2,3,6,26].contains k
def fM(k:Nat):Bool:=[26,27].contains k
def fS(k:Nat):Bool:=[1,25,26,27].contains k
def kL(l:List Nat):List Value:=l.map fun(n:Nat)=>.int .i64 (n:Int)
structure ShapesAt (g:Nat) (W:World):Prop where
 lt:g < W.heap.size
 row:∀ k,k < 30→∃ p c,W.cell? ⟨g,k * 4,none⟩=some (.slice p (vJ k).length c)∧(vJ k).length≤c∧RowArg W p (kL (vJ k)) ∧
  W.cell? ⟨g,k * 4+1,none⟩=some (.bool (fN k))∧W.cell? ⟨g,k * 4+2,none⟩=some (.bool (fM k))∧W.cell? ⟨g,k * 4+3,none⟩=some (.bool (fS k))
theorem ShapesAt.under{g:Nat}{W w:World}(h:ShapesAt g W)(hU:Under W w):ShapesAt g w :=
 ⟨Nat.lt_of_lt_of_le h.lt hU.size, fun k hk => by
   obtain⟨p,c,h0,h1,h2,h3,h4,h5⟩:=h.row k hk;exact⟨p,c,(jA hU h.lt _).trans h0,h1,h2.under hU,(jA hU h.lt _).trans h3,(jA hU h.lt _).trans h4,(jA hU h.lt _).trans h5⟩⟩
def cBA(k:Int):Int:=if k=0 then 99 else if k=3∨k=6 then 3 else 5
def eB(x:Nd):Bool :=
 if x.k < 0∨30≤x.k then false
 else if fN x.k.toNat=false∧x.n≠0 then false
 else if fM x.k.toNat=false∧x.m≠0 then false
 else if fS x.k.toNat=false∧x.s.size≠0 then false
 else if fS x.k.toNat=true∧jD x.s=false then false
 else if x.k=2 then decide (0≤x.n)&&decide (x.n≤9)
 else if x.k=26 then decide (0≤x.n)&&decide (x.n≤5)&&decide (0≤x.m)&&decide (x.m≤6)
 else if x.k=27 then decide (0≤x.m)&&decide (x.m≤6)
 else !fN x.k.toNat||(decide (0≤x.n)&&decide (x.n≤cBA x.k))
def binds(x:Nd):List Nat :=
 if x.k=26 then List.replicate x.m.toNat 0 else if x.k=27 then 1::List.replicate (x.m.toNat+1) 0 else vJ x.k.toNat
theorem nWA{x:Nd}(h:eB x=true):0≤x.k∧x.k < 30:=by
 unfold eB at h
 split at h
 · cases h
 · omega
theorem zEA{x:Nd}(h:eB x=true)(hk:x.k=26∨x.k=27):0≤x.m∧x.m≤6:=by
 unfold eB at h;rcases hk with hk | hk<;>simp[hk]at h<;>omega
theorem gKA(k:Nat):(vJ k).length≤6:=by
 unfold vJ;split<;>simp
theorem cAA{x:Nd}(h:eB x=true):(binds x).length≤8:=by
 unfold binds
 split
 · rw[List.length_replicate];have:=zEA h (.inl ‹_›);omega
 · split
   · rw[List.length_cons,List.length_replicate];have:=zEA h (.inr ‹_›);omega
   · have:=gKA x.k.toNat;omega
def meas(i:Nat)(l:List (Nat×Nat)):Nat×Nat:=((l.headD (i,0)).1,l.foldl (fun d x=>max d (x.2+1)) 1)
def nD : List Nd → Nat → List (Nat × Nat) → List (Nat × Nat) → Option (List (Nat × Nat) × List (Nat × Nat))
  | [],_,all,op=>some (all,op)
  | x :: t, i, all, op => if eB x = false ∨ op.length < (binds x).length then none else
    let m:=meas i (op.drop (op.length - (binds x).length))
    nD t (i+1) (all++[m]) (op.take (op.length - (binds x).length)++[m])
def qE(t:List Nd):Int :=
 if 4000 < t.length then 21 else
  match nD t 0 [] [] with
  | none=>20
  | some (all,op)=>if op.length≠1 then 20 else if 60 < (all.getLastD (0,0)).2 then 22 else 0
end Go.Lx
namespace Go.Lx
open Go.RowKit
structure Kept (R:Nat→Prop) (b:Option Nat) (W W':World):Prop where
 os:W'.os=W.os
 output:W'.output=W.output
 size:W.heap.size≤W'.heap.size
 same:∀ k,k < W.heap.size→(R k∨b=some k)→W'.heap[k]? = W.heap[k]?
structure IStep (b b':Option Nat) (W W':World):Prop where
 os:W'.os=W.os
 output:W'.output=W.output
 size:W.heap.size≤W'.heap.size
 block:∀ k,k < W.heap.size→some k≠b→W'.heap[k]? = W.heap[k]?
 at_:b'=b∨∃ g,b'=some g∧W.heap.size≤g
theorem IStep.under{W W':World}(h:Under W W')(b:Option Nat):IStep b b W W':=⟨h.os,h.output,h.size,fun k hk _=>h.low k hk,.inl rfl⟩
theorem IStep.alloc(W:World)(o:Obj)(b:Option Nat):IStep b b W (W.alloc o):=IStep.under (aA (Under.refl _) _) b
theorem IStep.grown{W W':World}{b b':Option Nat}(h:W.grownBy W' b)(hb:b'=b∨b'=some W.heap.size):IStep b b' W W' :=
 ⟨h.os, h.output, h.size, h.block, by rcases hb with h | h; · exact .inl h
                                      · exact .inr ⟨_,h,Nat.le_refl _⟩⟩
theorem Kept.refl(R:Nat→Prop)(b:Option Nat)(W:World):Kept R b W W:=⟨rfl,rfl,Nat.le_refl _,fun _ _ _=>rfl⟩
theorem Kept.trans{R:Nat→Prop}{b:Option Nat}{A B C:World}(h:Kept R b A B)(k:Kept R b B C):Kept R b A C :=
 ⟨k.os.trans h.os,k.output.trans h.output,Nat.le_trans h.size k.size,fun i hi hr=>(k.same i (Nat.lt_of_lt_of_le hi h.size) hr).trans (h.same i hi hr)⟩
theorem Kept.putObj{R:Nat→Prop}{b:Option Nat}{W:World}{l:Nat}(o:Obj)(hR:¬ R l)(hb:b≠some l):Kept R b W (W.putObj l o) :=
 ⟨rfl, rfl, by simp, fun k hk hr => World.putObj_heap_other fun e => by
   rcases hr with hr | hr
   · exact hR (e▸hr)
   · exact hb (e▸hr)⟩
theorem Under.kept{W0 W W':World}{R:Nat→Prop}{b:Option Nat}(h:Under W0 W)(hk:Kept R b W W')(hR:∀ k,k < W0.heap.size→R k):Under W0 W' :=
 ⟨hk.os.trans h.os,hk.output.trans h.output,Nat.le_trans h.size hk.size,fun k hlt=>(hk.same k (Nat.lt_of_lt_of_le hlt h.size) (.inl (hR k hlt))).trans (h.low k hlt)⟩
theorem Kept.of_under{W W':World}{R:Nat→Prop}{b:Option Nat}(h:Under W W'):Kept R b W W':=⟨h.os,h.output,h.size,fun k hk _=>h.low k hk⟩
structure Turned (r:Option Nat) (W W':World):Prop where
 os:W'.os=W.os
 output:W'.output=W.output
 size:W.heap.size≤W'.heap.size
 block:∀ k,k < W.heap.size→some k≠r→W'.heap[k]? = W.heap[k]?
theorem Turned.refl(r:Option Nat)(W:World):Turned r W W:=⟨rfl,rfl,Nat.le_refl _,fun _ _ _=>rfl⟩
theorem Turned.trans{r:Option Nat}{A B C:World}(h:Turned r A B)(k:Turned r B C):Turned r A C :=
 ⟨k.os.trans h.os,k.output.trans h.output,Nat.le_trans h.size k.size,fun i hi hr=>(k.block i (Nat.lt_of_lt_of_le hi h.size) hr).trans (h.block i hi hr)⟩
theorem Turned.of_under{r:Option Nat}{A B:World}(h:Under A B):Turned r A B:=⟨h.os,h.output,h.size,fun k hk _=>h.low k hk⟩
theorem Turned.set(g j:Nat)(u:Value)(W:World):Turned (some g) W (W.setCell ⟨g,j,none⟩ u) :=
 ⟨rfl,rfl,by rw[pJ];exact Nat.le_refl _,fun k hk hr=>heap_set W _ u k fun e=>hr (congrArg some e)⟩
theorem Turned.under{W0 W W':World}{g:Nat}(h:Turned (some g) W W')(h0:Under W0 W)(hg:W0.heap.size≤g):Under W0 W' :=
 ⟨h.os.trans h0.os,h.output.trans h0.output,Nat.le_trans h0.size h.size,fun k hk=>(h.block k (Nat.lt_of_lt_of_le hk h0.size) fun e=>by cases e;omega).trans (h0.low k hk)⟩
theorem BoxAt.turned{w w':World}{b:Nat}{t:TypeId}{cs:Array Value}{r:Option Nat}(h:BoxAt w b t cs)(hT:Turned r w w')(hr:some b≠r):BoxAt w' b t cs:=(hT.block b h.lt hr).trans h
variable {F : Fence} {n : Nat} {P : Program}
end Go.Lx
namespace Go.Lx
open Go.RowKit Go.MapKept
theorem bytes_beq(a b:ByteArray):(a==b)=decide (a=b):=by
 obtain⟨x⟩:=a;obtain⟨y⟩:=b;have h:((⟨x⟩:ByteArray)==⟨y⟩)=(x==y):=rfl;rw[h,Bool.eq_iff_iff];simp
abbrev zH:=List (ByteArray×Value)
def mM : zH → ByteArray → Option Value
  | [],_=>none
  | (a,v)::r,k=>if k=a then some v else mM r k
def qBA : zH → ByteArray → Value → zH
  | [],k,v=>[(k,v)]
  | (a,u)::r,k,v=>if k=a then(k,v)::r else(a,u)::qBA r k v
def MapAt(w:World)(b:Nat)(ks:zH):Prop:=∃ es clock,w.heap[b]? = some (.map es clock)∧es.toList.map (fun e=>(e.key,e.val))=ks.map fun p=>(.string p.1,p.2)
theorem MapAt.lt{w:World}{b:Nat}{ks:zH}(h:MapAt w b ks):b < w.heap.size:=by
 obtain⟨es,clock,hb,_⟩:=h;exact(Array.getElem?_eq_some_iff.1 hb).1
theorem MapAt.under{w w':World}{b:Nat}{ks:zH}(h:MapAt w b ks)(hU:Under w w'):MapAt w' b ks:=by
 obtain⟨es,clock,hb,he⟩:=h;exact⟨es,clock,(hU.low b (Array.getElem?_eq_some_iff.1 hb).1).trans hb,he⟩
theorem MapAt.turned{w w':World}{b:Nat}{ks:zH}{r:Option Nat}(h:MapAt w b ks)(hT:Turned r w w')(hr:some b≠r):MapAt w' b ks:=by
 obtain⟨es,clock,hb,he⟩:=h;exact⟨es,clock,(hT.block b (Array.getElem?_eq_some_iff.1 hb).1 hr).trans hb,he⟩
theorem MapAt.cast{w:World}{b:Nat}{ks ks':zH}(h:MapAt w b ks)(e:ks=ks'):MapAt w b ks':=e▸h
theorem hSA(w:World):MapAt (w.alloc (.map #[] 0)) w.heap.size []:=⟨#[],0,by simp[qD],rfl⟩
def jT : zH → ByteArray → Nat → Option (Nat × Value)
  | [],_,_=>none
  | (a,v)::r,k,i=>if k=a then some (i,v) else jT r k (i+1)
theorem eHA : ∀ (ks : zH) (k : ByteArray) (i : Nat), (jT ks k i).map (·.2) = mM ks k
  | [],_,_=>rfl
  | (a, v) :: r, k, i => by
    simp only[jT,mM]
    split
    · rfl
    · exact eHA r k (i+1)
theorem uV : ∀ (es : List MapEntry) (ks : zH) (k : ByteArray) (i : Nat), es.map (fun e => (e.key, e.val)) = ks.map (fun p => (Value.string p.1, p.2)) → Instr.findNow .string (.string k) es i = some (jT ks k i)
  | [],[],_,_,_=>rfl
  | [],_::_,_,_,h=>by simp at h
  | _::_,[],_,_,h=>by simp at h
  | e :: es, (a, v) :: r, k, i, h => by
    simp only[List.map_cons,List.cons.injEq,Prod.mk.injEq]at h;obtain⟨⟨h1,h2⟩,h3⟩:=h;simp only[Instr.findNow,Instr.sameNow,h1,jT];by_cases hk:k=a
    · subst hk;rw[bytes_beq];simp[h2]
    · have : (k == a) = false := by rw [bytes_beq]; simpa using hk
      rw[this,if_neg hk];exact uV es r k (i+1) h3
theorem bPA{ks:zH}{k:ByteArray}{i j:Nat}{v:Value}(h:jT ks k i=some (j,v)):i≤j∧ks[j - i]? = some (k,v)∧∀ u,qBA ks k u=ks.set (j - i) (k,u):=by
 induction ks generalizing i with
 | nil=>cases h
 | cons p r ih =>
   obtain⟨a,y⟩:=p;simp only[jT]at h
   split at h
   · rename_i hk
     cases h;subst hk;exact⟨Nat.le_refl _,by simp,fun u=>by simp[qBA]⟩
   · rename_i hk; obtain ⟨h1, h2, h3⟩ := ih h; refine ⟨by omega, ?_, fun u => ?_⟩
     · rw[show j - i=(j - (i+1))+1 by omega];simpa using h2
     · rw[show j - i=(j - (i+1))+1 by omega];simp[qBA,hk,h3]
theorem oPA{ks:zH}{k:ByteArray}{i:Nat}(h:jT ks k i=none)(u:Value):qBA ks k u=ks++[(k,u)]:=by
 induction ks generalizing i with
 | nil=>rfl
 | cons p r ih =>
   obtain⟨a,y⟩:=p;simp only[jT]at h
   split at h
   · cases h
   · rename_i hk;simp[qBA,hk,ih h]
section
variable {P : Program} {w : World} {b : Nat} {ks : zH} {t kt et : TypeId} {k : ByteArray} {v : Value}
theorem yQ{es:Array MapEntry}{clock:Nat}(hb:w.heap[b]? = some (.map es clock)):(getObj b).run P w = .ok (.map es clock) w:=by simp[getObj,Sem.run,hb]
theorem xJ(e:Bool)(hk:P.underlying kt=some .string):(Instr.checkKey e 10000 kt (.string k)).run P w = .ok () w:=by
 rw[show(10000:Nat)=9999+1 from rfl,Instr.checkKey];simp[run_underlying hk]
theorem MapAt.update(h:MapAt w b ks)(ht:P.underlying t=some (.map kt et))(hk:P.underlying kt=some .string) :
 ∃ w',(Instr.mapUpdate t (.map (some b)) (.string k) v).run P w = .ok () w'∧MapAt w' b (qBA ks k v)∧Turned (some b) w w':=by
 obtain⟨es,clock,hb,he⟩:=h;have hlt:=(Array.getElem?_eq_some_iff.1 hb).1;have hf:=run_findKey (P:=P) (w:=w) hk (uV es.toList ks k 0 he)
 cases hm:jT ks k 0 with
 | none =>
   rw[hm]at hf;refine⟨w.putObj b (.map (es.push { key:=.string k,val:=v,born:=clock }) (clock+1)),?_,⟨_,_,World.putObj_heap_same hlt,?_⟩,⟨rfl,rfl,by simp,fun j hj hr=>World.putObj_heap_other fun e=>hr (congrArg some e)⟩⟩
   · simp[Instr.mapUpdate,run_underlying ht,run_underlying hk,yQ (P:=P) hb,xJ (P:=P) (w:=w) _ hk,hf,setObj,Sem.run,hb,Result.andThen,World.putObj]
   · rw[oPA hm];simp[he]
 | some r =>
   obtain⟨j,u⟩:=r;rw[hm]at hf;obtain⟨_,h2,h3⟩:=bPA hm;rw[Nat.sub_zero]at h2 h3;have hj:es.toList[j]?.map (fun e=>(e.key,e.val))=some (.string k,u):=by
    have:=congrArg (fun l=>l[j]?) he;simp only[List.getElem?_map,h2]at this
    simpa using this
   have hkey:((es[j]?).map (·.key)).getD (.string k) = .string k:=by
    cases hq:es[j]? with
    | none=>rfl
    | some e =>
      have:es.toList[j]? = some e:=by simpa using hq
      rw[this]at hj;simp at hj;simp[hj.1]
   refine⟨w.putObj b (.map (es.modify j fun e=>{ e with key:=.string k,val:=v }) clock),?_,⟨_,_,World.putObj_heap_same hlt,?_⟩,⟨rfl,rfl,by simp,fun i hi hr=>World.putObj_heap_other fun e=>hr (congrArg some e)⟩⟩
   · simp[Instr.mapUpdate,run_underlying ht,run_underlying hk,yQ (P:=P) hb,xJ (P:=P) (w:=w) _ hk,hf,setObj,Sem.run,hb,Result.andThen,World.putObj,hkey,Instr.keyThatStays,Instr.sameBits,bytes_beq]
   · rw [h3]; apply List.ext_getElem?; intro i; have hi := congrArg (fun l => l[i]?) he; simp only [List.getElem?_map] at hi; simp only [List.getElem?_map, List.getElem?_set]; by_cases e : j = i
     · subst e; have hjl : j < ks.length := (List.getElem?_eq_some_iff.1 h2).1
       cases hq:es.toList[j]? with
       | none=>rw[hq]at hj;cases hj
       | some x =>
         have hjs:j < es.size:=by have:=(List.getElem?_eq_some_iff.1 hq).1;simpa using this
         have hx:es[j]? = some x:=by simpa using hq
         simp[hjl,Array.getElem?_modify,hx,hjs]
     · rw[if_neg e,← hi];simp[Array.getElem?_modify,e]
theorem MapAt.lookup(h:MapAt w b ks)(ht:P.underlying t=some (.map kt et))(hk:P.underlying kt=some .string){z:Value}(hz:(zeroValue et).run P w = .ok z w) :
 (Instr.lookup t (.map (some b)) (.string k) true).run P w = .ok (.tuple #[(mM ks k).getD z,.bool (mM ks k).isSome]) w∧(Instr.lookup t (.map (some b)) (.string k) false).run P w = .ok ((mM ks k).getD z) w:=by
 obtain⟨es,clock,hb,he⟩:=h;have hf:=run_findKey (P:=P) (w:=w) hk (uV es.toList ks k 0 he);have hg:=eHA ks k 0
 cases hm:jT ks k 0 with
 | none =>
   rw[hm]at hf hg;rw[← hg];constructor<;>simp[Instr.lookup,run_underlying ht,run_underlying hk,yQ (P:=P) hb,xJ (P:=P) (w:=w) _ hk,hf,hz,Result.andThen]
 | some r =>
   rw[hm]at hf hg;rw[← hg];constructor<;>simp[Instr.lookup,run_underlying ht,run_underlying hk,yQ (P:=P) hb,xJ (P:=P) (w:=w) _ hk,hf,Result.andThen]
theorem uK {ops : Array Oper} {rest : List Oper} {o : Oper} {a : Act} {Q : Exit → Act → World → Prop} (hg : o.guard = none) (m x y : Operand) (hop : o.op = Op.insert t m x y ∨ o.op = Op.mapUpdate t m x y)
    (ht:P.underlying t=some (.map kt et)) (hk:P.underlying kt=some .string) (em:a.eval m = .map (some b)) (hm:MapAt w b ks) (ex:a.eval x = .string k) (ey:a.eval y=v)
    (h:∀ w',MapAt w' b (qBA ks k v)→Turned (some b) w w'→wpList P ops Q rest (a.put o.dst undef) w'):wpList P ops Q (o::rest) a w:=by
  refine wpList_plain hg fun K' hK'=>?_
  obtain⟨w',hrun,r1,r2⟩:=hm.update (v:=v) (k:=k) ht hk;unfold Oper.wp;rcases hop with hop | hop
  · simp[execOp,hop,em,ex,ey,hrun,Result.andThen];exact hK' _ _ (h w' r1 r2)
  · simp[execOp,hop,em,ex,ey,hrun,Result.andThen];exact hK' _ _ (h w' r1 r2)
theorem bE {ops : Array Oper} {rest : List Oper} {o : Oper} {a : Act} {Q : Exit → Act → World → Prop} (hg : o.guard = none) (m x : Operand) (ok : Bool) (hop : o.op = Op.lookup t m x ok)
    (ht:P.underlying t=some (.map kt et)) (hk:P.underlying kt=some .string) {z:Value} (hz:(zeroValue et).run P w = .ok z w) (em:a.eval m = .map (some b)) (hm:MapAt w b ks) (ex:a.eval x = .string k)
    (h:wpList P ops Q rest (a.put o.dst (if ok then .tuple #[(mM ks k).getD z,.bool (mM ks k).isSome] else(mM ks k).getD z)) w):wpList P ops Q (o::rest) a w:=by
  refine wpList_plain hg fun K' hK'=>?_
  obtain⟨r1,r2⟩:=hm.lookup (k:=k) ht hk hz;unfold Oper.wp
  cases ok with
  | true=>simp[execOp,hop,em,ex,r1,Result.andThen];exact hK' _ _ (by simpa using h)
  | false=>simp[execOp,hop,em,ex,r2,Result.andThen];exact hK' _ _ (by simpa using h)
end
end Go.Lx
