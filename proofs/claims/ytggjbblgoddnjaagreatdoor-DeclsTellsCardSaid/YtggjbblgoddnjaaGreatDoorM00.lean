/- Part 0 of what the proof rests on. -/
import Derived.Below
import Derived.OwnWalk
import Derived.Maps.AppendAt
import Derived.Deep.Draws
import Derived.RangeFuncNested
import Derived.RangeFuncLeaves
import Derived.OwnWalkIn
set_option linter.unusedSimpArgs false
set_option linter.unusedVariables false
namespace Go.Lx
open Go.RowKit
theorem rC(w:World)(o:Obj):(w.alloc o).heap=w.heap.push o:=rfl
theorem heap_set(w:World)(a:Addr)(v:Value)(b:Nat)(hb:b≠a.block):(w.setCell a v).heap[b]? = w.heap[b]? := by
 simp only[World.setCell];rw[Array.getElem?_modify];simp[Ne.symm hb]
theorem jK(w:World){b i:Nat}{cs:Array Value}{ty:TypeId}{fz:Nat×Nat}(h:w.heap[b]? = some (.cells cs ty fz))(v:Value) :
 (w.setCell ⟨b,i,none⟩ v).heap[b]? = some (.cells (cs.setIfInBounds i v) ty fz):=by
 simp only[World.setCell];rw[Array.getElem?_modify];simp[h]
theorem hAA(w:World)(a:Addr)(v:Value):(w.setCell a v).heap.size=w.heap.size:=by simp[World.setCell]
theorem oUA(b j:Nat):(⟨b,0,none⟩:Addr).add j=⟨b,j,none⟩:=by unfold Addr.add;split<;>simp_all
section
variable {w w' : World} {base : Nat} {e : TypeId} {size n : Nat} {v : Value} {xs : List Value}
theorem kE(h:w.ownsRow base e size v n xs)(hn:0 < n):∃ g cap,v = .slice (some ⟨g,0,none⟩) n cap∧v.ownBlock=some g∧base≤g∧g < w.heap.size∧n≤cap∧cap≤maxLen:=by
 rcases h.2 with⟨_,h0⟩ | ⟨g,cap,cur,rfl,hb,hg,h1,h2,_⟩
 · omega
 · exact⟨g,cap,rfl,rfl,hb,(Array.getElem?_eq_some_iff.1 hg).1,h1,h2⟩
theorem yD(h:w.ownsRow base e size v n xs){g:Nat}(hg:v.ownBlock=some g){j:Nat}{u:Value}(hu:xs[j]? = some u):w.cell? ⟨g,j,none⟩=some u:=by
 have:=h.cells hg j u hu
 rwa [oUA]at this
theorem qKA(h:w.ownsRow base e size v n xs){g:Nat}(hg:v.ownBlock=some g)(j:Nat):w.frozen? ⟨g,j,none⟩=false:=by
 rcases h.2 with⟨rfl,_⟩ | ⟨g',cap,cur,rfl,_,hgg,_⟩
 · cases hg
 · cases hg;simp[World.frozen?,hgg]
theorem qQA(h:w.ownsRow base e size v n xs){g:Nat}(hg:v.ownBlock=some g){j:Nat}(hj:j < xs.length)(u:Value):(w.setCell ⟨g,j,none⟩ u).ownsRow base e size v n (xs.set j u):=by
 rcases h.2 with⟨rfl,_⟩ | ⟨g',cap,cur,rfl,hb,hgg,h1,h2,h3,h4⟩
 · cases hg
 · cases hg;refine⟨by rw[List.length_set];exact h.1,.inr ⟨_,cap,cur.setIfInBounds j u,rfl,hb,jK w hgg u,h1,h2,by rw[Array.size_setIfInBounds];exact h3,?_⟩⟩;rw[Array.toList_setIfInBounds,List.take_set,h4]
theorem yB(h:w.ownsRow base e size v n xs){b:Nat}(hg:v.ownBlock≠some b)(j:Nat)(u:Value):(w.setCell ⟨b,j,none⟩ u).ownsRow base e size v n xs:=by
 refine⟨h.1,?_⟩;rcases h.2 with hn | ⟨g,cap,cur,rfl,hb,hgg,rest⟩
 · exact .inl hn
 · refine .inr ⟨g,cap,cur,rfl,hb,?_,rest⟩;rw[heap_set w _ u g (fun e=>hg (by simp[Value.ownBlock,e]))];exact hgg
theorem nN{g cap:Nat}(h:w.ownsRow base e size (.slice (some ⟨g,0,none⟩) n cap) n xs){m:Nat}(hm:m≤n):w.ownsRow base e size (.slice (some ⟨g,0,none⟩) m cap) m (xs.take (m * size)):=by
 have hle:m * size≤n * size:=Nat.mul_le_mul_right _ hm;rcases h.2 with⟨h0,_⟩ | ⟨g',cap',cur,hv,hb,hgg,h1,h2,h3,h4⟩
 · cases h0
 · cases hv;refine⟨by rw[List.length_take,h.1];omega,.inr ⟨g,cap,cur,rfl,hb,hgg,by omega,h2,h3,?_⟩⟩;rw[← h4,List.take_take,Nat.min_eq_left hle]
theorem oC{row:Option Nat}(h:w.ownsRow base e size v n xs)(hg:w.grownBy w' row)(hne:v.ownBlock=none∨v.ownBlock≠row):w'.ownsRow base e size v n xs:=h.kept hg hne
end
def xA : Code → Code
  | .seq a _=>a
  | c=>c
def jA : Code → Code
  | .seq _ b=>b
  | c=>c
def aD : Code → Code
  | .block _ c=>c
  | .loop c=>c
  | .scope c=>c
  | c=>c
theorem bB{df:List Deferred}{A:Array Value}{F:(Nat→Value)→Array Value}{Pr:Prop}(h:A=F fun n=>A.getD n undef)(hp:Pr):∃ J':Nat→Value,(⟨A,df⟩:Act)=⟨F J',df⟩∧Pr:=⟨_,by rw[← h],hp⟩
structure Under (W w:World):Prop where
 os:w.os=W.os
 output:w.output=W.output
 size:W.heap.size≤w.heap.size
 low:∀ b,b < W.heap.size→w.heap[b]? = W.heap[b]?
section
variable {W w w' : World}
theorem Under.refl(a:World):Under a a:=⟨rfl,rfl,Nat.le_refl _,fun _ _=>rfl⟩
theorem Under.trans{a b c:World}(h:Under a b)(k:Under b c):Under a c:=⟨k.os.trans h.os,k.output.trans h.output,Nat.le_trans h.size k.size,fun i hi=>(k.low i (Nat.lt_of_lt_of_le hi h.size)).trans (h.low i hi)⟩
theorem aA(h:Under W w)(x:Obj):Under W (w.alloc x) :=
 ⟨h.os, h.output, by have := h.size; rw [rC, Array.size_push]; omega, fun b hb => by
   rw[rC,Array.getElem?_push_lt (Nat.lt_of_lt_of_le hb h.size),← Array.getElem?_eq_getElem];exact h.low b hb⟩
theorem uA(h:Under W w){g:Nat}(hg:W.heap.size≤g)(j:Nat)(u:Value):Under W (w.setCell ⟨g,j,none⟩ u) :=
 ⟨h.os,h.output,by rw[hAA];exact h.size,fun b hb=>by rw[heap_set w _ u b (by show b≠g;omega)];exact h.low b hb⟩
theorem rA{row:Option Nat}(h:Under W w)(hg:w.grownBy w' row)(hr:∀ g,row=some g→W.heap.size≤g):Under W w' :=
 ⟨hg.os.trans h.os,hg.output.trans h.output,Nat.le_trans h.size hg.size,fun b hb=>(hg.block b (Nat.lt_of_lt_of_le hb h.size) (fun e=>by have:=hr b e.symm;omega)).trans (h.low b hb)⟩
theorem aB(h:Under W w)(n:Nat):Under W (w.drewN n):=⟨h.os,h.output,h.size,h.low⟩
theorem fA(h:Under W w):Under W w.drew:=⟨h.os,h.output,h.size,h.low⟩
theorem uZ(h:Below w.heap.size w w'):Under w w':=⟨h.os,h.output,h.size,fun b hb=>h.block b hb⟩
theorem dA(h:Under W w){b:Nat}(hb:b < W.heap.size)(j:Nat):w.cell? ⟨b,j,none⟩=W.cell? ⟨b,j,none⟩:=by simp only[World.cell?,h.low b hb]
theorem vB{base:Nat}{e:TypeId}{size n:Nat}{v:Value}{xs:List Value}(h:w.ownsRow base e size v n xs){g:Nat}(hg:v.ownBlock=some g):base≤g∧g < w.heap.size:=by
 rcases h.2 with⟨rfl,_⟩ | ⟨g',cap,cur,rfl,hb,hgg,_⟩
 · cases hg
 · cases hg;exact⟨hb,(Array.getElem?_eq_some_iff.1 hgg).1⟩
theorem own_ne{base base':Nat}{e e':TypeId}{s s' n n':Nat}{v v':Value}{xs xs':List Value}(h:w.ownsRow base e s v n xs)(h':w.ownsRow base' e' s' v' n' xs')(hne:e≠e'):v.ownBlock=none∨v.ownBlock≠v'.ownBlock:=by
 rcases h.2 with⟨rfl,_⟩ | ⟨g,c,cur,rfl,_,hg,_⟩
 · exact .inl rfl
 · right
   rcases h'.2 with⟨rfl,_⟩ | ⟨g',c',cur',rfl,_,hg',_⟩
   · simp[Value.ownBlock]
   · intro e0; obtain rfl : g = g' := by simpa [Value.ownBlock] using e0
     rw[hg]at hg'
     cases hg';exact hne rfl
theorem oD{base base':Nat}{e:TypeId}{s n:Nat}{v:Value}{xs:List Value}(h:w.ownsRow base e s v n xs)(hb:base'≤base):w.ownsRow base' e s v n xs:=by
 refine⟨h.1,?_⟩;rcases h.2 with hn | ⟨g,cap,cur,rfl,hb',rest⟩
 · exact .inl hn
 · exact .inr ⟨g,cap,cur,rfl,Nat.le_trans hb hb',rest⟩
theorem dC{base:Nat}{e:TypeId}{s n:Nat}{v:Value}{xs:List Value}(h:w.ownsRow base e s v n xs)(hU:Under w w'):w'.ownsRow base e s v n xs:=by
 refine⟨h.1,?_⟩;rcases h.2 with hn | ⟨g,cap,cur,rfl,hb,hgg,rest⟩
 · exact .inl hn
 · exact .inr ⟨g,cap,cur,rfl,hb,by rw[hU.low g (Array.getElem?_eq_some_iff.1 hgg).1];exact hgg,rest⟩
end
theorem jJ(b off j:Nat):(⟨b,off,none⟩:Addr).add j=⟨b,off+j,none⟩:=by unfold Addr.add;split<;>simp_all
def BoxAt(w:World)(b:Nat)(t:TypeId)(cs:Array Value):Prop:=w.heap[b]? = some (.cells cs t (0,0))
theorem qA(w:World)(cs:Array Value)(t:TypeId):BoxAt (w.alloc (.cells cs t)) w.heap.size t cs:=by simp[BoxAt,rC]
section
variable {w w' : World} {b : Nat} {t : TypeId} {cs : Array Value}
theorem BoxAt.lt(h:BoxAt w b t cs):b < w.heap.size:=(Array.getElem?_eq_some_iff.1 h).1
theorem BoxAt.cell(h:BoxAt w b t cs)(j:Nat):w.cell? ⟨b,j,none⟩=cs[j]? := by
 unfold BoxAt at h;simp[World.cell?,h]
theorem BoxAt.free(h:BoxAt w b t cs)(j:Nat):w.frozen? ⟨b,j,none⟩=false:=by
 unfold BoxAt at h;simp[World.frozen?,h]
theorem BoxAt.set(h:BoxAt w b t cs)(j:Nat)(u:Value):BoxAt (w.setCell ⟨b,j,none⟩ u) b t (cs.setIfInBounds j u):=jK w h u
theorem BoxAt.other(h:BoxAt w b t cs){g:Nat}(hg:b≠g)(j:Nat)(u:Value):BoxAt (w.setCell ⟨g,j,none⟩ u) b t cs:=by
 unfold BoxAt;rw[heap_set w _ u b hg];exact h
theorem BoxAt.alloc(h:BoxAt w b t cs)(o:Obj):BoxAt (w.alloc o) b t cs:=by
 have hb:=h.lt;unfold BoxAt;rw[rC,Array.getElem?_push_lt hb,← Array.getElem?_eq_getElem];exact h
theorem BoxAt.under(h:BoxAt w b t cs)(hU:Under w w'):BoxAt w' b t cs:=(hU.low b h.lt).trans h
theorem BoxAt.drew(h:BoxAt w b t cs):BoxAt w.drew b t cs:=h
theorem BoxAt.grown{row:Option Nat}(h:BoxAt w b t cs)(hg:w.grownBy w' row)(hr:some b≠row):BoxAt w' b t cs:=(hg.block b h.lt hr).trans h
end
def CellsAt(w:World)(b off:Nat)(cs:List Value):Prop:=∀(j:Nat) u,cs[j]? = some u→w.cell? ⟨b,off+j,none⟩=some u
def RowArg(w:World)(p:Option Addr)(cs:List Value):Prop:=cs≠[]→∃ b off,p=some ⟨b,off,none⟩∧b < w.heap.size∧CellsAt w b off cs
section
variable {w w' : World} {b off : Nat} {p : Option Addr} {cs ds : List Value}
theorem CellsAt.under(h:CellsAt w b off cs)(hb:b < w.heap.size)(hU:Under w w'):CellsAt w' b off cs:=fun j u hj=>(dA hU hb _).trans (h j u hj)
theorem RowArg.under(h:RowArg w p cs)(hU:Under w w'):RowArg w' p cs:=fun hne=>by
 obtain⟨b,off,e,hb,hc⟩:=h hne;exact⟨b,off,e,Nat.lt_of_lt_of_le hb hU.size,hc.under hb hU⟩
theorem nJ(w:World)(cs:List Value)(t:TypeId)(c:Nat×Nat):RowArg (w.alloc (.cells cs.toArray t c)) (some ⟨w.heap.size,0,none⟩) cs :=
 fun _=>⟨_,0,rfl,by simp,fun j u hj=>by rw[Nat.zero_add];simp only[World.cell?,rC,Array.getElem?_push_size];simp[hj]⟩
theorem RowArg.nil:RowArg w p []:=fun h=>absurd rfl h
theorem RowArg.of_own{base:Nat}{e:TypeId}{s n:Nat}{v:Value}(h:w.ownsRow base e s v n cs):∃ q c,v = .slice q n c∧n≤c∧RowArg w q cs:=by
 rcases h.2 with⟨rfl,h0⟩ | ⟨g,cap,cur,rfl,_,hg,h1,h2,_⟩
 · subst h0;exact⟨none,0,rfl,Nat.le_refl _,fun hne=>absurd (List.eq_nil_of_length_eq_zero (by rw[h.1];omega)) hne⟩
 · exact⟨_,cap,rfl,h1,fun _=>⟨g,0,rfl,(Array.getElem?_eq_some_iff.1 hg).1,fun j u hj=>by rw[Nat.zero_add];exact yD h rfl hj⟩⟩
theorem CellsAt.app(h:CellsAt w b off (cs++ds)):CellsAt w b off cs∧CellsAt w b (off+cs.length) ds :=
 ⟨fun j u hj=>h j u (by rw[List.getElem?_append_left (List.getElem?_eq_some_iff.1 hj).1];exact hj),
  fun j u hj=>by rw[Nat.add_assoc];exact h _ u (by rw[List.getElem?_append_right (by omega),Nat.add_sub_cancel_left];exact hj)⟩
end
end Go.Lx
namespace Go.Lx
structure Nd where
 k:Int
 n:Int
 m:Int
 s:ByteArray
deriving DecidableEq
def lLA(x:Nd):List Value:=[.int .i64 x.k,.int .i64 x.n,.int .i64 x.m,.string x.s]
def aC : List Nd → List Value
  | []=>[]
  | x::l=>.int .i64 x.k :: .int .i64 x.n :: .int .i64 x.m :: .string x.s::aC l
def ndV(x:Nd):Value:=.agg #[.int .i64 x.k,.int .i64 x.n,.int .i64 x.m,.string x.s]
theorem aR(l r:List Nd):aC (l++r)=aC l++aC r:=by
 induction l with
 | nil=>rfl
 | cons x l ih=>simp[aC,ih]
theorem oZ(l:List Nd):(aC l).length=l.length * 4:=by
 induction l with
 | nil=>rfl
 | cons x l ih=>simp[aC,ih];omega
theorem yZ{l:List Nd}(h:aC l=[]):l=[]:=by cases l with | nil=>rfl | cons x l=>simp[aC]at h
theorem mU : ∀ {l : List Nd} {k : Nat} {x : Nd}, l[k]? = some x → (aC l)[k * 4]? = some (.int .i64 x.k) ∧ (aC l)[k * 4 + 1]? = some (.int .i64 x.n) ∧ (aC l)[k * 4 + 2]? = some (.int .i64 x.m) ∧ (aC l)[k * 4 + 3]? = some (.string x.s)
  | y::l,0,x,h=>by cases h;exact⟨rfl,rfl,rfl,rfl⟩
  | y :: l, k + 1, x, h => by
    have:=mU (l:=l) (k:=k) (x:=x) (by simpa using h);rw[show(k+1) * 4=k * 4+4 by omega];exact this
theorem RowArg.node{w:World}{p:Option Addr}{l:List Nd}(h:RowArg w p (aC l)){k:Nat}{x:Nd}(hk:l[k]? = some x):∃ b off,p=some ⟨b,off,none⟩∧b < w.heap.size ∧
 w.cell? ⟨b,off+k * 4,none⟩=some (.int .i64 x.k)∧w.cell? ⟨b,off+k * 4+1,none⟩=some (.int .i64 x.n)∧w.cell? ⟨b,off+k * 4+2,none⟩=some (.int .i64 x.m)∧w.cell? ⟨b,off+k * 4+3,none⟩=some (.string x.s):=by
 obtain⟨b,off,e,hb,hc⟩:=h (fun e=>by rw[yZ e]at hk;simp at hk);obtain⟨h0,h1,h2,h3⟩:=mU hk;exact⟨b,off,e,hb,hc _ _ h0,hc _ _ h1,hc _ _ h2,hc _ _ h3⟩
def bPA(c:UInt8):Int:=bits BinOp.or IntKind.u8 (c.toNat:Int) 32
def jV(c:UInt8):Bool:=decide (97≤bPA c)&&decide (bPA c≤122)||(c.toNat:Int)==95
def eGA(c:UInt8):Bool := !(decide ((c.toNat:Int) < 48)) && !(decide (57 < (c.toNat:Int)))
def okB(i:Nat)(c:UInt8):Bool:=jV c||(decide (i≠0)&&eGA c)
def xD : Nat → List UInt8 → Bool
  | _,[]=>true
  | i,c::r=>okB i c&&xD (i+1) r
def rD(s:ByteArray):Bool:=xD 0 s.data.toList&&(decide (s.size≠0)&&decide (s.size≤16))
def gG : Nat → List Nat
  | 3=>[0,1]
  | 4=>[0,1]
  | 5=>[0,0]
  | 6=>[0,1]
  | 7=>[0,0,0]
  | 8=>[0]
  | 9=>[0]
  | 12=>[0]
  | 13=>[1,0,2,0]
  | 15=>[0,0]
  | 18=>[0,0,0]
  | 19=>[0,0]
  | 20=>[0,0,0,0]
  | 21=>[0,0,1,0,0,0]
  | 22=>[0,2,0,0,0]
  | 23=>[0,0]
  | 24=>[0,1,0,0]
  | 28=>[0]
  | _=>[]
def fN(k:Nat):Bool:=[0,2,3,6,26].contains k
def fM(k:Nat):Bool:=[26,27].contains k
def fS(k:Nat):Bool:=[1,25,26,27].contains k
def bE(l:List Nat):List Value:=l.map fun(n:Nat)=>.int .i64 (n:Int)
structure ShapesAt (g:Nat) (W:World):Prop where
 lt:g < W.heap.size
 row:∀ k,k < 30→∃ p c,W.cell? ⟨g,k * 4,none⟩=some (.slice p (gG k).length c)∧(gG k).length≤c∧RowArg W p (bE (gG k)) ∧
  W.cell? ⟨g,k * 4+1,none⟩=some (.bool (fN k))∧W.cell? ⟨g,k * 4+2,none⟩=some (.bool (fM k))∧W.cell? ⟨g,k * 4+3,none⟩=some (.bool (fS k))
theorem ShapesAt.under{g:Nat}{W w:World}(h:ShapesAt g W)(hU:Under W w):ShapesAt g w :=
 ⟨Nat.lt_of_lt_of_le h.lt hU.size, fun k hk => by
   obtain⟨p,c,h0,h1,h2,h3,h4,h5⟩:=h.row k hk;exact⟨p,c,(dA hU h.lt _).trans h0,h1,h2.under hU,(dA hU h.lt _).trans h3,(dA hU h.lt _).trans h4,(dA hU h.lt _).trans h5⟩⟩
def bX(k:Int):Int:=if k=0 then 99 else if k=3∨k=6 then 3 else 5
def yA(x:Nd):Bool :=
 if x.k < 0∨30≤x.k then false
 else if fN x.k.toNat=false∧x.n≠0 then false
 else if fM x.k.toNat=false∧x.m≠0 then false
 else if fS x.k.toNat=false∧x.s.size≠0 then false
 else if fS x.k.toNat=true∧rD x.s=false then false
 else if x.k=2 then decide (0≤x.n)&&decide (x.n≤9)
 else if x.k=26 then decide (0≤x.n)&&decide (x.n≤5)&&decide (0≤x.m)&&decide (x.m≤6)
 else if x.k=27 then decide (0≤x.m)&&decide (x.m≤6)
 else !fN x.k.toNat||(decide (0≤x.n)&&decide (x.n≤bX x.k))
def binds(x:Nd):List Nat :=
 if x.k=26 then List.replicate x.m.toNat 0 else if x.k=27 then 1::List.replicate (x.m.toNat+1) 0 else gG x.k.toNat
theorem iIA{x:Nd}(h:yA x=true):0≤x.k∧x.k < 30:=by
 unfold yA at h
 split at h
 · cases h
 · omega
theorem dS{x:Nd}(h:yA x=true)(hk:x.k=26∨x.k=27):0≤x.m∧x.m≤6:=by
 unfold yA at h;rcases hk with hk | hk<;>simp[hk]at h<;>omega
theorem mZ(k:Nat):(gG k).length≤6:=by
 unfold gG;split<;>simp
theorem gK{x:Nd}(h:yA x=true):(binds x).length≤8:=by
 unfold binds
 split
 · rw[List.length_replicate];have:=dS h (.inl ‹_›);omega
 · split
   · rw[List.length_cons,List.length_replicate];have:=dS h (.inr ‹_›);omega
   · have:=mZ x.k.toNat;omega
def meas(i:Nat)(l:List (Nat×Nat)):Nat×Nat:=((l.headD (i,0)).1,l.foldl (fun d x=>max d (x.2+1)) 1)
def wC : List Nd → Nat → List (Nat × Nat) → List (Nat × Nat) → Option (List (Nat × Nat) × List (Nat × Nat))
  | [],_,all,op=>some (all,op)
  | x :: t, i, all, op => if yA x = false ∨ op.length < (binds x).length then none else
    let m:=meas i (op.drop (op.length - (binds x).length))
    wC t (i+1) (all++[m]) (op.take (op.length - (binds x).length)++[m])
def bC(t:List Nd):Int :=
 if 4000 < t.length then 21 else
  match wC t 0 [] [] with
  | none=>20
  | some (all,op)=>if op.length≠1 then 20 else if 60 < (all.getLastD (0,0)).2 then 22 else 0
end Go.Lx
namespace Go.Lx
open Go.RowKit
structure Kept (R:Nat→Prop) (b:Option Nat) (W W':World):Prop where
 os:W'.os=W.os
 output:W'.output=W.output
 size:W.heap.size≤W'.heap.size
 same:∀ k,k < W.heap.size→(R k∨b=some k)→W'.heap[k]? = W.heap[k]?
structure IStep (b b':Option Nat) (W W':World):Prop where
 os:W'.os=W.os
 output:W'.output=W.output
 size:W.heap.size≤W'.heap.size
 block:∀ k,k < W.heap.size→some k≠b→W'.heap[k]? = W.heap[k]?
 at_:b'=b∨∃ g,b'=some g∧W.heap.size≤g
theorem IStep.under{W W':World}(h:Under W W')(b:Option Nat):IStep b b W W':=⟨h.os,h.output,h.size,fun k hk _=>h.low k hk,.inl rfl⟩
theorem IStep.alloc(W:World)(o:Obj)(b:Option Nat):IStep b b W (W.alloc o):=IStep.under (aA (Under.refl _) _) b
theorem IStep.grown{W W':World}{b b':Option Nat}(h:W.grownBy W' b)(hb:b'=b∨b'=some W.heap.size):IStep b b' W W' :=
 ⟨h.os, h.output, h.size, h.block, by rcases hb with h | h; · exact .inl h
                                      · exact .inr ⟨_,h,Nat.le_refl _⟩⟩
theorem kYA{w w':World}{base:Nat}{e:TypeId}{s n:Nat}{v:Value}{xs:List Value}(h:w.ownsRow base e s v n xs)(hb:∀ g,v.ownBlock=some g→w'.heap[g]? = w.heap[g]?):w'.ownsRow base e s v n xs:=by
 refine⟨h.1,?_⟩;rcases h.2 with hn | ⟨g,cap,cur,rfl,hb',hgg,rest⟩
 · exact .inl hn
 · exact .inr ⟨g,cap,cur,rfl,hb',by rw[hb g rfl];exact hgg,rest⟩
theorem Kept.refl(R:Nat→Prop)(b:Option Nat)(W:World):Kept R b W W:=⟨rfl,rfl,Nat.le_refl _,fun _ _ _=>rfl⟩
theorem Kept.trans{R:Nat→Prop}{b:Option Nat}{A B C:World}(h:Kept R b A B)(k:Kept R b B C):Kept R b A C :=
 ⟨k.os.trans h.os,k.output.trans h.output,Nat.le_trans h.size k.size,fun i hi hr=>(k.same i (Nat.lt_of_lt_of_le hi h.size) hr).trans (h.same i hi hr)⟩
theorem Kept.putObj{R:Nat→Prop}{b:Option Nat}{W:World}{l:Nat}(o:Obj)(hR:¬ R l)(hb:b≠some l):Kept R b W (W.putObj l o) :=
 ⟨rfl, rfl, by simp, fun k hk hr => World.putObj_heap_other fun e => by
   rcases hr with hr | hr
   · exact hR (e▸hr)
   · exact hb (e▸hr)⟩
theorem Under.kept{W0 W W':World}{R:Nat→Prop}{b:Option Nat}(h:Under W0 W)(hk:Kept R b W W')(hR:∀ k,k < W0.heap.size→R k):Under W0 W' :=
 ⟨hk.os.trans h.os,hk.output.trans h.output,Nat.le_trans h.size hk.size,fun k hlt=>(hk.same k (Nat.lt_of_lt_of_le hlt h.size) (.inl (hR k hlt))).trans (h.low k hlt)⟩
theorem Kept.of_under{W W':World}{R:Nat→Prop}{b:Option Nat}(h:Under W W'):Kept R b W W':=⟨h.os,h.output,h.size,fun k hk _=>h.low k hk⟩
structure Turned (r:Option Nat) (W W':World):Prop where
 os:W'.os=W.os
 output:W'.output=W.output
 size:W.heap.size≤W'.heap.size
 block:∀ k,k < W.heap.size→some k≠r→W'.heap[k]? = W.heap[k]?
theorem Turned.refl(r:Option Nat)(W:World):Turned r W W:=⟨rfl,rfl,Nat.le_refl _,fun _ _ _=>rfl⟩
theorem Turned.trans{r:Option Nat}{A B C:World}(h:Turned r A B)(k:Turned r B C):Turned r A C :=
 ⟨k.os.trans h.os,k.output.trans h.output,Nat.le_trans h.size k.size,fun i hi hr=>(k.block i (Nat.lt_of_lt_of_le hi h.size) hr).trans (h.block i hi hr)⟩
theorem Turned.of_under{r:Option Nat}{A B:World}(h:Under A B):Turned r A B:=⟨h.os,h.output,h.size,fun k hk _=>h.low k hk⟩
theorem Turned.set(g j:Nat)(u:Value)(W:World):Turned (some g) W (W.setCell ⟨g,j,none⟩ u) :=
 ⟨rfl,rfl,by rw[hAA];exact Nat.le_refl _,fun k hk hr=>heap_set W _ u k fun e=>hr (congrArg some e)⟩
theorem Turned.under{W0 W W':World}{g:Nat}(h:Turned (some g) W W')(h0:Under W0 W)(hg:W0.heap.size≤g):Under W0 W' :=
 ⟨h.os.trans h0.os,h.output.trans h0.output,Nat.le_trans h0.size h.size,fun k hk=>(h.block k (Nat.lt_of_lt_of_le hk h0.size) fun e=>by cases e;omega).trans (h0.low k hk)⟩
theorem BoxAt.turned{w w':World}{b:Nat}{t:TypeId}{cs:Array Value}{r:Option Nat}(h:BoxAt w b t cs)(hT:Turned r w w')(hr:some b≠r):BoxAt w' b t cs:=(hT.block b h.lt hr).trans h
variable {F : Fence} {n : Nat} {P : Program}
def Iter{α:Type}(F:Fence)(n:Nat)(P:Program)(gf:Nat)(lb:Array Value)(encs:α→Array Value)(R:Nat→Prop)(xs:List α)(w:World):Prop :=
 ∀(l:Nat) (J:Option Nat→List α→World→Prop) (Jx:List α→World→Prop) (W:World),Under w W →
  (∀ b b' pre A A',J b pre A→IStep b b' A A'→J b' pre A') →
  (∀ b pre x A, J b pre A → pre ++ [x] <+: xs → YieldAt F (n - 1) P l (encs x) A fun e A' =>
    (e = .returned (.bool true)∧J b (pre++[x]) A'∧Kept R b A A')∨(e = .returned (.bool false)∧Jx (pre++[x]) A')) →
  J none [] W →
  CallsIn F n P gf (#[.func (.yield l) #[] #[]]++lb) W fun e W'=>(∃ v,e = .returned v)∧((∃ b,J b xs W')∨∃ pre,Jx pre W')
def pVA {α : Type} (B : Nat) (R : Nat → Prop) (b : Option Nat) (I : Option Nat → List α → World → Prop) (Ix : Code → List α → World → Prop) (xs : List α) (W : World) : Exit → Act → World → Prop
  | .normal,_,W'=>KeepsFrom B W W'∧Kept R b W W'∧I b xs W'
  | .ret,_,W'=>KeepsFrom B W W'∧Ix .ret xs W'
  | .exit id,_,W'=>KeepsFrom B W W'∧Ix (.exit id) xs W'
  | .goto t,_,W'=>KeepsFrom B W W'∧Ix (.goto t) xs W'
  | .panic _,_,_=>False
  | .outgrown,_,_=>False
theorem jT {α : Type} {g : Operand} {ps : Array Tmp} {assign body : Code} {Q : Exit → Act → World → Prop} {a : Act} {w w0 : World}
    (hro:F.round=none) (h1:1≤n) {gf:Nat} {lb:Array Value} (hg:a.eval g = .func (.func gf) #[] lb) (hFg:F.fn gf) (eg:∀ args w,(callFunc gf args).run P w = .ok (.enter gf args) w)
    {encs:α→Array Value} {R:Nat→Prop} {xs:List α} (hit:Iter F (n - 1) P gf lb encs R xs w0) (hU:Under w0 w) (hps:∀ x,(encs x).size=ps.size) (hR:∀ k,R k→k < w.heap.size)
    (I:Option Nat→List α→World→Prop) (Ix:Code→List α→World→Prop)
    (hI:∀ b b' pre A A',I b pre A→IStep b b' A A'→w.heap.size≤A.heap.size→(∀ g,b=some g→w.heap.size≤g)→I b' pre A')
    (hIo:∀ b pre A l o o',I b pre A→w.heap.size≤l→A.heap[l]? = some o→o.isCells=false→I b pre (A.putObj l o'))
    (hIx:∀ c pre A l o o',Ix c pre A→w.heap.size≤l→A.heap[l]? = some o→o.isCells=false→Ix c pre (A.putObj l o'))
    (h0:I none [] w) (a₁:α→Act)
    (hassign : ∀ (l : Nat) (x : α) (W : World) (K : Act → World → Prop), K (a₁ x) W →
      assign.wpIn (F.inRound l) (n - 1 - 1) P (Exit.then K (fun _ _ _=>False)) { tmps:=(ps.zip (encs x)).foldl (fun t (p,v)=>t.setIfInBounds p v) a.tmps,defers:=[] } W)
    (hbody:∀(l:Nat) (b:Option Nat) (pre:List α) (x:α) (W:World),w.heap.size≤W.heap.size→(∀ g,b=some g→w.heap.size≤g)→I b pre W→pre++[x] <+: xs→body.wpIn (F.inRound l) (n - 1 - 1) P (pVA w.heap.size R b I Ix (pre++[x]) W) (a₁ x) W)
    (hdone:∀(D:Nat) (b:Option Nat) (W:World),w.heap.size≤D→I b xs W→W.heap[D]? = some (.deferred (some []))→Q .normal { a with defers:={ target:=.collected D,args:=#[] }::a.defers } W)
    (hstop:∀(D:Nat) (c:Code) (pre:List α) (W:World),w.heap.size≤D→Ix c pre W→W.heap[D]? = some (.deferred (some []))→c.wpIn F n P Q { a with defers:={ target:=.collected D,args:=#[] }::a.defers } W) :
    (Code.rangeFunc g ps assign body).wpIn F n P Q a w:=by
  refine wpIn_rangeFunc fun fn hfn=>?_
  rw[hro];obtain⟨L,hL⟩:∃ L:LoopState→Option Code→Loop,L=fun st pe=>{ state:=st,pending:=pe,fn,tmps:=a.tmps,params:=ps,assign,body,defers:=w.heap.size }:=⟨_,rfl⟩
  obtain⟨W1,hW1⟩:∃ W1,W1=(w.alloc (.deferred (some []))).alloc (.loop (L .ready none)):=⟨_,rfl⟩;have hz1:W1.heap.size=w.heap.size+2:=by rw[hW1];simp
  have hU1:Under w W1:=by rw[hW1];exact aA (aA (Under.refl _) _) _
  have hl1:W1.heap[w.heap.size+1]? = some (.loop (L .ready none)):=by
   rw[hW1,rC];have:(w.alloc (.deferred (some []))).heap.size=w.heap.size+1:=by simp
   rw[← this,Array.getElem?_push_size]
  have hd1:W1.heap[w.heap.size]? = some (.deferred (some [])):=by
   rw[hW1,rC,Array.getElem?_push_lt (by simp),← Array.getElem?_eq_getElem]
   show(w.heap.push _)[w.heap.size]? = _
   rw[Array.getElem?_push_size]
  have hI1:I none [] W1:=by
   rw[hW1];exact hI none none _ _ _ (hI none none _ _ _ h0 (IStep.alloc w _ none) (Nat.le_refl _) (fun g e=>by cases e)) (IStep.alloc _ _ none) (by simp) (fun g e=>by cases e)
  refine ⟨w.heap.size + 1, [{ target := .collected w.heap.size, args := #[] }], W1, { target := .fn (.func gf) lb, args := #[.func (.yield (w.heap.size + 1)) #[] #[]] }, W1, gf,
    #[.func (.yield (w.heap.size + 1)) #[] #[]] ++ lb, W1, ?_, ?_, ?_, ?_, fun _ => h1, ?_⟩
  · rw[hW1,hL];exact run_enterLoop_outer _ _ _ _ _
  · simp only[resolve,hg];simp[go_sem]
  · intro f' hf';simp[Target.leads]at hf';subst hf';exact hFg
  · simp[invoke,go_sem,eg]
  · refine (hit (w.heap.size + 1)
      (fun b pre W=>I b pre W∧W.heap[w.heap.size+1]? = some (.loop (L .ready none))∧W.heap[w.heap.size]? = some (.deferred (some []))∧∀ g,b=some g→w.heap.size+1 < g)
      (fun pre W=>∃ c,Ix c pre W∧W.heap[w.heap.size+1]? = some (.loop (L .done (some c)))∧W.heap[w.heap.size]? = some (.deferred (some [])))
      W1 (hU.trans hU1) ?_ ?_ ⟨hI1,hl1,hd1,fun g e=>by cases e⟩).mono ?_
    · rintro b b' pre A A' ⟨hi, hl, hd, hb⟩ hs; have hlt := (Array.getElem?_eq_some_iff.1 hl).1; refine ⟨hI b b' pre A A' hi hs (by omega) (fun g e => by have := hb g e; omega), (hs.block _ hlt fun e => by have := hb _ e.symm; omega).trans hl,
        (hs.block _ (by omega) fun e=>by have:=hb _ e.symm;omega).trans hd,fun g e=>?_⟩
      rcases hs.at_ with e' | ⟨g',e',hg'⟩
      · exact hb g (e'.symm.trans e)
      · rw[e]at e';cases e';omega
    · rintro b pre x W ⟨hi, hl, hd, hb⟩ hpre; have hlt := (Array.getElem?_eq_some_iff.1 hl).1; have hy := run_yield (P := P) (args := encs x) hl (by rw [hL]; exact hps x); rw [hL] at hy; refine ⟨fn, _, assign, body, hy, roundIn_of_wpIn hfn (hassign _ x W _ ⟨_, run_beginRound hl (by rw [hL]), ?_⟩)⟩; have hl2 : (W.putObj (w.heap.size + 1) (.loop { L .ready none with state := .busy })).heap[w.heap.size + 1]? = some (.loop { L .ready none with state := .busy }) := World.putObj_heap_same hlt; have hd2 : (W.putObj (w.heap.size + 1) (.loop { L .ready none with state := .busy })).heap[w.heap.size]? = some (.deferred (some [])) := (World.putObj_heap_other (by omega)).trans hd; have hnR : ¬ R (w.heap.size + 1) := fun h => by have := hR _ h; omega
      have hnb:b≠some (w.heap.size+1):=fun e=>by have:=hb _ e;omega
      refine wpIn_mono (hbody _ b pre x _ (by simp;omega) (fun g e=>by have:=hb g e;omega) (hIo _ _ _ _ _ _ hi (by omega) hl rfl) hpre) ?_;have fin:∀(jump:Option Code) (W3:World),KeepsFrom w.heap.size (W.putObj (w.heap.size+1) (.loop { L .ready none with state:=.busy })) W3 →
       (Instr.endRound (w.heap.size+1) jump).run P W3 = .ok (.bool jump.isNone) (W3.putObj (w.heap.size+1) (.loop (L (if jump.isNone then .ready else .done) jump))) ∧
       W3.heap[w.heap.size+1]? = some (.loop { L .ready none with state:=.busy }) ∧
       (W3.putObj (w.heap.size+1) (.loop (L (if jump.isNone then .ready else .done) jump))).heap[w.heap.size+1]? = some (.loop (L (if jump.isNone then .ready else .done) jump)) ∧
       (W3.putObj (w.heap.size+1) (.loop (L (if jump.isNone then .ready else .done) jump))).heap[w.heap.size]? = some (.deferred (some [])):=fun jump W3 hk3=>by
       have hl3:=hk3.same _ _ (by omega) hl2 rfl;have:=run_endRound (P:=P) jump hl3;rw[hL]at this ⊢;exact⟨this,by rw[hL]at hl3;exact hl3,World.putObj_heap_same (Array.getElem?_eq_some_iff.1 hl3).1,(World.putObj_heap_other (by omega)).trans (hk3.same _ _ (by omega) hd2 rfl)⟩
      rintro e a3 W3 hp
      cases e with
      | normal =>
        obtain⟨hk3,hkp3,hi3⟩:=hp;obtain⟨hr,hl3,hl4,hk4⟩:=fin none W3 hk3;exact⟨_,_,hr,.inl ⟨rfl,⟨hIo _ _ _ _ _ _ hi3 (by omega) hl3 rfl,hl4,hk4,hb⟩,((Kept.putObj _ hnR hnb).trans hkp3).trans (Kept.putObj _ hnR hnb)⟩⟩
      | ret =>
        obtain⟨hk3,hi3⟩:=hp;obtain⟨hr,hl3,hl4,hk4⟩:=fin (some .ret) W3 hk3;exact⟨_,_,hr,.inr ⟨rfl,.ret,hIx _ _ _ _ _ _ hi3 (by omega) hl3 rfl,hl4,hk4⟩⟩
      | exit id =>
        obtain⟨hk3,hi3⟩:=hp;obtain⟨hr,hl3,hl4,hk4⟩:=fin (some (.exit id)) W3 hk3;exact⟨_,_,hr,.inr ⟨rfl,.exit id,hIx _ _ _ _ _ _ hi3 (by omega) hl3 rfl,hl4,hk4⟩⟩
      | goto t =>
        obtain⟨hk3,hi3⟩:=hp;obtain⟨hr,hl3,hl4,hk4⟩:=fin (some (.goto t)) W3 hk3;exact⟨_,_,hr,.inr ⟨rfl,.goto t,hIx _ _ _ _ _ _ hi3 (by omega) hl3 rfl,hl4,hk4⟩⟩
      | panic ch=>exact hp.elim
      | outgrown=>exact hp.elim
    · rintro e W2 ⟨⟨v, rfl⟩, (⟨b, hi, hl, hk, _⟩ | ⟨pre, c, hi, hl, hk⟩)⟩
      · exact⟨none,_,by have:=run_endLoop (P:=P) hl (by rw[hL];simp);rw[hL]at this;exact this,hdone _ b _ (Nat.le_refl _) (hIo _ _ _ _ _ _ hi (by omega) hl rfl) ((World.putObj_heap_other (by omega)).trans hk)⟩
      · exact⟨some c,_,by have:=run_endLoop (P:=P) hl (by rw[hL];simp);rw[hL]at this;exact this,hstop _ c pre _ (Nat.le_refl _) (hIx _ _ _ _ _ _ hi (by omega) hl rfl) ((World.putObj_heap_other (by omega)).trans hk)⟩
end Go.Lx
