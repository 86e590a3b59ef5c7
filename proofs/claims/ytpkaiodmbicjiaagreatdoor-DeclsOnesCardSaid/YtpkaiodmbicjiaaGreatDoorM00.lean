/- Part 0 of what the proof rests on. -/
import Derived.Below
import Derived.OwnWalk
import Derived.Maps.AppendAt
import Derived.Deep.Draws
import Derived.RangeFuncNested
import Derived.RangeFuncLeaves
import Derived.OwnWalkIn
import Derived.MapKept
import Derived.Laws.Strings
import Derived.Lib.ItoaLen
import Derived.Lib.Hide
set_option linter.unusedSimpArgs false
set_option linter.unusedVariables false
namespace Go
theorem Qa{α:Type _}{l:List α}{i:Nat}(h:i<l.length):l[i]?=some l[i]:=List.getElem?_eq_getElem h
theorem Qb{n m k:Nat}(h:n<m)(g:m<=k):n<k:=Nat.lt_of_lt_of_le h g
theorem Qc{α:Type _}{as bs:List α}:(as++bs).length=as.length+bs.length:=List.length_append
theorem Qd(n:Nat):n<=n:=Nat.le_refl n
theorem Qe{α:Type _}{i:Nat}{b:α}{xs:Array α}:xs[i]?=some b↔∃h:i<xs.size,xs[i]=b:=Array.getElem?_eq_some_iff
theorem Qf{α:Type _}{a b:α}:(some a).getD b=a:=rfl
theorem Qg{α:Type _}{xs:Array α}{i j:Nat}(h:i≠j){a:α}:(xs.setIfInBounds i a)[j]?=xs[j]?:=Array.getElem?_setIfInBounds_ne h
theorem Qh{α:Type _}(y:α){a:α}{l:List α}(h:a∈l):a∈y::l:=List.mem_cons_of_mem y h
theorem Qi{α:Type _}{i:Nat}{l:List α}(h:i<l.length):l.drop i=l[i]::l.drop (i+1):=List.drop_eq_getElem_cons h
theorem Qj{α:Type _}{i:Nat}{l:List α}(h:i<l.length):l.take (i+1)=l.take i++[l[i]]:=List.take_succ_eq_append_getElem h
theorem Qk{α:Type _}{a:α}{as:List α}:(a::as).length=as.length+1:=List.length_cons
theorem Ql{n m k:Nat}(h:n<=m)(g:m<=k):n<=k:=Nat.le_trans h g
theorem Qn{α:Type _}{a:α}{l:List α}:a∈a::l:=List.mem_cons_self
theorem Qo{α:Type _}{i:Nat}{a:α}{l:List α}:l[i]?=some a↔∃h:i<l.length,l[i]=a:=List.getElem?_eq_some_iff
theorem Qr{α:Type _}{l:List α}{n:Nat}(h:n<l.length):l[n]∈l:=List.getElem_mem h
theorem Qs:(false=true)=False:=Bool.false_eq_true
theorem Qt{α:Type _}{a b:α}(h:some a=some b):a=b:=Option.some.inj h
end Go
namespace Go
theorem aA{p:Prop}(h:p):RowKit.Hid p:=Lib.hid h
end Go
namespace Go.Lx
open Go.RowKit
theorem bE(w:World)(o:Obj):(w.alloc o).heap=w.heap.push o:=rfl
theorem heap_set(w:World)(a:Addr)(v:Value)(b:Nat)(hb:b≠a.block):(w.setCell a v).heap[b]? = w.heap[b]? := by
 simp only[World.setCell];rw[Array.getElem?_modify];simp[Ne.symm hb]
theorem kM(w:World){b i:Nat}{cs:Array Value}{ty:TypeId}{fz:Nat×Nat}(h:w.heap[b]? = some (.cells cs ty fz))(v:Value) :
 (w.setCell ⟨b,i,none⟩ v).heap[b]? = some (.cells (cs.setIfInBounds i v) ty fz):=by
 simp only[World.setCell];rw[Array.getElem?_modify];simp[h]
theorem qJ(w:World)(a:Addr)(v:Value):(w.setCell a v).heap.size=w.heap.size:=by simp[World.setCell]
theorem y0A(b j:Nat):(⟨b,0,none⟩:Addr).add j=⟨b,j,none⟩:=by unfold Addr.add;split<;>simp_all
section
variable {w w' : World} {base : Nat} {e : TypeId} {size n : Nat} {v : Value} {xs : List Value}
theorem yE(h:w.ownsRow base e size v n xs)(hn:0 < n):∃ g cap,v = .slice (some ⟨g,0,none⟩) n cap/\v.ownBlock=some g/\base<=g/\g < w.heap.size/\n<=cap/\cap<=maxLen:=by
 rcases h.2 with⟨_,h0⟩|⟨g,cap,cur,rfl,hb,hg,h1,h2,_⟩
 . omega
 . exact⟨g,cap,rfl,rfl,hb,(Qe.1 hg).1,h1,h2⟩
theorem rD(h:w.ownsRow base e size v n xs){g:Nat}(hg:v.ownBlock=some g){j:Nat}{u:Value}(hu:xs[j]? = some u):w.cell? ⟨g,j,none⟩=some u:=by
 have:=h.cells hg j u hu
 rwa [y0A]at this
theorem mLA(h:w.ownsRow base e size v n xs){g:Nat}(hg:v.ownBlock=some g)(j:Nat):w.frozen? ⟨g,j,none⟩=false:=by
 rcases h.2 with⟨rfl,_⟩|⟨g',cap,cur,rfl,_,hgg,_⟩
 . cases hg
 . cases hg;simp[World.frozen?,hgg]
theorem iTA(h:w.ownsRow base e size v n xs){g:Nat}(hg:v.ownBlock=some g){j:Nat}(hj:j < xs.length)(u:Value):(w.setCell ⟨g,j,none⟩ u).ownsRow base e size v n (xs.set j u):=by
 rcases h.2 with⟨rfl,_⟩|⟨g',cap,cur,rfl,hb,hgg,h1,h2,h3,h4⟩
 . cases hg
 . cases hg;refine⟨by rw[List.length_set];exact h.1,.inr ⟨_,cap,cur.setIfInBounds j u,rfl,hb,kM w hgg u,h1,h2,by rw[Array.size_setIfInBounds];exact h3,?_⟩⟩;rw[Array.toList_setIfInBounds,List.take_set,h4]
theorem qD(h:w.ownsRow base e size v n xs){b:Nat}(hg:v.ownBlock≠some b)(j:Nat)(u:Value):(w.setCell ⟨b,j,none⟩ u).ownsRow base e size v n xs:=by
 refine⟨h.1,?_⟩;rcases h.2 with hn|⟨g,cap,cur,rfl,hb,hgg,rest⟩
 . exact .inl hn
 . refine .inr ⟨g,cap,cur,rfl,hb,?_,rest⟩;rw[heap_set w _ u g (λe=>hg (by simp[Value.ownBlock,e]))];exact hgg
theorem rR{g cap:Nat}(h:w.ownsRow base e size (.slice (some ⟨g,0,none⟩) n cap) n xs){m:Nat}(hm:m<=n):w.ownsRow base e size (.slice (some ⟨g,0,none⟩) m cap) m (xs.take (m * size)):=by
 have hle:m * size<=n * size:=Nat.mul_le_mul_right _ hm;rcases h.2 with⟨h0,_⟩|⟨g',cap',cur,hv,hb,hgg,h1,h2,h3,h4⟩
 . cases h0
 . cases hv;refine⟨by rw[List.length_take,h.1];omega,.inr ⟨g,cap,cur,rfl,hb,hgg,by omega,h2,h3,?_⟩⟩;rw[<- h4,List.take_take,Nat.min_eq_left hle]
theorem rC{row:Option Nat}(h:w.ownsRow base e size v n xs)(hg:w.grownBy w' row)(hne:v.ownBlock=none∨v.ownBlock≠row):w'.ownsRow base e size v n xs:=h.kept hg hne
end
def aB:Code->Code
  | .seq a _=>a
  | c=>c
def jA:Code->Code
  | .seq _ b=>b
  | c=>c
def nC:Code->Code
  | .block _ c=>c
  | .loop c=>c
  | .scope c=>c
  | c=>c
theorem bB{df:List Deferred}{A:Array Value}{F:(Nat->Value)->Array Value}{Pr:Prop}(h:A=F λn=>A.getD n undef)(hp:Pr):∃ J':Nat->Value,(⟨A,df⟩:Act)=⟨F J',df⟩/\Pr:=⟨_,by rw[<- h],hp⟩
structure Under (W w:World):Prop where
 os:w.os=W.os
 output:w.output=W.output
 size:W.heap.size<=w.heap.size
 low:∀ b,b < W.heap.size->w.heap[b]? = W.heap[b]?
section
variable {W w w' : World}
theorem Under.refl(a:World):Under a a:=⟨rfl,rfl,Qd _,λ_ _=>rfl⟩
theorem Under.trans{a b c:World}(h:Under a b)(k:Under b c):Under a c:=⟨k.os.trans h.os,k.output.trans h.output,Ql h.size k.size,λi hi=>(k.low i (Qb hi h.size)).trans (h.low i hi)⟩
theorem bA(h:Under W w)(x:Obj):Under W (w.alloc x) :=
 ⟨h.os,h.output,by have:=h.size;rw[bE,Array.size_push];omega,λb hb=>by
   rw[bE,Array.getElem?_push_lt (Qb hb h.size),<- Array.getElem?_eq_getElem];exact h.low b hb⟩
theorem nA(h:Under W w){g:Nat}(hg:W.heap.size<=g)(j:Nat)(u:Value):Under W (w.setCell ⟨g,j,none⟩ u) :=
 ⟨h.os,h.output,by rw[qJ];exact h.size,λb hb=>by rw[heap_set w _ u b (by show b≠g;omega)];exact h.low b hb⟩
theorem eB{row:Option Nat}(h:Under W w)(hg:w.grownBy w' row)(hr:∀ g,row=some g->W.heap.size<=g):Under W w' :=
 ⟨hg.os.trans h.os,hg.output.trans h.output,Ql h.size hg.size,λb hb=>(hg.block b (Qb hb h.size) (λe=>by have:=hr b e.symm;omega)).trans (h.low b hb)⟩
theorem iB(h:Under W w)(n:Nat):Under W (w.drewN n):=⟨h.os,h.output,h.size,h.low⟩
theorem fA(h:Under W w):Under W w.drew:=⟨h.os,h.output,h.size,h.low⟩
theorem qP(h:Below w.heap.size w w'):Under w w':=⟨h.os,h.output,h.size,λb hb=>h.block b hb⟩
theorem iA(h:Under W w){b:Nat}(hb:b < W.heap.size)(j:Nat):w.cell? ⟨b,j,none⟩=W.cell? ⟨b,j,none⟩:=by simp only[World.cell?,h.low b hb]
theorem xB{base:Nat}{e:TypeId}{size n:Nat}{v:Value}{xs:List Value}(h:w.ownsRow base e size v n xs){g:Nat}(hg:v.ownBlock=some g):base<=g/\g < w.heap.size:=by
 rcases h.2 with⟨rfl,_⟩|⟨g',cap,cur,rfl,hb,hgg,_⟩
 . cases hg
 . cases hg;exact⟨hb,(Qe.1 hgg).1⟩
theorem own_ne{base base':Nat}{e e':TypeId}{s s' n n':Nat}{v v':Value}{xs xs':List Value}(h:w.ownsRow base e s v n xs)(h':w.ownsRow base' e' s' v' n' xs')(hne:e≠e'):v.ownBlock=none∨v.ownBlock≠v'.ownBlock:=by
 rcases h.2 with⟨rfl,_⟩|⟨g,c,cur,rfl,_,hg,_⟩
 . exact .inl rfl
 . right
   rcases h'.2 with⟨rfl,_⟩|⟨g',c',cur',rfl,_,hg',_⟩
   . simp[Value.ownBlock]
   . intro e0;obtain rfl:g=g':=by simpa [Value.ownBlock] using e0
     rw[hg]at hg'
     cases hg';exact hne rfl
theorem uD{base base':Nat}{e:TypeId}{s n:Nat}{v:Value}{xs:List Value}(h:w.ownsRow base e s v n xs)(hb:base'<=base):w.ownsRow base' e s v n xs:=by
 refine⟨h.1,?_⟩;rcases h.2 with hn|⟨g,cap,cur,rfl,hb',rest⟩
 . exact .inl hn
 . exact .inr ⟨g,cap,cur,rfl,Ql hb hb',rest⟩
theorem uA{base:Nat}{e:TypeId}{s n:Nat}{v:Value}{xs:List Value}(h:w.ownsRow base e s v n xs)(hU:Under w w'):w'.ownsRow base e s v n xs:=by
 refine⟨h.1,?_⟩;rcases h.2 with hn|⟨g,cap,cur,rfl,hb,hgg,rest⟩
 . exact .inl hn
 . exact .inr ⟨g,cap,cur,rfl,hb,by rw[hU.low g (Qe.1 hgg).1];exact hgg,rest⟩
end
theorem tN(b off j:Nat):(⟨b,off,none⟩:Addr).add j=⟨b,off+j,none⟩:=by unfold Addr.add;split<;>simp_all
def BoxAt(w:World)(b:Nat)(t:TypeId)(cs:Array Value):Prop:=w.heap[b]? = some (.cells cs t (0,0))
theorem zA(w:World)(cs:Array Value)(t:TypeId):BoxAt (w.alloc (.cells cs t)) w.heap.size t cs:=by simp[BoxAt,bE]
section
variable {w w' : World} {b : Nat} {t : TypeId} {cs : Array Value}
theorem BoxAt.lt(h:BoxAt w b t cs):b < w.heap.size:=(Qe.1 h).1
theorem BoxAt.cell(h:BoxAt w b t cs)(j:Nat):w.cell? ⟨b,j,none⟩=cs[j]? := by
 unfold BoxAt at h;simp[World.cell?,h]
theorem BoxAt.free(h:BoxAt w b t cs)(j:Nat):w.frozen? ⟨b,j,none⟩=false:=by
 unfold BoxAt at h;simp[World.frozen?,h]
theorem BoxAt.set(h:BoxAt w b t cs)(j:Nat)(u:Value):BoxAt (w.setCell ⟨b,j,none⟩ u) b t (cs.setIfInBounds j u):=kM w h u
theorem BoxAt.other(h:BoxAt w b t cs){g:Nat}(hg:b≠g)(j:Nat)(u:Value):BoxAt (w.setCell ⟨g,j,none⟩ u) b t cs:=by
 unfold BoxAt;rw[heap_set w _ u b hg];exact h
theorem BoxAt.alloc(h:BoxAt w b t cs)(o:Obj):BoxAt (w.alloc o) b t cs:=by
 have hb:=h.lt;unfold BoxAt;rw[bE,Array.getElem?_push_lt hb,<- Array.getElem?_eq_getElem];exact h
theorem BoxAt.under(h:BoxAt w b t cs)(hU:Under w w'):BoxAt w' b t cs:=(hU.low b h.lt).trans h
theorem BoxAt.drew(h:BoxAt w b t cs):BoxAt w.drew b t cs:=h
theorem BoxAt.grown{row:Option Nat}(h:BoxAt w b t cs)(hg:w.grownBy w' row)(hr:some b≠row):BoxAt w' b t cs:=(hg.block b h.lt hr).trans h
end
def CellsAt(w:World)(b off:Nat)(cs:List Value):Prop:=∀(j:Nat) u,cs[j]? = some u->w.cell? ⟨b,off+j,none⟩=some u
def RowArg(w:World)(p:Option Addr)(cs:List Value):Prop:=cs≠[]->∃ b off,p=some ⟨b,off,none⟩/\b < w.heap.size/\CellsAt w b off cs
section
variable {w w' : World} {b off : Nat} {p : Option Addr} {cs ds : List Value}
theorem CellsAt.under(h:CellsAt w b off cs)(hb:b < w.heap.size)(hU:Under w w'):CellsAt w' b off cs:=λj u hj=>(iA hU hb _).trans (h j u hj)
theorem RowArg.under(h:RowArg w p cs)(hU:Under w w'):RowArg w' p cs:=λhne=>by
 obtain⟨b,off,e,hb,hc⟩:=h hne;exact⟨b,off,e,Qb hb hU.size,hc.under hb hU⟩
theorem wP(w:World)(cs:List Value)(t:TypeId)(c:Nat×Nat):RowArg (w.alloc (.cells cs.toArray t c)) (some ⟨w.heap.size,0,none⟩) cs :=
 λ_=>⟨_,0,rfl,by simp,λj u hj=>by rw[Nat.zero_add];simp only[World.cell?,bE,Array.getElem?_push_size];simp[hj]⟩
theorem RowArg.nil:RowArg w p []:=λh=>absurd rfl h
theorem RowArg.of_own{base:Nat}{e:TypeId}{s n:Nat}{v:Value}(h:w.ownsRow base e s v n cs):∃ q c,v = .slice q n c/\n<=c/\RowArg w q cs:=by
 rcases h.2 with⟨rfl,h0⟩|⟨g,cap,cur,rfl,_,hg,h1,h2,_⟩
 . subst h0;exact⟨none,0,rfl,Qd _,λhne=>absurd (List.eq_nil_of_length_eq_zero (by rw[h.1];omega)) hne⟩
 . exact⟨_,cap,rfl,h1,λ_=>⟨g,0,rfl,(Qe.1 hg).1,λj u hj=>by rw[Nat.zero_add];exact rD h rfl hj⟩⟩
theorem CellsAt.app(h:CellsAt w b off (cs++ds)):CellsAt w b off cs/\CellsAt w b (off+cs.length) ds :=
 ⟨λj u hj=>h j u (by rw[List.getElem?_append_left (Qo.1 hj).1];exact hj),
  λj u hj=>by rw[Nat.add_assoc];exact h _ u (by rw[List.getElem?_append_right (by omega),Nat.add_sub_cancel_left];exact hj)⟩
end
end Go.Lx
namespace Go.Lx
structure Nd where
 k:Int
 n:Int
 m:Int
 s:ByteArray
deriving DecidableEq
def wRA(x:Nd):List Value:=[.int .i64 x.k,.int .i64 x.n,.int .i64 x.m,.string x.s]
def dC:List Nd->List Value
  | []=>[]
  | x::l=>.int .i64 x.k :: .int .i64 x.n :: .int .i64 x.m :: .string x.s::dC l
def ndV(x:Nd):Value:=.agg #[.int .i64 x.k,.int .i64 x.n,.int .i64 x.m,.string x.s]
theorem gT(l r:List Nd):dC (l++r)=dC l++dC r:=by
 induction l with
 | nil=>rfl
 | cons x l ih=>simp[dC,ih]
theorem iU(l:List Nd):(dC l).length=l.length * 4:=by
 induction l with
 | nil=>rfl
 | cons x l ih=>simp[dC,ih];omega
theorem eBA{l:List Nd}(h:dC l=[]):l=[]:=by cases l with|nil=>rfl|cons x l=>simp[dC]at h
theorem dX:∀ {l:List Nd} {k:Nat} {x:Nd},l[k]? = some x->(dC l)[k * 4]? = some (.int .i64 x.k)/\(dC l)[k * 4+1]? = some (.int .i64 x.n)/\(dC l)[k * 4+2]? = some (.int .i64 x.m)/\(dC l)[k * 4+3]? = some (.string x.s)
  | y::l,0,x,h=>by cases h;exact⟨rfl,rfl,rfl,rfl⟩
  | y :: l, k + 1, x, h => by
    have:=dX (l:=l) (k:=k) (x:=x) (by simpa using h);rw[show(k+1) * 4=k * 4+4 by omega];exact this
theorem RowArg.node{w:World}{p:Option Addr}{l:List Nd}(h:RowArg w p (dC l)){k:Nat}{x:Nd}(hk:l[k]? = some x):∃ b off,p=some ⟨b,off,none⟩/\b < w.heap.size /\
 w.cell? ⟨b,off+k * 4,none⟩=some (.int .i64 x.k)/\w.cell? ⟨b,off+k * 4+1,none⟩=some (.int .i64 x.n)/\w.cell? ⟨b,off+k * 4+2,none⟩=some (.int .i64 x.m)/\w.cell? ⟨b,off+k * 4+3,none⟩=some (.string x.s):=by
 obtain⟨b,off,e,hb,hc⟩:=h (λe=>by rw[eBA e]at hk;simp at hk);obtain⟨h0,h1,h2,h3⟩:=dX hk;exact⟨b,off,e,hb,hc _ _ h0,hc _ _ h1,hc _ _ h2,hc _ _ h3⟩
def mQA(c:UInt8):Int:=bits BinOp.or IntKind.u8 (c.toNat:Int) 32
def pX(c:UInt8):Bool:=decide (97<=mQA c)&&decide (mQA c<=122)||(c.toNat:Int)==95
def zJA(c:UInt8):Bool := !(decide ((c.toNat:Int) < 48)) && !(decide (57 < (c.toNat:Int)))
def okB(i:Nat)(c:UInt8):Bool:=pX c||(decide (i≠0)&&zJA c)
def xD:Nat->List UInt8->Bool
  | _,[]=>true
  | i,c::r=>okB i c&&xD (i+1) r
def fD(s:ByteArray):Bool:=xD 0 s.data.toList&&(decide (s.size≠0)&&decide (s.size<=16))
def vJ:Nat->List Nat
  | 3=>[0,1]
  | 4=>[0,1]
  | 5=>[0,0]
  | 6=>[0,1]
  | 7=>[0,0,0]
  | 8=>[0]
  | 9=>[0]
  | 12=>[0]
  | 13=>[1,0,2,0]
  | 15=>[0,0]
  | 18=>[0,0,0]
  | 19=>[0,0]
  | 20=>[0,0,0,0]
  | 21=>[0,0,1,0,0,0]
  | 22=>[0,2,0,0,0]
  | 23=>[0,0]
  | 24=>[0,1,0,0]
  | 28=>[0]
  | _=>[]
def fN(k:Nat):Bool:=[0,2,3,6,26].contains k
def fM(k:Nat):Bool:=[26,27].contains k
def fS(k:Nat):Bool:=[1,25,26,27].contains k
def jN(l:List Nat):List Value:=l.map λ(n:Nat)=>.int .i64 (n:Int)
structure ShapesAt (g:Nat) (W:World):Prop where
 lt:g < W.heap.size
 row:∀ k,k < 30->∃ p c,W.cell? ⟨g,k * 4,none⟩=some (.slice p (vJ k).length c)/\(vJ k).length<=c/\RowArg W p (jN (vJ k)) /\
  W.cell? ⟨g,k * 4+1,none⟩=some (.bool (fN k))/\W.cell? ⟨g,k * 4+2,none⟩=some (.bool (fM k))/\W.cell? ⟨g,k * 4+3,none⟩=some (.bool (fS k))
theorem ShapesAt.under{g:Nat}{W w:World}(h:ShapesAt g W)(hU:Under W w):ShapesAt g w :=
 ⟨Qb h.lt hU.size,λk hk=>by
   obtain⟨p,c,h0,h1,h2,h3,h4,h5⟩:=h.row k hk;exact⟨p,c,(iA hU h.lt _).trans h0,h1,h2.under hU,(iA hU h.lt _).trans h3,(iA hU h.lt _).trans h4,(iA hU h.lt _).trans h5⟩⟩
def xAA(k:Int):Int:=if k=0 then 99 else if k=3∨k=6 then 3 else 5
def jB(x:Nd):Bool :=
 if x.k < 0∨30<=x.k then false
 else if fN x.k.toNat=false/\x.n≠0 then false
 else if fM x.k.toNat=false/\x.m≠0 then false
 else if fS x.k.toNat=false/\x.s.size≠0 then false
 else if fS x.k.toNat=true/\fD x.s=false then false
 else if x.k=2 then decide (0<=x.n)&&decide (x.n<=9)
 else if x.k=26 then decide (0<=x.n)&&decide (x.n<=5)&&decide (0<=x.m)&&decide (x.m<=6)
 else if x.k=27 then decide (0<=x.m)&&decide (x.m<=6)
 else !fN x.k.toNat||(decide (0<=x.n)&&decide (x.n<=xAA x.k))
def binds(x:Nd):List Nat :=
 if x.k=26 then List.replicate x.m.toNat 0 else if x.k=27 then 1::List.replicate (x.m.toNat+1) 0 else vJ x.k.toNat
theorem rZA{x:Nd}(h:jB x=true):0<=x.k/\x.k < 30:=by
 unfold jB at h
 split at h
 . cases h
 . omega
theorem oFA{x:Nd}(h:jB x=true)(hk:x.k=26∨x.k=27):0<=x.m/\x.m<=6:=by
 unfold jB at h;rcases hk with hk|hk<;>simp[hk]at h<;>omega
theorem xKA(k:Nat):(vJ k).length<=6:=by
 unfold vJ;split<;>simp
theorem q8{x:Nd}(h:jB x=true):(binds x).length<=8:=by
 unfold binds
 split
 . rw[List.length_replicate];have:=oFA h (.inl ‹_›);omega
 . split
   . rw[Qk,List.length_replicate];have:=oFA h (.inr ‹_›);omega
   . have:=xKA x.k.toNat;omega
def meas(i:Nat)(l:List (Nat×Nat)):Nat×Nat:=((l.headD (i,0)).1,l.foldl (λd x=>max d (x.2+1)) 1)
def yD:List Nd->Nat->List (Nat×Nat)->List (Nat×Nat)->Option (List (Nat×Nat)×List (Nat×Nat))
  | [],_,all,op=>some (all,op)
  | x :: t, i, all, op => if jB x = false ∨ op.length < (binds x).length then none else
    let m:=meas i (op.drop (op.length - (binds x).length))
    yD t (i+1) (all++[m]) (op.take (op.length - (binds x).length)++[m])
def bF(t:List Nd):Int :=
 if 4000 < t.length then 21 else
  match yD t 0 [] [] with
  | none=>20
  | some (all,op)=>if op.length≠1 then 20 else if 60 < (all.getLastD (0,0)).2 then 22 else 0
end Go.Lx
namespace Go.Lx
open Go.RowKit
structure Kept (R:Nat->Prop) (b:Option Nat) (W W':World):Prop where
 os:W'.os=W.os
 output:W'.output=W.output
 size:W.heap.size<=W'.heap.size
 same:∀ k,k < W.heap.size->(R k∨b=some k)->W'.heap[k]? = W.heap[k]?
structure IStep (b b':Option Nat) (W W':World):Prop where
 os:W'.os=W.os
 output:W'.output=W.output
 size:W.heap.size<=W'.heap.size
 block:∀ k,k < W.heap.size->some k≠b->W'.heap[k]? = W.heap[k]?
 at_:b'=b∨∃ g,b'=some g/\W.heap.size<=g
theorem IStep.under{W W':World}(h:Under W W')(b:Option Nat):IStep b b W W':=⟨h.os,h.output,h.size,λk hk _=>h.low k hk,.inl rfl⟩
theorem IStep.alloc(W:World)(o:Obj)(b:Option Nat):IStep b b W (W.alloc o):=IStep.under (bA (Under.refl _) _) b
theorem IStep.grown{W W':World}{b b':Option Nat}(h:W.grownBy W' b)(hb:b'=b∨b'=some W.heap.size):IStep b b' W W' :=
 ⟨h.os, h.output, h.size, h.block, by rcases hb with h | h; · exact .inl h
                                      . exact .inr ⟨_,h,Qd _⟩⟩
theorem Kept.refl(R:Nat->Prop)(b:Option Nat)(W:World):Kept R b W W:=⟨rfl,rfl,Qd _,λ_ _ _=>rfl⟩
theorem Kept.trans{R:Nat->Prop}{b:Option Nat}{A B C:World}(h:Kept R b A B)(k:Kept R b B C):Kept R b A C :=
 ⟨k.os.trans h.os,k.output.trans h.output,Ql h.size k.size,λi hi hr=>(k.same i (Qb hi h.size) hr).trans (h.same i hi hr)⟩
theorem Kept.putObj{R:Nat->Prop}{b:Option Nat}{W:World}{l:Nat}(o:Obj)(hR:¬ R l)(hb:b≠some l):Kept R b W (W.putObj l o) :=
 ⟨rfl,rfl,by simp,λk hk hr=>World.putObj_heap_other λe=>by
   rcases hr with hr|hr
   . exact hR (e▸hr)
   . exact hb (e▸hr)⟩
theorem Under.kept{W0 W W':World}{R:Nat->Prop}{b:Option Nat}(h:Under W0 W)(hk:Kept R b W W')(hR:∀ k,k < W0.heap.size->R k):Under W0 W' :=
 ⟨hk.os.trans h.os,hk.output.trans h.output,Ql h.size hk.size,λk hlt=>(hk.same k (Qb hlt h.size) (.inl (hR k hlt))).trans (h.low k hlt)⟩
theorem Kept.of_under{W W':World}{R:Nat->Prop}{b:Option Nat}(h:Under W W'):Kept R b W W':=⟨h.os,h.output,h.size,λk hk _=>h.low k hk⟩
structure Turned (r:Option Nat) (W W':World):Prop where
 os:W'.os=W.os
 output:W'.output=W.output
 size:W.heap.size<=W'.heap.size
 block:∀ k,k < W.heap.size->some k≠r->W'.heap[k]? = W.heap[k]?
theorem Turned.refl(r:Option Nat)(W:World):Turned r W W:=⟨rfl,rfl,Qd _,λ_ _ _=>rfl⟩
theorem Turned.trans{r:Option Nat}{A B C:World}(h:Turned r A B)(k:Turned r B C):Turned r A C :=
 ⟨k.os.trans h.os,k.output.trans h.output,Ql h.size k.size,λi hi hr=>(k.block i (Qb hi h.size) hr).trans (h.block i hi hr)⟩
theorem Turned.of_under{r:Option Nat}{A B:World}(h:Under A B):Turned r A B:=⟨h.os,h.output,h.size,λk hk _=>h.low k hk⟩
theorem Turned.set(g j:Nat)(u:Value)(W:World):Turned (some g) W (W.setCell ⟨g,j,none⟩ u) :=
 ⟨rfl,rfl,by rw[qJ];exact Qd _,λk hk hr=>heap_set W _ u k λe=>hr (congrArg some e)⟩
theorem Turned.under{W0 W W':World}{g:Nat}(h:Turned (some g) W W')(h0:Under W0 W)(hg:W0.heap.size<=g):Under W0 W' :=
 ⟨h.os.trans h0.os,h.output.trans h0.output,Ql h0.size h.size,λk hk=>(h.block k (Qb hk h0.size) λe=>by cases e;omega).trans (h0.low k hk)⟩
theorem BoxAt.turned{w w':World}{b:Nat}{t:TypeId}{cs:Array Value}{r:Option Nat}(h:BoxAt w b t cs)(hT:Turned r w w')(hr:some b≠r):BoxAt w' b t cs:=(hT.block b h.lt hr).trans h
variable {F : Fence} {n : Nat} {P : Program}
end Go.Lx
namespace Go.Lx
open Go.RowKit Go.MapKept
theorem bytes_beq(a b:ByteArray):(a==b)=decide (a=b):=by
 obtain⟨x⟩:=a;obtain⟨y⟩:=b;have h:((⟨x⟩:ByteArray)==⟨y⟩)=(x==y):=rfl;rw[h,Bool.eq_iff_iff];simp
abbrev tH:=List (ByteArray×Value)
def fJ:tH->ByteArray->Option Value
  | [],_=>none
  | (a,v)::r,k=>if k=a then some v else fJ r k
def yBA:tH->ByteArray->Value->tH
  | [],k,v=>[(k,v)]
  | (a,u)::r,k,v=>if k=a then(k,v)::r else(a,u)::yBA r k v
def MapAt(w:World)(b:Nat)(ks:tH):Prop:=∃ es clock,w.heap[b]? = some (.map es clock)/\es.toList.map (λe=>(e.key,e.val))=ks.map λp=>(.string p.1,p.2)
theorem MapAt.lt{w:World}{b:Nat}{ks:tH}(h:MapAt w b ks):b < w.heap.size:=by
 obtain⟨es,clock,hb,_⟩:=h;exact(Qe.1 hb).1
theorem MapAt.under{w w':World}{b:Nat}{ks:tH}(h:MapAt w b ks)(hU:Under w w'):MapAt w' b ks:=by
 obtain⟨es,clock,hb,he⟩:=h;exact⟨es,clock,(hU.low b (Qe.1 hb).1).trans hb,he⟩
theorem MapAt.turned{w w':World}{b:Nat}{ks:tH}{r:Option Nat}(h:MapAt w b ks)(hT:Turned r w w')(hr:some b≠r):MapAt w' b ks:=by
 obtain⟨es,clock,hb,he⟩:=h;exact⟨es,clock,(hT.block b (Qe.1 hb).1 hr).trans hb,he⟩
theorem MapAt.cast{w:World}{b:Nat}{ks ks':tH}(h:MapAt w b ks)(e:ks=ks'):MapAt w b ks':=e▸h
theorem xJA(w:World):MapAt (w.alloc (.map #[] 0)) w.heap.size []:=⟨#[],0,by simp[bE],rfl⟩
def qU:tH->ByteArray->Nat->Option (Nat×Value)
  | [],_,_=>none
  | (a,v)::r,k,i=>if k=a then some (i,v) else qU r k (i+1)
theorem bIA:∀(ks:tH) (k:ByteArray) (i:Nat),(qU ks k i).map (·.2)=fJ ks k
  | [],_,_=>rfl
  | (a, v) :: r, k, i => by
    simp only[qU,fJ]
    split
    . rfl
    . exact bIA r k (i+1)
theorem xW:∀(es:List MapEntry) (ks:tH) (k:ByteArray) (i:Nat),es.map (λe=>(e.key,e.val))=ks.map (λp=>(Value.string p.1,p.2))->Instr.findNow .string (.string k) es i=some (qU ks k i)
  | [],[],_,_,_=>rfl
  | [],_::_,_,_,h=>by simp at h
  | _::_,[],_,_,h=>by simp at h
  | e :: es, (a, v) :: r, k, i, h => by
    simp only[List.map_cons,List.cons.injEq,Prod.mk.injEq]at h;obtain⟨⟨h1,h2⟩,h3⟩:=h;simp only[Instr.findNow,Instr.sameNow,h1,qU];by_cases hk:k=a
    . subst hk;rw[bytes_beq];simp[h2]
    . have:(k==a)=false:=by rw[bytes_beq];simpa using hk
      rw[this,if_neg hk];exact xW es r k (i+1) h3
theorem oRA{ks:tH}{k:ByteArray}{i j:Nat}{v:Value}(h:qU ks k i=some (j,v)):i<=j/\ks[j - i]? = some (k,v)/\∀ u,yBA ks k u=ks.set (j - i) (k,u):=by
 induction ks generalizing i with
 | nil=>cases h
 | cons p r ih =>
   obtain⟨a,y⟩:=p;simp only[qU]at h
   split at h
   . rename_i hk
     cases h;subst hk;exact⟨Qd _,by simp,λu=>by simp[yBA]⟩
   . rename_i hk;obtain⟨h1,h2,h3⟩:=ih h;refine⟨by omega,?_,λu=>?_⟩
     . rw[show j - i=(j - (i+1))+1 by omega];simpa using h2
     . rw[show j - i=(j - (i+1))+1 by omega];simp[yBA,hk,h3]
theorem cSA{ks:tH}{k:ByteArray}{i:Nat}(h:qU ks k i=none)(u:Value):yBA ks k u=ks++[(k,u)]:=by
 induction ks generalizing i with
 | nil=>rfl
 | cons p r ih =>
   obtain⟨a,y⟩:=p;simp only[qU]at h
   split at h
   . cases h
   . rename_i hk;simp[yBA,hk,ih h]
section
variable {P : Program} {w : World} {b : Nat} {ks : tH} {t kt et : TypeId} {k : ByteArray} {v : Value}
theorem yS{es:Array MapEntry}{clock:Nat}(hb:w.heap[b]? = some (.map es clock)):(getObj b).run P w = .ok (.map es clock) w:=by simp[getObj,Sem.run,hb]
theorem uJ(e:Bool)(hk:P.underlying kt=some .string):(Instr.checkKey e 10000 kt (.string k)).run P w = .ok () w:=by
 rw[show(10000:Nat)=9999+1 from rfl,Instr.checkKey];simp[run_underlying hk]
theorem MapAt.update(h:MapAt w b ks)(ht:P.underlying t=some (.map kt et))(hk:P.underlying kt=some .string) :
 ∃ w',(Instr.mapUpdate t (.map (some b)) (.string k) v).run P w = .ok () w'/\MapAt w' b (yBA ks k v)/\Turned (some b) w w':=by
 obtain⟨es,clock,hb,he⟩:=h;have hlt:=(Qe.1 hb).1;have hf:=run_findKey (P:=P) (w:=w) hk (xW es.toList ks k 0 he)
 cases hm:qU ks k 0 with
 | none =>
   rw[hm]at hf;refine⟨w.putObj b (.map (es.push { key:=.string k,val:=v,born:=clock }) (clock+1)),?_,⟨_,_,World.putObj_heap_same hlt,?_⟩,⟨rfl,rfl,by simp,λj hj hr=>World.putObj_heap_other λe=>hr (congrArg some e)⟩⟩
   . simp[Instr.mapUpdate,run_underlying ht,run_underlying hk,yS (P:=P) hb,uJ (P:=P) (w:=w) _ hk,hf,setObj,Sem.run,hb,Result.andThen,World.putObj]
   . rw[cSA hm];simp[he]
 | some r =>
   obtain⟨j,u⟩:=r;rw[hm]at hf;obtain⟨_,h2,h3⟩:=oRA hm;rw[Nat.sub_zero]at h2 h3;have hj:es.toList[j]?.map (λe=>(e.key,e.val))=some (.string k,u):=by
    have:=congrArg (λl=>l[j]?) he;simp only[List.getElem?_map,h2]at this
    simpa using this
   have hkey:((es[j]?).map (·.key)).getD (.string k) = .string k:=by
    cases hq:es[j]? with
    | none=>rfl
    | some e =>
      have:es.toList[j]? = some e:=by simpa using hq
      rw[this]at hj;simp at hj;simp[hj.1]
   refine⟨w.putObj b (.map (es.modify j λe=>{ e with key:=.string k,val:=v }) clock),?_,⟨_,_,World.putObj_heap_same hlt,?_⟩,⟨rfl,rfl,by simp,λi hi hr=>World.putObj_heap_other λe=>hr (congrArg some e)⟩⟩
   . simp[Instr.mapUpdate,run_underlying ht,run_underlying hk,yS (P:=P) hb,uJ (P:=P) (w:=w) _ hk,hf,setObj,Sem.run,hb,Result.andThen,World.putObj,hkey,Instr.keyThatStays,Instr.sameBits,bytes_beq]
   . rw[h3];apply List.ext_getElem?;intro i;have hi:=congrArg (λl=>l[i]?) he;simp only[List.getElem?_map]at hi;simp only[List.getElem?_map,List.getElem?_set];by_cases e:j=i
     . subst e;have hjl:j < ks.length:=(Qo.1 h2).1
       cases hq:es.toList[j]? with
       | none=>rw[hq]at hj;cases hj
       | some x =>
         have hjs:j < es.size:=by have:=(Qo.1 hq).1;simpa using this
         have hx:es[j]? = some x:=by simpa using hq
         simp[hjl,Array.getElem?_modify,hx,hjs]
     . rw[if_neg e,<- hi];simp[Array.getElem?_modify,e]
theorem MapAt.lookup(h:MapAt w b ks)(ht:P.underlying t=some (.map kt et))(hk:P.underlying kt=some .string){z:Value}(hz:(zeroValue et).run P w = .ok z w) :
 (Instr.lookup t (.map (some b)) (.string k) true).run P w = .ok (.tuple #[(fJ ks k).getD z,.bool (fJ ks k).isSome]) w/\(Instr.lookup t (.map (some b)) (.string k) false).run P w = .ok ((fJ ks k).getD z) w:=by
 obtain⟨es,clock,hb,he⟩:=h;have hf:=run_findKey (P:=P) (w:=w) hk (xW es.toList ks k 0 he);have hg:=bIA ks k 0
 cases hm:qU ks k 0 with
 | none =>
   rw[hm]at hf hg;rw[<- hg];constructor<;>simp[Instr.lookup,run_underlying ht,run_underlying hk,yS (P:=P) hb,uJ (P:=P) (w:=w) _ hk,hf,hz,Result.andThen]
 | some r =>
   rw[hm]at hf hg;rw[<- hg];constructor<;>simp[Instr.lookup,run_underlying ht,run_underlying hk,yS (P:=P) hb,uJ (P:=P) (w:=w) _ hk,hf,Result.andThen]
theorem mI{ops:Array Oper}{rest:List Oper}{o:Oper}{a:Act}{Q:Exit->Act->World->Prop}(hg:o.guard=none)(m x y:Operand)(hop:o.op=Op.insert t m x y∨o.op=Op.mapUpdate t m x y)
    (ht:P.underlying t=some (.map kt et)) (hk:P.underlying kt=some .string) (em:a.eval m = .map (some b)) (hm:MapAt w b ks) (ex:a.eval x = .string k) (ey:a.eval y=v)
    (h:∀ w',MapAt w' b (yBA ks k v)->Turned (some b) w w'->wpList P ops Q rest (a.put o.dst undef) w'):wpList P ops Q (o::rest) a w:=by
  refine wpList_plain hg λK' hK'=>?_
  obtain⟨w',hrun,r1,r2⟩:=hm.update (v:=v) (k:=k) ht hk;unfold Oper.wp;rcases hop with hop|hop
  . simp[execOp,hop,em,ex,ey,hrun,Result.andThen];exact hK' _ _ (h w' r1 r2)
  . simp[execOp,hop,em,ex,ey,hrun,Result.andThen];exact hK' _ _ (h w' r1 r2)
theorem vC{ops:Array Oper}{rest:List Oper}{o:Oper}{a:Act}{Q:Exit->Act->World->Prop}(hg:o.guard=none)(m x:Operand)(ok:Bool)(hop:o.op=Op.lookup t m x ok)
    (ht:P.underlying t=some (.map kt et)) (hk:P.underlying kt=some .string) {z:Value} (hz:(zeroValue et).run P w = .ok z w) (em:a.eval m = .map (some b)) (hm:MapAt w b ks) (ex:a.eval x = .string k)
    (h:wpList P ops Q rest (a.put o.dst (if ok then .tuple #[(fJ ks k).getD z,.bool (fJ ks k).isSome] else(fJ ks k).getD z)) w):wpList P ops Q (o::rest) a w:=by
  refine wpList_plain hg λK' hK'=>?_
  obtain⟨r1,r2⟩:=hm.lookup (k:=k) ht hk hz;unfold Oper.wp
  cases ok with
  | true=>simp[execOp,hop,em,ex,r1,Result.andThen];exact hK' _ _ (by simpa using h)
  | false=>simp[execOp,hop,em,ex,r2,Result.andThen];exact hK' _ _ (by simpa using h)
end
end Go.Lx
namespace Go.Lx
open Go.RowKit
theorem nJ{t:ByteArray}(h:t.size≠0):¬ t.toList=[]/\t.toList.isEmpty=false:=by
 have:t.toList.length≠0:=by rw[ByteArray.toList_eq];exact h
 constructor
 . intro e;rw[e]at this;exact this rfl
 . cases hl:t.toList with
   | nil=>rw[hl]at this;exact absurd rfl this
   | cons a l=>rfl
structure Sx where
 many:Int
 pos:Int
 word:ByteArray
def mD:List Sx->List Value
  | []=>[]
  | x::l=>.int .i64 x.many :: .int .i64 x.pos :: .string x.word::mD l
theorem aJ(l r:List Sx):mD (l++r)=mD l++mD r:=by
 induction l with
 | nil=>rfl
 | cons x l ih=>simp[mD,ih]
theorem uH(l:List Sx):(mD l).length=l.length * 3:=by
 induction l with
 | nil=>rfl
 | cons x l ih=>simp[mD,ih];omega
def q9(x:Sx)(n:Nat):Prop:=0<=x.many/\(x.word.size≠0->x.many=0)/\x.many<=n
instance (x:Sx) (n:Nat):Decidable (q9 x n):=inferInstanceAs (Decidable (_/\_/\_))
def bJ(x:Sx)(i:Nat)(st:List Nat):List Nat:=st.take (st.length - x.many.toNat)++[(st.drop (st.length - x.many.toNat)).headD i]
def jC:List Sx->Nat->List Nat->Option (List Nat)
  | [],_,st=>some st
  | x::l,i,st=>if q9 x st.length then jC l (i+1) (bJ x i st) else none
section
variable {l : List Sx}
theorem yN(a b:List Sx):∀(i:Nat) (st:List Nat),jC (a++b) i st=(jC a i st).bind (jC b (i+a.length)):=by
 induction a with
 | nil=>intro i st;simp[jC]
 | cons x a ih =>
   intro i st;simp only[List.cons_append,jC]
   split
   . rw[ih];simp only[Qk];rw[show i+1+a.length=i+(a.length+1) by omega]
   . rfl
def pre(l:List Sx)(k:Nat):Option (List Nat):=jC (l.take k) 0 []
theorem sNA:pre l 0=some []:=by simp[pre,jC]
theorem bOA{k:Nat}{x:Sx}(h:l[k]? = some x):pre l (k+1)=(pre l k).bind λst=>if q9 x st.length then some (bJ x k st) else none:=by
 have hk:k < l.length:=(Qo.1 h).1;have hx:l[k]=x:=(Qo.1 h).2;unfold pre;rw[Qj hk,yN,hx,List.length_take,Nat.min_eq_left (Nat.le_of_lt hk),Nat.zero_add];rfl
def Inc(st:List Nat)(i:Nat):Prop:=(st++[i]).Pairwise (· < ·)
theorem qYA{st:List Nat}{i:Nat}(x:Sx)(h:Inc st i):Inc (bJ x i st) (i+1):=by
 unfold Inc at *;unfold bJ;generalize hm:st.length - x.many.toNat=m;have hst:st=st.take m++st.drop m:=(List.take_append_drop m st).symm;generalize st.take m=s at *;generalize st.drop m=t at *;subst hst;simp only[List.pairwise_append,List.mem_append,List.mem_singleton,List.pairwise_cons,List.Pairwise.nil]at h ⊢;obtain⟨⟨h1,h2,h3⟩,h4,h5⟩:=h;have hh:t.headD i<=i/\∀ a∈s,a < t.headD i:=by
  cases t with
  | nil=>exact⟨Qd _,λa ha=>h5 a (.inl ha) i rfl⟩
  | cons y t=>exact⟨Nat.le_of_lt (h5 y (.inr (Qn ..)) i rfl),λa ha=>h3 a ha y (Qn ..)⟩
 refine⟨⟨h1,⟨λ_ h=>by simp at h,trivial⟩,λa ha b hb=>by rw[hb];exact hh.2 a ha⟩,⟨λ_ h=>by simp at h,trivial⟩,?_⟩;rintro a (ha|ha) b rfl
 . have:=h5 a (.inl ha) i rfl;omega
 . omega
theorem q9A:∀(l:List Sx) (i:Nat) (st s:List Nat),Inc st i->jC l i st=some s->Inc s (i+l.length):=by
 intro l
 induction l with
 | nil=>intro i st s h e;cases e;exact h
 | cons x l ih =>
   intro i st s h e;simp only[jC]at e
   split at e
   . have:=ih (i+1) _ s (qYA x h) e;rw[Qk,show i+(l.length+1)=i+1+l.length by omega];exact this
   . cases e
theorem t4A(i:Nat):Inc [] i:=List.pairwise_singleton ..
def pJ(f:Nat->Option Nat):Nat->Nat->Option Nat
  | 0,k=>some k
  | m+1,k=>match f k with|none=>none|some b=>pJ f m b
def cBA(x:Sx):Prop:=x.many < 0∨(x.word.size≠0/\x.many≠0)
instance (x:Sx):Decidable (cBA x):=inferInstanceAs (Decidable (_∨_))
def rbF(l:List Sx):Nat->Nat->Option Nat
  | 0,_=>none
  | _+1,0=>none
  | fuel + 1, e + 1 => match l[e]? with
    | none=>none
    | some x=>if cBA x then none else pJ (rbF l fuel) x.many.toNat e
def rb(l:List Sx)(k:Nat):Option Nat:=rbF l k k
theorem cVA{f:Nat->Option Nat}(hf:∀ k b,f k=some b->b < k):∀ m k b,pJ f m k=some b->b<=k:=by
 intro m
 induction m with
 | zero=>intro k b h;cases h;exact Qd _
 | succ m ih =>
   intro k b h;simp only[pJ]at h
   cases hk:f k with
   | none=>rw[hk]at h;cases h
   | some c=>rw[hk]at h;have:=ih c b h;have:=hf k c hk;omega
theorem dRA(l:List Sx):∀ fuel k b,rbF l fuel k=some b->b < k:=by
 intro fuel
 induction fuel with
 | zero=>intro k b h;cases h
 | succ fuel ih =>
   intro k b h
   cases k with
   | zero=>cases h
   | succ e =>
     simp only[rbF]at h
     split at h
     . cases h
     . split at h
       . cases h
       . have:=cVA ih _ _ _ h;omega
theorem xY{f g:Nat->Option Nat}(hf:∀ k b,f k=some b->b < k){e:Nat}(h:∀ k,k<=e->f k=g k):∀ m k,k<=e->pJ f m k=pJ g m k:=by
 intro m
 induction m with
 | zero=>intro k _;rfl
 | succ m ih =>
   intro k hk;simp only[pJ];rw[<- h k hk]
   cases hc:f k with
   | none=>rfl
   | some c=>have:=hf k c hc;exact ih c (by omega)
theorem o9A(l:List Sx):∀ k fuel,k<=fuel->rbF l fuel k=rb l k:=by
 intro k
 induction k using Nat.strongRecOn with
 | _ k ih =>
   intro fuel hf
   cases k with
   | zero=>unfold rb;cases fuel<;>rfl
   | succ e =>
     obtain⟨f,rfl⟩:∃ f,fuel=f+1:=⟨fuel - 1,by omega⟩;simp only[rb,rbF]
     split
     . rfl
     . split
       . rfl
       . refine xY (dRA l f) (e:=e) (λk hk=>?_) _ _ (Qd _);rw[ih k (by omega) f (by omega),ih k (by omega) e hk]
theorem ySA(l:List Sx):rb l 0=none:=rfl
theorem bKA{e:Nat}{x:Sx}(h:l[e]? = some x):rb l (e+1)=if cBA x then none else pJ (rb l) x.many.toNat e:=by
 simp only[rb,rbF,h]
 split
 . rfl
 . exact xY (dRA l e) (λk hk=>o9A l k e hk) _ _ (Qd _)
theorem rEA{k b:Nat}(h:rb l k=some b):b < k:=dRA l k k b h
theorem mYA(x:Sx)(i:Nat)(s t:List Nat)(h:x.many.toNat=t.length):bJ x i (s++t)=s++[t.headD i]:=by
 unfold bJ;rw[h,Qc,Nat.add_sub_cancel,List.take_left,List.drop_left]
theorem q0A:∀ e,e < l.length->∀ b,rb l (e+1)=some b->∀ s,pre l b=some s->pre l (e+1)=some (s++[b]):=by
 intro e
 induction e using Nat.strongRecOn with
 | _ e ih =>
   intro he b hb s hs;obtain⟨x,hx⟩:∃ x,l[e]? = some x:=⟨_,Qa he⟩;rw[bKA hx]at hb
   split at hb
   . cases hb
   . rename_i hbad;have loop:∀ m k b,k<=e->pJ (rb l) m k=some b->∀ s,pre l b=some s->∃ t:List Nat,t.length=m/\pre l k=some (s++t)/\t.headD k=b:=by
      intro m
      induction m with
      | zero=>intro k b _ h s hs;cases h;exact⟨[],rfl,by simpa using hs,rfl⟩
      | succ m ihm =>
        intro k b hk h s hs;simp only[pJ]at h
        cases hc:rb l k with
        | none=>rw[hc]at h;cases h
        | some c =>
          rw[hc]at h;have hck:=rEA hc;obtain⟨t,h1,h2,h3⟩:=ihm c b (by omega) h s hs
          cases k with
          | zero=>rw[ySA]at hc;cases hc
          | succ k =>
            refine⟨t++[c],by simp[h1],?_,?_⟩
            . rw[<- List.append_assoc];exact ih k (by omega) (by omega) c hc _ h2
            . rw[<- h3]
              cases t<;>simp
     obtain⟨t,h1,h2,h3⟩:=loop _ _ _ (Qd _) hb s hs;unfold cBA at hbad;rw[bOA hx,h2];simp only[Option.bind_some];rw[if_pos,mYA _ _ _ _ h1.symm,h3];refine⟨by omega,λh=>?_,?_⟩
     . exact Decidable.byContradiction λh'=>hbad (.inr ⟨h,h'⟩)
     . rw[Qc];omega
theorem pTA:∀ e,e < l.length->∀ st,pre l (e+1)=some st->∃ s b,st=s++[b]/\rb l (e+1)=some b/\pre l b=some s:=by
 intro e
 induction e using Nat.strongRecOn with
 | _ e ih =>
   intro he st hst;obtain⟨x,hx⟩:∃ x,l[e]? = some x:=⟨_,Qa he⟩;rw[bOA hx]at hst
   cases hp:pre l e with
   | none=>rw[hp]at hst;cases hst
   | some st0 =>
     rw[hp]at hst;simp only[Option.bind_some]at hst
     split at hst
     . rename_i hg
       cases hst;obtain⟨g1,g2,g3⟩:=hg;have loop:∀ n (t:List Nat),t.length=n->∀(s:List Nat) k,k<=e->pre l k=some (s++t)->pJ (rb l) n k=some (t.headD k)/\pre l (t.headD k)=some s:=by
        intro n
        induction n with
        | zero=>intro t ht s k hk h;cases List.length_eq_zero_iff.1 ht;exact⟨rfl,by simpa using h⟩
        | succ n ihn =>
          intro t ht s k hk h;obtain⟨t',c,rfl⟩:∃ t' c,t=t'++[c]:=⟨t.dropLast,t.getLast (by intro e;rw[e]at ht;cases ht),(List.dropLast_concat_getLast _).symm⟩
          cases k with
          | zero =>
            rw[sNA]at h;simp at h
          | succ k =>
            obtain⟨s',b,h1,h2,h3⟩:=ih k (by omega) (by omega) _ h;rw[<- List.append_assoc]at h1;obtain⟨rfl,h1'⟩:=List.append_inj' h1 rfl
            cases h1';have hlt:=rEA h2;obtain⟨i1,i2⟩:=ihn t' (by simpa using ht) s c (by omega) h3;have hh:(t'++[c]).headD (k+1)=t'.headD c:=by cases t'<;>simp
            rw[hh];simp only[pJ,h2];exact⟨i1,i2⟩
       have hs:st0=st0.take (st0.length - x.many.toNat)++st0.drop (st0.length - x.many.toNat):=(List.take_append_drop _ _).symm;obtain⟨i1,i2⟩:=loop _ (st0.drop (st0.length - x.many.toNat)) (List.length_drop ..) _ _ (Qd _) (by rw[<- hs];exact hp);rw[show st0.length - (st0.length - x.many.toNat)=x.many.toNat by omega]at i1;refine⟨_,_,rfl,?_,i2⟩;rw[bKA hx,if_neg,i1];rintro(h|⟨h,h'⟩)
       . omega
       . exact h' (g2 h)
     . cases hst
def piece(l:List Sx)(a b:Nat):List Sx:=(l.drop a).take (b - a)
def pieces(l:List Sx)(st:List Nat)(k:Nat):List (List Sx):=(List.range st.length).map λi=>piece l ((st++[k]).getD i 0) ((st++[k]).getD (i+1) 0)
theorem dMA(s:List Nat)(b k:Nat):pieces l (s++[b]) k=pieces l s b++[piece l b k]:=by
 unfold pieces;rw[Qc,List.length_singleton,List.range_succ,List.map_append];congr 1
 . refine List.map_congr_left λi hi=>?_
   rw[List.mem_range]at hi;congr 1
   . simp only[List.getD_eq_getElem?_getD];rw[List.getElem?_append_left (by simp;omega)]
   . simp only[List.getD_eq_getElem?_getD];rw[List.getElem?_append_left (by simp;omega)]
 . simp
inductive RItems (l:List Sx):Nat->List (List Sx)->Option (List (List Sx))->Prop
  | done (acc):RItems l 0 acc (some acc)
  | bad {k acc}:0 < k->rb l k=none->RItems l k acc none
  | one {k acc b R}:0 < k->rb l k=some b->RItems l b (piece l b k::acc) R->RItems l k acc R
theorem nCB(l:List Sx):∀ k acc,∃ R,RItems l k acc R:=by
 intro k
 induction k using Nat.strongRecOn with
 | _ k ih =>
   intro acc;by_cases hk:k=0
   . subst hk;exact⟨_,.done acc⟩
   . cases hb:rb l k with
     | none=>exact⟨_,.bad (by omega) hb⟩
     | some b =>
       obtain⟨R,h⟩:=ih b (rEA hb) (piece l b k::acc);exact⟨R,.one (by omega) hb h⟩
theorem bAB{k:Nat}{acc:List (List Sx)}{R:Option (List (List Sx))}(h:RItems l k acc R)(hk:k<=l.length):R=(pre l k).map λst=>pieces l st k++acc:=by
 induction h with
 | done acc=>rw[sNA];rfl
 | @bad k acc h0 hb =>
   obtain⟨e,rfl⟩:∃ e,k=e+1:=⟨k - 1,by omega⟩
   cases hp:pre l (e+1) with
   | none=>rfl
   | some st =>
     obtain⟨s,b,_,h2,_⟩:=pTA e (by omega) st hp;rw[hb]at h2;cases h2
 | @one k acc b R h0 hb hr ih =>
   have hlt:=rEA hb;rw[ih (by omega)];obtain⟨e,rfl⟩:∃ e,k=e+1:=⟨k - 1,by omega⟩
   cases hp:pre l (e+1) with
   | none =>
     cases hq:pre l b with
     | none=>rfl
     | some s=>rw[q0A e (by omega) b hb s hq]at hp;cases hp
   | some st =>
     obtain⟨s,b',rfl,h2,h3⟩:=pTA e (by omega) st hp;rw[hb]at h2;cases h2;rw[h3];simp only[Option.map_some];rw[dMA];simp
def qC(l:List Sx):Option (List (List Sx)):=(jC l 0 []).map λst=>pieces l st l.length
theorem a1A{R:Option (List (List Sx))}(h:RItems l l.length [] R):R=qC l:=by
 rw[bAB h (Qd _),pre,List.take_length,qC];simp
end
section
theorem xO(l:List Sx)(st:List Nat)(k:Nat):(pieces l st k).length=st.length:=by simp[pieces]
end
def yG(row:List Sx):Option (List (List Sx)) :=
 match jC row 0 [],row.getLast? with
 | some [_],some x=>if x.word.size=0 then qC row.dropLast else none
 | _,_=>none
theorem aH(init:List Sx)(x:Sx):yG (init++[x])=match jC (init++[x]) 0 [] with
 | some [_]=>if x.word.size=0 then qC init else none
 | _=>none:=by
 unfold yG;rw[List.getLast?_concat,List.dropLast_concat]
 split
 . rename_i h1 h2
   cases h2;rw[h1]
 . rename_i h
   split
   . rename_i h1;exact absurd rfl (h _ _ h1)
   . rfl
structure PTok where
 kind:Int
 pos:Int
 text:ByteArray
def mF:List PTok->List Sx->List Sx->Sx->Except (Int×Int) (List Sx)
  | [],row,[],_=>.ok row
  | [],_,_::_,x=>.error (x.pos,70)
  | t :: ts, row, st, x =>
    if t.kind=1 then mF ts (row++[⟨0,t.pos,t.text⟩]) st ⟨x.many+1,x.pos,x.word⟩
    else if t.kind=2 then(if st.length=60 then .error (t.pos,22) else mF ts row (x::st) ⟨0,t.pos,⟨#[]⟩⟩)
    else match st with
     | []=>.error (t.pos,70)
     | y::st=>mF ts (row++[x]) st ⟨y.many+1,y.pos,y.word⟩
theorem lN(t:PTok)(ts:List PTok)(row st:List Sx)(x:Sx):mF (t::ts) row st x =
    if t.kind=1 then mF ts (row++[⟨0,t.pos,t.text⟩]) st ⟨x.many+1,x.pos,x.word⟩
    else if t.kind=2 then(if st.length=60 then .error (t.pos,22) else mF ts row (x::st) ⟨0,t.pos,⟨#[]⟩⟩)
    else match st with
     | []=>.error (t.pos,70)
     | y::st=>mF ts (row++[x]) st ⟨y.many+1,y.pos,y.word⟩:=by
  cases st<;>rfl
def wDA(w0:World)(b off:Nat)(row:List Sx):Prop:=∀ k x,row[k]? = some x->w0.cell? ⟨b,off+k * 3,none⟩=some (.int .i64 x.many)/\w0.cell? ⟨b,off+k * 3+1,none⟩=some (.int .i64 x.pos)/\w0.cell? ⟨b,off+k * 3+2,none⟩=some (.string x.word)
def SxArg(w0:World)(p:Option Addr)(row:List Sx):Prop:=row≠[]->∃ b off,p=some ⟨b,off,none⟩/\b < w0.heap.size/\wDA w0 b off row
theorem uRA(all:List Sx):∀ k t,all[k]? = some t->(mD all)[k * 3]? = some (.int .i64 t.many)/\(mD all)[k * 3+1]? = some (.int .i64 t.pos)/\(mD all)[k * 3+2]? = some (.string t.word):=by
 induction all with
 | nil=>intro k t h;simp at h
 | cons x l ih =>
   intro k t h
   cases k with
   | zero=>cases h;exact⟨rfl,rfl,rfl⟩
   | succ k =>
     have:=ih k t h;rw[show(k+1) * 3=k * 3+1+1+1 by omega,show k * 3+1+1+1+1=(k * 3+1)+1+1+1 by omega,show k * 3+1+1+1+2=(k * 3+2)+1+1+1 by omega];exact this
theorem cAB{w:World}{base:Nat}{e:TypeId}{l:Value}{row:List Sx}(h:w.ownsRow base e 3 l row.length (mD row)):∃ p cap,l = .slice p row.length cap/\SxArg w p row:=by
 rcases h.2 with⟨rfl,h0⟩|⟨g,cap,cur,rfl,hb,hg,rest⟩
 . refine⟨none,0,by rw[h0],λhne=>?_⟩;exact absurd (List.length_eq_zero_iff.1 h0) hne
 . refine⟨_,cap,rfl,λ_=>⟨g,0,rfl,(Qe.1 hg).1,λk t ht=>?_⟩⟩;obtain⟨h1,h2,h3⟩:=uRA row k t ht;rw[Nat.zero_add];exact⟨rD h rfl h1,rD h rfl h2,rD h rfl h3⟩
theorem SxArg.under{a b:World}{p:Option Addr}{l:List Sx}(h:SxArg a p l)(hU:Under a b):SxArg b p l:=by
 intro hne;obtain⟨bl,off,rfl,hb,ht⟩:=h hne;refine⟨bl,off,rfl,Qb hb hU.size,λk t hk=>?_⟩;rw[iA hU hb,iA hU hb,iA hU hb];exact ht k t hk
theorem xM(w:World)(base:Nat)(e:TypeId)(size:Nat)(hb:base<=w.heap.size):(w.alloc (.cells #[] e)).ownsRow base e size (.slice (some ⟨w.heap.size,0,none⟩) 0 0) 0 [] :=
 ⟨by simp,.inr ⟨w.heap.size,0,#[],rfl,hb,zA w _ _,Qd _,by decide,by simp,by simp⟩⟩
end Go.Lx
namespace Go.Lx
inductive ST where
 | word (p:Int) (s:ByteArray)
 | list (p:Int) (l:List ST)
mutual
def qA:ST->List Sx
  | .word p s=>[⟨0,p,s⟩]
  | .list p l=>rA l++[⟨(l.length:Int),p,⟨#[]⟩⟩]
def rA:List ST->List Sx
  | []=>[]
  | a::l=>qA a++rA l
end
mutual
def okS:ST->Prop
  | .word _ s=>s.size≠0
  | .list _ l=>uI l
def uI:List ST->Prop
  | []=>True
  | a::l=>okS a/\uI l
end
def ST.last:ST->Sx
  | .word p s=>⟨0,p,s⟩
  | .list p l=>⟨(l.length:Int),p,⟨#[]⟩⟩
theorem pE(a b:List ST):rA (a++b)=rA a++rA b:=by
 induction a with
 | nil=>rfl
 | cons x l ih=>simp[rA,ih]
theorem gDA{a b:List ST}:uI (a++b)↔uI a/\uI b:=by
 induction a with
 | nil=>simp[uI]
 | cons x l ih=>simp[uI,ih,and_assoc]
theorem rO{l:List ST}:uI l↔∀ a∈l,okS a:=by
 induction l with
 | nil=>simp[uI]
 | cons x l ih=>simp[uI,ih]
theorem zF(a:ST):∃ i,qA a=i++[a.last]:=by
 cases a with
 | word p s=>exact⟨[],by simp[qA,ST.last]⟩
 | list p l=>exact⟨rA l,by simp[qA,ST.last]⟩
theorem tL(a:ST):0 < (qA a).length:=by
 obtain⟨i,h⟩:=zF a;rw[h];simp
def oC:Nat->List ST->List Nat
  | _,[]=>[]
  | i,a::l=>i::oC (i+(qA a).length) l
theorem pI(i:Nat)(l:List ST):(oC i l).length=l.length:=by
 induction l generalizing i with
 | nil=>rfl
 | cons x l ih=>simp[oC,ih]
theorem lK(i:Nat)(a b:List ST):oC i (a++b)=oC i a++oC (i+(rA a).length) b:=by
 induction a generalizing i with
 | nil=>simp[oC,rA]
 | cons x l ih=>simp[oC,ih,rA,Nat.add_assoc]
theorem n1A{s:ByteArray}(h:s.size=0):s=⟨#[]⟩:=by
 obtain⟨a⟩:=s;have:a=#[]:=Array.eq_empty_of_size_eq_zero h;rw[this]
theorem xR:∀(row:List Sx) (Fs:List ST) (st:List Nat),uI Fs->jC row (rA Fs).length (oC 0 Fs)=some st->∃ Gs,uI Gs/\rA Gs=rA Fs++row/\st=oC 0 Gs
  | [],Fs,st,hF,h=>by cases h;exact⟨Fs,hF,by simp,rfl⟩
  | x :: row, Fs, st, hF, h => by
    unfold jC at h
    split at h
    . rename_i hg;obtain⟨h0,h1,h2⟩:=hg;rw[pI]at h2;obtain⟨m,p,s⟩:=x;simp only at h0 h1 h2;obtain⟨n,rfl⟩:∃ n:Nat,m=n:=⟨m.toNat,by omega⟩;have hn:n<=Fs.length:=by omega
      obtain⟨k,hk⟩:∃ k,Fs.length=k+n:=⟨Fs.length - n,by omega⟩;have hs:bJ ⟨n,p,s⟩ (rA Fs).length (oC 0 Fs)=oC 0 (Fs.take k)++[(rA (Fs.take k)).length]:=by
       have e:Fs=Fs.take k++Fs.drop k:=(List.take_append_drop k Fs).symm;have e1:oC 0 Fs=oC 0 (Fs.take k)++oC (rA (Fs.take k)).length (Fs.drop k):=by
        conv=>lhs;rw[e]
        rw[lK,Nat.zero_add]
       have e2:(oC 0 (Fs.take k)).length=k:=by rw[pI,List.length_take];omega
       unfold bJ;rw[pI];simp only[Int.toNat_natCast];rw[show Fs.length - n=k by omega,e1,List.take_left' e2,List.drop_left' e2];congr 2
       cases hd:Fs.drop k with
       | nil =>
         have:Fs.take k=Fs:=by
          have:=List.drop_eq_nil_iff.1 hd;exact List.take_of_length_le this
         rw[this];rfl
       | cons a l=>rfl
      rw[hs]at h;have hok:uI (Fs.take k)/\uI (Fs.drop k):=gDA.1 (by rw[List.take_append_drop];exact hF);have hdl:(Fs.drop k).length=n:=by rw[List.length_drop];omega
      have hfl:rA Fs=rA (Fs.take k)++rA (Fs.drop k):=by rw[<- pE,List.take_append_drop]
      by_cases hz:s.size=0
      . have hs0:=n1A hz;subst hs0;have e3:rA (Fs.take k++[.list p (Fs.drop k)])=rA Fs++[⟨n,p,⟨#[]⟩⟩]:=by
         rw[pE,hfl];simp only[rA,qA,hdl];simp
        have e4:oC 0 (Fs.take k)++[(rA (Fs.take k)).length]=oC 0 (Fs.take k++[.list p (Fs.drop k)]):=by rw[lK,Nat.zero_add];rfl
        rw[e4,show(rA Fs).length+1=(rA (Fs.take k++[.list p (Fs.drop k)])).length by rw[e3];simp]at h;obtain⟨Gs,g1,g2,g3⟩:=xR row _ st (gDA.2 ⟨hok.1,by exact⟨hok.2,trivial⟩⟩) h;exact⟨Gs,g1,by rw[g2,e3];simp,g3⟩
      . have hn0:n=0:=by have:=h1 hz;omega
        subst hn0;have hkl:Fs.take k=Fs:=List.take_of_length_le (by omega);rw[hkl]at h;have e3:rA (Fs++[.word p s])=rA Fs++[⟨(0:Nat),p,s⟩]:=by rw[pE];simp[rA,qA]
        have e4:oC 0 Fs++[(rA Fs).length]=oC 0 (Fs++[.word p s]):=by rw[lK,Nat.zero_add];rfl
        rw[e4,show(rA Fs).length+1=(rA (Fs++[.word p s])).length by rw[e3];simp]at h;obtain⟨Gs,g1,g2,g3⟩:=xR row _ st (gDA.2 ⟨hF,by exact⟨hz,trivial⟩⟩) h;exact⟨Gs,g1,by rw[g2,e3];simp,g3⟩
    . cases h
theorem bBA(T:ST):okS T->∀(Fs:List ST),jC (qA T) (rA Fs).length (oC 0 Fs)=some (oC 0 (Fs++[T])):=by
 induction T using ST.rec (motive_2:=λl=>uI l->∀(Fs:List ST),jC (rA l) (rA Fs).length (oC 0 Fs)=some (oC 0 (Fs++l))) with
 | word p s =>
   rintro h Fs;rw[qA];unfold jC;rw[if_pos ⟨Int.le_refl _,λ_=>rfl,Int.natCast_nonneg _⟩];unfold jC bJ;simp[lK,oC]
 | list p l ih =>
   rintro h Fs;rw[qA,yN,ih h Fs];simp only[Option.bind_some];unfold jC;rw[if_pos ⟨Int.natCast_nonneg _,λh=>absurd rfl h,by rw[pI,Qc];show(l.length:Int)<=_;omega⟩];unfold jC bJ;have e2:(oC 0 Fs).length=Fs.length:=pI _ _;rw[pI,lK,Qc];simp only[Int.toNat_natCast];rw[show Fs.length+l.length - l.length=Fs.length by omega,List.take_left' e2,List.drop_left' e2,lK]
   cases l with
   | nil=>simp[oC,rA]
   | cons a l=>simp[oC]
 | nil=>rename_i h Fs;simp[rA,jC]
 | cons a l iha ihl =>
   rename_i h Fs;rw[rA,yN,iha h.1 Fs];simp only[Option.bind_some];have e:(rA Fs).length+(qA a).length=(rA (Fs++[a])).length:=by rw[pE];simp[rA]
   rw[e,ihl h.2];simp
theorem jW:∀(l:List ST),uI l->∀ Fs:List ST,jC (rA l) (rA Fs).length (oC 0 Fs)=some (oC 0 (Fs++l))
  | [],_,Fs=>by simp[rA,jC]
  | a :: l, h, Fs => by
    rw[rA,yN,bBA a h.1 Fs];simp only[Option.bind_some];have e:(rA Fs).length+(qA a).length=(rA (Fs++[a])).length:=by rw[pE];simp[rA]
    rw[e,jW l h.2];simp
theorem oZ:∀(ts:List ST) (pre:List Sx),(List.range ts.length).map (λi=>piece (pre++rA ts) ((oC pre.length ts++[(pre++rA ts).length]).getD i 0) ((oC pre.length ts++[(pre++rA ts).length]).getD (i+1) 0))=ts.map qA
  | [],pre=>rfl
  | a :: l, pre => by
    have ih:=oZ l (pre++qA a);rw[Qk,List.range_succ_eq_map,List.map_cons,List.map_map,List.map_cons];have e:pre++rA (a::l)=pre++qA a++rA l:=by simp[rA]
    rw[e];congr 1
    . have h1:(oC pre.length (a::l)++[(pre++qA a++rA l).length]).getD 0 0=pre.length:=by simp[oC]
      have h2:(oC pre.length (a::l)++[(pre++qA a++rA l).length]).getD (0+1) 0=pre.length+(qA a).length:=by
       cases l with
       | nil=>simp[oC,rA]
       | cons b l=>simp[oC]
      rw[h1,h2];unfold piece;rw[List.append_assoc,List.drop_left,show pre.length+(qA a).length - pre.length=(qA a).length by omega,List.take_left]
    . rw[<- ih];refine List.map_congr_left λi hi=>?_
      simp only[Function.comp];simp only[oC,List.cons_append,List.getD_eq_getElem?_getD,List.getElem?_cons_succ,Qc]
theorem gF{ts:List ST}(h:uI ts):qC (rA ts)=some (ts.map qA):=by
 have hb:=jW ts h [];simp only[rA,oC,List.length_nil,List.nil_append]at hb;unfold qC;rw[hb];have:=oZ ts [];simp only[List.nil_append,List.length_nil]at this;rw[Option.map_some];unfold pieces;rw[pI,this]
theorem cDA{row:List Sx}{ls:List (List Sx)}(h:qC row=some ls):∃ ts,uI ts/\row=rA ts/\ls=ts.map qA:=by
 have h':=h;unfold qC at h'
 cases hb:jC row 0 [] with
 | none=>rw[hb]at h';cases h'
 | some st =>
   obtain⟨ts,h1,h2,rfl⟩:=xR row [] st (by simp[uI]) hb;rw[rA,List.nil_append]at h2;rw[<- h2,gF h1]at h;exact⟨ts,h1,h2.symm,(Qt h).symm⟩
theorem xL{p:Int}{l:List ST}(h:uI l):yG (qA (.list p l))=some (l.map qA):=by
 have hb:=bBA (.list p l) h [];simp only[rA,oC,List.length_nil,List.nil_append]at hb;rw[qA,aH];rw[qA]at hb;rw[hb]
 show(if(⟨#[]⟩:ByteArray).size=0 then qC (rA l) else none)=_
 rw[if_pos (show(⟨#[]⟩:ByteArray).size=0 from rfl),gF h]
theorem oH{l:List ST}{a:ST}(h:a∈l):(qA a).length<=(rA l).length:=by
 induction l with
 | nil=>cases h
 | cons b l ih =>
   rw[rA,Qc];rcases List.mem_cons.1 h with rfl|h
   . omega
   . have:=ih h;omega
theorem mH(l:List ST):l.length<=(rA l).length:=by
 induction l with
 | nil=>simp
 | cons a l ih=>rw[rA,Qc,Qk];have:=tL a;omega
end Go.Lx
namespace Go.Lx
open Go.RowKit
def Zip{α β:Type}(R:α->β->Prop)(vs:List α)(ls:List β):Prop:=vs.length=ls.length/\∀(i:Nat) v x,vs[i]? = some v->ls[i]? = some x->R v x
theorem Zip.nil{α β:Type}(R:α->β->Prop):Zip R [] []:=⟨rfl,λi v x h=>by simp at h⟩
theorem Zip.app{α β:Type}{R:α->β->Prop}{vs us:List α}{ls ks:List β}(h:Zip R vs ls)(k:Zip R us ks):Zip R (vs++us) (ls++ks):=by
 refine⟨by rw[Qc,Qc,h.1,k.1],λi v x hv hx=>?_⟩;by_cases hi:i < vs.length
 . rw[List.getElem?_append_left hi]at hv;rw[List.getElem?_append_left (by rw[<- h.1];exact hi)]at hx;exact h.2 i v x hv hx
 . rw[List.getElem?_append_right (by omega)]at hv;rw[List.getElem?_append_right (by rw[<- h.1];omega),<- h.1]at hx;exact k.2 _ v x hv hx
theorem Zip.one{α β:Type}{R:α->β->Prop}{v:α}{x:β}(h:R v x):Zip R [v] [x]:=⟨rfl,λi u y hu hy=>by
  match i,hu,hy with
  | 0,hu,hy=>cases hu;cases hy;exact h⟩
theorem Zip.mono{α β:Type}{R S:α->β->Prop}{vs:List α}{ls:List β}(h:Zip R vs ls)(hRS:∀ v x,R v x->S v x):Zip S vs ls:=⟨h.1,λi v x hv hx=>hRS v x (h.2 i v x hv hx)⟩
theorem Zip.at{α β:Type}{R:α->β->Prop}{vs:List α}{ls:List β}(h:Zip R vs ls){i:Nat}{x:β}(hx:ls[i]? = some x):∃ v,vs[i]? = some v/\R v x:=by
 have hi:i < vs.length:=by rw[h.1];exact(Qo.1 hx).1
 exact⟨vs[i],Qa hi,h.2 i _ x (Qa hi) hx⟩
def ListV{α:Type}(R:World->Value->α->Prop)(w:World)(v:Value)(ls:List α):Prop:=∃ p c vs,v = .slice p ls.length c/\ls.length<=c/\(p=none->c=0)/\RowArg w p vs/\Zip (R w) vs ls
def TermV(w:World)(v:Value)(t:List Nd):Prop:=∃ p c,v = .slice p t.length c/\t.length<=c/\(p=none->c=0)/\RowArg w p (dC t)
def lWA{α:Type}(R:World->Value->α->Prop):Prop:=∀ w w' v x,Under w w'->R w v x->R w' v x
theorem TermV.mono:lWA TermV:=λw w' v t hU ⟨p,c,h1,h2,h0,h3⟩=>⟨p,c,h1,h2,h0,h3.under hU⟩
theorem ListV.mono{α:Type}{R:World->Value->α->Prop}(hR:lWA R):lWA (ListV R):=λw w' v ls hU ⟨p,c,vs,h1,h2,h0,h3,h4⟩=>⟨p,c,vs,h1,h2,h0,h3.under hU,h4.mono λv x h=>hR w w' v x hU h⟩
theorem TermV.one{w:World}{v:Value}{t:List Nd}(h:TermV w v t):v.oneCell'=true:=by obtain⟨p,c,rfl,_⟩:=h;rfl
theorem ListV.one{α:Type}{R:World->Value->α->Prop}{w:World}{v:Value}{ls:List α}(h:ListV R w v ls):v.oneCell'=true:=by obtain⟨p,c,vs,rfl,_⟩:=h;rfl
abbrev TermsV:=ListV TermV
abbrev ConsV:=ListV TermsV
theorem ListV.of_own{α:Type}{R:World->Value->α->Prop}{w:World}{base:Nat}{e:TypeId}{v:Value}{ls:List α}{vs:List Value}(h:w.ownsRow base e 1 v ls.length vs)(hz:Zip (R w) vs ls):ListV R w v ls:=by
 have hc:∀ q n c,v = .slice q n c->q=none->c=0:=by
  intro q n c e hq;subst hq;rcases h.2 with⟨rfl,_⟩|⟨g,cap,cur,e',_⟩
  . cases e;rfl
  . rw[e']at e;cases e
 obtain⟨q,c,rfl,h1,h2⟩:=RowArg.of_own h;exact⟨q,c,vs,rfl,h1,hc q _ c rfl,h2,hz⟩
section
variable {P : Program}
theorem pU(w:World)(base:Nat)(t u ty e:TypeId)(i:TypeInfo)(z:Value)(ht:P.underlying t=some (.slice e))(hu:P.underlying u=some (.int .i64))(hi:P.info? e=some i)(hz:i.zero=some z)(hs:i.size=1)(hzs:z.cells=#[z])
    (n:Nat) (h1:1<=n) (h8:n * i.bytes<=140737488355328) (hmx:n<=2000000) (hbase:base<=w.heap.size) :
    ∃ g c w',(Builtin.append_ #[t,u] ty #[.slice none 0 0,.int .i64 (n:Int)]).run P w = .ok (.slice (some ⟨g,0,none⟩) n c) w'/\w'.ownsRow base e 1 (.slice (some ⟨g,0,none⟩) n c) n (List.replicate n z)/\w.grownBy w' none:=by
  have hw:IntKind.i64.wrap (n:Int)=n:=by rw[IntKind.wrap_i64];omega
  have hn:¬ n=0:=by omega
  have h63':¬(9223372036854775807 < (n:Int)):=by omega
  have h48':¬(281474976710656 < Builtin.nextslicecap n 0 * i.bytes):=by rw[nextslicecap_zero (by omega)];omega
  have hneg:¬((n:Int) < 0):=by omega
  have hbig:¬((281474976710656:Int) < (n:Int) * i.bytes):=by
   have:((n * i.bytes:Nat):Int)=(n:Int) * i.bytes:=by simp
   omega
  refine⟨w.heap.size,grownCap w n 0 e,w.drew.alloc (.cells (Builtin.zeroCells z.cells n++Builtin.zeroCells z.cells (grownCap w n 0 e - n)) e),?_,?_,?_⟩
  . simp[Builtin.append_,run_underlying ht,run_underlying hu,sizeOf,typeInfo,zeroValue,hi,hz,hs,Builtin.lenOf,Builtin.firstCells,hn,h63',h48',Question.forced,newRow,grownCap,asInt,asIntOf,hw,hneg,hbig]
  . have hge:=grownCap_ge w n 0 e;have hcm:grownCap w n 0 e<=maxLen:=grownCap_le_maxLen w n 0 e (by simp only[maxLen];omega);refine⟨by simp,.inr ⟨w.heap.size,_,_,rfl,hbase,zA w.drew _ _,hge,hcm,?_,?_⟩⟩
    . simp only[Array.size_append,size_zeroCells,hzs];simp;omega
    . have hzc:(Builtin.zeroCells z.cells n).toList=List.replicate n z:=by
        rw[hzs];apply List.ext_getElem
        . simp[Builtin.zeroCells]
        . intro j h1 h2;simp[Builtin.zeroCells,Nat.mod_one]
      simp only[Array.toList_append,hzc,Nat.mul_one];rw[List.take_left' (by simp)]
  . exact⟨rfl,rfl,rfl,by simp,λk hk _=>by
      show(w.heap.push _)[k]? = _
      rw[Array.getElem?_push_lt hk,<- Array.getElem?_eq_getElem]⟩
theorem nR{w:World}{ops:Array Oper}{rest:List Oper}{o:Oper}{a:Act}{Q:Exit->Act->World->Prop}(hgd:o.guard=none)(s x:Operand)(base:Nat)(t u e:TypeId)
    (ho:o.op = .call { callee:=.builtin .append,args:=#[s,x],argTypes:=#[t,u] }) (i:TypeInfo) (z:Value) (ht:P.underlying t=some (.slice e)) (hu:P.underlying u=some (.int .i64)) (hi:P.info? e=some i) (hz:i.zero=some z) (hs:i.size=1) (hzs:z.cells=#[z])
    (n:Nat) (es:a.eval s = .slice none 0 0) (ex:a.eval x = .int .i64 (n:Int)) (h1:1<=n) (h8:n * i.bytes<=140737488355328) (hmx:n<=2000000) (hbase:base<=w.heap.size)
    (h:∀ g c w',w'.ownsRow base e 1 (.slice (some ⟨g,0,none⟩) n c) n (List.replicate n z)->w.grownBy w' none->wpList P ops Q rest (a.put o.dst (.slice (some ⟨g,0,none⟩) n c)) w') :
    wpList P ops Q (o::rest) a w:=by
  refine wpList_plain hgd λK hK'=>?_
  obtain⟨g,c,w',hrun,r1,r2⟩:=pU (P:=P) w base t u o.type e i z ht hu hi hz hs hzs n h1 h8 hmx hbase;unfold Oper.wp;simp[execOp,ho,resolve,invoke,builtin,es,ex,hrun,Result.andThen];exact hK' _ _ (h g c w' r1 r2)
end
def TextsV(w:World)(v:Value)(ss:List ByteArray):Prop:=∃ p c,v = .slice p ss.length c/\ss.length<=c/\(p=none->c=0)/\RowArg w p (ss.map .string)
theorem TextsV.under{w w':World}{v:Value}{ss:List ByteArray}(h:TextsV w v ss)(hU:Under w w'):TextsV w' v ss:=by
 obtain⟨p,c,rfl,h1,h2,h3⟩:=h;exact⟨p,c,rfl,h1,h2,h3.under hU⟩
theorem TextsV.of_own{w:World}{base:Nat}{e:TypeId}{v:Value}{ss:List ByteArray}(h:w.ownsRow base e 1 v ss.length (ss.map .string)):TextsV w v ss:=by
 have hc:∀ q n c,v = .slice q n c->q=none->c=0:=by
  intro q n c e hq;subst hq;rcases h.2 with⟨rfl,_⟩|⟨g,cap,cur,e',_⟩
  . cases e;rfl
  . rw[e']at e;cases e
 obtain⟨q,c,rfl,h1,h2⟩:=RowArg.of_own h;exact⟨q,c,rfl,h1,hc q _ c rfl,h2⟩
theorem TextsV.nil(w:World):TextsV w (.slice none 0 0) []:=⟨none,0,rfl,Qd _,λ_=>rfl,RowArg.nil⟩
theorem kTA{w:World}{p:Option Addr}{ss:List ByteArray}(h:RowArg w p (ss.map .string)){k:Nat}(hk:k < ss.length):∃ b off,p=some ⟨b,off,none⟩/\b < w.heap.size/\w.cell? ⟨b,off+k,none⟩=some (.string ss[k]):=by
 obtain⟨b,off,e,hb,hc⟩:=h (λe=>by rw[List.map_eq_nil_iff]at e;rw[e]at hk;simp at hk);exact⟨b,off,e,hb,hc k _ (by simp[Qa hk])⟩
def jK(ss:List ByteArray)(s:ByteArray):Bool:=ss.any λx=>x.toList==s.toList
end Go.Lx
namespace Go.Lx
def formT:List (List UInt8×Int×Int×List UInt8):=[([84,121,112,101],2,0,[110]),([108,97,109],4,0,[119,46,46]),([97,112,112],5,0,[46,46]),([112,97,105,114],7,0,[46,46,46]),([102,115,116],8,0,[46]),([115,110,100],9,0,[46]),([115,117,99],12,0,[46]),([112,114,102],28,0,[46]),([114,101,99],13,0,[118,46,46,118,118,46,46]),([97,98,111,114,116],15,0,[46,46]),([101,113],18,0,[46,46,46]),([114,101,102,108],19,0,[46,46]),([99,97,115,116],20,0,[46,46,46,46]),([116,114,97,110,115,112],21,0,[46,46,118,46,46,46,46]),([113,117,111,116],22,0,[46,118,118,46,46,46,46]),([99,108,97,115,115],23,0,[46,46]),([113,101,108,105,109],24,0,[46,118,46,46,46]),([100,97,116,97],25,0,[100]),([99,111,110],26,0,[100,110,42]),([101,108,105,109],27,0,[100,118,46,42,46]),([112,105],3,0,[119,46,46]),([115,105,103],6,0,[119,46,46]),([112,105,49],3,1,[119,46,46]),([115,105,103,49],6,1,[119,46,46]),([112,105,50],3,2,[119,46,46]),([115,105,103,50],6,2,[119,46,46]),([112,105,51],3,3,[119,46,46]),([115,105,103,51],6,3,[119,46,46])]
def leafT:List (List UInt8×Int):=[([80,114,111,112],2),([78,97,116],10),([122,101,114,111],11),([69,109,112,116,121],14),([85,110,105,116],16),([115,116,97,114],17),([116,105,99,107],29)]
def hDA(w:List UInt8):List (List UInt8×Int×Int×List UInt8)->Option (Int×Int×List UInt8)
  | []=>none
  | (x,y)::l=>if w=x then some y else hDA w l
def oMA(w:List UInt8):List (List UInt8×Int)->Option Int
  | []=>none
  | (x,y)::l=>if w=x then some y else oMA w l
def kN(s:ByteArray):Option (Int×Int×List UInt8):=hDA s.data.toList formT
def qM(s:ByteArray):Option Int:=oMA s.data.toList leafT
def kwW(s:ByteArray):Bool:=(kN s).isSome||(qM s).isSome
inductive PK where
 | nm
 | nu
 | da
 | te (wait:Bool)
def yB(parts:List UInt8)(n:Nat):List UInt8:=parts.flatMap λc=>if c=42 then List.replicate (n+1 - parts.length) c else [c]
def fC:Bool->List UInt8->List PK
  | _,[]=>[]
  | w,c::l=>if c=118 then .nm::fC false l else if c=119 then .nm::fC true l else if c=110 then .nu::fC w l else if c=100 then .da::fC w l else .te w::fC false l
abbrev Say:=Except (Int×Int) (List Nd)
def zJ(st:List ByteArray)(s:ByteArray):Option Nat:=st.reverse.findIdx? λx=>x.toList==s.toList
def nH(s:ByteArray):Bool:=fD s && !kwW s
def gG(cs:List ByteArray)(p:Int)(s:ByteArray)(st:List ByteArray):Say :=
 match qM s with
 | some k=>.ok [⟨k,0,0,⟨#[]⟩⟩]
 | none=>if nH s then
     match zJ st s with
     | some i=>if 99 < i then .error (2,p) else .ok [⟨0,(i:Int),0,⟨#[]⟩⟩]
     | none=>if jK cs s then .ok [⟨1,0,0,s⟩] else .error (80,p)
   else .error (71,p)
def mX(s:ByteArray):Option Nat:=(List.range 100).find? λn=>s.data.toList==Lib.decDigits n
def v2A(k:Int)(n:Nat):Bool:=if k=26 then n < 6 else(1<=n&&n<=9)
mutual
def pG(cs ds:List ByteArray):ST->List ByteArray->Say
  | .word p s,st=>gG cs p s st
  | .list p l,st=>jF cs ds p l st
def jF(cs ds:List ByteArray)(p:Int):List ST->List ByteArray->Say
  | [],_=>.error (71,p)
  | h :: l, st =>
    match kN h.last.word with
    | none=>.error (71,p)
    | some (k, n, parts) =>
      if(yB parts l.length).length=l.length/\((k=26∨k=27)->l.length+1 - parts.length<=6) then
       goS cs ds (fC false (yB parts l.length)) l ⟨k,n,if k=26∨k=27 then((l.length+1 - parts.length:Nat):Int) else 0,⟨#[]⟩⟩ [] st []
      else .error (71,p)
def goS(cs ds:List ByteArray):List PK->List ST->Nd->List ByteArray->List ByteArray->List Nd->Say
  | .nm::ks,y::ys,x,nms,st,acc=>if nH y.last.word then goS cs ds ks ys x (nms++[y.last.word]) st acc else .error (71,y.last.pos)
  | .nu :: ks, y :: ys, x, nms, st, acc =>
    match mX y.last.word with
    | some n=>if v2A x.k n then goS cs ds ks ys ⟨x.k,(n:Int),x.m,x.s⟩ nms st acc else .error (71,y.last.pos)
    | none=>.error (71,y.last.pos)
  | .da :: ks, y :: ys, x, nms, st, acc =>
    if nH y.last.word then(if jK ds y.last.word then goS cs ds ks ys ⟨x.k,x.n,x.m,y.last.word⟩ nms st acc else .error (80,y.last.pos)) else .error (71,y.last.pos)
  | .te w :: ks, y :: ys, x, nms, st, acc =>
    match pG cs ds y (if w then st else st++nms) with
    | .ok t=>goS cs ds ks ys x (if w then nms else []) st (acc++t)
    | .error e=>.error e
  | _,_,x,_,_,acc=>.ok (acc++[x])
end
def oN(l:List UInt8):List UInt8 :=
 if l=[119,46,46] then [46,118,46] else if l=[118,46,46,118,118,46,46] then [118,46,46,86,46,46] else if l=[46,118,118,46,46,46,46] then [46,86,46,46,46,46] else l
def pF(l:List UInt8):List UInt8:=if l=[46,118,46] then [118,58,46] else l
def bP:List UInt8->Nat
  | []=>0
  | c::l=>(if c=42 then 0 else if c=86 then 2 else 1)+bP l
def eY(l:List UInt8):Bool:=l.any (· == 42)
def iN(k:Nat):List UInt8->List UInt8
  | []=>[]
  | c::l=>(if c=42 then List.replicate k 46 else if c=86 then [86,87] else [c])++iN k l
def zG(l:List UInt8)(n:Nat):Option (List UInt8):=if n < bP l∨(bP l < n/\eY l=false) then none else some (iN (n - bP l) l)
def yC:List UInt8->List PK
  | []=>[]
  | c::l=>(if c=118∨c=86∨c=87 then .nm else if c=110 then .nu else if c=100 then .da else .te (c==58))::yC l
theorem yPA(a b:List UInt8):yC (a++b)=yC a++yC b:=by
 induction a with
 | nil=>rfl
 | cons c l ih=>simp[yC,ih]
theorem tEA(k:Nat)(r:List UInt8):fC false (List.replicate k 42++r)=List.replicate k (.te false)++fC false r:=by
 induction k with
 | zero=>rfl
 | succ k ih=>simp[List.replicate_succ,fC,ih]
theorem fBA(k:Nat):yC (List.replicate k 46)=List.replicate k (.te false):=by
 induction k with
 | zero=>rfl
 | succ k ih=>simp[List.replicate_succ,yC,ih]
theorem mBA{parts:List UInt8}(h:parts.all (· != 42)=true)(n:Nat):yB parts n=parts:=by
 unfold yB;generalize parts.length=m
 induction parts with
 | nil=>rfl
 | cons c l ih =>
   simp only[List.all_cons,Bool.and_eq_true]at h;rw[List.flatMap_cons,ih h.2,if_neg (by simpa using h.1)];rfl
theorem cXA{l:List UInt8}(h:l.all (· != 42)=true)(k:Nat):iN k l=iN 0 l:=by
 induction l with
 | nil=>rfl
 | cons c l ih =>
   simp only[List.all_cons,Bool.and_eq_true]at h;have hc:c≠42:=by simpa using h.1
   simp[iN,ih h.2,hc]
def z0A(parts:List UInt8):Bool :=
 parts.all (· != 42)&&((pF (oN parts)).all (· != 42)&&(bP (pF (oN parts))==parts.length&&(!eY (pF (oN parts))&&(iN 0 (pF (oN parts))).length==parts.length)))
theorem tUA{parts:List UInt8}(h:z0A parts=true)(hk:yC (iN 0 (pF (oN parts)))=fC false parts)(n:Nat) :
 (zG (pF (oN parts)) n=none/\(yB parts n).length≠n)∨∃ l,zG (pF (oN parts)) n=some l/\(yB parts n).length=n/\l.length=n/\yC l=fC false (yB parts n):=by
 unfold z0A at h;simp only[Bool.and_eq_true,beq_iff_eq,Bool.not_eq_true']at h;obtain⟨h1,h2,h3,h4,h5⟩:=h;rw[mBA h1];unfold zG;rw[h3,h4];by_cases hn:n=parts.length
 . right
   rw[if_neg (by omega),cXA h2];exact⟨_,rfl,hn.symm,by rw[h5,hn],hk⟩
 . left
   refine⟨?_,λe=>hn e.symm⟩;rw[if_pos];rcases Nat.lt_or_gt_of_ne hn with h|h
   . exact .inl h
   . exact .inr ⟨h,rfl⟩
theorem jLA{w parts:List UInt8}{k m:Int}(h:(w,k,m,parts)∈formT)(n:Nat) :
 (zG (pF (oN parts)) n=none/\(yB parts n).length≠n)∨∃ l,zG (pF (oN parts)) n=some l/\(yB parts n).length=n/\l.length=n/\yC l=fC false (yB parts n):=by
 simp only[formT,List.mem_cons,List.not_mem_nil,or_false,Prod.mk.injEq]at h;have con:(zG (pF (oN [100,110,42])) n=none/\(yB [100,110,42] n).length≠n)∨∃ l,zG (pF (oN [100,110,42])) n=some l/\(yB [100,110,42] n).length=n/\l.length=n/\yC l=fC false (yB [100,110,42] n):=by
  have e1:pF (oN [100,110,42])=[100,110,42]:=by decide
  have e2:yB [100,110,42] n=[100,110]++List.replicate (n - 2) 42:=by simp[yB]
  have e3:bP [100,110,42]=2:=by decide
  have e4:eY [100,110,42]=true:=by decide
  rw[e1,e2];unfold zG;rw[e3,e4];by_cases hn:n < 2
  . left
    rw[if_pos (.inl hn)];refine⟨rfl,?_⟩;simp;omega
  . right
    rw[if_neg (by simp;omega)];refine⟨_,rfl,by simp;omega,by simp[iN];omega,?_⟩;have:=tEA (n - 2) [];rw[List.append_nil]at this;simp[iN,yC,fC,this,fBA]
 have elim:(zG (pF (oN [100,118,46,42,46])) n=none/\(yB [100,118,46,42,46] n).length≠n)∨∃ l,zG (pF (oN [100,118,46,42,46])) n=some l/\(yB [100,118,46,42,46] n).length=n/\l.length=n/\yC l=fC false (yB [100,118,46,42,46] n):=by
  have e1:pF (oN [100,118,46,42,46])=[100,118,46,42,46]:=by decide
  have e2:yB [100,118,46,42,46] n=[100,118,46]++(List.replicate (n - 4) 42++[46]):=by simp[yB]
  have e3:bP [100,118,46,42,46]=4:=by decide
  have e4:eY [100,118,46,42,46]=true:=by decide
  rw[e1,e2];unfold zG;rw[e3,e4];by_cases hn:n < 4
  . left
    rw[if_pos (.inl hn)];refine⟨rfl,?_⟩;simp;omega
  . right
    rw[if_neg (by simp;omega)];refine⟨_,rfl,by simp;omega,by simp[iN];omega,?_⟩;simp[iN,yC,fC,tEA,yPA,fBA]
 rcases h with⟨rfl,rfl,rfl,rfl⟩|⟨rfl,rfl,rfl,rfl⟩|⟨rfl,rfl,rfl,rfl⟩|⟨rfl,rfl,rfl,rfl⟩|⟨rfl,rfl,rfl,rfl⟩|⟨rfl,rfl,rfl,rfl⟩|⟨rfl,rfl,rfl,rfl⟩|⟨rfl,rfl,rfl,rfl⟩|⟨rfl,rfl,rfl,rfl⟩|⟨rfl,rfl,rfl,rfl⟩|⟨rfl,rfl,rfl,rfl⟩|⟨rfl,rfl,rfl,rfl⟩|⟨rfl,rfl,rfl,rfl⟩|⟨rfl,rfl,rfl,rfl⟩|⟨rfl,rfl,rfl,rfl⟩|⟨rfl,rfl,rfl,rfl⟩|⟨rfl,rfl,rfl,rfl⟩|⟨rfl,rfl,rfl,rfl⟩|⟨rfl,rfl,rfl,rfl⟩|⟨rfl,rfl,rfl,rfl⟩|⟨rfl,rfl,rfl,rfl⟩|⟨rfl,rfl,rfl,rfl⟩|⟨rfl,rfl,rfl,rfl⟩|⟨rfl,rfl,rfl,rfl⟩|⟨rfl,rfl,rfl,rfl⟩|⟨rfl,rfl,rfl,rfl⟩|⟨rfl,rfl,rfl,rfl⟩|⟨rfl,rfl,rfl,rfl⟩
 all_goals first
  | exact con
  | exact elim
  | exact tUA (by decide) (by rfl) n
theorem sHA{w:List UInt8}{y:Int×Int×List UInt8}:∀ {l:List (List UInt8×Int×Int×List UInt8)},hDA w l=some y->(w,y)∈l
  | (x, z) :: l, h => by
    unfold hDA at h
    split at h
    . rename_i e
      cases h;rw[e];exact Qn ..
    . exact Qh _ (sHA h)
theorem uHA{s:ByteArray}{k m:Int}{parts:List UInt8}(h:kN s=some (k,m,parts)):(s.data.toList,k,m,parts)∈formT:=sHA h
end Go.Lx
namespace Go.Lx
open Go.RowKit
structure Ch (C:Nat->Prop) (w w':World):Prop where
 os:w'.os=w.os
 output:w'.output=w.output
 size:w.heap.size<=w'.heap.size
 block:∀ b,b < w.heap.size->¬ C b->w'.heap[b]? = w.heap[b]?
theorem Ch.refl{C:Nat->Prop}(w:World):Ch C w w:=⟨rfl,rfl,Qd _,λ_ _ _=>rfl⟩
theorem Ch.of_under{C:Nat->Prop}{w w':World}(h:Under w w'):Ch C w w':=⟨h.os,h.output,h.size,λb hb _=>h.low b hb⟩
theorem Ch.trans{C D:Nat->Prop}{a b c:World}(h:Ch C a b)(k:Ch D b c)(hD:∀ i,i < a.heap.size->D i->C i):Ch C a c :=
 ⟨k.os.trans h.os,k.output.trans h.output,Ql h.size k.size,λi hi hc=>(k.block i (Qb hi h.size) (λhd=>hc (hD i hi hd))).trans (h.block i hi hc)⟩
theorem Ch.under{C:Nat->Prop}{a b c:World}(h:Ch C a b)(k:Under b c):Ch C a c:=h.trans (Ch.of_under (C:=λ_=>False) k) λ_ _ h=>h.elim
theorem Ch.weak{C D:Nat->Prop}{a b:World}(h:Ch C a b)(k:∀ i,i < a.heap.size->C i->D i):Ch D a b:=⟨h.os,h.output,h.size,λi hi hc=>h.block i hi λhd=>hc (k i hi hd)⟩
theorem Ch.set{C:Nat->Prop}{a b:World}(h:Ch C a b){g:Nat}(hg:g < a.heap.size->C g)(j:Nat)(u:Value):Ch C a (b.setCell ⟨g,j,none⟩ u) :=
 ⟨h.os,h.output,by rw[qJ];exact h.size,λi hi hc=>(heap_set b _ u i (by show i≠g;intro e;subst e;exact hc (hg hi))).trans (h.block i hi hc)⟩
theorem Ch.turned{C:Nat->Prop}{a b c:World}(h:Ch C a b){r:Option Nat}(k:Turned r b c)(hr:∀ g,r=some g->g < a.heap.size->C g):Ch C a c :=
 ⟨k.os.trans h.os,k.output.trans h.output,Ql h.size k.size,λi hi hc=>(k.block i (Qb hi h.size) (λe=>hc (hr i e.symm hi))).trans (h.block i hi hc)⟩
theorem Ch.grown{C:Nat->Prop}{a b c:World}(h:Ch C a b){r:Option Nat}(k:b.grownBy c r)(hr:∀ g,r=some g->g < a.heap.size->C g):Ch C a c :=
 ⟨k.os.trans h.os,k.output.trans h.output,Ql h.size k.size,λi hi hc=>(k.block i (Qb hi h.size) (λe=>hc (hr i e.symm hi))).trans (h.block i hi hc)⟩
theorem fH{C:Nat->Prop}{w w':World}{b:Nat}{t:TypeId}{cs:Array Value}(h:BoxAt w b t cs)(k:Ch C w w')(hc:¬ C b):BoxAt w' b t cs:=(k.block b h.lt hc).trans h
theorem iE{C:Nat->Prop}{w w':World}{base:Nat}{e:TypeId}{s n:Nat}{v:Value}{xs:List Value}(h:w.ownsRow base e s v n xs)(k:Ch C w w')(hc:∀ g,v.ownBlock=some g->¬ C g):w'.ownsRow base e s v n xs:=by
 refine⟨h.1,?_⟩;rcases h.2 with hn|⟨g,cap,cur,rfl,hb,hgg,rest⟩
 . exact .inl hn
 . exact .inr ⟨g,cap,cur,rfl,hb,by rw[k.block g (Qe.1 hgg).1 (hc g rfl)];exact hgg,rest⟩
theorem bC{w:World}{b:Nat}{t e:TypeId}{cs:Array Value}{base s n:Nat}{v:Value}{xs:List Value}(h:BoxAt w b t cs)(k:w.ownsRow base e s v n xs)(hne:e≠t):v.ownBlock≠some b:=by
 rcases k.2 with⟨rfl,_⟩|⟨g,cap,cur,rfl,_,hg,_⟩
 . simp[Value.ownBlock]
 . intro e0;obtain rfl:g=b:=by simpa [Value.ownBlock] using e0
   unfold BoxAt at h;rw[h]at hg
   cases hg;exact hne rfl
theorem yDA{w:World}{b:Nat}{e:TypeId}{ks:tH}{base s n:Nat}{v:Value}{xs:List Value}(h:MapAt w b ks)(k:w.ownsRow base e s v n xs):v.ownBlock≠some b:=by
 obtain⟨es,cl,hb,_⟩:=h;rcases k.2 with⟨rfl,_⟩|⟨g,cap,cur,rfl,_,hg,_⟩
 . simp[Value.ownBlock]
 . intro e0;obtain rfl:g=b:=by simpa [Value.ownBlock] using e0
   rw[hb]at hg
   cases hg
theorem mG{w:World}{a b:Nat}{t t':TypeId}{cs ds:Array Value}(h:BoxAt w a t cs)(k:BoxAt w b t' ds)(hne:t≠t'):a≠b:=by
 rintro rfl;unfold BoxAt at h k;rw[h]at k
 cases k;exact hne rfl
theorem xS{w:World}{a b:Nat}{t:TypeId}{cs:Array Value}{ks:tH}(h:BoxAt w a t cs)(k:MapAt w b ks):a≠b:=by
 rintro rfl;obtain⟨es,cl,hb,_⟩:=k;unfold BoxAt at h;rw[h]at hb
 cases hb
theorem dB{W0 w:World}{C:Nat->Prop}{w':World}(h:Under W0 w)(k:Ch C w w')(hC:∀ b,C b->W0.heap.size<=b):Under W0 w' :=
 ⟨k.os.trans h.os,k.output.trans h.output,Ql h.size k.size,λb hb=>(k.block b (Qb hb h.size) λhc=>by have:=hC b hc;omega).trans (h.low b hb)⟩
end Go.Lx
namespace Go
theorem Qu(w:World):Lx.Under w w:=Lx.Under.refl w
end Go
