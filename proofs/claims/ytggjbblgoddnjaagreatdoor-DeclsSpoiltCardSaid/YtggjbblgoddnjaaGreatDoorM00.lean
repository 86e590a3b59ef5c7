/- Part 0 of what the proof rests on. -/
import Derived.Below
import Derived.OwnWalk
import Derived.Maps.AppendAt
import Derived.Deep.Draws
import Derived.RangeFuncNested
import Derived.RangeFuncLeaves
import Derived.OwnWalkIn
import Derived.MapKept
import Derived.Laws.Strings
import Derived.Lib.ItoaLen
import GoSem.ClaimLeaving
import Derived.Lib.Hide
set_option linter.unusedSimpArgs false
set_option linter.unusedVariables false
namespace Go
theorem aA{p:Prop}(h:p):RowKit.Hid p:=Lib.hid h
end Go
namespace Go.Lx
open Go.RowKit
theorem uC(w:World)(o:Obj):(w.alloc o).heap=w.heap.push o:=rfl
theorem heap_set(w:World)(a:Addr)(v:Value)(b:Nat)(hb:b≠a.block):(w.setCell a v).heap[b]? = w.heap[b]? := by
 simp only[World.setCell];rw[Array.getElem?_modify];simp[Ne.symm hb]
theorem sM(w:World){b i:Nat}{cs:Array Value}{ty:TypeId}{fz:Nat×Nat}(h:w.heap[b]? = some (.cells cs ty fz))(v:Value) :
 (w.setCell ⟨b,i,none⟩ v).heap[b]? = some (.cells (cs.setIfInBounds i v) ty fz):=by
 simp only[World.setCell];rw[Array.getElem?_modify];simp[h]
theorem mAA(w:World)(a:Addr)(v:Value):(w.setCell a v).heap.size=w.heap.size:=by simp[World.setCell]
theorem g6A(b j:Nat):(⟨b,0,none⟩:Addr).add j=⟨b,j,none⟩:=by unfold Addr.add;split<;>simp_all
section
variable {w w' : World} {base : Nat} {e : TypeId} {size n : Nat} {v : Value} {xs : List Value}
theorem dE(h:w.ownsRow base e size v n xs)(hn:0 < n):∃ g cap,v = .slice (some ⟨g,0,none⟩) n cap∧v.ownBlock=some g∧base≤g∧g < w.heap.size∧n≤cap∧cap≤maxLen:=by
 rcases h.2 with⟨_,h0⟩ | ⟨g,cap,cur,rfl,hb,hg,h1,h2,_⟩
 · omega
 · exact⟨g,cap,rfl,rfl,hb,(Array.getElem?_eq_some_iff.1 hg).1,h1,h2⟩
theorem eD(h:w.ownsRow base e size v n xs){g:Nat}(hg:v.ownBlock=some g){j:Nat}{u:Value}(hu:xs[j]? = some u):w.cell? ⟨g,j,none⟩=some u:=by
 have:=h.cells hg j u hu
 rwa [g6A]at this
theorem fQA(h:w.ownsRow base e size v n xs){g:Nat}(hg:v.ownBlock=some g)(j:Nat):w.frozen? ⟨g,j,none⟩=false:=by
 rcases h.2 with⟨rfl,_⟩ | ⟨g',cap,cur,rfl,_,hgg,_⟩
 · cases hg
 · cases hg;simp[World.frozen?,hgg]
theorem cWA(h:w.ownsRow base e size v n xs){g:Nat}(hg:v.ownBlock=some g){j:Nat}(hj:j < xs.length)(u:Value):(w.setCell ⟨g,j,none⟩ u).ownsRow base e size v n (xs.set j u):=by
 rcases h.2 with⟨rfl,_⟩ | ⟨g',cap,cur,rfl,hb,hgg,h1,h2,h3,h4⟩
 · cases hg
 · cases hg;refine⟨by rw[List.length_set];exact h.1,.inr ⟨_,cap,cur.setIfInBounds j u,rfl,hb,sM w hgg u,h1,h2,by rw[Array.size_setIfInBounds];exact h3,?_⟩⟩;rw[Array.toList_setIfInBounds,List.take_set,h4]
theorem rD(h:w.ownsRow base e size v n xs){b:Nat}(hg:v.ownBlock≠some b)(j:Nat)(u:Value):(w.setCell ⟨b,j,none⟩ u).ownsRow base e size v n xs:=by
 refine⟨h.1,?_⟩;rcases h.2 with hn | ⟨g,cap,cur,rfl,hb,hgg,rest⟩
 · exact .inl hn
 · refine .inr ⟨g,cap,cur,rfl,hb,?_,rest⟩;rw[heap_set w _ u g (fun e=>hg (by simp[Value.ownBlock,e]))];exact hgg
theorem pQ{g cap:Nat}(h:w.ownsRow base e size (.slice (some ⟨g,0,none⟩) n cap) n xs){m:Nat}(hm:m≤n):w.ownsRow base e size (.slice (some ⟨g,0,none⟩) m cap) m (xs.take (m * size)):=by
 have hle:m * size≤n * size:=Nat.mul_le_mul_right _ hm;rcases h.2 with⟨h0,_⟩ | ⟨g',cap',cur,hv,hb,hgg,h1,h2,h3,h4⟩
 · cases h0
 · cases hv;refine⟨by rw[List.length_take,h.1];omega,.inr ⟨g,cap,cur,rfl,hb,hgg,by omega,h2,h3,?_⟩⟩;rw[← h4,List.take_take,Nat.min_eq_left hle]
theorem vE{row:Option Nat}(h:w.ownsRow base e size v n xs)(hg:w.grownBy w' row)(hne:v.ownBlock=none∨v.ownBlock≠row):w'.ownsRow base e size v n xs:=h.kept hg hne
end
def dB : Code → Code
  | .seq a _=>a
  | c=>c
def qA : Code → Code
  | .seq _ b=>b
  | c=>c
def fD : Code → Code
  | .block _ c=>c
  | .loop c=>c
  | .scope c=>c
  | c=>c
theorem eB{df:List Deferred}{A:Array Value}{F:(Nat→Value)→Array Value}{Pr:Prop}(h:A=F fun n=>A.getD n undef)(hp:Pr):∃ J':Nat→Value,(⟨A,df⟩:Act)=⟨F J',df⟩∧Pr:=⟨_,by rw[← h],hp⟩
structure Under (W w:World):Prop where
 os:w.os=W.os
 output:w.output=W.output
 size:W.heap.size≤w.heap.size
 low:∀ b,b < W.heap.size→w.heap[b]? = W.heap[b]?
section
variable {W w w' : World}
theorem Under.refl(a:World):Under a a:=⟨rfl,rfl,Nat.le_refl _,fun _ _=>rfl⟩
theorem Under.trans{a b c:World}(h:Under a b)(k:Under b c):Under a c:=⟨k.os.trans h.os,k.output.trans h.output,Nat.le_trans h.size k.size,fun i hi=>(k.low i (Nat.lt_of_lt_of_le hi h.size)).trans (h.low i hi)⟩
theorem bA(h:Under W w)(x:Obj):Under W (w.alloc x) :=
 ⟨h.os, h.output, by have := h.size; rw [uC, Array.size_push]; omega, fun b hb => by
   rw[uC,Array.getElem?_push_lt (Nat.lt_of_lt_of_le hb h.size),← Array.getElem?_eq_getElem];exact h.low b hb⟩
theorem bC(h:Under W w){g:Nat}(hg:W.heap.size≤g)(j:Nat)(u:Value):Under W (w.setCell ⟨g,j,none⟩ u) :=
 ⟨h.os,h.output,by rw[mAA];exact h.size,fun b hb=>by rw[heap_set w _ u b (by show b≠g;omega)];exact h.low b hb⟩
theorem xA{row:Option Nat}(h:Under W w)(hg:w.grownBy w' row)(hr:∀ g,row=some g→W.heap.size≤g):Under W w' :=
 ⟨hg.os.trans h.os,hg.output.trans h.output,Nat.le_trans h.size hg.size,fun b hb=>(hg.block b (Nat.lt_of_lt_of_le hb h.size) (fun e=>by have:=hr b e.symm;omega)).trans (h.low b hb)⟩
theorem bB(h:Under W w)(n:Nat):Under W (w.drewN n):=⟨h.os,h.output,h.size,h.low⟩
theorem nA(h:Under W w):Under W w.drew:=⟨h.os,h.output,h.size,h.low⟩
theorem dDA(h:Below w.heap.size w w'):Under w w':=⟨h.os,h.output,h.size,fun b hb=>h.block b hb⟩
theorem fA(h:Under W w){b:Nat}(hb:b < W.heap.size)(j:Nat):w.cell? ⟨b,j,none⟩=W.cell? ⟨b,j,none⟩:=by simp only[World.cell?,h.low b hb]
theorem jB{base:Nat}{e:TypeId}{size n:Nat}{v:Value}{xs:List Value}(h:w.ownsRow base e size v n xs){g:Nat}(hg:v.ownBlock=some g):base≤g∧g < w.heap.size:=by
 rcases h.2 with⟨rfl,_⟩ | ⟨g',cap,cur,rfl,hb,hgg,_⟩
 · cases hg
 · cases hg;exact⟨hb,(Array.getElem?_eq_some_iff.1 hgg).1⟩
theorem own_ne{base base':Nat}{e e':TypeId}{s s' n n':Nat}{v v':Value}{xs xs':List Value}(h:w.ownsRow base e s v n xs)(h':w.ownsRow base' e' s' v' n' xs')(hne:e≠e'):v.ownBlock=none∨v.ownBlock≠v'.ownBlock:=by
 rcases h.2 with⟨rfl,_⟩ | ⟨g,c,cur,rfl,_,hg,_⟩
 · exact .inl rfl
 · right
   rcases h'.2 with⟨rfl,_⟩ | ⟨g',c',cur',rfl,_,hg',_⟩
   · simp[Value.ownBlock]
   · intro e0; obtain rfl : g = g' := by simpa [Value.ownBlock] using e0
     rw[hg]at hg'
     cases hg';exact hne rfl
theorem wD{base base':Nat}{e:TypeId}{s n:Nat}{v:Value}{xs:List Value}(h:w.ownsRow base e s v n xs)(hb:base'≤base):w.ownsRow base' e s v n xs:=by
 refine⟨h.1,?_⟩;rcases h.2 with hn | ⟨g,cap,cur,rfl,hb',rest⟩
 · exact .inl hn
 · exact .inr ⟨g,cap,cur,rfl,Nat.le_trans hb hb',rest⟩
theorem uA{base:Nat}{e:TypeId}{s n:Nat}{v:Value}{xs:List Value}(h:w.ownsRow base e s v n xs)(hU:Under w w'):w'.ownsRow base e s v n xs:=by
 refine⟨h.1,?_⟩;rcases h.2 with hn | ⟨g,cap,cur,rfl,hb,hgg,rest⟩
 · exact .inl hn
 · exact .inr ⟨g,cap,cur,rfl,hb,by rw[hU.low g (Array.getElem?_eq_some_iff.1 hgg).1];exact hgg,rest⟩
end
theorem zM(b off j:Nat):(⟨b,off,none⟩:Addr).add j=⟨b,off+j,none⟩:=by unfold Addr.add;split<;>simp_all
def BoxAt(w:World)(b:Nat)(t:TypeId)(cs:Array Value):Prop:=w.heap[b]? = some (.cells cs t (0,0))
theorem rA(w:World)(cs:Array Value)(t:TypeId):BoxAt (w.alloc (.cells cs t)) w.heap.size t cs:=by simp[BoxAt,uC]
section
variable {w w' : World} {b : Nat} {t : TypeId} {cs : Array Value}
theorem BoxAt.lt(h:BoxAt w b t cs):b < w.heap.size:=(Array.getElem?_eq_some_iff.1 h).1
theorem BoxAt.cell(h:BoxAt w b t cs)(j:Nat):w.cell? ⟨b,j,none⟩=cs[j]? := by
 unfold BoxAt at h;simp[World.cell?,h]
theorem BoxAt.free(h:BoxAt w b t cs)(j:Nat):w.frozen? ⟨b,j,none⟩=false:=by
 unfold BoxAt at h;simp[World.frozen?,h]
theorem BoxAt.set(h:BoxAt w b t cs)(j:Nat)(u:Value):BoxAt (w.setCell ⟨b,j,none⟩ u) b t (cs.setIfInBounds j u):=sM w h u
theorem BoxAt.other(h:BoxAt w b t cs){g:Nat}(hg:b≠g)(j:Nat)(u:Value):BoxAt (w.setCell ⟨g,j,none⟩ u) b t cs:=by
 unfold BoxAt;rw[heap_set w _ u b hg];exact h
theorem BoxAt.alloc(h:BoxAt w b t cs)(o:Obj):BoxAt (w.alloc o) b t cs:=by
 have hb:=h.lt;unfold BoxAt;rw[uC,Array.getElem?_push_lt hb,← Array.getElem?_eq_getElem];exact h
theorem BoxAt.under(h:BoxAt w b t cs)(hU:Under w w'):BoxAt w' b t cs:=(hU.low b h.lt).trans h
theorem BoxAt.drew(h:BoxAt w b t cs):BoxAt w.drew b t cs:=h
theorem BoxAt.grown{row:Option Nat}(h:BoxAt w b t cs)(hg:w.grownBy w' row)(hr:some b≠row):BoxAt w' b t cs:=(hg.block b h.lt hr).trans h
end
def CellsAt(w:World)(b off:Nat)(cs:List Value):Prop:=∀(j:Nat) u,cs[j]? = some u→w.cell? ⟨b,off+j,none⟩=some u
def RowArg(w:World)(p:Option Addr)(cs:List Value):Prop:=cs≠[]→∃ b off,p=some ⟨b,off,none⟩∧b < w.heap.size∧CellsAt w b off cs
section
variable {w w' : World} {b off : Nat} {p : Option Addr} {cs ds : List Value}
theorem CellsAt.under(h:CellsAt w b off cs)(hb:b < w.heap.size)(hU:Under w w'):CellsAt w' b off cs:=fun j u hj=>(fA hU hb _).trans (h j u hj)
theorem RowArg.under(h:RowArg w p cs)(hU:Under w w'):RowArg w' p cs:=fun hne=>by
 obtain⟨b,off,e,hb,hc⟩:=h hne;exact⟨b,off,e,Nat.lt_of_lt_of_le hb hU.size,hc.under hb hU⟩
theorem cO(w:World)(cs:List Value)(t:TypeId)(c:Nat×Nat):RowArg (w.alloc (.cells cs.toArray t c)) (some ⟨w.heap.size,0,none⟩) cs :=
 fun _=>⟨_,0,rfl,by simp,fun j u hj=>by rw[Nat.zero_add];simp only[World.cell?,uC,Array.getElem?_push_size];simp[hj]⟩
theorem RowArg.nil:RowArg w p []:=fun h=>absurd rfl h
theorem RowArg.of_own{base:Nat}{e:TypeId}{s n:Nat}{v:Value}(h:w.ownsRow base e s v n cs):∃ q c,v = .slice q n c∧n≤c∧RowArg w q cs:=by
 rcases h.2 with⟨rfl,h0⟩ | ⟨g,cap,cur,rfl,_,hg,h1,h2,_⟩
 · subst h0;exact⟨none,0,rfl,Nat.le_refl _,fun hne=>absurd (List.eq_nil_of_length_eq_zero (by rw[h.1];omega)) hne⟩
 · exact⟨_,cap,rfl,h1,fun _=>⟨g,0,rfl,(Array.getElem?_eq_some_iff.1 hg).1,fun j u hj=>by rw[Nat.zero_add];exact eD h rfl hj⟩⟩
theorem CellsAt.app(h:CellsAt w b off (cs++ds)):CellsAt w b off cs∧CellsAt w b (off+cs.length) ds :=
 ⟨fun j u hj=>h j u (by rw[List.getElem?_append_left (List.getElem?_eq_some_iff.1 hj).1];exact hj),
  fun j u hj=>by rw[Nat.add_assoc];exact h _ u (by rw[List.getElem?_append_right (by omega),Nat.add_sub_cancel_left];exact hj)⟩
end
end Go.Lx
namespace Go.Lx
structure Nd where
 k:Int
 n:Int
 m:Int
 s:ByteArray
deriving DecidableEq
def wRA(x:Nd):List Value:=[.int .i64 x.k,.int .i64 x.n,.int .i64 x.m,.string x.s]
def wB : List Nd → List Value
  | []=>[]
  | x::l=>.int .i64 x.k :: .int .i64 x.n :: .int .i64 x.m :: .string x.s::wB l
def ndV(x:Nd):Value:=.agg #[.int .i64 x.k,.int .i64 x.n,.int .i64 x.m,.string x.s]
theorem gF(l r:List Nd):wB (l++r)=wB l++wB r:=by
 induction l with
 | nil=>rfl
 | cons x l ih=>simp[wB,ih]
theorem gDA(l:List Nd):(wB l).length=l.length * 4:=by
 induction l with
 | nil=>rfl
 | cons x l ih=>simp[wB,ih];omega
theorem yCA{l:List Nd}(h:wB l=[]):l=[]:=by cases l with | nil=>rfl | cons x l=>simp[wB]at h
theorem rY : ∀ {l : List Nd} {k : Nat} {x : Nd}, l[k]? = some x → (wB l)[k * 4]? = some (.int .i64 x.k) ∧ (wB l)[k * 4 + 1]? = some (.int .i64 x.n) ∧ (wB l)[k * 4 + 2]? = some (.int .i64 x.m) ∧ (wB l)[k * 4 + 3]? = some (.string x.s)
  | y::l,0,x,h=>by cases h;exact⟨rfl,rfl,rfl,rfl⟩
  | y :: l, k + 1, x, h => by
    have:=rY (l:=l) (k:=k) (x:=x) (by simpa using h);rw[show(k+1) * 4=k * 4+4 by omega];exact this
theorem RowArg.node{w:World}{p:Option Addr}{l:List Nd}(h:RowArg w p (wB l)){k:Nat}{x:Nd}(hk:l[k]? = some x):∃ b off,p=some ⟨b,off,none⟩∧b < w.heap.size ∧
 w.cell? ⟨b,off+k * 4,none⟩=some (.int .i64 x.k)∧w.cell? ⟨b,off+k * 4+1,none⟩=some (.int .i64 x.n)∧w.cell? ⟨b,off+k * 4+2,none⟩=some (.int .i64 x.m)∧w.cell? ⟨b,off+k * 4+3,none⟩=some (.string x.s):=by
 obtain⟨b,off,e,hb,hc⟩:=h (fun e=>by rw[yCA e]at hk;simp at hk);obtain⟨h0,h1,h2,h3⟩:=rY hk;exact⟨b,off,e,hb,hc _ _ h0,hc _ _ h1,hc _ _ h2,hc _ _ h3⟩
def xUA(c:UInt8):Int:=bits BinOp.or IntKind.u8 (c.toNat:Int) 32
def iY(c:UInt8):Bool:=decide (97≤xUA c)&&decide (xUA c≤122)||(c.toNat:Int)==95
def xMA(c:UInt8):Bool := !(decide ((c.toNat:Int) < 48)) && !(decide (57 < (c.toNat:Int)))
def okB(i:Nat)(c:UInt8):Bool:=iY c||(decide (i≠0)&&xMA c)
def kE : Nat → List UInt8 → Bool
  | _,[]=>true
  | i,c::r=>okB i c&&kE (i+1) r
def uD(s:ByteArray):Bool:=kE 0 s.data.toList&&(decide (s.size≠0)&&decide (s.size≤16))
def jH : Nat → List Nat
  | 3=>[0,1]
  | 4=>[0,1]
  | 5=>[0,0]
  | 6=>[0,1]
  | 7=>[0,0,0]
  | 8=>[0]
  | 9=>[0]
  | 12=>[0]
  | 13=>[1,0,2,0]
  | 15=>[0,0]
  | 18=>[0,0,0]
  | 19=>[0,0]
  | 20=>[0,0,0,0]
  | 21=>[0,0,1,0,0,0]
  | 22=>[0,2,0,0,0]
  | 23=>[0,0]
  | 24=>[0,1,0,0]
  | 28=>[0]
  | _=>[]
def fN(k:Nat):Bool:=[0,2,3,6,26].contains k
def fM(k:Nat):Bool:=[26,27].contains k
def fS(k:Nat):Bool:=[1,25,26,27].contains k
def uE(l:List Nat):List Value:=l.map fun(n:Nat)=>.int .i64 (n:Int)
structure ShapesAt (g:Nat) (W:World):Prop where
 lt:g < W.heap.size
 row:∀ k,k < 30→∃ p c,W.cell? ⟨g,k * 4,none⟩=some (.slice p (jH k).length c)∧(jH k).length≤c∧RowArg W p (uE (jH k)) ∧
  W.cell? ⟨g,k * 4+1,none⟩=some (.bool (fN k))∧W.cell? ⟨g,k * 4+2,none⟩=some (.bool (fM k))∧W.cell? ⟨g,k * 4+3,none⟩=some (.bool (fS k))
theorem ShapesAt.under{g:Nat}{W w:World}(h:ShapesAt g W)(hU:Under W w):ShapesAt g w :=
 ⟨Nat.lt_of_lt_of_le h.lt hU.size, fun k hk => by
   obtain⟨p,c,h0,h1,h2,h3,h4,h5⟩:=h.row k hk;exact⟨p,c,(fA hU h.lt _).trans h0,h1,h2.under hU,(fA hU h.lt _).trans h3,(fA hU h.lt _).trans h4,(fA hU h.lt _).trans h5⟩⟩
def tV(k:Int):Int:=if k=0 then 99 else if k=3∨k=6 then 3 else 5
def zA(x:Nd):Bool :=
 if x.k < 0∨30≤x.k then false
 else if fN x.k.toNat=false∧x.n≠0 then false
 else if fM x.k.toNat=false∧x.m≠0 then false
 else if fS x.k.toNat=false∧x.s.size≠0 then false
 else if fS x.k.toNat=true∧uD x.s=false then false
 else if x.k=2 then decide (0≤x.n)&&decide (x.n≤9)
 else if x.k=26 then decide (0≤x.n)&&decide (x.n≤5)&&decide (0≤x.m)&&decide (x.m≤6)
 else if x.k=27 then decide (0≤x.m)&&decide (x.m≤6)
 else !fN x.k.toNat||(decide (0≤x.n)&&decide (x.n≤tV x.k))
def binds(x:Nd):List Nat :=
 if x.k=26 then List.replicate x.m.toNat 0 else if x.k=27 then 1::List.replicate (x.m.toNat+1) 0 else jH x.k.toNat
theorem pV{x:Nd}(h:zA x=true):0≤x.k∧x.k < 30:=by
 unfold zA at h
 split at h
 · cases h
 · omega
theorem vR{x:Nd}(h:zA x=true)(hk:x.k=26∨x.k=27):0≤x.m∧x.m≤6:=by
 unfold zA at h;rcases hk with hk | hk<;>simp[hk]at h<;>omega
theorem uCA(k:Nat):(jH k).length≤6:=by
 unfold jH;split<;>simp
theorem aM{x:Nd}(h:zA x=true):(binds x).length≤8:=by
 unfold binds
 split
 · rw[List.length_replicate];have:=vR h (.inl ‹_›);omega
 · split
   · rw[List.length_cons,List.length_replicate];have:=vR h (.inr ‹_›);omega
   · have:=uCA x.k.toNat;omega
def meas(i:Nat)(l:List (Nat×Nat)):Nat×Nat:=((l.headD (i,0)).1,l.foldl (fun d x=>max d (x.2+1)) 1)
def yC : List Nd → Nat → List (Nat × Nat) → List (Nat × Nat) → Option (List (Nat × Nat) × List (Nat × Nat))
  | [],_,all,op=>some (all,op)
  | x :: t, i, all, op => if zA x = false ∨ op.length < (binds x).length then none else
    let m:=meas i (op.drop (op.length - (binds x).length))
    yC t (i+1) (all++[m]) (op.take (op.length - (binds x).length)++[m])
def gB(t:List Nd):Int :=
 if 4000 < t.length then 21 else
  match yC t 0 [] [] with
  | none=>20
  | some (all,op)=>if op.length≠1 then 20 else if 60 < (all.getLastD (0,0)).2 then 22 else 0
end Go.Lx
namespace Go.Lx
open Go.RowKit
structure Kept (R:Nat→Prop) (b:Option Nat) (W W':World):Prop where
 os:W'.os=W.os
 output:W'.output=W.output
 size:W.heap.size≤W'.heap.size
 same:∀ k,k < W.heap.size→(R k∨b=some k)→W'.heap[k]? = W.heap[k]?
structure IStep (b b':Option Nat) (W W':World):Prop where
 os:W'.os=W.os
 output:W'.output=W.output
 size:W.heap.size≤W'.heap.size
 block:∀ k,k < W.heap.size→some k≠b→W'.heap[k]? = W.heap[k]?
 at_:b'=b∨∃ g,b'=some g∧W.heap.size≤g
theorem IStep.under{W W':World}(h:Under W W')(b:Option Nat):IStep b b W W':=⟨h.os,h.output,h.size,fun k hk _=>h.low k hk,.inl rfl⟩
theorem IStep.alloc(W:World)(o:Obj)(b:Option Nat):IStep b b W (W.alloc o):=IStep.under (bA (Under.refl _) _) b
theorem IStep.grown{W W':World}{b b':Option Nat}(h:W.grownBy W' b)(hb:b'=b∨b'=some W.heap.size):IStep b b' W W' :=
 ⟨h.os, h.output, h.size, h.block, by rcases hb with h | h; · exact .inl h
                                      · exact .inr ⟨_,h,Nat.le_refl _⟩⟩
theorem b2A{w w':World}{base:Nat}{e:TypeId}{s n:Nat}{v:Value}{xs:List Value}(h:w.ownsRow base e s v n xs)(hb:∀ g,v.ownBlock=some g→w'.heap[g]? = w.heap[g]?):w'.ownsRow base e s v n xs:=by
 refine⟨h.1,?_⟩;rcases h.2 with hn | ⟨g,cap,cur,rfl,hb',hgg,rest⟩
 · exact .inl hn
 · exact .inr ⟨g,cap,cur,rfl,hb',by rw[hb g rfl];exact hgg,rest⟩
theorem Kept.refl(R:Nat→Prop)(b:Option Nat)(W:World):Kept R b W W:=⟨rfl,rfl,Nat.le_refl _,fun _ _ _=>rfl⟩
theorem Kept.trans{R:Nat→Prop}{b:Option Nat}{A B C:World}(h:Kept R b A B)(k:Kept R b B C):Kept R b A C :=
 ⟨k.os.trans h.os,k.output.trans h.output,Nat.le_trans h.size k.size,fun i hi hr=>(k.same i (Nat.lt_of_lt_of_le hi h.size) hr).trans (h.same i hi hr)⟩
theorem Kept.putObj{R:Nat→Prop}{b:Option Nat}{W:World}{l:Nat}(o:Obj)(hR:¬ R l)(hb:b≠some l):Kept R b W (W.putObj l o) :=
 ⟨rfl, rfl, by simp, fun k hk hr => World.putObj_heap_other fun e => by
   rcases hr with hr | hr
   · exact hR (e▸hr)
   · exact hb (e▸hr)⟩
theorem Under.kept{W0 W W':World}{R:Nat→Prop}{b:Option Nat}(h:Under W0 W)(hk:Kept R b W W')(hR:∀ k,k < W0.heap.size→R k):Under W0 W' :=
 ⟨hk.os.trans h.os,hk.output.trans h.output,Nat.le_trans h.size hk.size,fun k hlt=>(hk.same k (Nat.lt_of_lt_of_le hlt h.size) (.inl (hR k hlt))).trans (h.low k hlt)⟩
theorem Kept.of_under{W W':World}{R:Nat→Prop}{b:Option Nat}(h:Under W W'):Kept R b W W':=⟨h.os,h.output,h.size,fun k hk _=>h.low k hk⟩
structure Turned (r:Option Nat) (W W':World):Prop where
 os:W'.os=W.os
 output:W'.output=W.output
 size:W.heap.size≤W'.heap.size
 block:∀ k,k < W.heap.size→some k≠r→W'.heap[k]? = W.heap[k]?
theorem Turned.refl(r:Option Nat)(W:World):Turned r W W:=⟨rfl,rfl,Nat.le_refl _,fun _ _ _=>rfl⟩
theorem Turned.trans{r:Option Nat}{A B C:World}(h:Turned r A B)(k:Turned r B C):Turned r A C :=
 ⟨k.os.trans h.os,k.output.trans h.output,Nat.le_trans h.size k.size,fun i hi hr=>(k.block i (Nat.lt_of_lt_of_le hi h.size) hr).trans (h.block i hi hr)⟩
theorem Turned.of_under{r:Option Nat}{A B:World}(h:Under A B):Turned r A B:=⟨h.os,h.output,h.size,fun k hk _=>h.low k hk⟩
theorem Turned.set(g j:Nat)(u:Value)(W:World):Turned (some g) W (W.setCell ⟨g,j,none⟩ u) :=
 ⟨rfl,rfl,by rw[mAA];exact Nat.le_refl _,fun k hk hr=>heap_set W _ u k fun e=>hr (congrArg some e)⟩
theorem Turned.under{W0 W W':World}{g:Nat}(h:Turned (some g) W W')(h0:Under W0 W)(hg:W0.heap.size≤g):Under W0 W' :=
 ⟨h.os.trans h0.os,h.output.trans h0.output,Nat.le_trans h0.size h.size,fun k hk=>(h.block k (Nat.lt_of_lt_of_le hk h0.size) fun e=>by cases e;omega).trans (h0.low k hk)⟩
theorem BoxAt.turned{w w':World}{b:Nat}{t:TypeId}{cs:Array Value}{r:Option Nat}(h:BoxAt w b t cs)(hT:Turned r w w')(hr:some b≠r):BoxAt w' b t cs:=(hT.block b h.lt hr).trans h
variable {F : Fence} {n : Nat} {P : Program}
def Iter{α:Type}(F:Fence)(n:Nat)(P:Program)(gf:Nat)(lb:Array Value)(encs:α→Array Value)(R:Nat→Prop)(xs:List α)(w:World):Prop :=
 ∀(l:Nat) (J:Option Nat→List α→World→Prop) (Jx:List α→World→Prop) (W:World),Under w W →
  (∀ b b' pre A A',J b pre A→IStep b b' A A'→J b' pre A') →
  (∀ b pre x A, J b pre A → pre ++ [x] <+: xs → YieldAt F (n - 1) P l (encs x) A fun e A' =>
    (e = .returned (.bool true)∧J b (pre++[x]) A'∧Kept R b A A')∨(e = .returned (.bool false)∧Jx (pre++[x]) A')) →
  J none [] W →
  CallsIn F n P gf (#[.func (.yield l) #[] #[]]++lb) W fun e W'=>(∃ v,e = .returned v)∧((∃ b,J b xs W')∨∃ pre,Jx pre W')
def p4A {α : Type} (B : Nat) (R : Nat → Prop) (b : Option Nat) (I : Option Nat → List α → World → Prop) (Ix : Code → List α → World → Prop) (xs : List α) (W : World) : Exit → Act → World → Prop
  | .normal,_,W'=>KeepsFrom B W W'∧Kept R b W W'∧I b xs W'
  | .ret,_,W'=>KeepsFrom B W W'∧Ix .ret xs W'
  | .exit id,_,W'=>KeepsFrom B W W'∧Ix (.exit id) xs W'
  | .goto t,_,W'=>KeepsFrom B W W'∧Ix (.goto t) xs W'
  | .panic _,_,_=>False
  | .outgrown,_,_=>False
theorem gX {α : Type} {g : Operand} {ps : Array Tmp} {assign body : Code} {Q : Exit → Act → World → Prop} {a : Act} {w w0 : World}
    (hro:F.round=none) (h1:1≤n) {gf:Nat} {lb:Array Value} (hg:a.eval g = .func (.func gf) #[] lb) (hFg:F.fn gf) (eg:∀ args w,(callFunc gf args).run P w = .ok (.enter gf args) w)
    {encs:α→Array Value} {R:Nat→Prop} {xs:List α} (hit:Iter F (n - 1) P gf lb encs R xs w0) (hU:Under w0 w) (hps:∀ x,(encs x).size=ps.size) (hR:∀ k,R k→k < w.heap.size)
    (I:Option Nat→List α→World→Prop) (Ix:Code→List α→World→Prop)
    (hI:∀ b b' pre A A',I b pre A→IStep b b' A A'→w.heap.size≤A.heap.size→(∀ g,b=some g→w.heap.size≤g)→I b' pre A')
    (hIo:∀ b pre A l o o',I b pre A→w.heap.size≤l→A.heap[l]? = some o→o.isCells=false→I b pre (A.putObj l o'))
    (hIx:∀ c pre A l o o',Ix c pre A→w.heap.size≤l→A.heap[l]? = some o→o.isCells=false→Ix c pre (A.putObj l o'))
    (h0:I none [] w) (a₁:α→Act)
    (hassign : ∀ (l : Nat) (x : α) (W : World) (K : Act → World → Prop), K (a₁ x) W →
      assign.wpIn (F.inRound l) (n - 1 - 1) P (Exit.then K (fun _ _ _=>False)) { tmps:=(ps.zip (encs x)).foldl (fun t (p,v)=>t.setIfInBounds p v) a.tmps,defers:=[] } W)
    (hbody:∀(l:Nat) (b:Option Nat) (pre:List α) (x:α) (W:World),w.heap.size≤W.heap.size→(∀ g,b=some g→w.heap.size≤g)→I b pre W→pre++[x] <+: xs→body.wpIn (F.inRound l) (n - 1 - 1) P (p4A w.heap.size R b I Ix (pre++[x]) W) (a₁ x) W)
    (hdone:∀(D:Nat) (b:Option Nat) (W:World),w.heap.size≤D→I b xs W→W.heap[D]? = some (.deferred (some []))→Q .normal { a with defers:={ target:=.collected D,args:=#[] }::a.defers } W)
    (hstop:∀(D:Nat) (c:Code) (pre:List α) (W:World),w.heap.size≤D→Ix c pre W→W.heap[D]? = some (.deferred (some []))→c.wpIn F n P Q { a with defers:={ target:=.collected D,args:=#[] }::a.defers } W) :
    (Code.rangeFunc g ps assign body).wpIn F n P Q a w:=by
  refine wpIn_rangeFunc fun fn hfn=>?_
  rw[hro];obtain⟨L,hL⟩:∃ L:LoopState→Option Code→Loop,L=fun st pe=>{ state:=st,pending:=pe,fn,tmps:=a.tmps,params:=ps,assign,body,defers:=w.heap.size }:=⟨_,rfl⟩
  obtain⟨W1,hW1⟩:∃ W1,W1=(w.alloc (.deferred (some []))).alloc (.loop (L .ready none)):=⟨_,rfl⟩;have hz1:W1.heap.size=w.heap.size+2:=by rw[hW1];simp
  have hU1:Under w W1:=by rw[hW1];exact bA (bA (Under.refl _) _) _
  have hl1:W1.heap[w.heap.size+1]? = some (.loop (L .ready none)):=by
   rw[hW1,uC];have:(w.alloc (.deferred (some []))).heap.size=w.heap.size+1:=by simp
   rw[← this,Array.getElem?_push_size]
  have hd1:W1.heap[w.heap.size]? = some (.deferred (some [])):=by
   rw[hW1,uC,Array.getElem?_push_lt (by simp),← Array.getElem?_eq_getElem]
   show(w.heap.push _)[w.heap.size]? = _
   rw[Array.getElem?_push_size]
  have hI1:I none [] W1:=by
   rw[hW1];exact hI none none _ _ _ (hI none none _ _ _ h0 (IStep.alloc w _ none) (Nat.le_refl _) (fun g e=>by cases e)) (IStep.alloc _ _ none) (by simp) (fun g e=>by cases e)
  refine ⟨w.heap.size + 1, [{ target := .collected w.heap.size, args := #[] }], W1, { target := .fn (.func gf) lb, args := #[.func (.yield (w.heap.size + 1)) #[] #[]] }, W1, gf,
    #[.func (.yield (w.heap.size + 1)) #[] #[]] ++ lb, W1, ?_, ?_, ?_, ?_, fun _ => h1, ?_⟩
  · rw[hW1,hL];exact run_enterLoop_outer _ _ _ _ _
  · simp only[resolve,hg];simp[go_sem]
  · intro f' hf';simp[Target.leads]at hf';subst hf';exact hFg
  · simp[invoke,go_sem,eg]
  · refine (hit (w.heap.size + 1)
      (fun b pre W=>I b pre W∧W.heap[w.heap.size+1]? = some (.loop (L .ready none))∧W.heap[w.heap.size]? = some (.deferred (some []))∧∀ g,b=some g→w.heap.size+1 < g)
      (fun pre W=>∃ c,Ix c pre W∧W.heap[w.heap.size+1]? = some (.loop (L .done (some c)))∧W.heap[w.heap.size]? = some (.deferred (some [])))
      W1 (hU.trans hU1) ?_ ?_ ⟨hI1,hl1,hd1,fun g e=>by cases e⟩).mono ?_
    · rintro b b' pre A A' ⟨hi, hl, hd, hb⟩ hs; have hlt := (Array.getElem?_eq_some_iff.1 hl).1; refine ⟨hI b b' pre A A' hi hs (by omega) (fun g e => by have := hb g e; omega), (hs.block _ hlt fun e => by have := hb _ e.symm; omega).trans hl,
        (hs.block _ (by omega) fun e=>by have:=hb _ e.symm;omega).trans hd,fun g e=>?_⟩
      rcases hs.at_ with e' | ⟨g',e',hg'⟩
      · exact hb g (e'.symm.trans e)
      · rw[e]at e';cases e';omega
    · rintro b pre x W ⟨hi, hl, hd, hb⟩ hpre; have hlt := (Array.getElem?_eq_some_iff.1 hl).1; have hy := run_yield (P := P) (args := encs x) hl (by rw [hL]; exact hps x); rw [hL] at hy; refine ⟨fn, _, assign, body, hy, roundIn_of_wpIn hfn (hassign _ x W _ ⟨_, run_beginRound hl (by rw [hL]), ?_⟩)⟩; have hl2 : (W.putObj (w.heap.size + 1) (.loop { L .ready none with state := .busy })).heap[w.heap.size + 1]? = some (.loop { L .ready none with state := .busy }) := World.putObj_heap_same hlt; have hd2 : (W.putObj (w.heap.size + 1) (.loop { L .ready none with state := .busy })).heap[w.heap.size]? = some (.deferred (some [])) := (World.putObj_heap_other (by omega)).trans hd; have hnR : ¬ R (w.heap.size + 1) := fun h => by have := hR _ h; omega
      have hnb:b≠some (w.heap.size+1):=fun e=>by have:=hb _ e;omega
      refine wpIn_mono (hbody _ b pre x _ (by simp;omega) (fun g e=>by have:=hb g e;omega) (hIo _ _ _ _ _ _ hi (by omega) hl rfl) hpre) ?_;have fin:∀(jump:Option Code) (W3:World),KeepsFrom w.heap.size (W.putObj (w.heap.size+1) (.loop { L .ready none with state:=.busy })) W3 →
       (Instr.endRound (w.heap.size+1) jump).run P W3 = .ok (.bool jump.isNone) (W3.putObj (w.heap.size+1) (.loop (L (if jump.isNone then .ready else .done) jump))) ∧
       W3.heap[w.heap.size+1]? = some (.loop { L .ready none with state:=.busy }) ∧
       (W3.putObj (w.heap.size+1) (.loop (L (if jump.isNone then .ready else .done) jump))).heap[w.heap.size+1]? = some (.loop (L (if jump.isNone then .ready else .done) jump)) ∧
       (W3.putObj (w.heap.size+1) (.loop (L (if jump.isNone then .ready else .done) jump))).heap[w.heap.size]? = some (.deferred (some [])):=fun jump W3 hk3=>by
       have hl3:=hk3.same _ _ (by omega) hl2 rfl;have:=run_endRound (P:=P) jump hl3;rw[hL]at this ⊢;exact⟨this,by rw[hL]at hl3;exact hl3,World.putObj_heap_same (Array.getElem?_eq_some_iff.1 hl3).1,(World.putObj_heap_other (by omega)).trans (hk3.same _ _ (by omega) hd2 rfl)⟩
      rintro e a3 W3 hp
      cases e with
      | normal =>
        obtain⟨hk3,hkp3,hi3⟩:=hp;obtain⟨hr,hl3,hl4,hk4⟩:=fin none W3 hk3;exact⟨_,_,hr,.inl ⟨rfl,⟨hIo _ _ _ _ _ _ hi3 (by omega) hl3 rfl,hl4,hk4,hb⟩,((Kept.putObj _ hnR hnb).trans hkp3).trans (Kept.putObj _ hnR hnb)⟩⟩
      | ret =>
        obtain⟨hk3,hi3⟩:=hp;obtain⟨hr,hl3,hl4,hk4⟩:=fin (some .ret) W3 hk3;exact⟨_,_,hr,.inr ⟨rfl,.ret,hIx _ _ _ _ _ _ hi3 (by omega) hl3 rfl,hl4,hk4⟩⟩
      | exit id =>
        obtain⟨hk3,hi3⟩:=hp;obtain⟨hr,hl3,hl4,hk4⟩:=fin (some (.exit id)) W3 hk3;exact⟨_,_,hr,.inr ⟨rfl,.exit id,hIx _ _ _ _ _ _ hi3 (by omega) hl3 rfl,hl4,hk4⟩⟩
      | goto t =>
        obtain⟨hk3,hi3⟩:=hp;obtain⟨hr,hl3,hl4,hk4⟩:=fin (some (.goto t)) W3 hk3;exact⟨_,_,hr,.inr ⟨rfl,.goto t,hIx _ _ _ _ _ _ hi3 (by omega) hl3 rfl,hl4,hk4⟩⟩
      | panic ch=>exact hp.elim
      | outgrown=>exact hp.elim
    · rintro e W2 ⟨⟨v, rfl⟩, (⟨b, hi, hl, hk, _⟩ | ⟨pre, c, hi, hl, hk⟩)⟩
      · exact⟨none,_,by have:=run_endLoop (P:=P) hl (by rw[hL];simp);rw[hL]at this;exact this,hdone _ b _ (Nat.le_refl _) (hIo _ _ _ _ _ _ hi (by omega) hl rfl) ((World.putObj_heap_other (by omega)).trans hk)⟩
      · exact⟨some c,_,by have:=run_endLoop (P:=P) hl (by rw[hL];simp);rw[hL]at this;exact this,hstop _ c pre _ (Nat.le_refl _) (hIx _ _ _ _ _ _ hi (by omega) hl rfl) ((World.putObj_heap_other (by omega)).trans hk)⟩
end Go.Lx
namespace Go.Lx
open Go.RowKit Go.MapKept
theorem bytes_beq(a b:ByteArray):(a==b)=decide (a=b):=by
 obtain⟨x⟩:=a;obtain⟨y⟩:=b;have h:((⟨x⟩:ByteArray)==⟨y⟩)=(x==y):=rfl;rw[h,Bool.eq_iff_iff];simp
abbrev zH:=List (ByteArray×Value)
def pM : zH → ByteArray → Option Value
  | [],_=>none
  | (a,v)::r,k=>if k=a then some v else pM r k
def mDA : zH → ByteArray → Value → zH
  | [],k,v=>[(k,v)]
  | (a,u)::r,k,v=>if k=a then(k,v)::r else(a,u)::mDA r k v
def MapAt(w:World)(b:Nat)(ks:zH):Prop:=∃ es clock,w.heap[b]? = some (.map es clock)∧es.toList.map (fun e=>(e.key,e.val))=ks.map fun p=>(.string p.1,p.2)
theorem MapAt.lt{w:World}{b:Nat}{ks:zH}(h:MapAt w b ks):b < w.heap.size:=by
 obtain⟨es,clock,hb,_⟩:=h;exact(Array.getElem?_eq_some_iff.1 hb).1
theorem MapAt.under{w w':World}{b:Nat}{ks:zH}(h:MapAt w b ks)(hU:Under w w'):MapAt w' b ks:=by
 obtain⟨es,clock,hb,he⟩:=h;exact⟨es,clock,(hU.low b (Array.getElem?_eq_some_iff.1 hb).1).trans hb,he⟩
theorem MapAt.turned{w w':World}{b:Nat}{ks:zH}{r:Option Nat}(h:MapAt w b ks)(hT:Turned r w w')(hr:some b≠r):MapAt w' b ks:=by
 obtain⟨es,clock,hb,he⟩:=h;exact⟨es,clock,(hT.block b (Array.getElem?_eq_some_iff.1 hb).1 hr).trans hb,he⟩
theorem MapAt.cast{w:World}{b:Nat}{ks ks':zH}(h:MapAt w b ks)(e:ks=ks'):MapAt w b ks':=e▸h
theorem sMA(w:World):MapAt (w.alloc (.map #[] 0)) w.heap.size []:=⟨#[],0,by simp[uC],rfl⟩
def oV : zH → ByteArray → Nat → Option (Nat × Value)
  | [],_,_=>none
  | (a,v)::r,k,i=>if k=a then some (i,v) else oV r k (i+1)
theorem bKA : ∀ (ks : zH) (k : ByteArray) (i : Nat), (oV ks k i).map (·.2) = pM ks k
  | [],_,_=>rfl
  | (a, v) :: r, k, i => by
    simp only[oV,pM]
    split
    · rfl
    · exact bKA r k (i+1)
theorem lZ : ∀ (es : List MapEntry) (ks : zH) (k : ByteArray) (i : Nat), es.map (fun e => (e.key, e.val)) = ks.map (fun p => (Value.string p.1, p.2)) → Instr.findNow .string (.string k) es i = some (oV ks k i)
  | [],[],_,_,_=>rfl
  | [],_::_,_,_,h=>by simp at h
  | _::_,[],_,_,h=>by simp at h
  | e :: es, (a, v) :: r, k, i, h => by
    simp only[List.map_cons,List.cons.injEq,Prod.mk.injEq]at h;obtain⟨⟨h1,h2⟩,h3⟩:=h;simp only[Instr.findNow,Instr.sameNow,h1,oV];by_cases hk:k=a
    · subst hk;rw[bytes_beq];simp[h2]
    · have : (k == a) = false := by rw [bytes_beq]; simpa using hk
      rw[this,if_neg hk];exact lZ es r k (i+1) h3
theorem qVA{ks:zH}{k:ByteArray}{i j:Nat}{v:Value}(h:oV ks k i=some (j,v)):i≤j∧ks[j - i]? = some (k,v)∧∀ u,mDA ks k u=ks.set (j - i) (k,u):=by
 induction ks generalizing i with
 | nil=>cases h
 | cons p r ih =>
   obtain⟨a,y⟩:=p;simp only[oV]at h
   split at h
   · rename_i hk
     cases h;subst hk;exact⟨Nat.le_refl _,by simp,fun u=>by simp[mDA]⟩
   · rename_i hk; obtain ⟨h1, h2, h3⟩ := ih h; refine ⟨by omega, ?_, fun u => ?_⟩
     · rw[show j - i=(j - (i+1))+1 by omega];simpa using h2
     · rw[show j - i=(j - (i+1))+1 by omega];simp[mDA,hk,h3]
theorem eUA{ks:zH}{k:ByteArray}{i:Nat}(h:oV ks k i=none)(u:Value):mDA ks k u=ks++[(k,u)]:=by
 induction ks generalizing i with
 | nil=>rfl
 | cons p r ih =>
   obtain⟨a,y⟩:=p;simp only[oV]at h
   split at h
   · cases h
   · rename_i hk;simp[mDA,hk,ih h]
section
variable {P : Program} {w : World} {b : Nat} {ks : zH} {t kt et : TypeId} {k : ByteArray} {v : Value}
theorem vT{es:Array MapEntry}{clock:Nat}(hb:w.heap[b]? = some (.map es clock)):(getObj b).run P w = .ok (.map es clock) w:=by simp[getObj,Sem.run,hb]
theorem kK(e:Bool)(hk:P.underlying kt=some .string):(Instr.checkKey e 10000 kt (.string k)).run P w = .ok () w:=by
 rw[show(10000:Nat)=9999+1 from rfl,Instr.checkKey];simp[run_underlying hk]
theorem MapAt.update(h:MapAt w b ks)(ht:P.underlying t=some (.map kt et))(hk:P.underlying kt=some .string) :
 ∃ w',(Instr.mapUpdate t (.map (some b)) (.string k) v).run P w = .ok () w'∧MapAt w' b (mDA ks k v)∧Turned (some b) w w':=by
 obtain⟨es,clock,hb,he⟩:=h;have hlt:=(Array.getElem?_eq_some_iff.1 hb).1;have hf:=run_findKey (P:=P) (w:=w) hk (lZ es.toList ks k 0 he)
 cases hm:oV ks k 0 with
 | none =>
   rw[hm]at hf;refine⟨w.putObj b (.map (es.push { key:=.string k,val:=v,born:=clock }) (clock+1)),?_,⟨_,_,World.putObj_heap_same hlt,?_⟩,⟨rfl,rfl,by simp,fun j hj hr=>World.putObj_heap_other fun e=>hr (congrArg some e)⟩⟩
   · simp[Instr.mapUpdate,run_underlying ht,run_underlying hk,vT (P:=P) hb,kK (P:=P) (w:=w) _ hk,hf,setObj,Sem.run,hb,Result.andThen,World.putObj]
   · rw[eUA hm];simp[he]
 | some r =>
   obtain⟨j,u⟩:=r;rw[hm]at hf;obtain⟨_,h2,h3⟩:=qVA hm;rw[Nat.sub_zero]at h2 h3;have hj:es.toList[j]?.map (fun e=>(e.key,e.val))=some (.string k,u):=by
    have:=congrArg (fun l=>l[j]?) he;simp only[List.getElem?_map,h2]at this
    simpa using this
   have hkey:((es[j]?).map (·.key)).getD (.string k) = .string k:=by
    cases hq:es[j]? with
    | none=>rfl
    | some e =>
      have:es.toList[j]? = some e:=by simpa using hq
      rw[this]at hj;simp at hj;simp[hj.1]
   refine⟨w.putObj b (.map (es.modify j fun e=>{ e with key:=.string k,val:=v }) clock),?_,⟨_,_,World.putObj_heap_same hlt,?_⟩,⟨rfl,rfl,by simp,fun i hi hr=>World.putObj_heap_other fun e=>hr (congrArg some e)⟩⟩
   · simp[Instr.mapUpdate,run_underlying ht,run_underlying hk,vT (P:=P) hb,kK (P:=P) (w:=w) _ hk,hf,setObj,Sem.run,hb,Result.andThen,World.putObj,hkey,Instr.keyThatStays,Instr.sameBits,bytes_beq]
   · rw [h3]; apply List.ext_getElem?; intro i; have hi := congrArg (fun l => l[i]?) he; simp only [List.getElem?_map] at hi; simp only [List.getElem?_map, List.getElem?_set]; by_cases e : j = i
     · subst e; have hjl : j < ks.length := (List.getElem?_eq_some_iff.1 h2).1
       cases hq:es.toList[j]? with
       | none=>rw[hq]at hj;cases hj
       | some x =>
         have hjs:j < es.size:=by have:=(List.getElem?_eq_some_iff.1 hq).1;simpa using this
         have hx:es[j]? = some x:=by simpa using hq
         simp[hjl,Array.getElem?_modify,hx,hjs]
     · rw[if_neg e,← hi];simp[Array.getElem?_modify,e]
theorem MapAt.lookup(h:MapAt w b ks)(ht:P.underlying t=some (.map kt et))(hk:P.underlying kt=some .string){z:Value}(hz:(zeroValue et).run P w = .ok z w) :
 (Instr.lookup t (.map (some b)) (.string k) true).run P w = .ok (.tuple #[(pM ks k).getD z,.bool (pM ks k).isSome]) w∧(Instr.lookup t (.map (some b)) (.string k) false).run P w = .ok ((pM ks k).getD z) w:=by
 obtain⟨es,clock,hb,he⟩:=h;have hf:=run_findKey (P:=P) (w:=w) hk (lZ es.toList ks k 0 he);have hg:=bKA ks k 0
 cases hm:oV ks k 0 with
 | none =>
   rw[hm]at hf hg;rw[← hg];constructor<;>simp[Instr.lookup,run_underlying ht,run_underlying hk,vT (P:=P) hb,kK (P:=P) (w:=w) _ hk,hf,hz,Result.andThen]
 | some r =>
   rw[hm]at hf hg;rw[← hg];constructor<;>simp[Instr.lookup,run_underlying ht,run_underlying hk,vT (P:=P) hb,kK (P:=P) (w:=w) _ hk,hf,Result.andThen]
theorem gJ {ops : Array Oper} {rest : List Oper} {o : Oper} {a : Act} {Q : Exit → Act → World → Prop} (hg : o.guard = none) (m x y : Operand) (hop : o.op = Op.insert t m x y ∨ o.op = Op.mapUpdate t m x y)
    (ht:P.underlying t=some (.map kt et)) (hk:P.underlying kt=some .string) (em:a.eval m = .map (some b)) (hm:MapAt w b ks) (ex:a.eval x = .string k) (ey:a.eval y=v)
    (h:∀ w',MapAt w' b (mDA ks k v)→Turned (some b) w w'→wpList P ops Q rest (a.put o.dst undef) w'):wpList P ops Q (o::rest) a w:=by
  refine wpList_plain hg fun K' hK'=>?_
  obtain⟨w',hrun,r1,r2⟩:=hm.update (v:=v) (k:=k) ht hk;unfold Oper.wp;rcases hop with hop | hop
  · simp[execOp,hop,em,ex,ey,hrun,Result.andThen];exact hK' _ _ (h w' r1 r2)
  · simp[execOp,hop,em,ex,ey,hrun,Result.andThen];exact hK' _ _ (h w' r1 r2)
theorem zD {ops : Array Oper} {rest : List Oper} {o : Oper} {a : Act} {Q : Exit → Act → World → Prop} (hg : o.guard = none) (m x : Operand) (ok : Bool) (hop : o.op = Op.lookup t m x ok)
    (ht:P.underlying t=some (.map kt et)) (hk:P.underlying kt=some .string) {z:Value} (hz:(zeroValue et).run P w = .ok z w) (em:a.eval m = .map (some b)) (hm:MapAt w b ks) (ex:a.eval x = .string k)
    (h:wpList P ops Q rest (a.put o.dst (if ok then .tuple #[(pM ks k).getD z,.bool (pM ks k).isSome] else(pM ks k).getD z)) w):wpList P ops Q (o::rest) a w:=by
  refine wpList_plain hg fun K' hK'=>?_
  obtain⟨r1,r2⟩:=hm.lookup (k:=k) ht hk hz;unfold Oper.wp
  cases ok with
  | true=>simp[execOp,hop,em,ex,r1,Result.andThen];exact hK' _ _ (by simpa using h)
  | false=>simp[execOp,hop,em,ex,r2,Result.andThen];exact hK' _ _ (by simpa using h)
end
end Go.Lx
namespace Go.Lx
open Go.RowKit
theorem yG{t:ByteArray}(h:t.size≠0):¬ t.toList=[]∧t.toList.isEmpty=false:=by
 have:t.toList.length≠0:=by rw[ByteArray.toList_eq];exact h
 constructor
 · intro e;rw[e]at this;exact this rfl
 · cases hl : t.toList with
   | nil=>rw[hl]at this;exact absurd rfl this
   | cons a l=>rfl
structure Sx where
 many:Int
 pos:Int
 word:ByteArray
def bE : List Sx → List Value
  | []=>[]
  | x::l=>.int .i64 x.many :: .int .i64 x.pos :: .string x.word::bE l
theorem tK(l r:List Sx):bE (l++r)=bE l++bE r:=by
 induction l with
 | nil=>rfl
 | cons x l ih=>simp[bE,ih]
theorem aI(l:List Sx):(bE l).length=l.length * 3:=by
 induction l with
 | nil=>rfl
 | cons x l ih=>simp[bE,ih];omega
def kHA(x:Sx)(n:Nat):Prop:=0≤x.many∧(x.word.size≠0→x.many=0)∧x.many≤n
instance (x:Sx) (n:Nat):Decidable (kHA x n):=inferInstanceAs (Decidable (_∧_∧_))
def sN(x:Sx)(i:Nat)(st:List Nat):List Nat:=st.take (st.length - x.many.toNat)++[(st.drop (st.length - x.many.toNat)).headD i]
def oC : List Sx → Nat → List Nat → Option (List Nat)
  | [],_,st=>some st
  | x::l,i,st=>if kHA x st.length then oC l (i+1) (sN x i st) else none
section
variable {l : List Sx}
theorem yS(a b:List Sx):∀(i:Nat) (st:List Nat),oC (a++b) i st=(oC a i st).bind (oC b (i+a.length)):=by
 induction a with
 | nil=>intro i st;simp[oC]
 | cons x a ih =>
   intro i st;simp only[List.cons_append,oC]
   split
   · rw[ih];simp only[List.length_cons];rw[show i+1+a.length=i+(a.length+1) by omega]
   · rfl
def pre(l:List Sx)(k:Nat):Option (List Nat):=oC (l.take k) 0 []
def Inc(st:List Nat)(i:Nat):Prop:=(st++[i]).Pairwise (· < ·)
theorem n4A{st:List Nat}{i:Nat}(x:Sx)(h:Inc st i):Inc (sN x i st) (i+1):=by
 unfold Inc at *;unfold sN;generalize hm:st.length - x.many.toNat=m;have hst:st=st.take m++st.drop m:=(List.take_append_drop m st).symm;generalize st.take m=s at *;generalize st.drop m=t at *;subst hst;simp only[List.pairwise_append,List.mem_append,List.mem_singleton,List.pairwise_cons,List.Pairwise.nil]at h ⊢;obtain⟨⟨h1,h2,h3⟩,h4,h5⟩:=h;have hh:t.headD i≤i∧∀ a∈s,a < t.headD i:=by
  cases t with
  | nil=>exact⟨Nat.le_refl _,fun a ha=>h5 a (.inl ha) i rfl⟩
  | cons y t=>exact⟨Nat.le_of_lt (h5 y (.inr (List.mem_cons_self ..)) i rfl),fun a ha=>h3 a ha y (List.mem_cons_self ..)⟩
 refine⟨⟨h1,⟨fun _ h=>by simp at h,trivial⟩,fun a ha b hb=>by rw[hb];exact hh.2 a ha⟩,⟨fun _ h=>by simp at h,trivial⟩,?_⟩;rintro a (ha | ha) b rfl
 · have:=h5 a (.inl ha) i rfl;omega
 · omega
theorem uCB:∀(l:List Sx) (i:Nat) (st s:List Nat),Inc st i→oC l i st=some s→Inc s (i+l.length):=by
 intro l
 induction l with
 | nil=>intro i st s h e;cases e;exact h
 | cons x l ih =>
   intro i st s h e;simp only[oC]at e
   split at e
   · have:=ih (i+1) _ s (n4A x h) e;rw[List.length_cons,show i+(l.length+1)=i+1+l.length by omega];exact this
   · cases e
theorem o7A(i:Nat):Inc [] i:=List.pairwise_singleton ..
def m1A (f : Nat → Option Nat) : Nat → Nat → Option Nat
  | 0,k=>some k
  | m+1,k=>match f k with | none=>none | some b=>m1A f m b
def sAB(x:Sx):Prop:=x.many < 0∨(x.word.size≠0∧x.many≠0)
instance (x:Sx):Decidable (sAB x):=inferInstanceAs (Decidable (_∨_))
def rbF (l : List Sx) : Nat → Nat → Option Nat
  | 0,_=>none
  | _+1,0=>none
  | fuel + 1, e + 1 => match l[e]? with
    | none=>none
    | some x=>if sAB x then none else m1A (rbF l fuel) x.many.toNat e
def rb(l:List Sx)(k:Nat):Option Nat:=rbF l k k
def piece(l:List Sx)(a b:Nat):List Sx:=(l.drop a).take (b - a)
def pieces(l:List Sx)(st:List Nat)(k:Nat):List (List Sx):=(List.range st.length).map fun i=>piece l ((st++[k]).getD i 0) ((st++[k]).getD (i+1) 0)
inductive RItems (l : List Sx) : Nat → List (List Sx) → Option (List (List Sx)) → Prop
  | done (acc):RItems l 0 acc (some acc)
  | bad {k acc}:0 < k→rb l k=none→RItems l k acc none
  | one {k acc b R}:0 < k→rb l k=some b→RItems l b (piece l b k::acc) R→RItems l k acc R
def iL(l:List Sx):Option (List (List Sx)):=(oC l 0 []).map fun st=>pieces l st l.length
end
section
theorem mY(l:List Sx)(st:List Nat)(k:Nat):(pieces l st k).length=st.length:=by simp[pieces]
end
def vM(row:List Sx):Option (List (List Sx)) :=
 match oC row 0 [],row.getLast? with
 | some [_],some x=>if x.word.size=0 then iL row.dropLast else none
 | _,_=>none
theorem oO(init:List Sx)(x:Sx):vM (init++[x])=match oC (init++[x]) 0 [] with
 | some [_]=>if x.word.size=0 then iL init else none
 | _=>none:=by
 unfold vM;rw[List.getLast?_concat,List.dropLast_concat]
 split
 · rename_i h1 h2
   cases h2;rw[h1]
 · rename_i h
   split
   · rename_i h1;exact absurd rfl (h _ _ h1)
   · rfl
structure PTok where
 kind:Int
 pos:Int
 text:ByteArray
def wF : List PTok → List Sx → List Sx → Sx → Except (Int × Int) (List Sx)
  | [],row,[],_=>.ok row
  | [],_,_::_,x=>.error (x.pos,70)
  | t :: ts, row, st, x =>
    if t.kind=1 then wF ts (row++[⟨0,t.pos,t.text⟩]) st ⟨x.many+1,x.pos,x.word⟩
    else if t.kind=2 then(if st.length=60 then .error (t.pos,22) else wF ts row (x::st) ⟨0,t.pos,⟨#[]⟩⟩)
    else match st with
     | []=>.error (t.pos,70)
     | y::st=>wF ts (row++[x]) st ⟨y.many+1,y.pos,y.word⟩
theorem dO(t:PTok)(ts:List PTok)(row st:List Sx)(x:Sx):wF (t::ts) row st x =
    if t.kind=1 then wF ts (row++[⟨0,t.pos,t.text⟩]) st ⟨x.many+1,x.pos,x.word⟩
    else if t.kind=2 then(if st.length=60 then .error (t.pos,22) else wF ts row (x::st) ⟨0,t.pos,⟨#[]⟩⟩)
    else match st with
     | []=>.error (t.pos,70)
     | y::st=>wF ts (row++[x]) st ⟨y.many+1,y.pos,y.word⟩:=by
  cases st<;>rfl
def yRA(w0:World)(b off:Nat)(row:List Sx):Prop:=∀ k x,row[k]? = some x→w0.cell? ⟨b,off+k * 3,none⟩=some (.int .i64 x.many)∧w0.cell? ⟨b,off+k * 3+1,none⟩=some (.int .i64 x.pos)∧w0.cell? ⟨b,off+k * 3+2,none⟩=some (.string x.word)
def SxArg(w0:World)(p:Option Addr)(row:List Sx):Prop:=row≠[]→∃ b off,p=some ⟨b,off,none⟩∧b < w0.heap.size∧yRA w0 b off row
theorem fUA(all:List Sx):∀ k t,all[k]? = some t→(bE all)[k * 3]? = some (.int .i64 t.many)∧(bE all)[k * 3+1]? = some (.int .i64 t.pos)∧(bE all)[k * 3+2]? = some (.string t.word):=by
 induction all with
 | nil=>intro k t h;simp at h
 | cons x l ih =>
   intro k t h
   cases k with
   | zero=>cases h;exact⟨rfl,rfl,rfl⟩
   | succ k =>
     have:=ih k t h;rw[show(k+1) * 3=k * 3+1+1+1 by omega,show k * 3+1+1+1+1=(k * 3+1)+1+1+1 by omega,show k * 3+1+1+1+2=(k * 3+2)+1+1+1 by omega];exact this
theorem mBB{w:World}{base:Nat}{e:TypeId}{l:Value}{row:List Sx}(h:w.ownsRow base e 3 l row.length (bE row)):∃ p cap,l = .slice p row.length cap∧SxArg w p row:=by
 rcases h.2 with⟨rfl,h0⟩ | ⟨g,cap,cur,rfl,hb,hg,rest⟩
 · refine⟨none,0,by rw[h0],fun hne=>?_⟩;exact absurd (List.length_eq_zero_iff.1 h0) hne
 · refine⟨_,cap,rfl,fun _=>⟨g,0,rfl,(Array.getElem?_eq_some_iff.1 hg).1,fun k t ht=>?_⟩⟩;obtain⟨h1,h2,h3⟩:=fUA row k t ht;rw[Nat.zero_add];exact⟨eD h rfl h1,eD h rfl h2,eD h rfl h3⟩
theorem SxArg.under{a b:World}{p:Option Addr}{l:List Sx}(h:SxArg a p l)(hU:Under a b):SxArg b p l:=by
 intro hne;obtain⟨bl,off,rfl,hb,ht⟩:=h hne;refine⟨bl,off,rfl,Nat.lt_of_lt_of_le hb hU.size,fun k t hk=>?_⟩;rw[fA hU hb,fA hU hb,fA hU hb];exact ht k t hk
theorem uR(w:World)(base:Nat)(e:TypeId)(size:Nat)(hb:base≤w.heap.size):(w.alloc (.cells #[] e)).ownsRow base e size (.slice (some ⟨w.heap.size,0,none⟩) 0 0) 0 [] :=
 ⟨by simp,.inr ⟨w.heap.size,0,#[],rfl,hb,rA w _ _,Nat.le_refl _,by decide,by simp,by simp⟩⟩
end Go.Lx
namespace Go.Lx
inductive ST where
 | word (p:Int) (s:ByteArray)
 | list (p:Int) (l:List ST)
mutual
def fC : ST → List Sx
  | .word p s=>[⟨0,p,s⟩]
  | .list p l=>kC l++[⟨(l.length:Int),p,⟨#[]⟩⟩]
def kC : List ST → List Sx
  | []=>[]
  | a::l=>fC a++kC l
end
mutual
def okS : ST → Prop
  | .word _ s=>s.size≠0
  | .list _ l=>oMA l
def oMA : List ST → Prop
  | []=>True
  | a::l=>okS a∧oMA l
end
def ST.last : ST → Sx
  | .word p s=>⟨0,p,s⟩
  | .list p l=>⟨(l.length:Int),p,⟨#[]⟩⟩
theorem gY(a b:List ST):kC (a++b)=kC a++kC b:=by
 induction a with
 | nil=>rfl
 | cons x l ih=>simp[kC,ih]
theorem xY(a:ST):∃ i,fC a=i++[a.last]:=by
 cases a with
 | word p s=>exact⟨[],by simp[fC,ST.last]⟩
 | list p l=>exact⟨kC l,by simp[fC,ST.last]⟩
theorem hCA(a:ST):0 < (fC a).length:=by
 obtain⟨i,h⟩:=xY a;rw[h];simp
def fE : Nat → List ST → List Nat
  | _,[]=>[]
  | i,a::l=>i::fE (i+(fC a).length) l
theorem jQ(i:Nat)(l:List ST):(fE i l).length=l.length:=by
 induction l generalizing i with
 | nil=>rfl
 | cons x l ih=>simp[fE,ih]
theorem bV(i:Nat)(a b:List ST):fE i (a++b)=fE i a++fE (i+(kC a).length) b:=by
 induction a generalizing i with
 | nil=>simp[fE,kC]
 | cons x l ih=>simp[fE,ih,kC,Nat.add_assoc]
theorem yAA{s:ByteArray}(h:s.size=0):s=⟨#[]⟩:=by
 obtain⟨a⟩:=s;have:a=#[]:=Array.eq_empty_of_size_eq_zero h;rw[this]
theorem xCA(T:ST):okS T→∀(Fs:List ST),oC (fC T) (kC Fs).length (fE 0 Fs)=some (fE 0 (Fs++[T])):=by
 induction T using ST.rec (motive_2:=fun l=>oMA l→∀(Fs:List ST),oC (kC l) (kC Fs).length (fE 0 Fs)=some (fE 0 (Fs++l))) with
 | word p s =>
   rintro h Fs;rw[fC];unfold oC;rw[if_pos ⟨Int.le_refl _,fun _=>rfl,Int.natCast_nonneg _⟩];unfold oC sN;simp[bV,fE]
 | list p l ih =>
   rintro h Fs;rw[fC,yS,ih h Fs];simp only[Option.bind_some];unfold oC;rw[if_pos ⟨Int.natCast_nonneg _,fun h=>absurd rfl h,by rw[jQ,List.length_append];show(l.length:Int)≤_;omega⟩];unfold oC sN;have e2:(fE 0 Fs).length=Fs.length:=jQ _ _;rw[jQ,bV,List.length_append];simp only[Int.toNat_natCast];rw[show Fs.length+l.length - l.length=Fs.length by omega,List.take_left' e2,List.drop_left' e2,bV]
   cases l with
   | nil=>simp[fE,kC]
   | cons a l=>simp[fE]
 | nil=>rename_i h Fs;simp[kC,oC]
 | cons a l iha ihl =>
   rename_i h Fs;rw[kC,yS,iha h.1 Fs];simp only[Option.bind_some];have e:(kC Fs).length+(fC a).length=(kC (Fs++[a])).length:=by rw[gY];simp[kC]
   rw[e,ihl h.2];simp
theorem wX : ∀ (l : List ST), oMA l → ∀ Fs : List ST, oC (kC l) (kC Fs).length (fE 0 Fs) = some (fE 0 (Fs ++ l))
  | [],_,Fs=>by simp[kC,oC]
  | a :: l, h, Fs => by
    rw[kC,yS,xCA a h.1 Fs];simp only[Option.bind_some];have e:(kC Fs).length+(fC a).length=(kC (Fs++[a])).length:=by rw[gY];simp[kC]
    rw[e,wX l h.2];simp
theorem zAA : ∀ (ts : List ST) (pre : List Sx), (List.range ts.length).map (fun i => piece (pre ++ kC ts) ((fE pre.length ts ++ [(pre ++ kC ts).length]).getD i 0) ((fE pre.length ts ++ [(pre ++ kC ts).length]).getD (i + 1) 0)) = ts.map fC
  | [],pre=>rfl
  | a :: l, pre => by
    have ih:=zAA l (pre++fC a);rw[List.length_cons,List.range_succ_eq_map,List.map_cons,List.map_map,List.map_cons];have e:pre++kC (a::l)=pre++fC a++kC l:=by simp[kC]
    rw[e];congr 1
    · have h1 : (fE pre.length (a :: l) ++ [(pre ++ fC a ++ kC l).length]).getD 0 0 = pre.length := by simp [fE]
      have h2:(fE pre.length (a::l)++[(pre++fC a++kC l).length]).getD (0+1) 0=pre.length+(fC a).length:=by
       cases l with
       | nil=>simp[fE,kC]
       | cons b l=>simp[fE]
      rw[h1,h2];unfold piece;rw[List.append_assoc,List.drop_left,show pre.length+(fC a).length - pre.length=(fC a).length by omega,List.take_left]
    · rw [← ih]; refine List.map_congr_left fun i hi => ?_
      simp only[Function.comp];simp only[fE,List.cons_append,List.getD_eq_getElem?_getD,List.getElem?_cons_succ,List.length_append]
theorem bP{ts:List ST}(h:oMA ts):iL (kC ts)=some (ts.map fC):=by
 have hb:=wX ts h [];simp only[kC,fE,List.length_nil,List.nil_append]at hb;unfold iL;rw[hb];have:=zAA ts [];simp only[List.nil_append,List.length_nil]at this;rw[Option.map_some];unfold pieces;rw[jQ,this]
theorem gUA{p:Int}{l:List ST}(h:oMA l):vM (fC (.list p l))=some (l.map fC):=by
 have hb:=xCA (.list p l) h [];simp only[kC,fE,List.length_nil,List.nil_append]at hb;rw[fC,oO];rw[fC]at hb;rw[hb]
 show(if(⟨#[]⟩:ByteArray).size=0 then iL (kC l) else none)=_
 rw[if_pos (show(⟨#[]⟩:ByteArray).size=0 from rfl),bP h]
end Go.Lx
namespace Go.Lx
open Go.RowKit
def Zip{α β:Type}(R:α→β→Prop)(vs:List α)(ls:List β):Prop:=vs.length=ls.length∧∀(i:Nat) v x,vs[i]? = some v→ls[i]? = some x→R v x
theorem Zip.nil{α β:Type}(R:α→β→Prop):Zip R [] []:=⟨rfl,fun i v x h=>by simp at h⟩
theorem Zip.app{α β:Type}{R:α→β→Prop}{vs us:List α}{ls ks:List β}(h:Zip R vs ls)(k:Zip R us ks):Zip R (vs++us) (ls++ks):=by
 refine⟨by rw[List.length_append,List.length_append,h.1,k.1],fun i v x hv hx=>?_⟩;by_cases hi:i < vs.length
 · rw[List.getElem?_append_left hi]at hv;rw[List.getElem?_append_left (by rw[← h.1];exact hi)]at hx;exact h.2 i v x hv hx
 · rw[List.getElem?_append_right (by omega)]at hv;rw[List.getElem?_append_right (by rw[← h.1];omega),← h.1]at hx;exact k.2 _ v x hv hx
theorem Zip.one{α β:Type}{R:α→β→Prop}{v:α}{x:β}(h:R v x):Zip R [v] [x]:=⟨rfl,fun i u y hu hy=>by
  match i,hu,hy with
  | 0,hu,hy=>cases hu;cases hy;exact h⟩
theorem Zip.mono{α β:Type}{R S:α→β→Prop}{vs:List α}{ls:List β}(h:Zip R vs ls)(hRS:∀ v x,R v x→S v x):Zip S vs ls:=⟨h.1,fun i v x hv hx=>hRS v x (h.2 i v x hv hx)⟩
theorem Zip.at{α β:Type}{R:α→β→Prop}{vs:List α}{ls:List β}(h:Zip R vs ls){i:Nat}{x:β}(hx:ls[i]? = some x):∃ v,vs[i]? = some v∧R v x:=by
 have hi:i < vs.length:=by rw[h.1];exact(List.getElem?_eq_some_iff.1 hx).1
 exact⟨vs[i],List.getElem?_eq_getElem hi,h.2 i _ x (List.getElem?_eq_getElem hi) hx⟩
def ListV{α:Type}(R:World→Value→α→Prop)(w:World)(v:Value)(ls:List α):Prop:=∃ p c vs,v = .slice p ls.length c∧ls.length≤c∧(p=none→c=0)∧RowArg w p vs∧Zip (R w) vs ls
def TermV(w:World)(v:Value)(t:List Nd):Prop:=∃ p c,v = .slice p t.length c∧t.length≤c∧(p=none→c=0)∧RowArg w p (wB t)
def zZA{α:Type}(R:World→Value→α→Prop):Prop:=∀ w w' v x,Under w w'→R w v x→R w' v x
theorem TermV.mono:zZA TermV:=fun w w' v t hU ⟨p,c,h1,h2,h0,h3⟩=>⟨p,c,h1,h2,h0,h3.under hU⟩
theorem ListV.mono{α:Type}{R:World→Value→α→Prop}(hR:zZA R):zZA (ListV R):=fun w w' v ls hU ⟨p,c,vs,h1,h2,h0,h3,h4⟩=>⟨p,c,vs,h1,h2,h0,h3.under hU,h4.mono fun v x h=>hR w w' v x hU h⟩
theorem TermV.one{w:World}{v:Value}{t:List Nd}(h:TermV w v t):v.oneCell'=true:=by obtain⟨p,c,rfl,_⟩:=h;rfl
theorem ListV.one{α:Type}{R:World→Value→α→Prop}{w:World}{v:Value}{ls:List α}(h:ListV R w v ls):v.oneCell'=true:=by obtain⟨p,c,vs,rfl,_⟩:=h;rfl
abbrev TermsV:=ListV TermV
abbrev ConsV:=ListV TermsV
theorem ListV.of_own{α:Type}{R:World→Value→α→Prop}{w:World}{base:Nat}{e:TypeId}{v:Value}{ls:List α}{vs:List Value}(h:w.ownsRow base e 1 v ls.length vs)(hz:Zip (R w) vs ls):ListV R w v ls:=by
 have hc:∀ q n c,v = .slice q n c→q=none→c=0:=by
  intro q n c e hq;subst hq;rcases h.2 with⟨rfl,_⟩ | ⟨g,cap,cur,e',_⟩
  · cases e;rfl
  · rw[e']at e;cases e
 obtain⟨q,c,rfl,h1,h2⟩:=RowArg.of_own h;exact⟨q,c,vs,rfl,h1,hc q _ c rfl,h2,hz⟩
section
variable {P : Program}
end
def TextsV(w:World)(v:Value)(ss:List ByteArray):Prop:=∃ p c,v = .slice p ss.length c∧ss.length≤c∧(p=none→c=0)∧RowArg w p (ss.map .string)
theorem TextsV.under{w w':World}{v:Value}{ss:List ByteArray}(h:TextsV w v ss)(hU:Under w w'):TextsV w' v ss:=by
 obtain⟨p,c,rfl,h1,h2,h3⟩:=h;exact⟨p,c,rfl,h1,h2,h3.under hU⟩
theorem TextsV.of_own{w:World}{base:Nat}{e:TypeId}{v:Value}{ss:List ByteArray}(h:w.ownsRow base e 1 v ss.length (ss.map .string)):TextsV w v ss:=by
 have hc:∀ q n c,v = .slice q n c→q=none→c=0:=by
  intro q n c e hq;subst hq;rcases h.2 with⟨rfl,_⟩ | ⟨g,cap,cur,e',_⟩
  · cases e;rfl
  · rw[e']at e;cases e
 obtain⟨q,c,rfl,h1,h2⟩:=RowArg.of_own h;exact⟨q,c,rfl,h1,hc q _ c rfl,h2⟩
theorem TextsV.nil(w:World):TextsV w (.slice none 0 0) []:=⟨none,0,rfl,Nat.le_refl _,fun _=>rfl,RowArg.nil⟩
theorem eEA{w:World}{p:Option Addr}{ss:List ByteArray}(h:RowArg w p (ss.map .string)){k:Nat}(hk:k < ss.length):∃ b off,p=some ⟨b,off,none⟩∧b < w.heap.size∧w.cell? ⟨b,off+k,none⟩=some (.string ss[k]):=by
 obtain⟨b,off,e,hb,hc⟩:=h (fun e=>by rw[List.map_eq_nil_iff]at e;rw[e]at hk;simp at hk);exact⟨b,off,e,hb,hc k _ (by simp[List.getElem?_eq_getElem hk])⟩
def lBA(ss:List ByteArray)(s:ByteArray):Bool:=ss.any fun x=>x.toList==s.toList
end Go.Lx
namespace Go.Lx
def formT:List (List UInt8×Int×Int×List UInt8):=[([84,121,112,101],2,0,[110]),([108,97,109],4,0,[119,46,46]),([97,112,112],5,0,[46,46]),([112,97,105,114],7,0,[46,46,46]),([102,115,116],8,0,[46]),([115,110,100],9,0,[46]),([115,117,99],12,0,[46]),([112,114,102],28,0,[46]),([114,101,99],13,0,[118,46,46,118,118,46,46]),([97,98,111,114,116],15,0,[46,46]),([101,113],18,0,[46,46,46]),([114,101,102,108],19,0,[46,46]),([99,97,115,116],20,0,[46,46,46,46]),([116,114,97,110,115,112],21,0,[46,46,118,46,46,46,46]),([113,117,111,116],22,0,[46,118,118,46,46,46,46]),([99,108,97,115,115],23,0,[46,46]),([113,101,108,105,109],24,0,[46,118,46,46,46]),([100,97,116,97],25,0,[100]),([99,111,110],26,0,[100,110,42]),([101,108,105,109],27,0,[100,118,46,42,46]),([112,105],3,0,[119,46,46]),([115,105,103],6,0,[119,46,46]),([112,105,49],3,1,[119,46,46]),([115,105,103,49],6,1,[119,46,46]),([112,105,50],3,2,[119,46,46]),([115,105,103,50],6,2,[119,46,46]),([112,105,51],3,3,[119,46,46]),([115,105,103,51],6,3,[119,46,46])]
def leafT:List (List UInt8×Int):=[([80,114,111,112],2),([78,97,116],10),([122,101,114,111],11),([69,109,112,116,121],14),([85,110,105,116],16),([115,116,97,114],17),([116,105,99,107],29)]
def aRA (w : List UInt8) : List (List UInt8 × Int × Int × List UInt8) → Option (Int × Int × List UInt8)
  | []=>none
  | (x,y)::l=>if w=x then some y else aRA w l
def sPA (w : List UInt8) : List (List UInt8 × Int) → Option Int
  | []=>none
  | (x,y)::l=>if w=x then some y else sPA w l
def tJA(s:ByteArray):Option (Int×Int×List UInt8):=aRA s.data.toList formT
def nS(s:ByteArray):Option Int:=sPA s.data.toList leafT
def kwW(s:ByteArray):Bool:=(tJA s).isSome||(nS s).isSome
inductive PK where
 | nm
 | nu
 | da
 | te (wait:Bool)
def aXA(parts:List UInt8)(n:Nat):List UInt8:=parts.flatMap fun c=>if c=42 then List.replicate (n+1 - parts.length) c else [c]
def iW : Bool → List UInt8 → List PK
  | _,[]=>[]
  | w,c::l=>if c=118 then .nm::iW false l else if c=119 then .nm::iW true l else if c=110 then .nu::iW w l else if c=100 then .da::iW w l else .te w::iW false l
abbrev Say:=Except (Int×Int) (List Nd)
def zDA(st:List ByteArray)(s:ByteArray):Option Nat:=st.reverse.findIdx? fun x=>x.toList==s.toList
def pX(s:ByteArray):Bool:=uD s && !kwW s
def vL(cs:List ByteArray)(p:Int)(s:ByteArray)(st:List ByteArray):Say :=
 match nS s with
 | some k=>.ok [⟨k,0,0,⟨#[]⟩⟩]
 | none => if pX s then
     match zDA st s with
     | some i=>if 99 < i then .error (2,p) else .ok [⟨0,(i:Int),0,⟨#[]⟩⟩]
     | none=>if lBA cs s then .ok [⟨1,0,0,s⟩] else .error (80,p)
   else .error (71,p)
def rEB(s:ByteArray):Option Nat:=(List.range 100).find? fun n=>s.data.toList==Lib.decDigits n
def zDB(k:Int)(n:Nat):Bool:=if k=26 then n < 6 else(1≤n&&n≤9)
mutual
def nT (cs ds : List ByteArray) : ST → List ByteArray → Say
  | .word p s,st=>vL cs p s st
  | .list p l,st=>cRA cs ds p l st
def cRA (cs ds : List ByteArray) (p : Int) : List ST → List ByteArray → Say
  | [],_=>.error (71,p)
  | h :: l, st =>
    match tJA h.last.word with
    | none=>.error (71,p)
    | some (k, n, parts) =>
      if(aXA parts l.length).length=l.length∧((k=26∨k=27)→l.length+1 - parts.length≤6) then
       goS cs ds (iW false (aXA parts l.length)) l ⟨k,n,if k=26∨k=27 then((l.length+1 - parts.length:Nat):Int) else 0,⟨#[]⟩⟩ [] st []
      else .error (71,p)
def goS (cs ds : List ByteArray) : List PK → List ST → Nd → List ByteArray → List ByteArray → List Nd → Say
  | .nm::ks,y::ys,x,nms,st,acc=>if pX y.last.word then goS cs ds ks ys x (nms++[y.last.word]) st acc else .error (71,y.last.pos)
  | .nu :: ks, y :: ys, x, nms, st, acc =>
    match rEB y.last.word with
    | some n=>if zDB x.k n then goS cs ds ks ys ⟨x.k,(n:Int),x.m,x.s⟩ nms st acc else .error (71,y.last.pos)
    | none=>.error (71,y.last.pos)
  | .da :: ks, y :: ys, x, nms, st, acc =>
    if pX y.last.word then(if lBA ds y.last.word then goS cs ds ks ys ⟨x.k,x.n,x.m,y.last.word⟩ nms st acc else .error (80,y.last.pos)) else .error (71,y.last.pos)
  | .te w :: ks, y :: ys, x, nms, st, acc =>
    match nT cs ds y (if w then st else st++nms) with
    | .ok t=>goS cs ds ks ys x (if w then nms else []) st (acc++t)
    | .error e=>.error e
  | _,_,x,_,_,acc=>.ok (acc++[x])
end
def wEB(l:List UInt8):List UInt8 :=
 if l=[119,46,46] then [46,118,46] else if l=[118,46,46,118,118,46,46] then [118,46,46,86,46,46] else if l=[46,118,118,46,46,46,46] then [46,86,46,46,46,46] else l
end Go.Lx
namespace Go.Lx
open Go.RowKit
structure Ch (C:Nat→Prop) (w w':World):Prop where
 os:w'.os=w.os
 output:w'.output=w.output
 size:w.heap.size≤w'.heap.size
 block:∀ b,b < w.heap.size→¬ C b→w'.heap[b]? = w.heap[b]?
theorem Ch.refl{C:Nat→Prop}(w:World):Ch C w w:=⟨rfl,rfl,Nat.le_refl _,fun _ _ _=>rfl⟩
theorem Ch.of_under{C:Nat→Prop}{w w':World}(h:Under w w'):Ch C w w':=⟨h.os,h.output,h.size,fun b hb _=>h.low b hb⟩
theorem Ch.trans{C D:Nat→Prop}{a b c:World}(h:Ch C a b)(k:Ch D b c)(hD:∀ i,i < a.heap.size→D i→C i):Ch C a c :=
 ⟨k.os.trans h.os,k.output.trans h.output,Nat.le_trans h.size k.size,fun i hi hc=>(k.block i (Nat.lt_of_lt_of_le hi h.size) (fun hd=>hc (hD i hi hd))).trans (h.block i hi hc)⟩
theorem Ch.under{C:Nat→Prop}{a b c:World}(h:Ch C a b)(k:Under b c):Ch C a c:=h.trans (Ch.of_under (C:=fun _=>False) k) fun _ _ h=>h.elim
theorem Ch.weak{C D:Nat→Prop}{a b:World}(h:Ch C a b)(k:∀ i,i < a.heap.size→C i→D i):Ch D a b:=⟨h.os,h.output,h.size,fun i hi hc=>h.block i hi fun hd=>hc (k i hi hd)⟩
theorem Ch.set{C:Nat→Prop}{a b:World}(h:Ch C a b){g:Nat}(hg:g < a.heap.size→C g)(j:Nat)(u:Value):Ch C a (b.setCell ⟨g,j,none⟩ u) :=
 ⟨h.os,h.output,by rw[mAA];exact h.size,fun i hi hc=>(heap_set b _ u i (by show i≠g;intro e;subst e;exact hc (hg hi))).trans (h.block i hi hc)⟩
theorem Ch.turned{C:Nat→Prop}{a b c:World}(h:Ch C a b){r:Option Nat}(k:Turned r b c)(hr:∀ g,r=some g→g < a.heap.size→C g):Ch C a c :=
 ⟨k.os.trans h.os,k.output.trans h.output,Nat.le_trans h.size k.size,fun i hi hc=>(k.block i (Nat.lt_of_lt_of_le hi h.size) (fun e=>hc (hr i e.symm hi))).trans (h.block i hi hc)⟩
theorem Ch.grown{C:Nat→Prop}{a b c:World}(h:Ch C a b){r:Option Nat}(k:b.grownBy c r)(hr:∀ g,r=some g→g < a.heap.size→C g):Ch C a c :=
 ⟨k.os.trans h.os,k.output.trans h.output,Nat.le_trans h.size k.size,fun i hi hc=>(k.block i (Nat.lt_of_lt_of_le hi h.size) (fun e=>hc (hr i e.symm hi))).trans (h.block i hi hc)⟩
theorem kUA{C:Nat→Prop}{w w':World}{b:Nat}{t:TypeId}{cs:Array Value}(h:BoxAt w b t cs)(k:Ch C w w')(hc:¬ C b):BoxAt w' b t cs:=(k.block b h.lt hc).trans h
theorem xJ{C:Nat→Prop}{w w':World}{base:Nat}{e:TypeId}{s n:Nat}{v:Value}{xs:List Value}(h:w.ownsRow base e s v n xs)(k:Ch C w w')(hc:∀ g,v.ownBlock=some g→¬ C g):w'.ownsRow base e s v n xs:=by
 refine⟨h.1,?_⟩;rcases h.2 with hn | ⟨g,cap,cur,rfl,hb,hgg,rest⟩
 · exact .inl hn
 · exact .inr ⟨g,cap,cur,rfl,hb,by rw[k.block g (Array.getElem?_eq_some_iff.1 hgg).1 (hc g rfl)];exact hgg,rest⟩
theorem oD{w:World}{b:Nat}{t e:TypeId}{cs:Array Value}{base s n:Nat}{v:Value}{xs:List Value}(h:BoxAt w b t cs)(k:w.ownsRow base e s v n xs)(hne:e≠t):v.ownBlock≠some b:=by
 rcases k.2 with⟨rfl,_⟩ | ⟨g,cap,cur,rfl,_,hg,_⟩
 · simp[Value.ownBlock]
 · intro e0; obtain rfl : g = b := by simpa [Value.ownBlock] using e0
   unfold BoxAt at h;rw[h]at hg
   cases hg;exact hne rfl
theorem jFA{w:World}{b:Nat}{e:TypeId}{ks:zH}{base s n:Nat}{v:Value}{xs:List Value}(h:MapAt w b ks)(k:w.ownsRow base e s v n xs):v.ownBlock≠some b:=by
 obtain⟨es,cl,hb,_⟩:=h;rcases k.2 with⟨rfl,_⟩ | ⟨g,cap,cur,rfl,_,hg,_⟩
 · simp[Value.ownBlock]
 · intro e0; obtain rfl : g = b := by simpa [Value.ownBlock] using e0
   rw[hb]at hg
   cases hg
theorem nFA{w:World}{a b:Nat}{t:TypeId}{cs:Array Value}{ks:zH}(h:BoxAt w a t cs)(k:MapAt w b ks):a≠b:=by
 rintro rfl;obtain⟨es,cl,hb,_⟩:=k;unfold BoxAt at h;rw[h]at hb
 cases hb
theorem jC{W0 w:World}{C:Nat→Prop}{w':World}(h:Under W0 w)(k:Ch C w w')(hC:∀ b,C b→W0.heap.size≤b):Under W0 w' :=
 ⟨k.os.trans h.os,k.output.trans h.output,Nat.le_trans h.size k.size,fun b hb=>(k.block b (Nat.lt_of_lt_of_le hb h.size) fun hc=>by have:=hC b hc;omega).trans (h.low b hb)⟩
end Go.Lx
namespace Go.Lx
def re(w:World)(τ:Nat→Question→Nat)(d:Nat):World:={ w with tape:=τ,drawn:=d }
def Agree(τ:Nat→Question→Nat)(d:Nat)(τ':Nat→Question→Nat)(d' c:Nat):Prop:=∀ i,i < c→∀ q,τ' (d'+i) q=τ (d+i) q
theorem Agree.head{τ τ':Nat→Question→Nat}{d d' c:Nat}(h:Agree τ d τ' d' (1+c))(q:Question):τ' d' q=τ d q:=by simpa using h 0 (by omega) q
theorem Agree.tail{τ τ':Nat→Question→Nat}{d d' c:Nat}(h:Agree τ d τ' d' (1+c)):Agree τ (d+1) τ' (d'+1) c:=fun i hi q=>by
 have:=h (1+i) (by omega) q
 rwa [← Nat.add_assoc,← Nat.add_assoc]at this
theorem Agree.left{τ τ':Nat→Question→Nat}{d d' a b:Nat}(h:Agree τ d τ' d' (a+b)):Agree τ d τ' d' a:=fun i hi q=>h i (by omega) q
theorem Agree.right{τ τ':Nat→Question→Nat}{d d' a b:Nat}(h:Agree τ d τ' d' (a+b)):Agree τ (d+a) τ' (d'+a) b:=fun i hi q=>by
 have:=h (a+i) (by omega) q
 rwa [← Nat.add_assoc,← Nat.add_assoc]at this
def reR{α:Type}(r:Result α)(τ:Nat→Question→Nat)(d:Nat):Result α :=
 match r with
 | .ok a w=>.ok a (re w τ d)
 | .halt h w=>.halt h (re w τ d)
def wOf {α : Type} : Result α → World
  | .ok _ w=>w
  | .halt _ w=>w
theorem gAB{α:Type}(a:Ask α):∀(w:World),∃ c,(w.ask a).2.drawn=w.drawn+c∧(w.ask a).2.tape=w.tape ∧
 ∀ τ d,Agree w.tape w.drawn τ d c→(re w τ d).ask a=((w.ask a).1,re (w.ask a).2 τ (d+c)):=by
 induction a with
 | done a=>exact fun w=>⟨0,rfl,rfl,fun τ d _=>rfl⟩
 | ask what range k ih =>
   intro w;by_cases hf:(Question.extern what range).forced=true
   · obtain ⟨c, h1, h2, h3⟩ := ih 0 w; refine ⟨c, ?_, ?_, fun τ d ha => ?_⟩
     · simpa only[World.ask,hf,if_true] using h1
     · simpa only[World.ask,hf,if_true] using h2
     · simpa only[World.ask,hf,if_true] using h3 τ d ha
   · simp only [Bool.not_eq_true] at hf; obtain ⟨c, h1, h2, h3⟩ := ih ((Question.extern what range).cut (w.tape w.drawn (Question.extern what range))) { w with drawn := w.drawn + 1 }; refine ⟨1 + c, ?_, ?_, fun τ d ha => ?_⟩
     · simp only[World.ask,hf,Bool.false_eq_true,if_false];rw[h1];show w.drawn+1+c=_;omega
     · simp only[World.ask,hf,Bool.false_eq_true,if_false];exact h2
     · have e:=ha.head (Question.extern what range);have:=h3 τ (d+1) ha.tail;simp only[World.ask,hf,Bool.false_eq_true,if_false];rw[show(re w τ d).tape (re w τ d).drawn (Question.extern what range)=w.tape w.drawn (Question.extern what range) from e];rw[show({ re w τ d with drawn:=(re w τ d).drawn+1 }:World)=re { w with drawn:=w.drawn+1 } τ (d+1) from rfl];rw[this,Nat.add_assoc]
theorem d9A(cl:Sys)(w:World):(w.sys cl).1 = .wouldBlock∨∃ c,(w.sys cl).2.drawn=w.drawn+c∧(w.sys cl).2.tape=w.tape ∧
 ∀ τ d,Agree w.tape w.drawn τ d c→(re w τ d).sys cl=((w.sys cl).1,re (w.sys cl).2 τ (d+c)):=by
 obtain⟨c,h1,h2,h3⟩:=gAB (Kernel.perform cl w.os) w;generalize ha:w.ask (Kernel.perform cl w.os)=x at h1 h2 h3;obtain⟨⟨r,os⟩,w'⟩:=x;by_cases hr:r = .wouldBlock
 · subst hr
   left
   simp only[World.sys,ha]
 · right
   have e:∀(v:World),v.ask (Kernel.perform cl v.os)=((r,os),w')→v.sys cl=(r,{ w' with os }):=by
    intro v hv;simp only[World.sys,hv]
   refine⟨c,?_,?_,fun τ d hag=>?_⟩
   · rw[e w ha];exact h1
   · rw[e w ha];exact h2
   · have h := h3 τ d hag; rw [e w ha]; simp only [World.sys]; rw [show (re w τ d).os = w.os from rfl, h]
     split
     · rename_i h';simp only[Prod.mk.injEq]at h';exact absurd h'.1.1 hr
     · rename_i h';simp only[Prod.mk.injEq]at h';obtain⟨⟨rfl,rfl⟩,rfl⟩:=h';rfl
def jZ : Halt → Prop
  | .blocked | .waiting | .stuck _ | .unsupported _=>True
  | _=>False
def calm : Halt → Prop
  | .fatal _=>False
  | _=>True
def dead : Halt → Prop
  | .stuck _ | .unsupported (.noEntry _)=>True
  | _=>False
def Safe (P : Program) {α : Type} (φ : α → Prop) : Nat → Sem α → Prop
  | d,.pure a=>d=0∧φ a
  | d,.load _ _ k=>∀ v,Safe P φ d (k v)
  | d,.store _ _ _ k=>Safe P φ d k
  | d,.new _ k=>∀ r,Safe P φ d (k r)
  | d,.shape _ k=>∀ s,Safe P φ d (k s)
  | d,.freeze _ _ k=>Safe P φ d k
  | d,.frozen _ k=>∀ b,Safe P φ d (k b)
  | d,.getObj _ k=>∀ o,Safe P φ d (k o)
  | d,.setObj _ _ k=>Safe P φ d k
  | d,.choose _ k=>∀ n,Safe P φ d (k n)
  | d,.sys _ k=>(∃ h,dead h∧k .wouldBlock = .halt h)∧∀ r,Safe P φ d (k r)
  | d,.program k=>Safe P φ d (k P)
  | d, .mark m k => match m with
    | .disable=>Safe P φ (d+1) k
    | .enable=>0 < d∧Safe P φ (d - 1) k
    | _=>Safe P φ d k
  | d,.halt h=>calm h∧(d=0∨jZ h)
def rMA(P:Program){α:Type}(s:Sem α)(w:World)(es:Array Event):Prop :=
 ∃ c,(wOf (s.runT P w es).1).drawn=w.drawn+c∧(wOf (s.runT P w es).1).tape=w.tape ∧
  ∀ τ d,Agree w.tape w.drawn τ d c→s.runT P (re w τ d) es=(reR (s.runT P w es).1 τ (d+c),(s.runT P w es).2)
def aBA{α:Type}(r:Result α):Prop:=∃ h w',dead h∧r = .halt h w'
theorem eGA(P:Program)(w:World)(τ:Nat→Question→Nat)(d:Nat)(a:Addr)(b:Bool):(re w τ d).farLoad P a b=w.farLoad P a b:=rfl
theorem mLA(P:Program)(w:World)(τ:Nat→Question→Nat)(d:Nat)(at_:Addr)(u:TypeId)(a:Addr)(v:Value)(b:Bool) :
 (re w τ d).viewStore P at_ u a v b=(w.viewStore P at_ u a v b).map fun x=>(re x.1 τ d,x.2):=by
 unfold World.viewStore;rw[show(re w τ d).seen P at_ u a b=w.seen P at_ u a b from rfl];simp only[bind,Except.bind,pure,Except.pure]
 repeat' (first | rfl | split)
theorem zU(P:Program)(w:World)(τ:Nat→Question→Nat)(d:Nat)(a:Addr)(v:Value)(b:Bool) :
 (re w τ d).farStore P a v b=(w.farStore P a v b).map fun x=>(re x.1 τ d,x.2):=by
 unfold World.farStore;rw[show(re w τ d).heap=w.heap from rfl]
 cases w.heap[a.block]? with
 | none=>rfl
 | some o =>
   cases o with
   | view at_ u =>
     simp only[mLA]
     cases w.viewStore P at_ u a v b<;>rfl
   | _=>rfl
theorem nIA{P:Program}{w w':World}{a:Addr}{v:Value}{b:Bool}{t:List Addr}(h:w.farStore P a v b = .ok (w',t)):w'.drawn=w.drawn∧w'.tape=w.tape:=by
 have e:=zU P w w.tape w.drawn a v b;rw[show re w w.tape w.drawn=w from rfl,h]at e;simp only[Except.map,Except.ok.injEq,Prod.mk.injEq]at e;have:=e.1;exact⟨by rw[this];rfl,by rw[this];rfl⟩
theorem r1A{P:Program}{α:Type}{φ:α→Prop}(s:Sem α):∀(d:Nat),Safe P φ d s→∀(w:World) (es:Array Event),aBA (s.runT P w es).1∨rMA P s w es:=by
 induction s with
 | pure a=>exact fun _ _ w es=>.inr ⟨0,rfl,rfl,fun τ d _=>rfl⟩
 | halt h=>exact fun _ _ w es=>.inr ⟨0,rfl,rfl,fun τ d _=>rfl⟩
 | load m a k ih =>
   intro d hs w es
   cases hc:w.cell? a with
   | some v =>
     have e:∀ τ d,(re w τ d).cell? a=some v:=fun _ _=>hc
     have:=ih v d (hs v) w (es.push ⟨.cell a,false,m == .atomic⟩)
     simpa only[rMA,Sem.runT,hc,e] using this
   | none =>
     have e:∀ τ d,(re w τ d).cell? a=none:=fun _ _=>hc
     cases hf:w.farLoad P a (m == .atomic) with
     | ok x =>
       obtain⟨v,t⟩:=x;have:=ih v d (hs v) w (es++t.toArray.map (⟨.cell ·,false,m == .atomic⟩))
       simpa only[rMA,Sem.runT,hc,e,eGA,hf] using this
     | error h =>
       right
       exact⟨0,by simp only[Sem.runT,hc,hf];rfl,by simp only[Sem.runT,hc,hf];rfl,fun τ d _=>by simp only[Sem.runT,hc,e,eGA,hf];rfl⟩
 | store m a v k ih =>
   intro d hs w es;by_cases hv:(∃ x,v = .agg x)∨∃ x,v = .tuple x
   · right
     rcases hv with⟨x,rfl⟩ | ⟨x,rfl⟩<;>exact⟨0,rfl,rfl,fun τ d _=>rfl⟩
   · have e0 : ∀ (w : World), (Sem.store m a v k).runT P w es = match w.cell? a with
         | some _ =>
           if w.frozen? a then (.halt (.unsupported (.unsafePointer "a write to bytes that a string shares")) w, es)
           else k.runT P (w.setCell a v) (es.push ⟨.cell a,true,m == .atomic⟩)
         | none => match w.farStore P a v (m == .atomic) with
           | .ok (w,touched)=>k.runT P w (es++touched.toArray.map (⟨.cell ·,true,m == .atomic⟩))
           | .error h=>(.halt h w,es):=by
       intro w
       cases v<;>first | rfl | exact absurd (.inl ⟨_,rfl⟩) hv | exact absurd (.inr ⟨_,rfl⟩) hv
     cases hc:w.cell? a with
     | some x =>
       have e:∀ τ d,(re w τ d).cell? a=some x:=fun _ _=>hc
       cases hz:w.frozen? a with
       | true =>
         have ez:∀ τ d,(re w τ d).frozen? a=true:=fun _ _=>hz
         right
         exact⟨0,by simp only[e0,hc,hz,if_true];rfl,by simp only[e0,hc,hz,if_true];rfl,fun τ d _=>by simp only[e0,hc,e,hz,ez,if_true];rfl⟩
       | false =>
         have ez:∀ τ d,(re w τ d).frozen? a=false:=fun _ _=>hz
         have:=ih d hs (w.setCell a v) (es.push ⟨.cell a,true,m == .atomic⟩);simp only[rMA,e0,hc,e,hz,ez,Bool.false_eq_true,if_false];exact this
     | none =>
       have e:∀ τ d,(re w τ d).cell? a=none:=fun _ _=>hc
       cases hf:w.farStore P a v (m == .atomic) with
       | ok x =>
         obtain⟨w',t⟩:=x;have ef:∀ τ d,(re w τ d).farStore P a v (m == .atomic) = .ok (re w' τ d,t):=fun τ d=>by rw[zU,hf];rfl
         obtain⟨q1,q2⟩:=nIA hf;have:=ih d hs w' (es++t.toArray.map (⟨.cell ·,true,m == .atomic⟩));simp only[rMA,e0,hc,e,hf,ef]at this ⊢;rw[q1,q2]at this;exact this
       | error h =>
         have ef:∀ τ d,(re w τ d).farStore P a v (m == .atomic) = .error h:=fun τ d=>by rw[zU,hf];rfl
         right
         exact⟨0,by simp only[e0,hc,hf];rfl,by simp only[e0,hc,hf];rfl,fun τ d _=>by simp only[e0,hc,e,hf,ef];rfl⟩
 | new o k ih => 
   intro d hs w es;exact ih w.heap.size d (hs _) { w with heap:=w.heap.push o } es
 | shape r k ih=>intro d hs w es;exact ih (w.shape? r) d (hs _) w es
 | freeze a n k ih => 
   intro d hs w es;have:=ih d hs (w.freeze a n) es;have e:∀ τ d,(re w τ d).freeze a n=re (w.freeze a n) τ d:=fun τ d=>by unfold World.freeze;split<;>rfl
   have e1:(w.freeze a n).drawn=w.drawn:=by unfold World.freeze;split<;>rfl
   have e2:(w.freeze a n).tape=w.tape:=by unfold World.freeze;split<;>rfl
   simp only[rMA,Sem.runT,e]at this ⊢;rw[e1,e2]at this;exact this
 | frozen a k ih=>intro d hs w es;exact ih (w.frozen? a) d (hs _) w es
 | getObj r k ih =>
   intro d hs w es
   cases hr:w.heap[r]? with
   | none =>
     have e:∀ τ d,(re w τ d).heap[r]? = none:=fun _ _=>hr
     right
     exact⟨0,by simp only[Sem.runT,hr];rfl,by simp only[Sem.runT,hr];rfl,fun τ d _=>by simp only[Sem.runT,hr,e];rfl⟩
   | some o =>
     have e:∀ τ d,(re w τ d).heap[r]? = some o:=fun _ _=>hr
     by_cases hc:∃ c e f,o = .cells c e f
     · obtain ⟨c, e', f, rfl⟩ := hc
       right
       exact⟨0,by simp only[Sem.runT,hr];rfl,by simp only[Sem.runT,hr];rfl,fun τ d _=>by simp only[Sem.runT,hr,e];rfl⟩
     · have := ih o d (hs o) w (es.push ⟨.obj r, false, o.isChan⟩); have e0 : ∀ (w : World), w.heap[r]? = some o → (Sem.getObj r k).runT P w es = (k o).runT P w (es.push ⟨.obj r, false, o.isChan⟩) := by
        intro w hw;simp only[Sem.runT,hw]
        cases o<;>first | rfl | exact absurd ⟨_,_,_,rfl⟩ hc
       simp only[rMA,e0 w hr,e0 _ (e _ _)];exact this
 | setObj r o k ih =>
   intro d hs w es
   cases hr:w.heap[r]? with
   | none =>
     have e:∀ τ d,(re w τ d).heap[r]? = none:=fun _ _=>hr
     right
     exact⟨0,by simp only[Sem.runT,hr];rfl,by simp only[Sem.runT,hr];rfl,fun τ d _=>by simp only[Sem.runT,hr,e];rfl⟩
   | some o' =>
     have e:∀ τ d,(re w τ d).heap[r]? = some o':=fun _ _=>hr
     by_cases hc:∃ c e f,o' = .cells c e f
     · obtain ⟨c, e', f, rfl⟩ := hc
       right
       exact⟨0,by simp only[Sem.runT,hr];rfl,by simp only[Sem.runT,hr];rfl,fun τ d _=>by simp only[Sem.runT,hr,e];rfl⟩
     · have := ih d hs { w with heap := w.heap.setIfInBounds r o } (es.push ⟨.obj r, true, o.isChan⟩); have e0 : ∀ (w : World), w.heap[r]? = some o' → (Sem.setObj r o k).runT P w es = k.runT P { w with heap := w.heap.setIfInBounds r o } (es.push ⟨.obj r, true, o.isChan⟩) := by
        intro w hw;simp only[Sem.runT,hw]
        cases o'<;>first | rfl | exact absurd ⟨_,_,_,rfl⟩ hc
       simp only[rMA,e0 w hr,e0 _ (e _ _)];exact this
 | choose q k ih =>
   intro d hs w es;by_cases hf:q.forced=true
   · have := ih 0 d (hs 0) w es
     simpa only[rMA,Sem.runT,hf,if_true] using this
   · simp only [Bool.not_eq_true] at hf; rcases ih (q.cut (w.tape w.drawn q)) d (hs _) { w with drawn := w.drawn + 1 } es with h | ⟨c, h1, h2, h3⟩
     · left
       simpa only[Sem.runT,hf,Bool.false_eq_true,if_false] using h
     · right
       refine⟨1+c,?_,?_,fun τ d ha=>?_⟩
       · simp only[Sem.runT,hf,Bool.false_eq_true,if_false];rw[h1];show w.drawn+1+c=_;omega
       · simp only[Sem.runT,hf,Bool.false_eq_true,if_false];exact h2
       · have e:=ha.head q;have:=h3 τ (d+1) ha.tail;simp only[Sem.runT,hf,Bool.false_eq_true,if_false];rw[show(re w τ d).tape (re w τ d).drawn q=w.tape w.drawn q from e];rw[show({ re w τ d with drawn:=(re w τ d).drawn+1 }:World)=re { w with drawn:=w.drawn+1 } τ (d+1) from rfl];rw[this,Nat.add_assoc]
 | sys c k ih =>
   intro d hs w es;obtain⟨⟨x,hd,hx⟩,hk⟩:=hs;rcases d9A c w with hb | ⟨n,h1,h2,h3⟩
   · left
     refine⟨x,(w.sys c).2,hd,?_⟩;simp only[Sem.runT];rw[hb,hx];rfl
   · rcases ih (w.sys c).1 d (hk _) (w.sys c).2 (es.push ⟨.output, true, false⟩) with h | ⟨n', g1, g2, g3⟩
     · left;simpa only[Sem.runT] using h
     · right
       refine⟨n+n',?_,?_,fun τ d ha=>?_⟩
       · simp only[Sem.runT];rw[g1,h1];omega
       · simp only[Sem.runT];rw[g2,h2]
       · simp only[Sem.runT];rw[h3 τ d ha.left];have:=g3 τ (d+n) (by rw[h1,h2];exact ha.right);rw[this,Nat.add_assoc]
 | program k ih=>intro d hs w es;exact ih P d hs w es
 | mark m k ih =>
   intro d hs w es;have:∃ d',Safe P φ d' k:=by
    cases m with
    | disable=>exact⟨_,hs⟩
    | enable=>exact⟨_,hs.2⟩
    | _=>exact⟨_,hs⟩
   obtain⟨d',h'⟩:=this;exact ih d' h' w (es.push ⟨.mark m,false,true⟩)
def sGA(d:Nat)(e:Event):Nat:=match e.loc with | .mark .disable=>d+1 | .mark .enable=>d - 1 | _=>d
theorem zJ(d:Nat)(es:Array Event):deafBehind d es=es.toList.foldl sGA d:=by
 unfold deafBehind;rw[← Array.foldl_toList];rfl
theorem mF(d:Nat)(a b:Array Event):deafBehind d (a++b)=deafBehind (deafBehind d a) b:=by
 simp only[zJ,Array.toList_append,List.foldl_append]
theorem wR{d:Nat}{es:Array Event}(h:∀ e∈es,∀ m,e.loc≠.mark m):deafBehind d es=d:=by
 rw[zJ];obtain⟨l⟩:=es
 induction l generalizing d with
 | nil=>rfl
 | cons e l ih =>
   have h1:sGA d e=d:=by
    have:=h e (by simp);unfold sGA
    split<;>first | rfl | (rename_i hl;exact absurd hl (this _))
   simp only[List.foldl_cons,h1];exact ih fun x hx=>h x (by simp at hx ⊢;exact .inr hx)
def Bal(d:Nat)(new:Array Event):Prop:=∀ x,deafBehind (x+d) new=x
def BalR {α : Type} (φ : α → Prop) (d : Nat) (new : Array Event) : Result α → Prop
  | .ok a _=>φ a∧Bal d new
  | .halt h _=>calm h∧(jZ h∨Bal d new)
theorem Bal.cons{d:Nat}{pre new:Array Event}(h:Bal d new)(hp:∀ e∈pre,∀ m,e.loc≠.mark m):Bal d (pre++new):=fun x=>by
 rw[mF,wR hp];exact h x
theorem BalR.cons{α:Type}{φ:α→Prop}{d:Nat}{pre new:Array Event}{r:Result α}(h:BalR φ d new r)(hp:∀ e∈pre,∀ m,e.loc≠.mark m):BalR φ d (pre++new) r:=by
 cases r with
 | ok a w=>exact⟨h.1,h.2.cons hp⟩
 | halt x w=>exact⟨h.1,h.2.imp id fun b=>b.cons hp⟩
theorem qP{α:Type}{φ:α→Prop}{d:Nat}{es pre:Array Event}{x:Result α×Array Event}(h:∃ new,x.2=(es++pre)++new∧BalR φ d new x.1)(hp:∀ e∈pre,∀ m,e.loc≠.mark m) :
 ∃ new,x.2=es++new∧BalR φ d new x.1:=by
 obtain⟨new,h1,h2⟩:=h;exact⟨pre++new,by rw[h1,Array.append_assoc],h2.cons hp⟩
theorem nMA{P:Program}{w:World}{a:Addr}{b:Bool}{h:Halt}(e:w.farLoad P a b = .error h):jZ h:=by
 unfold World.farLoad World.noCell at e
 repeat' (split at e<;>first | (cases e;done) | (cases e;trivial) | skip)
theorem rIA{P:Program}{w:World}{a:Addr}{v:Value}{b:Bool}{h:Halt}(e:w.farStore P a v b = .error h):jZ h:=by
 unfold World.farStore World.noCell at e
 repeat' (split at e<;>first | (cases e;done) | (cases e;trivial) | skip)
theorem oP(es:Array Event)(e:Event):es.push e=es++#[e]:=by simp
theorem fQ{α:Type}{φ:α→Prop}{d:Nat}{es:Array Event}{h:Halt}{w:World}(hh:jZ h):∃ new,(Result.halt (α:=α) h w,es).2=es++new∧BalR φ d new (Result.halt (α:=α) h w,es).1 :=
 ⟨#[],by simp,(by cases h<;>first | trivial | exact absurd hh id),.inl hh⟩
theorem b3A{P:Program}{α:Type}{φ:α→Prop}(s:Sem α):∀(d:Nat),Safe P φ d s→∀(w:World) (es:Array Event),
 ∃ new,(s.runT P w es).2=es++new∧BalR φ d new (s.runT P w es).1:=by
 induction s with
 | pure a =>
   rintro d ⟨rfl,ha⟩ w es;exact⟨#[],by simp[Sem.runT],ha,fun x=>rfl⟩
 | halt h =>
   intro d hs w es;refine⟨#[],by simp[Sem.runT],?_⟩;obtain⟨hq,hs⟩:=hs;rcases hs with rfl | hs
   · exact⟨hq,.inr fun x=>rfl⟩
   · exact⟨hq,.inl hs⟩
 | load m a k ih =>
   intro d hs w es
   cases hc:w.cell? a with
   | some v =>
     have:=ih v d (hs v) w (es.push ⟨.cell a,false,m == .atomic⟩);simp only[Sem.runT,hc];rw[oP]at this ⊢;exact qP this (by simp)
   | none =>
     cases hf:w.farLoad P a (m == .atomic) with
     | ok x =>
       obtain⟨v,t⟩:=x;have:=ih v d (hs v) w (es++t.toArray.map (⟨.cell ·,false,m == .atomic⟩));simp only[Sem.runT,hc,hf];exact qP this (by intro e he m;simp at he;obtain⟨_,_,rfl⟩:=he;simp)
     | error h =>
       simp only[Sem.runT,hc,hf];exact fQ (nMA hf)
 | store m a v k ih =>
   intro d hs w es;by_cases hv:(∃ x,v = .agg x)∨∃ x,v = .tuple x
   · rcases hv with⟨x,rfl⟩ | ⟨x,rfl⟩<;>exact fQ trivial
   · have e0 : ∀ (w : World), (Sem.store m a v k).runT P w es = match w.cell? a with
         | some _ =>
           if w.frozen? a then (.halt (.unsupported (.unsafePointer "a write to bytes that a string shares")) w, es)
           else k.runT P (w.setCell a v) (es.push ⟨.cell a,true,m == .atomic⟩)
         | none => match w.farStore P a v (m == .atomic) with
           | .ok (w,touched)=>k.runT P w (es++touched.toArray.map (⟨.cell ·,true,m == .atomic⟩))
           | .error h=>(.halt h w,es):=by
       intro w
       cases v<;>first | rfl | exact absurd (.inl ⟨_,rfl⟩) hv | exact absurd (.inr ⟨_,rfl⟩) hv
     rw[e0]
     cases hc:w.cell? a with
     | some x =>
       simp only
       split
       · exact fQ trivial
       · have:=ih d hs (w.setCell a v) (es.push ⟨.cell a,true,m == .atomic⟩);rw[oP]at this ⊢;exact qP this (by simp)
     | none =>
       cases hf:w.farStore P a v (m == .atomic) with
       | ok x =>
         obtain⟨w',t⟩:=x;exact qP (ih d hs w' (es++t.toArray.map (⟨.cell ·,true,m == .atomic⟩))) (by intro e he m;simp at he;obtain⟨_,_,rfl⟩:=he;simp)
       | error h=>exact fQ (rIA hf)
 | new o k ih=>intro d hs w es;exact ih w.heap.size d (hs _) { w with heap:=w.heap.push o } es
 | shape r k ih=>intro d hs w es;exact ih (w.shape? r) d (hs _) w es
 | freeze a n k ih=>intro d hs w es;exact ih d hs (w.freeze a n) es
 | frozen a k ih=>intro d hs w es;exact ih (w.frozen? a) d (hs _) w es
 | getObj r k ih =>
   intro d hs w es;simp only[Sem.runT]
   split
   · exact fQ trivial
   · rename_i o _ _;have:=ih o d (hs o) w (es.push ⟨.obj r,false,o.isChan⟩);rw[oP]at this ⊢;exact qP this (by simp)
   · exact fQ trivial
 | setObj r o k ih =>
   intro d hs w es;simp only[Sem.runT]
   split
   · exact fQ trivial
   · have:=ih d hs { w with heap:=w.heap.setIfInBounds r o } (es.push ⟨.obj r,true,o.isChan⟩);rw[oP]at this ⊢;exact qP this (by simp)
   · exact fQ trivial
 | choose q k ih =>
   intro d hs w es;simp only[Sem.runT]
   split
   · exact ih 0 d (hs 0) w es
   · exact ih _ d (hs _) _ es
 | sys c k ih =>
   intro d hs w es;have:=ih (w.sys c).1 d (hs.2 _) (w.sys c).2 (es.push ⟨.output,true,false⟩);simp only[Sem.runT];rw[oP]at this ⊢;exact qP this (by simp)
 | program k ih=>intro d hs w es;exact ih P d hs w es
 | mark m k ih =>
   intro d hs w es;have key:∀ d',Safe P φ d' k→(∀ x,sGA (x+d) ⟨.mark m,false,true⟩=x+d')→∃ new,((Sem.mark m k).runT P w es).2=es++new∧BalR φ d new ((Sem.mark m k).runT P w es).1:=by
    intro d' hd' hst;obtain⟨new,h1,h2⟩:=ih d' hd' w (es.push ⟨.mark m,false,true⟩);refine⟨#[⟨.mark m,false,true⟩]++new,by simp only[Sem.runT];rw[h1,oP,Array.append_assoc],?_⟩;have hb:Bal d' new→Bal d (#[⟨.mark m,false,true⟩]++new):=fun b x=>by
     rw[mF,show deafBehind (x+d) #[⟨.mark m,false,true⟩]=sGA (x+d) ⟨.mark m,false,true⟩ from by rw[zJ];rfl,hst x];exact b x
    simp only[Sem.runT]
    revert h2
    cases(k.runT P w (es.push ⟨.mark m,false,true⟩)).1 with
    | ok a w=>exact fun h2=>⟨h2.1,hb h2.2⟩
    | halt h w=>exact fun h2=>⟨h2.1,h2.2.imp id hb⟩
   cases m with
   | disable=>exact key (d+1) hs fun x=>rfl
   | enable=>exact key (d - 1) hs.2 fun x=>by have:=hs.1;simp only[sGA];omega
   | _=>exact key d hs fun x=>rfl
end Go.Lx
