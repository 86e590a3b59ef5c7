/- Part 1 of what the proof rests on. -/
import Derived.MapKept
import Derived.Laws.Strings
import Derived.Lib.ItoaLen
import Derived.Test.YtggjbblgoddnjaaGreatDoorM00
set_option linter.unusedSimpArgs false
set_option linter.unusedVariables false
namespace Go.Lx
open Go.RowKit Go.MapKept
theorem bytes_beq(a b:ByteArray):(a==b)=decide (a=b):=by
 obtain⟨x⟩:=a;obtain⟨y⟩:=b;have h:((⟨x⟩:ByteArray)==⟨y⟩)=(x==y):=rfl;rw[h,Bool.eq_iff_iff];simp
abbrev xG:=List (ByteArray×Value)
def dK : xG → ByteArray → Option Value
  | [],_=>none
  | (a,v)::r,k=>if k=a then some v else dK r k
def l7 : xG → ByteArray → Value → xG
  | [],k,v=>[(k,v)]
  | (a,u)::r,k,v=>if k=a then(k,v)::r else(a,u)::l7 r k v
def MapAt(w:World)(b:Nat)(ks:xG):Prop:=∃ es clock,w.heap[b]? = some (.map es clock)∧es.toList.map (fun e=>(e.key,e.val))=ks.map fun p=>(.string p.1,p.2)
theorem MapAt.lt{w:World}{b:Nat}{ks:xG}(h:MapAt w b ks):b < w.heap.size:=by
 obtain⟨es,clock,hb,_⟩:=h;exact(Array.getElem?_eq_some_iff.1 hb).1
theorem MapAt.under{w w':World}{b:Nat}{ks:xG}(h:MapAt w b ks)(hU:Under w w'):MapAt w' b ks:=by
 obtain⟨es,clock,hb,he⟩:=h;exact⟨es,clock,(hU.low b (Array.getElem?_eq_some_iff.1 hb).1).trans hb,he⟩
theorem MapAt.turned{w w':World}{b:Nat}{ks:xG}{r:Option Nat}(h:MapAt w b ks)(hT:Turned r w w')(hr:some b≠r):MapAt w' b ks:=by
 obtain⟨es,clock,hb,he⟩:=h;exact⟨es,clock,(hT.block b (Array.getElem?_eq_some_iff.1 hb).1 hr).trans hb,he⟩
theorem MapAt.cast{w:World}{b:Nat}{ks ks':xG}(h:MapAt w b ks)(e:ks=ks'):MapAt w b ks':=e▸h
theorem eHA(w:World):MapAt (w.alloc (.map #[] 0)) w.heap.size []:=⟨#[],0,by simp[rC],rfl⟩
def uR : xG → ByteArray → Nat → Option (Nat × Value)
  | [],_,_=>none
  | (a,v)::r,k,i=>if k=a then some (i,v) else uR r k (i+1)
theorem jFA : ∀ (ks : xG) (k : ByteArray) (i : Nat), (uR ks k i).map (·.2) = dK ks k
  | [],_,_=>rfl
  | (a, v) :: r, k, i => by
    simp only[uR,dK]
    split
    · rfl
    · exact jFA r k (i+1)
theorem bV : ∀ (es : List MapEntry) (ks : xG) (k : ByteArray) (i : Nat), es.map (fun e => (e.key, e.val)) = ks.map (fun p => (Value.string p.1, p.2)) → Instr.findNow .string (.string k) es i = some (uR ks k i)
  | [],[],_,_,_=>rfl
  | [],_::_,_,_,h=>by simp at h
  | _::_,[],_,_,h=>by simp at h
  | e :: es, (a, v) :: r, k, i, h => by
    simp only[List.map_cons,List.cons.injEq,Prod.mk.injEq]at h;obtain⟨⟨h1,h2⟩,h3⟩:=h;simp only[Instr.findNow,Instr.sameNow,h1,uR];by_cases hk:k=a
    · subst hk;rw[bytes_beq];simp[h2]
    · have : (k == a) = false := by rw [bytes_beq]; simpa using hk
      rw[this,if_neg hk];exact bV es r k (i+1) h3
theorem nMA{ks:xG}{k:ByteArray}{i j:Nat}{v:Value}(h:uR ks k i=some (j,v)):i≤j∧ks[j - i]? = some (k,v)∧∀ u,l7 ks k u=ks.set (j - i) (k,u):=by
 induction ks generalizing i with
 | nil=>cases h
 | cons p r ih =>
   obtain⟨a,y⟩:=p;simp only[uR]at h
   split at h
   · rename_i hk
     cases h;subst hk;exact⟨Nat.le_refl _,by simp,fun u=>by simp[l7]⟩
   · rename_i hk; obtain ⟨h1, h2, h3⟩ := ih h; refine ⟨by omega, ?_, fun u => ?_⟩
     · rw[show j - i=(j - (i+1))+1 by omega];simpa using h2
     · rw[show j - i=(j - (i+1))+1 by omega];simp[l7,hk,h3]
theorem wLA{ks:xG}{k:ByteArray}{i:Nat}(h:uR ks k i=none)(u:Value):l7 ks k u=ks++[(k,u)]:=by
 induction ks generalizing i with
 | nil=>rfl
 | cons p r ih =>
   obtain⟨a,y⟩:=p;simp only[uR]at h
   split at h
   · cases h
   · rename_i hk;simp[l7,hk,ih h]
section
variable {P : Program} {w : World} {b : Nat} {ks : xG} {t kt et : TypeId} {k : ByteArray} {v : Value}
theorem eQ{es:Array MapEntry}{clock:Nat}(hb:w.heap[b]? = some (.map es clock)):(getObj b).run P w = .ok (.map es clock) w:=by simp[getObj,Sem.run,hb]
theorem qI(e:Bool)(hk:P.underlying kt=some .string):(Instr.checkKey e 10000 kt (.string k)).run P w = .ok () w:=by
 rw[show(10000:Nat)=9999+1 from rfl,Instr.checkKey];simp[run_underlying hk]
theorem MapAt.update(h:MapAt w b ks)(ht:P.underlying t=some (.map kt et))(hk:P.underlying kt=some .string) :
 ∃ w',(Instr.mapUpdate t (.map (some b)) (.string k) v).run P w = .ok () w'∧MapAt w' b (l7 ks k v)∧Turned (some b) w w':=by
 obtain⟨es,clock,hb,he⟩:=h;have hlt:=(Array.getElem?_eq_some_iff.1 hb).1;have hf:=run_findKey (P:=P) (w:=w) hk (bV es.toList ks k 0 he)
 cases hm:uR ks k 0 with
 | none =>
   rw[hm]at hf;refine⟨w.putObj b (.map (es.push { key:=.string k,val:=v,born:=clock }) (clock+1)),?_,⟨_,_,World.putObj_heap_same hlt,?_⟩,⟨rfl,rfl,by simp,fun j hj hr=>World.putObj_heap_other fun e=>hr (congrArg some e)⟩⟩
   · simp[Instr.mapUpdate,run_underlying ht,run_underlying hk,eQ (P:=P) hb,qI (P:=P) (w:=w) _ hk,hf,setObj,Sem.run,hb,Result.andThen,World.putObj]
   · rw[wLA hm];simp[he]
 | some r =>
   obtain⟨j,u⟩:=r;rw[hm]at hf;obtain⟨_,h2,h3⟩:=nMA hm;rw[Nat.sub_zero]at h2 h3;have hj:es.toList[j]?.map (fun e=>(e.key,e.val))=some (.string k,u):=by
    have:=congrArg (fun l=>l[j]?) he;simp only[List.getElem?_map,h2]at this
    simpa using this
   have hkey:((es[j]?).map (·.key)).getD (.string k) = .string k:=by
    cases hq:es[j]? with
    | none=>rfl
    | some e =>
      have:es.toList[j]? = some e:=by simpa using hq
      rw[this]at hj;simp at hj;simp[hj.1]
   refine⟨w.putObj b (.map (es.modify j fun e=>{ e with key:=.string k,val:=v }) clock),?_,⟨_,_,World.putObj_heap_same hlt,?_⟩,⟨rfl,rfl,by simp,fun i hi hr=>World.putObj_heap_other fun e=>hr (congrArg some e)⟩⟩
   · simp[Instr.mapUpdate,run_underlying ht,run_underlying hk,eQ (P:=P) hb,qI (P:=P) (w:=w) _ hk,hf,setObj,Sem.run,hb,Result.andThen,World.putObj,hkey,Instr.keyThatStays,Instr.sameBits,bytes_beq]
   · rw [h3]; apply List.ext_getElem?; intro i; have hi := congrArg (fun l => l[i]?) he; simp only [List.getElem?_map] at hi; simp only [List.getElem?_map, List.getElem?_set]; by_cases e : j = i
     · subst e; have hjl : j < ks.length := (List.getElem?_eq_some_iff.1 h2).1
       cases hq:es.toList[j]? with
       | none=>rw[hq]at hj;cases hj
       | some x =>
         have hjs:j < es.size:=by have:=(List.getElem?_eq_some_iff.1 hq).1;simpa using this
         have hx:es[j]? = some x:=by simpa using hq
         simp[hjl,Array.getElem?_modify,hx,hjs]
     · rw[if_neg e,← hi];simp[Array.getElem?_modify,e]
theorem MapAt.lookup(h:MapAt w b ks)(ht:P.underlying t=some (.map kt et))(hk:P.underlying kt=some .string){z:Value}(hz:(zeroValue et).run P w = .ok z w) :
 (Instr.lookup t (.map (some b)) (.string k) true).run P w = .ok (.tuple #[(dK ks k).getD z,.bool (dK ks k).isSome]) w∧(Instr.lookup t (.map (some b)) (.string k) false).run P w = .ok ((dK ks k).getD z) w:=by
 obtain⟨es,clock,hb,he⟩:=h;have hf:=run_findKey (P:=P) (w:=w) hk (bV es.toList ks k 0 he);have hg:=jFA ks k 0
 cases hm:uR ks k 0 with
 | none =>
   rw[hm]at hf hg;rw[← hg];constructor<;>simp[Instr.lookup,run_underlying ht,run_underlying hk,eQ (P:=P) hb,qI (P:=P) (w:=w) _ hk,hf,hz,Result.andThen]
 | some r =>
   rw[hm]at hf hg;rw[← hg];constructor<;>simp[Instr.lookup,run_underlying ht,run_underlying hk,eQ (P:=P) hb,qI (P:=P) (w:=w) _ hk,hf,Result.andThen]
theorem vH {ops : Array Oper} {rest : List Oper} {o : Oper} {a : Act} {Q : Exit → Act → World → Prop} (hg : o.guard = none) (m x y : Operand) (hop : o.op = Op.insert t m x y ∨ o.op = Op.mapUpdate t m x y)
    (ht:P.underlying t=some (.map kt et)) (hk:P.underlying kt=some .string) (em:a.eval m = .map (some b)) (hm:MapAt w b ks) (ex:a.eval x = .string k) (ey:a.eval y=v)
    (h:∀ w',MapAt w' b (l7 ks k v)→Turned (some b) w w'→wpList P ops Q rest (a.put o.dst undef) w'):wpList P ops Q (o::rest) a w:=by
  refine wpList_plain hg fun K' hK'=>?_
  obtain⟨w',hrun,r1,r2⟩:=hm.update (v:=v) (k:=k) ht hk;unfold Oper.wp;rcases hop with hop | hop
  · simp[execOp,hop,em,ex,ey,hrun,Result.andThen];exact hK' _ _ (h w' r1 r2)
  · simp[execOp,hop,em,ex,ey,hrun,Result.andThen];exact hK' _ _ (h w' r1 r2)
theorem qD {ops : Array Oper} {rest : List Oper} {o : Oper} {a : Act} {Q : Exit → Act → World → Prop} (hg : o.guard = none) (m x : Operand) (ok : Bool) (hop : o.op = Op.lookup t m x ok)
    (ht:P.underlying t=some (.map kt et)) (hk:P.underlying kt=some .string) {z:Value} (hz:(zeroValue et).run P w = .ok z w) (em:a.eval m = .map (some b)) (hm:MapAt w b ks) (ex:a.eval x = .string k)
    (h:wpList P ops Q rest (a.put o.dst (if ok then .tuple #[(dK ks k).getD z,.bool (dK ks k).isSome] else(dK ks k).getD z)) w):wpList P ops Q (o::rest) a w:=by
  refine wpList_plain hg fun K' hK'=>?_
  obtain⟨r1,r2⟩:=hm.lookup (k:=k) ht hk hz;unfold Oper.wp
  cases ok with
  | true=>simp[execOp,hop,em,ex,r1,Result.andThen];exact hK' _ _ (by simpa using h)
  | false=>simp[execOp,hop,em,ex,r2,Result.andThen];exact hK' _ _ (by simpa using h)
end
end Go.Lx
namespace Go.Lx
open Go.RowKit
theorem uL{t:ByteArray}(h:t.size≠0):¬ t.toList=[]∧t.toList.isEmpty=false:=by
 have:t.toList.length≠0:=by rw[ByteArray.toList_eq];exact h
 constructor
 · intro e;rw[e]at this;exact this rfl
 · cases hl : t.toList with
   | nil=>rw[hl]at this;exact absurd rfl this
   | cons a l=>rfl
structure Sx where
 many:Int
 pos:Int
 word:ByteArray
def nD : List Sx → List Value
  | []=>[]
  | x::l=>.int .i64 x.many :: .int .i64 x.pos :: .string x.word::nD l
theorem dJ(l r:List Sx):nD (l++r)=nD l++nD r:=by
 induction l with
 | nil=>rfl
 | cons x l ih=>simp[nD,ih]
theorem yG(l:List Sx):(nD l).length=l.length * 3:=by
 induction l with
 | nil=>rfl
 | cons x l ih=>simp[nD,ih];omega
def wBA(x:Sx)(n:Nat):Prop:=0≤x.many∧(x.word.size≠0→x.many=0)∧x.many≤n
instance (x:Sx) (n:Nat):Decidable (wBA x n):=inferInstanceAs (Decidable (_∧_∧_))
def gL(x:Sx)(i:Nat)(st:List Nat):List Nat:=st.take (st.length - x.many.toNat)++[(st.drop (st.length - x.many.toNat)).headD i]
def kC : List Sx → Nat → List Nat → Option (List Nat)
  | [],_,st=>some st
  | x::l,i,st=>if wBA x st.length then kC l (i+1) (gL x i st) else none
section
variable {l : List Sx}
theorem nQ(a b:List Sx):∀(i:Nat) (st:List Nat),kC (a++b) i st=(kC a i st).bind (kC b (i+a.length)):=by
 induction a with
 | nil=>intro i st;simp[kC]
 | cons x a ih =>
   intro i st;simp only[List.cons_append,kC]
   split
   · rw[ih];simp only[List.length_cons];rw[show i+1+a.length=i+(a.length+1) by omega]
   · rfl
def pre(l:List Sx)(k:Nat):Option (List Nat):=kC (l.take k) 0 []
def Inc(st:List Nat)(i:Nat):Prop:=(st++[i]).Pairwise (· < ·)
theorem bWA{st:List Nat}{i:Nat}(x:Sx)(h:Inc st i):Inc (gL x i st) (i+1):=by
 unfold Inc at *;unfold gL;generalize hm:st.length - x.many.toNat=m;have hst:st=st.take m++st.drop m:=(List.take_append_drop m st).symm;generalize st.take m=s at *;generalize st.drop m=t at *;subst hst;simp only[List.pairwise_append,List.mem_append,List.mem_singleton,List.pairwise_cons,List.Pairwise.nil]at h ⊢;obtain⟨⟨h1,h2,h3⟩,h4,h5⟩:=h;have hh:t.headD i≤i∧∀ a∈s,a < t.headD i:=by
  cases t with
  | nil=>exact⟨Nat.le_refl _,fun a ha=>h5 a (.inl ha) i rfl⟩
  | cons y t=>exact⟨Nat.le_of_lt (h5 y (.inr (List.mem_cons_self ..)) i rfl),fun a ha=>h3 a ha y (List.mem_cons_self ..)⟩
 refine⟨⟨h1,⟨fun _ h=>by simp at h,trivial⟩,fun a ha b hb=>by rw[hb];exact hh.2 a ha⟩,⟨fun _ h=>by simp at h,trivial⟩,?_⟩;rintro a (ha | ha) b rfl
 · have:=h5 a (.inl ha) i rfl;omega
 · omega
theorem o2A:∀(l:List Sx) (i:Nat) (st s:List Nat),Inc st i→kC l i st=some s→Inc s (i+l.length):=by
 intro l
 induction l with
 | nil=>intro i st s h e;cases e;exact h
 | cons x l ih =>
   intro i st s h e;simp only[kC]at e
   split at e
   · have:=ih (i+1) _ s (bWA x h) e;rw[List.length_cons,show i+(l.length+1)=i+1+l.length by omega];exact this
   · cases e
theorem kZA(i:Nat):Inc [] i:=List.pairwise_singleton ..
def hVA (f : Nat → Option Nat) : Nat → Nat → Option Nat
  | 0,k=>some k
  | m+1,k=>match f k with | none=>none | some b=>hVA f m b
def k1A(x:Sx):Prop:=x.many < 0∨(x.word.size≠0∧x.many≠0)
instance (x:Sx):Decidable (k1A x):=inferInstanceAs (Decidable (_∨_))
def rbF (l : List Sx) : Nat → Nat → Option Nat
  | 0,_=>none
  | _+1,0=>none
  | fuel + 1, e + 1 => match l[e]? with
    | none=>none
    | some x=>if k1A x then none else hVA (rbF l fuel) x.many.toNat e
def rb(l:List Sx)(k:Nat):Option Nat:=rbF l k k
def piece(l:List Sx)(a b:Nat):List Sx:=(l.drop a).take (b - a)
def pieces(l:List Sx)(st:List Nat)(k:Nat):List (List Sx):=(List.range st.length).map fun i=>piece l ((st++[k]).getD i 0) ((st++[k]).getD (i+1) 0)
inductive RItems (l : List Sx) : Nat → List (List Sx) → Option (List (List Sx)) → Prop
  | done (acc):RItems l 0 acc (some acc)
  | bad {k acc}:0 < k→rb l k=none→RItems l k acc none
  | one {k acc b R}:0 < k→rb l k=some b→RItems l b (piece l b k::acc) R→RItems l k acc R
def sJ(l:List Sx):Option (List (List Sx)):=(kC l 0 []).map fun st=>pieces l st l.length
end
section
theorem qU(l:List Sx)(st:List Nat)(k:Nat):(pieces l st k).length=st.length:=by simp[pieces]
end
def mK(row:List Sx):Option (List (List Sx)) :=
 match kC row 0 [],row.getLast? with
 | some [_],some x=>if x.word.size=0 then sJ row.dropLast else none
 | _,_=>none
theorem kL(init:List Sx)(x:Sx):mK (init++[x])=match kC (init++[x]) 0 [] with
 | some [_]=>if x.word.size=0 then sJ init else none
 | _=>none:=by
 unfold mK;rw[List.getLast?_concat,List.dropLast_concat]
 split
 · rename_i h1 h2
   cases h2;rw[h1]
 · rename_i h
   split
   · rename_i h1;exact absurd rfl (h _ _ h1)
   · rfl
structure PTok where
 kind:Int
 pos:Int
 text:ByteArray
def bF : List PTok → List Sx → List Sx → Sx → Except (Int × Int) (List Sx)
  | [],row,[],_=>.ok row
  | [],_,_::_,x=>.error (x.pos,70)
  | t :: ts, row, st, x =>
    if t.kind=1 then bF ts (row++[⟨0,t.pos,t.text⟩]) st ⟨x.many+1,x.pos,x.word⟩
    else if t.kind=2 then(if st.length=60 then .error (t.pos,22) else bF ts row (x::st) ⟨0,t.pos,⟨#[]⟩⟩)
    else match st with
     | []=>.error (t.pos,70)
     | y::st=>bF ts (row++[x]) st ⟨y.many+1,y.pos,y.word⟩
theorem lL(t:PTok)(ts:List PTok)(row st:List Sx)(x:Sx):bF (t::ts) row st x =
    if t.kind=1 then bF ts (row++[⟨0,t.pos,t.text⟩]) st ⟨x.many+1,x.pos,x.word⟩
    else if t.kind=2 then(if st.length=60 then .error (t.pos,22) else bF ts row (x::st) ⟨0,t.pos,⟨#[]⟩⟩)
    else match st with
     | []=>.error (t.pos,70)
     | y::st=>bF ts (row++[x]) st ⟨y.many+1,y.pos,y.word⟩:=by
  cases st<;>rfl
def cNA(w0:World)(b off:Nat)(row:List Sx):Prop:=∀ k x,row[k]? = some x→w0.cell? ⟨b,off+k * 3,none⟩=some (.int .i64 x.many)∧w0.cell? ⟨b,off+k * 3+1,none⟩=some (.int .i64 x.pos)∧w0.cell? ⟨b,off+k * 3+2,none⟩=some (.string x.word)
def SxArg(w0:World)(p:Option Addr)(row:List Sx):Prop:=row≠[]→∃ b off,p=some ⟨b,off,none⟩∧b < w0.heap.size∧cNA w0 b off row
theorem xNA(all:List Sx):∀ k t,all[k]? = some t→(nD all)[k * 3]? = some (.int .i64 t.many)∧(nD all)[k * 3+1]? = some (.int .i64 t.pos)∧(nD all)[k * 3+2]? = some (.string t.word):=by
 induction all with
 | nil=>intro k t h;simp at h
 | cons x l ih =>
   intro k t h
   cases k with
   | zero=>cases h;exact⟨rfl,rfl,rfl⟩
   | succ k =>
     have:=ih k t h;rw[show(k+1) * 3=k * 3+1+1+1 by omega,show k * 3+1+1+1+1=(k * 3+1)+1+1+1 by omega,show k * 3+1+1+1+2=(k * 3+2)+1+1+1 by omega];exact this
theorem k2A{w:World}{base:Nat}{e:TypeId}{l:Value}{row:List Sx}(h:w.ownsRow base e 3 l row.length (nD row)):∃ p cap,l = .slice p row.length cap∧SxArg w p row:=by
 rcases h.2 with⟨rfl,h0⟩ | ⟨g,cap,cur,rfl,hb,hg,rest⟩
 · refine⟨none,0,by rw[h0],fun hne=>?_⟩;exact absurd (List.length_eq_zero_iff.1 h0) hne
 · refine⟨_,cap,rfl,fun _=>⟨g,0,rfl,(Array.getElem?_eq_some_iff.1 hg).1,fun k t ht=>?_⟩⟩;obtain⟨h1,h2,h3⟩:=xNA row k t ht;rw[Nat.zero_add];exact⟨yD h rfl h1,yD h rfl h2,yD h rfl h3⟩
theorem SxArg.under{a b:World}{p:Option Addr}{l:List Sx}(h:SxArg a p l)(hU:Under a b):SxArg b p l:=by
 intro hne;obtain⟨bl,off,rfl,hb,ht⟩:=h hne;refine⟨bl,off,rfl,Nat.lt_of_lt_of_le hb hU.size,fun k t hk=>?_⟩;rw[dA hU hb,dA hU hb,dA hU hb];exact ht k t hk
theorem nXA(w:World)(base:Nat)(e:TypeId)(size:Nat)(hb:base≤w.heap.size):(w.alloc (.cells #[] e)).ownsRow base e size (.slice (some ⟨w.heap.size,0,none⟩) 0 0) 0 [] :=
 ⟨by simp,.inr ⟨w.heap.size,0,#[],rfl,hb,qA w _ _,Nat.le_refl _,by decide,by simp,by simp⟩⟩
end Go.Lx
namespace Go.Lx
inductive ST where
 | word (p:Int) (s:ByteArray)
 | list (p:Int) (l:List ST)
mutual
def xB : ST → List Sx
  | .word p s=>[⟨0,p,s⟩]
  | .list p l=>fC l++[⟨(l.length:Int),p,⟨#[]⟩⟩]
def fC : List ST → List Sx
  | []=>[]
  | a::l=>xB a++fC l
end
mutual
def okS : ST → Prop
  | .word _ s=>s.size≠0
  | .list _ l=>gHA l
def gHA : List ST → Prop
  | []=>True
  | a::l=>okS a∧gHA l
end
def ST.last : ST → Sx
  | .word p s=>⟨0,p,s⟩
  | .list p l=>⟨(l.length:Int),p,⟨#[]⟩⟩
theorem aV(a b:List ST):fC (a++b)=fC a++fC b:=by
 induction a with
 | nil=>rfl
 | cons x l ih=>simp[fC,ih]
theorem dV(a:ST):∃ i,xB a=i++[a.last]:=by
 cases a with
 | word p s=>exact⟨[],by simp[xB,ST.last]⟩
 | list p l=>exact⟨fC l,by simp[xB,ST.last]⟩
theorem uX(a:ST):0 < (xB a).length:=by
 obtain⟨i,h⟩:=dV a;rw[h];simp
def uD : Nat → List ST → List Nat
  | _,[]=>[]
  | i,a::l=>i::uD (i+(xB a).length) l
theorem kN(i:Nat)(l:List ST):(uD i l).length=l.length:=by
 induction l generalizing i with
 | nil=>rfl
 | cons x l ih=>simp[uD,ih]
theorem bS(i:Nat)(a b:List ST):uD i (a++b)=uD i a++uD (i+(fC a).length) b:=by
 induction a generalizing i with
 | nil=>simp[uD,fC]
 | cons x l ih=>simp[uD,ih,fC,Nat.add_assoc]
theorem j3(T:ST):okS T→∀(Fs:List ST),kC (xB T) (fC Fs).length (uD 0 Fs)=some (uD 0 (Fs++[T])):=by
 induction T using ST.rec (motive_2:=fun l=>gHA l→∀(Fs:List ST),kC (fC l) (fC Fs).length (uD 0 Fs)=some (uD 0 (Fs++l))) with
 | word p s =>
   rintro h Fs;rw[xB];unfold kC;rw[if_pos ⟨Int.le_refl _,fun _=>rfl,Int.natCast_nonneg _⟩];unfold kC gL;simp[bS,uD]
 | list p l ih =>
   rintro h Fs;rw[xB,nQ,ih h Fs];simp only[Option.bind_some];unfold kC;rw[if_pos ⟨Int.natCast_nonneg _,fun h=>absurd rfl h,by rw[kN,List.length_append];show(l.length:Int)≤_;omega⟩];unfold kC gL;have e2:(uD 0 Fs).length=Fs.length:=kN _ _;rw[kN,bS,List.length_append];simp only[Int.toNat_natCast];rw[show Fs.length+l.length - l.length=Fs.length by omega,List.take_left' e2,List.drop_left' e2,bS]
   cases l with
   | nil=>simp[uD,fC]
   | cons a l=>simp[uD]
 | nil=>rename_i h Fs;simp[fC,kC]
 | cons a l iha ihl =>
   rename_i h Fs;rw[fC,nQ,iha h.1 Fs];simp only[Option.bind_some];have e:(fC Fs).length+(xB a).length=(fC (Fs++[a])).length:=by rw[aV];simp[fC]
   rw[e,ihl h.2];simp
theorem zT : ∀ (l : List ST), gHA l → ∀ Fs : List ST, kC (fC l) (fC Fs).length (uD 0 Fs) = some (uD 0 (Fs ++ l))
  | [],_,Fs=>by simp[fC,kC]
  | a :: l, h, Fs => by
    rw[fC,nQ,j3 a h.1 Fs];simp only[Option.bind_some];have e:(fC Fs).length+(xB a).length=(fC (Fs++[a])).length:=by rw[aV];simp[fC]
    rw[e,zT l h.2];simp
theorem oV : ∀ (ts : List ST) (pre : List Sx), (List.range ts.length).map (fun i => piece (pre ++ fC ts) ((uD pre.length ts ++ [(pre ++ fC ts).length]).getD i 0) ((uD pre.length ts ++ [(pre ++ fC ts).length]).getD (i + 1) 0)) = ts.map xB
  | [],pre=>rfl
  | a :: l, pre => by
    have ih:=oV l (pre++xB a);rw[List.length_cons,List.range_succ_eq_map,List.map_cons,List.map_map,List.map_cons];have e:pre++fC (a::l)=pre++xB a++fC l:=by simp[fC]
    rw[e];congr 1
    · have h1 : (uD pre.length (a :: l) ++ [(pre ++ xB a ++ fC l).length]).getD 0 0 = pre.length := by simp [uD]
      have h2:(uD pre.length (a::l)++[(pre++xB a++fC l).length]).getD (0+1) 0=pre.length+(xB a).length:=by
       cases l with
       | nil=>simp[uD,fC]
       | cons b l=>simp[uD]
      rw[h1,h2];unfold piece;rw[List.append_assoc,List.drop_left,show pre.length+(xB a).length - pre.length=(xB a).length by omega,List.take_left]
    · rw [← ih]; refine List.map_congr_left fun i hi => ?_
      simp only[Function.comp];simp only[uD,List.cons_append,List.getD_eq_getElem?_getD,List.getElem?_cons_succ,List.length_append]
theorem zM{ts:List ST}(h:gHA ts):sJ (fC ts)=some (ts.map xB):=by
 have hb:=zT ts h [];simp only[fC,uD,List.length_nil,List.nil_append]at hb;unfold sJ;rw[hb];have:=oV ts [];simp only[List.nil_append,List.length_nil]at this;rw[Option.map_some];unfold pieces;rw[kN,this]
theorem hNA{p:Int}{l:List ST}(h:gHA l):mK (xB (.list p l))=some (l.map xB):=by
 have hb:=j3 (.list p l) h [];simp only[fC,uD,List.length_nil,List.nil_append]at hb;rw[xB,kL];rw[xB]at hb;rw[hb]
 show(if(⟨#[]⟩:ByteArray).size=0 then sJ (fC l) else none)=_
 rw[if_pos (show(⟨#[]⟩:ByteArray).size=0 from rfl),zM h]
end Go.Lx
namespace Go.Lx
open Go.RowKit
def Zip{α β:Type}(R:α→β→Prop)(vs:List α)(ls:List β):Prop:=vs.length=ls.length∧∀(i:Nat) v x,vs[i]? = some v→ls[i]? = some x→R v x
theorem Zip.nil{α β:Type}(R:α→β→Prop):Zip R [] []:=⟨rfl,fun i v x h=>by simp at h⟩
theorem Zip.app{α β:Type}{R:α→β→Prop}{vs us:List α}{ls ks:List β}(h:Zip R vs ls)(k:Zip R us ks):Zip R (vs++us) (ls++ks):=by
 refine⟨by rw[List.length_append,List.length_append,h.1,k.1],fun i v x hv hx=>?_⟩;by_cases hi:i < vs.length
 · rw[List.getElem?_append_left hi]at hv;rw[List.getElem?_append_left (by rw[← h.1];exact hi)]at hx;exact h.2 i v x hv hx
 · rw[List.getElem?_append_right (by omega)]at hv;rw[List.getElem?_append_right (by rw[← h.1];omega),← h.1]at hx;exact k.2 _ v x hv hx
theorem Zip.one{α β:Type}{R:α→β→Prop}{v:α}{x:β}(h:R v x):Zip R [v] [x]:=⟨rfl,fun i u y hu hy=>by
  match i,hu,hy with
  | 0,hu,hy=>cases hu;cases hy;exact h⟩
theorem Zip.mono{α β:Type}{R S:α→β→Prop}{vs:List α}{ls:List β}(h:Zip R vs ls)(hRS:∀ v x,R v x→S v x):Zip S vs ls:=⟨h.1,fun i v x hv hx=>hRS v x (h.2 i v x hv hx)⟩
theorem Zip.at{α β:Type}{R:α→β→Prop}{vs:List α}{ls:List β}(h:Zip R vs ls){i:Nat}{x:β}(hx:ls[i]? = some x):∃ v,vs[i]? = some v∧R v x:=by
 have hi:i < vs.length:=by rw[h.1];exact(List.getElem?_eq_some_iff.1 hx).1
 exact⟨vs[i],List.getElem?_eq_getElem hi,h.2 i _ x (List.getElem?_eq_getElem hi) hx⟩
def ListV{α:Type}(R:World→Value→α→Prop)(w:World)(v:Value)(ls:List α):Prop:=∃ p c vs,v = .slice p ls.length c∧ls.length≤c∧(p=none→c=0)∧RowArg w p vs∧Zip (R w) vs ls
def TermV(w:World)(v:Value)(t:List Nd):Prop:=∃ p c,v = .slice p t.length c∧t.length≤c∧(p=none→c=0)∧RowArg w p (aC t)
def sSA{α:Type}(R:World→Value→α→Prop):Prop:=∀ w w' v x,Under w w'→R w v x→R w' v x
theorem TermV.mono:sSA TermV:=fun w w' v t hU ⟨p,c,h1,h2,h0,h3⟩=>⟨p,c,h1,h2,h0,h3.under hU⟩
theorem ListV.mono{α:Type}{R:World→Value→α→Prop}(hR:sSA R):sSA (ListV R):=fun w w' v ls hU ⟨p,c,vs,h1,h2,h0,h3,h4⟩=>⟨p,c,vs,h1,h2,h0,h3.under hU,h4.mono fun v x h=>hR w w' v x hU h⟩
theorem TermV.one{w:World}{v:Value}{t:List Nd}(h:TermV w v t):v.oneCell'=true:=by obtain⟨p,c,rfl,_⟩:=h;rfl
theorem ListV.one{α:Type}{R:World→Value→α→Prop}{w:World}{v:Value}{ls:List α}(h:ListV R w v ls):v.oneCell'=true:=by obtain⟨p,c,vs,rfl,_⟩:=h;rfl
abbrev TermsV:=ListV TermV
abbrev ConsV:=ListV TermsV
theorem ListV.of_own{α:Type}{R:World→Value→α→Prop}{w:World}{base:Nat}{e:TypeId}{v:Value}{ls:List α}{vs:List Value}(h:w.ownsRow base e 1 v ls.length vs)(hz:Zip (R w) vs ls):ListV R w v ls:=by
 have hc:∀ q n c,v = .slice q n c→q=none→c=0:=by
  intro q n c e hq;subst hq;rcases h.2 with⟨rfl,_⟩ | ⟨g,cap,cur,e',_⟩
  · cases e;rfl
  · rw[e']at e;cases e
 obtain⟨q,c,rfl,h1,h2⟩:=RowArg.of_own h;exact⟨q,c,vs,rfl,h1,hc q _ c rfl,h2,hz⟩
section
variable {P : Program}
end
def TextsV(w:World)(v:Value)(ss:List ByteArray):Prop:=∃ p c,v = .slice p ss.length c∧ss.length≤c∧(p=none→c=0)∧RowArg w p (ss.map .string)
theorem TextsV.under{w w':World}{v:Value}{ss:List ByteArray}(h:TextsV w v ss)(hU:Under w w'):TextsV w' v ss:=by
 obtain⟨p,c,rfl,h1,h2,h3⟩:=h;exact⟨p,c,rfl,h1,h2,h3.under hU⟩
theorem TextsV.of_own{w:World}{base:Nat}{e:TypeId}{v:Value}{ss:List ByteArray}(h:w.ownsRow base e 1 v ss.length (ss.map .string)):TextsV w v ss:=by
 have hc:∀ q n c,v = .slice q n c→q=none→c=0:=by
  intro q n c e hq;subst hq;rcases h.2 with⟨rfl,_⟩ | ⟨g,cap,cur,e',_⟩
  · cases e;rfl
  · rw[e']at e;cases e
 obtain⟨q,c,rfl,h1,h2⟩:=RowArg.of_own h;exact⟨q,c,rfl,h1,hc q _ c rfl,h2⟩
theorem TextsV.nil(w:World):TextsV w (.slice none 0 0) []:=⟨none,0,rfl,Nat.le_refl _,fun _=>rfl,RowArg.nil⟩
theorem bGA{w:World}{p:Option Addr}{ss:List ByteArray}(h:RowArg w p (ss.map .string)){k:Nat}(hk:k < ss.length):∃ b off,p=some ⟨b,off,none⟩∧b < w.heap.size∧w.cell? ⟨b,off+k,none⟩=some (.string ss[k]):=by
 obtain⟨b,off,e,hb,hc⟩:=h (fun e=>by rw[List.map_eq_nil_iff]at e;rw[e]at hk;simp at hk);exact⟨b,off,e,hb,hc k _ (by simp[List.getElem?_eq_getElem hk])⟩
def aL(ss:List ByteArray)(s:ByteArray):Bool:=ss.any fun x=>x.toList==s.toList
end Go.Lx
namespace Go.Lx
def formT:List (List UInt8×Int×Int×List UInt8):=[([84,121,112,101],2,0,[110]),([108,97,109],4,0,[119,46,46]),([97,112,112],5,0,[46,46]),([112,97,105,114],7,0,[46,46,46]),([102,115,116],8,0,[46]),([115,110,100],9,0,[46]),([115,117,99],12,0,[46]),([112,114,102],28,0,[46]),([114,101,99],13,0,[118,46,46,118,118,46,46]),([97,98,111,114,116],15,0,[46,46]),([101,113],18,0,[46,46,46]),([114,101,102,108],19,0,[46,46]),([99,97,115,116],20,0,[46,46,46,46]),([116,114,97,110,115,112],21,0,[46,46,118,46,46,46,46]),([113,117,111,116],22,0,[46,118,118,46,46,46,46]),([99,108,97,115,115],23,0,[46,46]),([113,101,108,105,109],24,0,[46,118,46,46,46]),([100,97,116,97],25,0,[100]),([99,111,110],26,0,[100,110,42]),([101,108,105,109],27,0,[100,118,46,42,46]),([112,105],3,0,[119,46,46]),([115,105,103],6,0,[119,46,46]),([112,105,49],3,1,[119,46,46]),([115,105,103,49],6,1,[119,46,46]),([112,105,50],3,2,[119,46,46]),([115,105,103,50],6,2,[119,46,46]),([112,105,51],3,3,[119,46,46]),([115,105,103,51],6,3,[119,46,46])]
def leafT:List (List UInt8×Int):=[([80,114,111,112],2),([78,97,116],10),([122,101,114,111],11),([69,109,112,116,121],14),([85,110,105,116],16),([115,116,97,114],17),([116,105,99,107],29)]
def xJA (w : List UInt8) : List (List UInt8 × Int × Int × List UInt8) → Option (Int × Int × List UInt8)
  | []=>none
  | (x,y)::l=>if w=x then some y else xJA w l
def lIA (w : List UInt8) : List (List UInt8 × Int) → Option Int
  | []=>none
  | (x,y)::l=>if w=x then some y else lIA w l
def rFA(s:ByteArray):Option (Int×Int×List UInt8):=xJA s.data.toList formT
def yO(s:ByteArray):Option Int:=lIA s.data.toList leafT
def kwW(s:ByteArray):Bool:=(rFA s).isSome||(yO s).isSome
inductive PK where
 | nm
 | nu
 | da
 | te (wait:Bool)
def eQA(parts:List UInt8)(n:Nat):List UInt8:=parts.flatMap fun c=>if c=42 then List.replicate (n+1 - parts.length) c else [c]
def kR : Bool → List UInt8 → List PK
  | _,[]=>[]
  | w,c::l=>if c=118 then .nm::kR false l else if c=119 then .nm::kR true l else if c=110 then .nu::kR w l else if c=100 then .da::kR w l else .te w::kR false l
abbrev Say:=Except (Int×Int) (List Nd)
def cAA(st:List ByteArray)(s:ByteArray):Option Nat:=st.reverse.findIdx? fun x=>x.toList==s.toList
def aU(s:ByteArray):Bool:=rD s && !kwW s
def tJ(cs:List ByteArray)(p:Int)(s:ByteArray)(st:List ByteArray):Say :=
 match yO s with
 | some k=>.ok [⟨k,0,0,⟨#[]⟩⟩]
 | none => if aU s then
     match cAA st s with
     | some i=>if 99 < i then .error (2,p) else .ok [⟨0,(i:Int),0,⟨#[]⟩⟩]
     | none=>if aL cs s then .ok [⟨1,0,0,s⟩] else .error (80,p)
   else .error (71,p)
def v5A(s:ByteArray):Option Nat:=(List.range 100).find? fun n=>s.data.toList==Lib.decDigits n
def k5A(k:Int)(n:Nat):Bool:=if k=26 then n < 6 else(1≤n&&n≤9)
mutual
def mQ (cs ds : List ByteArray) : ST → List ByteArray → Say
  | .word p s,st=>tJ cs p s st
  | .list p l,st=>uKA cs ds p l st
def uKA (cs ds : List ByteArray) (p : Int) : List ST → List ByteArray → Say
  | [],_=>.error (71,p)
  | h :: l, st =>
    match rFA h.last.word with
    | none=>.error (71,p)
    | some (k, n, parts) =>
      if(eQA parts l.length).length=l.length∧((k=26∨k=27)→l.length+1 - parts.length≤6) then
       goS cs ds (kR false (eQA parts l.length)) l ⟨k,n,if k=26∨k=27 then((l.length+1 - parts.length:Nat):Int) else 0,⟨#[]⟩⟩ [] st []
      else .error (71,p)
def goS (cs ds : List ByteArray) : List PK → List ST → Nd → List ByteArray → List ByteArray → List Nd → Say
  | .nm::ks,y::ys,x,nms,st,acc=>if aU y.last.word then goS cs ds ks ys x (nms++[y.last.word]) st acc else .error (71,y.last.pos)
  | .nu :: ks, y :: ys, x, nms, st, acc =>
    match v5A y.last.word with
    | some n=>if k5A x.k n then goS cs ds ks ys ⟨x.k,(n:Int),x.m,x.s⟩ nms st acc else .error (71,y.last.pos)
    | none=>.error (71,y.last.pos)
  | .da :: ks, y :: ys, x, nms, st, acc =>
    if aU y.last.word then(if aL ds y.last.word then goS cs ds ks ys ⟨x.k,x.n,x.m,y.last.word⟩ nms st acc else .error (80,y.last.pos)) else .error (71,y.last.pos)
  | .te w :: ks, y :: ys, x, nms, st, acc =>
    match mQ cs ds y (if w then st else st++nms) with
    | .ok t=>goS cs ds ks ys x (if w then nms else []) st (acc++t)
    | .error e=>.error e
  | _,_,x,_,_,acc=>.ok (acc++[x])
end
def p5A(l:List UInt8):List UInt8 :=
 if l=[119,46,46] then [46,118,46] else if l=[118,46,46,118,118,46,46] then [118,46,46,86,46,46] else if l=[46,118,118,46,46,46,46] then [46,86,46,46,46,46] else l
end Go.Lx
