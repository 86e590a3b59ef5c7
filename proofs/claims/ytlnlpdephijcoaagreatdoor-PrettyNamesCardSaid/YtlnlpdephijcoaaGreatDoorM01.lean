/- Part 1 of what the proof rests on. -/
import Derived.MapKept
import Derived.Laws.Strings
import Derived.Test.YtlnlpdephijcoaaGreatDoorM00
set_option linter.unusedSimpArgs false
set_option linter.unusedVariables false
namespace Go.Lx
open Go.RowKit Go.MapKept
theorem bytes_beq(a b:ByteArray):(a==b)=decide (a=b):=by
 obtain⟨x⟩:=a;obtain⟨y⟩:=b;have h:((⟨x⟩:ByteArray)==⟨y⟩)=(x==y):=rfl;rw[h,Bool.eq_iff_iff];simp
abbrev lD:=List (ByteArray×Value)
def nH : lD → ByteArray → Option Value
  | [],_=>none
  | (a,v)::r,k=>if k=a then some v else nH r k
def lV : lD → ByteArray → Value → lD
  | [],k,v=>[(k,v)]
  | (a,u)::r,k,v=>if k=a then(k,v)::r else(a,u)::lV r k v
def MapAt(w:World)(b:Nat)(ks:lD):Prop:=∃ es clock,w.heap[b]? = some (.map es clock)∧es.toList.map (fun e=>(e.key,e.val))=ks.map fun p=>(.string p.1,p.2)
theorem MapAt.lt{w:World}{b:Nat}{ks:lD}(h:MapAt w b ks):b < w.heap.size:=by
 obtain⟨es,clock,hb,_⟩:=h;exact(Array.getElem?_eq_some_iff.1 hb).1
theorem MapAt.under{w w':World}{b:Nat}{ks:lD}(h:MapAt w b ks)(hU:Under w w'):MapAt w' b ks:=by
 obtain⟨es,clock,hb,he⟩:=h;exact⟨es,clock,(hU.low b (Array.getElem?_eq_some_iff.1 hb).1).trans hb,he⟩
theorem MapAt.turned{w w':World}{b:Nat}{ks:lD}{r:Option Nat}(h:MapAt w b ks)(hT:Turned r w w')(hr:some b≠r):MapAt w' b ks:=by
 obtain⟨es,clock,hb,he⟩:=h;exact⟨es,clock,(hT.block b (Array.getElem?_eq_some_iff.1 hb).1 hr).trans hb,he⟩
theorem MapAt.cast{w:World}{b:Nat}{ks ks':lD}(h:MapAt w b ks)(e:ks=ks'):MapAt w b ks':=e▸h
theorem zLA(w:World):MapAt (w.alloc (.map #[] 0)) w.heap.size []:=⟨#[],0,by simp[uC],rfl⟩
def wK : lD → ByteArray → Nat → Option (Nat × Value)
  | [],_,_=>none
  | (a,v)::r,k,i=>if k=a then some (i,v) else wK r k (i+1)
theorem sBA : ∀ (ks : lD) (k : ByteArray) (i : Nat), (wK ks k i).map (·.2) = nH ks k
  | [],_,_=>rfl
  | (a, v) :: r, k, i => by
    simp only[wK,nH]
    split
    · rfl
    · exact sBA r k (i+1)
theorem vS : ∀ (es : List MapEntry) (ks : lD) (k : ByteArray) (i : Nat), es.map (fun e => (e.key, e.val)) = ks.map (fun p => (Value.string p.1, p.2)) → Instr.findNow .string (.string k) es i = some (wK ks k i)
  | [],[],_,_,_=>rfl
  | [],_::_,_,_,h=>by simp at h
  | _::_,[],_,_,h=>by simp at h
  | e :: es, (a, v) :: r, k, i, h => by
    simp only[List.map_cons,List.cons.injEq,Prod.mk.injEq]at h;obtain⟨⟨h1,h2⟩,h3⟩:=h;simp only[Instr.findNow,Instr.sameNow,h1,wK];by_cases hk:k=a
    · subst hk;rw[bytes_beq];simp[h2]
    · have : (k == a) = false := by rw [bytes_beq]; simpa using hk
      rw[this,if_neg hk];exact vS es r k (i+1) h3
theorem bSA{ks:lD}{k:ByteArray}{i j:Nat}{v:Value}(h:wK ks k i=some (j,v)):i≤j∧ks[j - i]? = some (k,v)∧∀ u,lV ks k u=ks.set (j - i) (k,u):=by
 induction ks generalizing i with
 | nil=>cases h
 | cons p r ih =>
   obtain⟨a,y⟩:=p;simp only[wK]at h
   split at h
   · rename_i hk
     cases h;subst hk;exact⟨Nat.le_refl _,by simp,fun u=>by simp[lV]⟩
   · rename_i hk; obtain ⟨h1, h2, h3⟩ := ih h; refine ⟨by omega, ?_, fun u => ?_⟩
     · rw[show j - i=(j - (i+1))+1 by omega];simpa using h2
     · rw[show j - i=(j - (i+1))+1 by omega];simp[lV,hk,h3]
theorem zFA{ks:lD}{k:ByteArray}{i:Nat}(h:wK ks k i=none)(u:Value):lV ks k u=ks++[(k,u)]:=by
 induction ks generalizing i with
 | nil=>rfl
 | cons p r ih =>
   obtain⟨a,y⟩:=p;simp only[wK]at h
   split at h
   · cases h
   · rename_i hk;simp[lV,hk,ih h]
section
variable {P : Program} {w : World} {b : Nat} {ks : lD} {t kt et : TypeId} {k : ByteArray} {v : Value}
theorem pI{es:Array MapEntry}{clock:Nat}(hb:w.heap[b]? = some (.map es clock)):(getObj b).run P w = .ok (.map es clock) w:=by simp[getObj,Sem.run,hb]
theorem dI(e:Bool)(hk:P.underlying kt=some .string):(Instr.checkKey e 10000 kt (.string k)).run P w = .ok () w:=by
 rw[show(10000:Nat)=9999+1 from rfl,Instr.checkKey];simp[run_underlying hk]
theorem MapAt.update(h:MapAt w b ks)(ht:P.underlying t=some (.map kt et))(hk:P.underlying kt=some .string) :
 ∃ w',(Instr.mapUpdate t (.map (some b)) (.string k) v).run P w = .ok () w'∧MapAt w' b (lV ks k v)∧Turned (some b) w w':=by
 obtain⟨es,clock,hb,he⟩:=h;have hlt:=(Array.getElem?_eq_some_iff.1 hb).1;have hf:=run_findKey (P:=P) (w:=w) hk (vS es.toList ks k 0 he)
 cases hm:wK ks k 0 with
 | none =>
   rw[hm]at hf;refine⟨w.putObj b (.map (es.push { key:=.string k,val:=v,born:=clock }) (clock+1)),?_,⟨_,_,World.putObj_heap_same hlt,?_⟩,⟨rfl,rfl,by simp,fun j hj hr=>World.putObj_heap_other fun e=>hr (congrArg some e)⟩⟩
   · simp[Instr.mapUpdate,run_underlying ht,run_underlying hk,pI (P:=P) hb,dI (P:=P) (w:=w) _ hk,hf,setObj,Sem.run,hb,Result.andThen,World.putObj]
   · rw[zFA hm];simp[he]
 | some r =>
   obtain⟨j,u⟩:=r;rw[hm]at hf;obtain⟨_,h2,h3⟩:=bSA hm;rw[Nat.sub_zero]at h2 h3;have hj:es.toList[j]?.map (fun e=>(e.key,e.val))=some (.string k,u):=by
    have:=congrArg (fun l=>l[j]?) he;simp only[List.getElem?_map,h2]at this
    simpa using this
   have hkey:((es[j]?).map (·.key)).getD (.string k) = .string k:=by
    cases hq:es[j]? with
    | none=>rfl
    | some e =>
      have:es.toList[j]? = some e:=by simpa using hq
      rw[this]at hj;simp at hj;simp[hj.1]
   refine⟨w.putObj b (.map (es.modify j fun e=>{ e with key:=.string k,val:=v }) clock),?_,⟨_,_,World.putObj_heap_same hlt,?_⟩,⟨rfl,rfl,by simp,fun i hi hr=>World.putObj_heap_other fun e=>hr (congrArg some e)⟩⟩
   · simp[Instr.mapUpdate,run_underlying ht,run_underlying hk,pI (P:=P) hb,dI (P:=P) (w:=w) _ hk,hf,setObj,Sem.run,hb,Result.andThen,World.putObj,hkey,Instr.keyThatStays,Instr.sameBits,bytes_beq]
   · rw [h3]; apply List.ext_getElem?; intro i; have hi := congrArg (fun l => l[i]?) he; simp only [List.getElem?_map] at hi; simp only [List.getElem?_map, List.getElem?_set]; by_cases e : j = i
     · subst e; have hjl : j < ks.length := (List.getElem?_eq_some_iff.1 h2).1
       cases hq:es.toList[j]? with
       | none=>rw[hq]at hj;cases hj
       | some x =>
         have hjs:j < es.size:=by have:=(List.getElem?_eq_some_iff.1 hq).1;simpa using this
         have hx:es[j]? = some x:=by simpa using hq
         simp[hjl,Array.getElem?_modify,hx,hjs]
     · rw[if_neg e,← hi];simp[Array.getElem?_modify,e]
theorem MapAt.lookup(h:MapAt w b ks)(ht:P.underlying t=some (.map kt et))(hk:P.underlying kt=some .string){z:Value}(hz:(zeroValue et).run P w = .ok z w) :
 (Instr.lookup t (.map (some b)) (.string k) true).run P w = .ok (.tuple #[(nH ks k).getD z,.bool (nH ks k).isSome]) w∧(Instr.lookup t (.map (some b)) (.string k) false).run P w = .ok ((nH ks k).getD z) w:=by
 obtain⟨es,clock,hb,he⟩:=h;have hf:=run_findKey (P:=P) (w:=w) hk (vS es.toList ks k 0 he);have hg:=sBA ks k 0
 cases hm:wK ks k 0 with
 | none =>
   rw[hm]at hf hg;rw[← hg];constructor<;>simp[Instr.lookup,run_underlying ht,run_underlying hk,pI (P:=P) hb,dI (P:=P) (w:=w) _ hk,hf,hz,Result.andThen]
 | some r =>
   rw[hm]at hf hg;rw[← hg];constructor<;>simp[Instr.lookup,run_underlying ht,run_underlying hk,pI (P:=P) hb,dI (P:=P) (w:=w) _ hk,hf,Result.andThen]
theorem uG {ops : Array Oper} {rest : List Oper} {o : Oper} {a : Act} {Q : Exit → Act → World → Prop} (hg : o.guard = none) (m x y : Operand) (hop : o.op = Op.insert t m x y ∨ o.op = Op.mapUpdate t m x y)
    (ht:P.underlying t=some (.map kt et)) (hk:P.underlying kt=some .string) (em:a.eval m = .map (some b)) (hm:MapAt w b ks) (ex:a.eval x = .string k) (ey:a.eval y=v)
    (h:∀ w',MapAt w' b (lV ks k v)→Turned (some b) w w'→wpList P ops Q rest (a.put o.dst undef) w'):wpList P ops Q (o::rest) a w:=by
  refine wpList_plain hg fun K' hK'=>?_
  obtain⟨w',hrun,r1,r2⟩:=hm.update (v:=v) (k:=k) ht hk;unfold Oper.wp;rcases hop with hop | hop
  · simp[execOp,hop,em,ex,ey,hrun,Result.andThen];exact hK' _ _ (h w' r1 r2)
  · simp[execOp,hop,em,ex,ey,hrun,Result.andThen];exact hK' _ _ (h w' r1 r2)
theorem nE {ops : Array Oper} {rest : List Oper} {o : Oper} {a : Act} {Q : Exit → Act → World → Prop} (hg : o.guard = none) (m x : Operand) (ok : Bool) (hop : o.op = Op.lookup t m x ok)
    (ht:P.underlying t=some (.map kt et)) (hk:P.underlying kt=some .string) {z:Value} (hz:(zeroValue et).run P w = .ok z w) (em:a.eval m = .map (some b)) (hm:MapAt w b ks) (ex:a.eval x = .string k)
    (h:wpList P ops Q rest (a.put o.dst (if ok then .tuple #[(nH ks k).getD z,.bool (nH ks k).isSome] else(nH ks k).getD z)) w):wpList P ops Q (o::rest) a w:=by
  refine wpList_plain hg fun K' hK'=>?_
  obtain⟨r1,r2⟩:=hm.lookup (k:=k) ht hk hz;unfold Oper.wp
  cases ok with
  | true=>simp[execOp,hop,em,ex,r1,Result.andThen];exact hK' _ _ (by simpa using h)
  | false=>simp[execOp,hop,em,ex,r2,Result.andThen];exact hK' _ _ (by simpa using h)
end
end Go.Lx
namespace Go.Lx
open Go.RowKit
theorem zO{t:ByteArray}(h:t.size≠0):¬ t.toList=[]∧t.toList.isEmpty=false:=by
 have:t.toList.length≠0:=by rw[ByteArray.toList_eq];exact h
 constructor
 · intro e;rw[e]at this;exact this rfl
 · cases hl : t.toList with
   | nil=>rw[hl]at this;exact absurd rfl this
   | cons a l=>rfl
structure Sx where
 many:Int
 pos:Int
 word:ByteArray
def wD : List Sx → List Value
  | []=>[]
  | x::l=>.int .i64 x.many :: .int .i64 x.pos :: .string x.word::wD l
theorem tK(l r:List Sx):wD (l++r)=wD l++wD r:=by
 induction l with
 | nil=>rfl
 | cons x l ih=>simp[wD,ih]
theorem rH(l:List Sx):(wD l).length=l.length * 3:=by
 induction l with
 | nil=>rfl
 | cons x l ih=>simp[wD,ih];omega
def jGA(x:Sx)(n:Nat):Prop:=0≤x.many∧(x.word.size≠0→x.many=0)∧x.many≤n
instance (x:Sx) (n:Nat):Decidable (jGA x n):=inferInstanceAs (Decidable (_∧_∧_))
def uN(x:Sx)(i:Nat)(st:List Nat):List Nat:=st.take (st.length - x.many.toNat)++[(st.drop (st.length - x.many.toNat)).headD i]
def kC : List Sx → Nat → List Nat → Option (List Nat)
  | [],_,st=>some st
  | x::l,i,st=>if jGA x st.length then kC l (i+1) (uN x i st) else none
section
variable {l : List Sx}
theorem yS(a b:List Sx):∀(i:Nat) (st:List Nat),kC (a++b) i st=(kC a i st).bind (kC b (i+a.length)):=by
 induction a with
 | nil=>intro i st;simp[kC]
 | cons x a ih =>
   intro i st;simp only[List.cons_append,kC]
   split
   · rw[ih];simp only[List.length_cons];rw[show i+1+a.length=i+(a.length+1) by omega]
   · rfl
def pre(l:List Sx)(k:Nat):Option (List Nat):=kC (l.take k) 0 []
def Inc(st:List Nat)(i:Nat):Prop:=(st++[i]).Pairwise (· < ·)
theorem v1A{st:List Nat}{i:Nat}(x:Sx)(h:Inc st i):Inc (uN x i st) (i+1):=by
 unfold Inc at *;unfold uN;generalize hm:st.length - x.many.toNat=m;have hst:st=st.take m++st.drop m:=(List.take_append_drop m st).symm;generalize st.take m=s at *;generalize st.drop m=t at *;subst hst;simp only[List.pairwise_append,List.mem_append,List.mem_singleton,List.pairwise_cons,List.Pairwise.nil]at h ⊢;obtain⟨⟨h1,h2,h3⟩,h4,h5⟩:=h;have hh:t.headD i≤i∧∀ a∈s,a < t.headD i:=by
  cases t with
  | nil=>exact⟨Nat.le_refl _,fun a ha=>h5 a (.inl ha) i rfl⟩
  | cons y t=>exact⟨Nat.le_of_lt (h5 y (.inr (List.mem_cons_self ..)) i rfl),fun a ha=>h3 a ha y (List.mem_cons_self ..)⟩
 refine⟨⟨h1,⟨fun _ h=>by simp at h,trivial⟩,fun a ha b hb=>by rw[hb];exact hh.2 a ha⟩,⟨fun _ h=>by simp at h,trivial⟩,?_⟩;rintro a (ha | ha) b rfl
 · have:=h5 a (.inl ha) i rfl;omega
 · omega
theorem xAB:∀(l:List Sx) (i:Nat) (st s:List Nat),Inc st i→kC l i st=some s→Inc s (i+l.length):=by
 intro l
 induction l with
 | nil=>intro i st s h e;cases e;exact h
 | cons x l ih =>
   intro i st s h e;simp only[kC]at e
   split at e
   · have:=ih (i+1) _ s (v1A x h) e;rw[List.length_cons,show i+(l.length+1)=i+1+l.length by omega];exact this
   · cases e
theorem q6A(i:Nat):Inc [] i:=List.pairwise_singleton ..
def i1A (f : Nat → Option Nat) : Nat → Nat → Option Nat
  | 0,k=>some k
  | m+1,k=>match f k with | none=>none | some b=>i1A f m b
def hAB(x:Sx):Prop:=x.many < 0∨(x.word.size≠0∧x.many≠0)
instance (x:Sx):Decidable (hAB x):=inferInstanceAs (Decidable (_∨_))
def rbF (l : List Sx) : Nat → Nat → Option Nat
  | 0,_=>none
  | _+1,0=>none
  | fuel + 1, e + 1 => match l[e]? with
    | none=>none
    | some x=>if hAB x then none else i1A (rbF l fuel) x.many.toNat e
def rb(l:List Sx)(k:Nat):Option Nat:=rbF l k k
def piece(l:List Sx)(a b:Nat):List Sx:=(l.drop a).take (b - a)
def pieces(l:List Sx)(st:List Nat)(k:Nat):List (List Sx):=(List.range st.length).map fun i=>piece l ((st++[k]).getD i 0) ((st++[k]).getD (i+1) 0)
inductive RItems (l : List Sx) : Nat → List (List Sx) → Option (List (List Sx)) → Prop
  | done (acc):RItems l 0 acc (some acc)
  | bad {k acc}:0 < k→rb l k=none→RItems l k acc none
  | one {k acc b R}:0 < k→rb l k=some b→RItems l b (piece l b k::acc) R→RItems l k acc R
def vM(l:List Sx):Option (List (List Sx)):=(kC l 0 []).map fun st=>pieces l st l.length
end
section
theorem tX(l:List Sx)(st:List Nat)(k:Nat):(pieces l st k).length=st.length:=by simp[pieces]
end
def cO(row:List Sx):Option (List (List Sx)) :=
 match kC row 0 [],row.getLast? with
 | some [_],some x=>if x.word.size=0 then vM row.dropLast else none
 | _,_=>none
theorem iO(init:List Sx)(x:Sx):cO (init++[x])=match kC (init++[x]) 0 [] with
 | some [_]=>if x.word.size=0 then vM init else none
 | _=>none:=by
 unfold cO;rw[List.getLast?_concat,List.dropLast_concat]
 split
 · rename_i h1 h2
   cases h2;rw[h1]
 · rename_i h
   split
   · rename_i h1;exact absurd rfl (h _ _ h1)
   · rfl
structure PTok where
 kind:Int
 pos:Int
 text:ByteArray
def eF : List PTok → List Sx → List Sx → Sx → Except (Int × Int) (List Sx)
  | [],row,[],_=>.ok row
  | [],_,_::_,x=>.error (x.pos,70)
  | t :: ts, row, st, x =>
    if t.kind=1 then eF ts (row++[⟨0,t.pos,t.text⟩]) st ⟨x.many+1,x.pos,x.word⟩
    else if t.kind=2 then(if st.length=60 then .error (t.pos,22) else eF ts row (x::st) ⟨0,t.pos,⟨#[]⟩⟩)
    else match st with
     | []=>.error (t.pos,70)
     | y::st=>eF ts (row++[x]) st ⟨y.many+1,y.pos,y.word⟩
theorem dO(t:PTok)(ts:List PTok)(row st:List Sx)(x:Sx):eF (t::ts) row st x =
    if t.kind=1 then eF ts (row++[⟨0,t.pos,t.text⟩]) st ⟨x.many+1,x.pos,x.word⟩
    else if t.kind=2 then(if st.length=60 then .error (t.pos,22) else eF ts row (x::st) ⟨0,t.pos,⟨#[]⟩⟩)
    else match st with
     | []=>.error (t.pos,70)
     | y::st=>eF ts (row++[x]) st ⟨y.many+1,y.pos,y.word⟩:=by
  cases st<;>rfl
def lUA(w0:World)(b off:Nat)(row:List Sx):Prop:=∀ k x,row[k]? = some x→w0.cell? ⟨b,off+k * 3,none⟩=some (.int .i64 x.many)∧w0.cell? ⟨b,off+k * 3+1,none⟩=some (.int .i64 x.pos)∧w0.cell? ⟨b,off+k * 3+2,none⟩=some (.string x.word)
def SxArg(w0:World)(p:Option Addr)(row:List Sx):Prop:=row≠[]→∃ b off,p=some ⟨b,off,none⟩∧b < w0.heap.size∧lUA w0 b off row
theorem yQA(all:List Sx):∀ k t,all[k]? = some t→(wD all)[k * 3]? = some (.int .i64 t.many)∧(wD all)[k * 3+1]? = some (.int .i64 t.pos)∧(wD all)[k * 3+2]? = some (.string t.word):=by
 induction all with
 | nil=>intro k t h;simp at h
 | cons x l ih =>
   intro k t h
   cases k with
   | zero=>cases h;exact⟨rfl,rfl,rfl⟩
   | succ k =>
     have:=ih k t h;rw[show(k+1) * 3=k * 3+1+1+1 by omega,show k * 3+1+1+1+1=(k * 3+1)+1+1+1 by omega,show k * 3+1+1+1+2=(k * 3+2)+1+1+1 by omega];exact this
theorem eBB{w:World}{base:Nat}{e:TypeId}{l:Value}{row:List Sx}(h:w.ownsRow base e 3 l row.length (wD row)):∃ p cap,l = .slice p row.length cap∧SxArg w p row:=by
 rcases h.2 with⟨rfl,h0⟩ | ⟨g,cap,cur,rfl,hb,hg,rest⟩
 · refine⟨none,0,by rw[h0],fun hne=>?_⟩;exact absurd (List.length_eq_zero_iff.1 h0) hne
 · refine⟨_,cap,rfl,fun _=>⟨g,0,rfl,(Array.getElem?_eq_some_iff.1 hg).1,fun k t ht=>?_⟩⟩;obtain⟨h1,h2,h3⟩:=yQA row k t ht;rw[Nat.zero_add];exact⟨lC h rfl h1,lC h rfl h2,lC h rfl h3⟩
theorem SxArg.under{a b:World}{p:Option Addr}{l:List Sx}(h:SxArg a p l)(hU:Under a b):SxArg b p l:=by
 intro hne;obtain⟨bl,off,rfl,hb,ht⟩:=h hne;refine⟨bl,off,rfl,Nat.lt_of_lt_of_le hb hU.size,fun k t hk=>?_⟩;rw[jA hU hb,jA hU hb,jA hU hb];exact ht k t hk
theorem g6A(w:World)(base:Nat)(e:TypeId)(size:Nat)(hb:base≤w.heap.size):(w.alloc (.cells #[] e)).ownsRow base e size (.slice (some ⟨w.heap.size,0,none⟩) 0 0) 0 [] :=
 ⟨by simp,.inr ⟨w.heap.size,0,#[],rfl,hb,yA w _ _,Nat.le_refl _,by decide,by simp,by simp⟩⟩
end Go.Lx
namespace Go.Lx
inductive ST where
 | word (p:Int) (s:ByteArray)
 | list (p:Int) (l:List ST)
mutual
def jB : ST → List Sx
  | .word p s=>[⟨0,p,s⟩]
  | .list p l=>iA l++[⟨(l.length:Int),p,⟨#[]⟩⟩]
def iA : List ST → List Sx
  | []=>[]
  | a::l=>jB a++iA l
end
mutual
def okS : ST → Prop
  | .word _ s=>s.size≠0
  | .list _ l=>p9 l
def p9 : List ST → Prop
  | []=>True
  | a::l=>okS a∧p9 l
end
def ST.last : ST → Sx
  | .word p s=>⟨0,p,s⟩
  | .list p l=>⟨(l.length:Int),p,⟨#[]⟩⟩
theorem sI(a b:List ST):iA (a++b)=iA a++iA b:=by
 induction a with
 | nil=>rfl
 | cons x l ih=>simp[iA,ih]
theorem p4A{l:List ST}:p9 l↔∀ a∈l,okS a:=by
 induction l with
 | nil=>simp[p9]
 | cons x l ih=>simp[p9,ih]
theorem gK(a:ST):∃ i,jB a=i++[a.last]:=by
 cases a with
 | word p s=>exact⟨[],by simp[jB,ST.last]⟩
 | list p l=>exact⟨iA l,by simp[jB,ST.last]⟩
theorem aP(a:ST):0 < (jB a).length:=by
 obtain⟨i,h⟩:=gK a;rw[h];simp
def yD : Nat → List ST → List Nat
  | _,[]=>[]
  | i,a::l=>i::yD (i+(jB a).length) l
theorem eQ(i:Nat)(l:List ST):(yD i l).length=l.length:=by
 induction l generalizing i with
 | nil=>rfl
 | cons x l ih=>simp[yD,ih]
theorem mU(i:Nat)(a b:List ST):yD i (a++b)=yD i a++yD (i+(iA a).length) b:=by
 induction a generalizing i with
 | nil=>simp[yD,iA]
 | cons x l ih=>simp[yD,ih,iA,Nat.add_assoc]
theorem gCA(T:ST):okS T→∀(Fs:List ST),kC (jB T) (iA Fs).length (yD 0 Fs)=some (yD 0 (Fs++[T])):=by
 induction T using ST.rec (motive_2:=fun l=>p9 l→∀(Fs:List ST),kC (iA l) (iA Fs).length (yD 0 Fs)=some (yD 0 (Fs++l))) with
 | word p s =>
   rintro h Fs;rw[jB];unfold kC;rw[if_pos ⟨Int.le_refl _,fun _=>rfl,Int.natCast_nonneg _⟩];unfold kC uN;simp[mU,yD]
 | list p l ih =>
   rintro h Fs;rw[jB,yS,ih h Fs];simp only[Option.bind_some];unfold kC;rw[if_pos ⟨Int.natCast_nonneg _,fun h=>absurd rfl h,by rw[eQ,List.length_append];show(l.length:Int)≤_;omega⟩];unfold kC uN;have e2:(yD 0 Fs).length=Fs.length:=eQ _ _;rw[eQ,mU,List.length_append];simp only[Int.toNat_natCast];rw[show Fs.length+l.length - l.length=Fs.length by omega,List.take_left' e2,List.drop_left' e2,mU]
   cases l with
   | nil=>simp[yD,iA]
   | cons a l=>simp[yD]
 | nil=>rename_i h Fs;simp[iA,kC]
 | cons a l iha ihl =>
   rename_i h Fs;rw[iA,yS,iha h.1 Fs];simp only[Option.bind_some];have e:(iA Fs).length+(jB a).length=(iA (Fs++[a])).length:=by rw[sI];simp[iA]
   rw[e,ihl h.2];simp
theorem nX : ∀ (l : List ST), p9 l → ∀ Fs : List ST, kC (iA l) (iA Fs).length (yD 0 Fs) = some (yD 0 (Fs ++ l))
  | [],_,Fs=>by simp[iA,kC]
  | a :: l, h, Fs => by
    rw[iA,yS,gCA a h.1 Fs];simp only[Option.bind_some];have e:(iA Fs).length+(jB a).length=(iA (Fs++[a])).length:=by rw[sI];simp[iA]
    rw[e,nX l h.2];simp
theorem rZ : ∀ (ts : List ST) (pre : List Sx), (List.range ts.length).map (fun i => piece (pre ++ iA ts) ((yD pre.length ts ++ [(pre ++ iA ts).length]).getD i 0) ((yD pre.length ts ++ [(pre ++ iA ts).length]).getD (i + 1) 0)) = ts.map jB
  | [],pre=>rfl
  | a :: l, pre => by
    have ih:=rZ l (pre++jB a);rw[List.length_cons,List.range_succ_eq_map,List.map_cons,List.map_map,List.map_cons];have e:pre++iA (a::l)=pre++jB a++iA l:=by simp[iA]
    rw[e];congr 1
    · have h1 : (yD pre.length (a :: l) ++ [(pre ++ jB a ++ iA l).length]).getD 0 0 = pre.length := by simp [yD]
      have h2:(yD pre.length (a::l)++[(pre++jB a++iA l).length]).getD (0+1) 0=pre.length+(jB a).length:=by
       cases l with
       | nil=>simp[yD,iA]
       | cons b l=>simp[yD]
      rw[h1,h2];unfold piece;rw[List.append_assoc,List.drop_left,show pre.length+(jB a).length - pre.length=(jB a).length by omega,List.take_left]
    · rw [← ih]; refine List.map_congr_left fun i hi => ?_
      simp only[Function.comp];simp only[yD,List.cons_append,List.getD_eq_getElem?_getD,List.getElem?_cons_succ,List.length_append]
theorem gV{ts:List ST}(h:p9 ts):vM (iA ts)=some (ts.map jB):=by
 have hb:=nX ts h [];simp only[iA,yD,List.length_nil,List.nil_append]at hb;unfold vM;rw[hb];have:=rZ ts [];simp only[List.nil_append,List.length_nil]at this;rw[Option.map_some];unfold pieces;rw[eQ,this]
theorem lHA{p:Int}{l:List ST}(h:p9 l):cO (jB (.list p l))=some (l.map jB):=by
 have hb:=gCA (.list p l) h [];simp only[iA,yD,List.length_nil,List.nil_append]at hb;rw[jB,iO];rw[jB]at hb;rw[hb]
 show(if(⟨#[]⟩:ByteArray).size=0 then vM (iA l) else none)=_
 rw[if_pos (show(⟨#[]⟩:ByteArray).size=0 from rfl),gV h]
theorem yO{l:List ST}{a:ST}(h:a∈l):(jB a).length≤(iA l).length:=by
 induction l with
 | nil=>cases h
 | cons b l ih =>
   rw[iA,List.length_append];rcases List.mem_cons.1 h with rfl | h
   · omega
   · have:=ih h;omega
theorem bQ(l:List ST):l.length≤(iA l).length:=by
 induction l with
 | nil=>simp
 | cons a l ih=>rw[iA,List.length_append,List.length_cons];have:=aP a;omega
end Go.Lx
namespace Go.Lx
open Go.RowKit
def Zip{α β:Type}(R:α→β→Prop)(vs:List α)(ls:List β):Prop:=vs.length=ls.length∧∀(i:Nat) v x,vs[i]? = some v→ls[i]? = some x→R v x
theorem Zip.nil{α β:Type}(R:α→β→Prop):Zip R [] []:=⟨rfl,fun i v x h=>by simp at h⟩
theorem Zip.app{α β:Type}{R:α→β→Prop}{vs us:List α}{ls ks:List β}(h:Zip R vs ls)(k:Zip R us ks):Zip R (vs++us) (ls++ks):=by
 refine⟨by rw[List.length_append,List.length_append,h.1,k.1],fun i v x hv hx=>?_⟩;by_cases hi:i < vs.length
 · rw[List.getElem?_append_left hi]at hv;rw[List.getElem?_append_left (by rw[← h.1];exact hi)]at hx;exact h.2 i v x hv hx
 · rw[List.getElem?_append_right (by omega)]at hv;rw[List.getElem?_append_right (by rw[← h.1];omega),← h.1]at hx;exact k.2 _ v x hv hx
theorem Zip.one{α β:Type}{R:α→β→Prop}{v:α}{x:β}(h:R v x):Zip R [v] [x]:=⟨rfl,fun i u y hu hy=>by
  match i,hu,hy with
  | 0,hu,hy=>cases hu;cases hy;exact h⟩
theorem Zip.mono{α β:Type}{R S:α→β→Prop}{vs:List α}{ls:List β}(h:Zip R vs ls)(hRS:∀ v x,R v x→S v x):Zip S vs ls:=⟨h.1,fun i v x hv hx=>hRS v x (h.2 i v x hv hx)⟩
theorem Zip.at{α β:Type}{R:α→β→Prop}{vs:List α}{ls:List β}(h:Zip R vs ls){i:Nat}{x:β}(hx:ls[i]? = some x):∃ v,vs[i]? = some v∧R v x:=by
 have hi:i < vs.length:=by rw[h.1];exact(List.getElem?_eq_some_iff.1 hx).1
 exact⟨vs[i],List.getElem?_eq_getElem hi,h.2 i _ x (List.getElem?_eq_getElem hi) hx⟩
def ListV{α:Type}(R:World→Value→α→Prop)(w:World)(v:Value)(ls:List α):Prop:=∃ p c vs,v = .slice p ls.length c∧ls.length≤c∧(p=none→c=0)∧RowArg w p vs∧Zip (R w) vs ls
def TermV(w:World)(v:Value)(t:List Nd):Prop:=∃ p c,v = .slice p t.length c∧t.length≤c∧(p=none→c=0)∧RowArg w p (zB t)
def bYA{α:Type}(R:World→Value→α→Prop):Prop:=∀ w w' v x,Under w w'→R w v x→R w' v x
theorem TermV.mono:bYA TermV:=fun w w' v t hU ⟨p,c,h1,h2,h0,h3⟩=>⟨p,c,h1,h2,h0,h3.under hU⟩
theorem ListV.mono{α:Type}{R:World→Value→α→Prop}(hR:bYA R):bYA (ListV R):=fun w w' v ls hU ⟨p,c,vs,h1,h2,h0,h3,h4⟩=>⟨p,c,vs,h1,h2,h0,h3.under hU,h4.mono fun v x h=>hR w w' v x hU h⟩
theorem TermV.one{w:World}{v:Value}{t:List Nd}(h:TermV w v t):v.oneCell'=true:=by obtain⟨p,c,rfl,_⟩:=h;rfl
theorem ListV.one{α:Type}{R:World→Value→α→Prop}{w:World}{v:Value}{ls:List α}(h:ListV R w v ls):v.oneCell'=true:=by obtain⟨p,c,vs,rfl,_⟩:=h;rfl
abbrev TermsV:=ListV TermV
abbrev ConsV:=ListV TermsV
theorem ListV.of_own{α:Type}{R:World→Value→α→Prop}{w:World}{base:Nat}{e:TypeId}{v:Value}{ls:List α}{vs:List Value}(h:w.ownsRow base e 1 v ls.length vs)(hz:Zip (R w) vs ls):ListV R w v ls:=by
 have hc:∀ q n c,v = .slice q n c→q=none→c=0:=by
  intro q n c e hq;subst hq;rcases h.2 with⟨rfl,_⟩ | ⟨g,cap,cur,e',_⟩
  · cases e;rfl
  · rw[e']at e;cases e
 obtain⟨q,c,rfl,h1,h2⟩:=RowArg.of_own h;exact⟨q,c,vs,rfl,h1,hc q _ c rfl,h2,hz⟩
section
variable {P : Program}
theorem bV (w : World) (base : Nat) (t u ty e : TypeId) (i : TypeInfo) (z : Value) (ht : P.underlying t = some (.slice e)) (hu : P.underlying u = some (.int .i64)) (hi : P.info? e = some i) (hz : i.zero = some z) (hs : i.size = 1) (hzs : z.cells = #[z])
    (n:Nat) (h1:1≤n) (h8:n * i.bytes≤140737488355328) (hmx:n≤1000000) (hbase:base≤w.heap.size) :
    ∃ g c w',(Builtin.append_ #[t,u] ty #[.slice none 0 0,.int .i64 (n:Int)]).run P w = .ok (.slice (some ⟨g,0,none⟩) n c) w'∧w'.ownsRow base e 1 (.slice (some ⟨g,0,none⟩) n c) n (List.replicate n z)∧w.grownBy w' none:=by
  have hw:IntKind.i64.wrap (n:Int)=n:=by rw[IntKind.wrap_i64];omega
  have hn:¬ n=0:=by omega
  have h63':¬(9223372036854775807 < (n:Int)):=by omega
  have h48':¬(281474976710656 < Builtin.nextslicecap n 0 * i.bytes):=by rw[nextslicecap_zero (by omega)];omega
  have hneg:¬((n:Int) < 0):=by omega
  have hbig:¬((281474976710656:Int) < (n:Int) * i.bytes):=by
   have:((n * i.bytes:Nat):Int)=(n:Int) * i.bytes:=by simp
   omega
  refine⟨w.heap.size,grownCap w n 0 e,w.drew.alloc (.cells (Builtin.zeroCells z.cells n++Builtin.zeroCells z.cells (grownCap w n 0 e - n)) e),?_,?_,?_⟩
  · simp[Builtin.append_,run_underlying ht,run_underlying hu,sizeOf,typeInfo,zeroValue,hi,hz,hs,Builtin.lenOf,Builtin.firstCells,hn,h63',h48',Question.forced,newRow,grownCap,asInt,asIntOf,hw,hneg,hbig]
  · have hge := grownCap_ge w n 0 e; have hcm : grownCap w n 0 e ≤ maxLen := grownCap_le_maxLen w n 0 e (by simp only [maxLen]; omega); refine ⟨by simp, .inr ⟨w.heap.size, _, _, rfl, hbase, yA w.drew _ _, hge, hcm, ?_, ?_⟩⟩
    · simp only[Array.size_append,size_zeroCells,hzs];simp;omega
    · have hzc : (Builtin.zeroCells z.cells n).toList = List.replicate n z := by
        rw[hzs];apply List.ext_getElem
        · simp[Builtin.zeroCells]
        · intro j h1 h2;simp[Builtin.zeroCells,Nat.mod_one]
      simp only[Array.toList_append,hzc,Nat.mul_one];rw[List.take_left' (by simp)]
  · exact ⟨rfl, rfl, rfl, by simp, fun k hk _ => by
      show(w.heap.push _)[k]? = _
      rw[Array.getElem?_push_lt hk,← Array.getElem?_eq_getElem]⟩
theorem aS {w : World} {ops : Array Oper} {rest : List Oper} {o : Oper} {a : Act} {Q : Exit → Act → World → Prop} (hgd : o.guard = none) (s x : Operand) (base : Nat) (t u e : TypeId)
    (ho:o.op = .call { callee:=.builtin .append,args:=#[s,x],argTypes:=#[t,u] }) (i:TypeInfo) (z:Value) (ht:P.underlying t=some (.slice e)) (hu:P.underlying u=some (.int .i64)) (hi:P.info? e=some i) (hz:i.zero=some z) (hs:i.size=1) (hzs:z.cells=#[z])
    (n:Nat) (es:a.eval s = .slice none 0 0) (ex:a.eval x = .int .i64 (n:Int)) (h1:1≤n) (h8:n * i.bytes≤140737488355328) (hmx:n≤1000000) (hbase:base≤w.heap.size)
    (h:∀ g c w',w'.ownsRow base e 1 (.slice (some ⟨g,0,none⟩) n c) n (List.replicate n z)→w.grownBy w' none→wpList P ops Q rest (a.put o.dst (.slice (some ⟨g,0,none⟩) n c)) w') :
    wpList P ops Q (o::rest) a w:=by
  refine wpList_plain hgd fun K hK'=>?_
  obtain⟨g,c,w',hrun,r1,r2⟩:=bV (P:=P) w base t u o.type e i z ht hu hi hz hs hzs n h1 h8 hmx hbase;unfold Oper.wp;simp[execOp,ho,resolve,invoke,builtin,es,ex,hrun,Result.andThen];exact hK' _ _ (h g c w' r1 r2)
end
def TextsV(w:World)(v:Value)(ss:List ByteArray):Prop:=∃ p c,v = .slice p ss.length c∧ss.length≤c∧(p=none→c=0)∧RowArg w p (ss.map .string)
theorem TextsV.under{w w':World}{v:Value}{ss:List ByteArray}(h:TextsV w v ss)(hU:Under w w'):TextsV w' v ss:=by
 obtain⟨p,c,rfl,h1,h2,h3⟩:=h;exact⟨p,c,rfl,h1,h2,h3.under hU⟩
theorem TextsV.of_own{w:World}{base:Nat}{e:TypeId}{v:Value}{ss:List ByteArray}(h:w.ownsRow base e 1 v ss.length (ss.map .string)):TextsV w v ss:=by
 have hc:∀ q n c,v = .slice q n c→q=none→c=0:=by
  intro q n c e hq;subst hq;rcases h.2 with⟨rfl,_⟩ | ⟨g,cap,cur,e',_⟩
  · cases e;rfl
  · rw[e']at e;cases e
 obtain⟨q,c,rfl,h1,h2⟩:=RowArg.of_own h;exact⟨q,c,rfl,h1,hc q _ c rfl,h2⟩
theorem TextsV.nil(w:World):TextsV w (.slice none 0 0) []:=⟨none,0,rfl,Nat.le_refl _,fun _=>rfl,RowArg.nil⟩
theorem fMA{w:World}{p:Option Addr}{ss:List ByteArray}(h:RowArg w p (ss.map .string)){k:Nat}(hk:k < ss.length):∃ b off,p=some ⟨b,off,none⟩∧b < w.heap.size∧w.cell? ⟨b,off+k,none⟩=some (.string ss[k]):=by
 obtain⟨b,off,e,hb,hc⟩:=h (fun e=>by rw[List.map_eq_nil_iff]at e;rw[e]at hk;simp at hk);exact⟨b,off,e,hb,hc k _ (by simp[List.getElem?_eq_getElem hk])⟩
end Go.Lx
