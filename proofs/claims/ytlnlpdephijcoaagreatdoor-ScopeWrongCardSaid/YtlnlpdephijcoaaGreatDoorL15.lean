/- Part 15 of what the proof rests on. -/
import Derived.Maps.AppendAt
import Derived.Laws.ResultCell
import Derived.Laws.AppendOwnNone
import Derived.Test.YtlnlpdephijcoaaGreatDoorL00
import Derived.Test.YtlnlpdephijcoaaGreatDoorL13
import Derived.Test.YtlnlpdephijcoaaGreatDoorL14
set_option linter.unusedSimpArgs false
set_option linter.unusedVariables false
namespace Go.Lx
open Go.RowKit
section
variable {P : Program}
theorem zDA(m:Nat):(Builtin.zeroCells #[Value.int .i64 0] m).toList=List.replicate m (Value.int .i64 0):=by
 apply List.ext_getElem
 · simp[Builtin.zeroCells]
 · intro j h1 h2;simp[Builtin.zeroCells,Nat.mod_one]
theorem dU (w : World) (base : Nat) (t u ty e : TypeId) (i : TypeInfo) (ht : P.underlying t = some (.slice e)) (hu : P.underlying u = some (.int .i64)) (hi : P.info? e = some i) (hz : i.zero = some (.int .i64 0)) (hs : i.size = 1) (hby : i.bytes = 8)
    (v:Value) (n:Nat) (xs:List Value) (hown:w.ownsRow base e 1 v n xs) (hn0:0 < n) (m:Nat) (h1:1≤m) (h8:n+m≤100) (hbase:base≤w.heap.size) :
    ∃ v' w',(Builtin.append_ #[t,u] ty #[v,.int .i64 (m:Int)]).run P w = .ok v' w'∧w'.ownsRow base e 1 v' (n+m) (xs++List.replicate m (.int .i64 0))∧w.grownBy w' v.ownBlock:=by
  have hw:IntKind.i64.wrap (m:Int)=m:=by rw[IntKind.wrap_i64];omega
  have hneg:¬((m:Int) < 0):=by omega
  have hbig:¬((281474976710656:Int) < (m:Int) * 8):=by omega
  have hm0:¬ m=0:=by omega
  have h63':¬(9223372036854775807 < ((n:Int)+(m:Int))):=by omega
  have hlen:(xs++List.replicate m (Value.int .i64 0)).length=(n+m) * 1:=by rw[List.length_append,hown.1,List.length_replicate];omega
  rcases hown.2 with⟨rfl,rfl⟩ | ⟨g,cap,cur,rfl,hbg,hg,hnc,hcm,hcs,htake⟩
  · omega
  · by_cases hroom : n + m ≤ cap
    · have hfit : n + (List.replicate m (Value.int .i64 0)).length ≤ cur.size := by rw [hcs, List.length_replicate]; omega
      have hzl:(Builtin.zeroCells (Value.int .i64 0).cells m).toList=List.replicate m (Value.int .i64 0):=zDA m;have hst:=run_storeCells_at P g n e (List.replicate m (Value.int .i64 0)) 0 cur w hg (by simpa using hfit) (fun u hu=>by rw[List.eq_of_mem_replicate hu];rfl);simp only[Nat.add_zero]at hst;refine⟨.slice (some ⟨g,0,none⟩) (n+m) cap,_,?_,⟨hlen,.inr ⟨g,cap,_,rfl,hbg,setRow_heap w g cur (cur.toList.take n++List.replicate m (Value.int .i64 0)++cur.toList.drop (n+(List.replicate m (Value.int .i64 0)).length)).toArray e _ hg,hroom,hcm,?_,?_⟩⟩,⟨rfl,rfl,rfl,by simp,fun k _ hk=>setRow_other w g k _ (fun e=>hk (by simp[Value.ownBlock,e]))⟩⟩
      · simp[Builtin.append_,run_underlying ht,run_underlying hu,sizeOf,typeInfo,zeroValue,hi,hz,hs,hby,Builtin.lenOf,hroom,asInt,asIntOf,hw,hneg,hbig,hm0,hzl,Addr.add_lit,hst,Result.andThen]
      · simp only[List.size_toArray,List.length_append,List.length_take,List.length_drop,Array.length_toList];omega
      · have ht' : cur.toList.take n = xs := by simpa using htake
        simp only;rw[ht',← hlen];exact List.take_left
    · have holds : ∀ j u, xs[j]? = some u → w.drew.cell? ((⟨g, 0, none⟩ : Addr).add j) = some u := hown.cells (g := g) rfl; have hfo := run_firstCells_some (P := P) w.drew 1 n ⟨g, 0, none⟩ n cap xs (by have := hown.1; omega) holds; have h48' : ¬ (281474976710656 < Builtin.nextslicecap (n + m) cap * 8) := by
       unfold Builtin.nextslicecap
       split
       · omega
       · split
         · omega
         · omega
      refine⟨.slice (some ⟨w.heap.size,0,none⟩) (n+m) (grownCap w (n+m) cap e),w.drew.alloc (.cells (xs.toArray++Builtin.zeroCells #[.int .i64 0] m++Builtin.zeroCells #[.int .i64 0] (grownCap w (n+m) cap e - (n+m))) e),?_,?_,?_⟩
      · simp[Builtin.append_,run_underlying ht,run_underlying hu,sizeOf,typeInfo,zeroValue,hi,hz,hs,hby,Builtin.lenOf,hroom,hm0,h63',h48',Question.forced,hfo,newRow,grownCap,asInt,asIntOf,hw,hneg,hbig];rfl
      · have hge := grownCap_ge w (n + m) cap e; have hcm : grownCap w (n + m) cap e ≤ maxLen := grownCap_le_maxLen w (n + m) cap e (by simp only [maxLen]; omega); refine ⟨hlen, .inr ⟨w.heap.size, _, _, rfl, hbase, xA w.drew _ _, hge, hcm, ?_, ?_⟩⟩
        · have:=hown.1;simp only[Array.size_append,List.size_toArray,size_zeroCells];simp;omega
        · simp only[Array.toList_append,zDA];rw[← hlen];exact List.take_left
      · exact ⟨rfl, rfl, rfl, by simp, fun k hk _ => by
          show(w.heap.push _)[k]? = _
          rw[Array.getElem?_push_lt hk,← Array.getElem?_eq_getElem]⟩
theorem vQ {w : World} {ops : Array Oper} {rest : List Oper} {o : Oper} {a : Act} {Q : Exit → Act → World → Prop} (hgd : o.guard = none) (s x : Operand) (base : Nat) (t u e : TypeId)
    (ho:o.op = .call { callee:=.builtin .append,args:=#[s,x],argTypes:=#[t,u] }) (i:TypeInfo) (ht:P.underlying t=some (.slice e)) (hu:P.underlying u=some (.int .i64)) (hi:P.info? e=some i) (hz:i.zero=some (.int .i64 0)) (hs:i.size=1) (hby:i.bytes=8)
    (v:Value) (n:Nat) (xs:List Value) (m:Nat) (es:a.eval s=v) (ex:a.eval x = .int .i64 (m:Int)) (hown:w.ownsRow base e 1 v n xs) (hn0:0 < n) (h1:1≤m) (h8:n+m≤100) (hbase:base≤w.heap.size)
    (h:∀ v' w',w'.ownsRow base e 1 v' (n+m) (xs++List.replicate m (.int .i64 0))→w.grownBy w' v.ownBlock→wpList P ops Q rest (a.put o.dst v') w') :
    wpList P ops Q (o::rest) a w:=by
  refine wpList_plain hgd fun K hK'=>?_
  obtain⟨v',w',hrun,r1,r2⟩:=dU (P:=P) w base t u o.type e i ht hu hi hz hs hby v n xs hown hn0 m h1 h8 hbase;unfold Oper.wp;simp[execOp,ho,resolve,invoke,builtin,es,ex,hrun,Result.andThen];exact hK' _ _ (h v' w' r1 r2)
end
end Go.Lx
namespace Go.Lx
inductive Tm where
 | mk (x:Nd) (args:List Tm)
def Tm.root : Tm → Nd
  | .mk x _=>x
def Tm.args : Tm → List Tm
  | .mk _ l=>l
mutual
def flat : Tm → List Nd
  | .mk x l=>wD l++[x]
def wD : List Tm → List Nd
  | []=>[]
  | a::l=>flat a++wD l
end
mutual
def okT : Tm → Prop
  | .mk x l=>eB x=true∧l.length=(binds x).length∧j4 l
def j4 : List Tm → Prop
  | []=>True
  | a::l=>okT a∧j4 l
end
mutual
def gG : Tm → Nat
  | .mk x l=>dX 1 l
def dX : Nat → List Tm → Nat
  | d,[]=>d
  | d,a::l=>dX (max d (gG a+1)) l
end
theorem dAA(a b:List Tm):wD (a++b)=wD a++wD b:=by
 induction a with
 | nil=>rfl
 | cons x l ih=>simp[wD,ih]
theorem zJA{a b:List Tm}:j4 (a++b)↔j4 a∧j4 b:=by
 induction a with
 | nil=>simp[j4]
 | cons x l ih=>simp[j4,ih,and_assoc]
def pF : Nat → List Tm → List (Nat × Nat)
  | _,[]=>[]
  | i,a::l=>(i,gG a)::pF (i+(flat a).length) l
theorem dQ(i:Nat)(l:List Tm):(pF i l).length=l.length:=by
 induction l generalizing i with
 | nil=>rfl
 | cons x l ih=>simp[pF,ih]
theorem p9(i:Nat)(a b:List Tm):pF i (a++b)=pF i a++pF (i+(wD a).length) b:=by
 induction a generalizing i with
 | nil=>simp[pF,wD]
 | cons x l ih=>simp[pF,ih,wD,Nat.add_assoc]
theorem aEA(i k:Nat)(l:List Tm):(pF i l).take k=pF i (l.take k):=by
 induction l generalizing i k with
 | nil=>simp[pF]
 | cons x l ih => cases k with
   | zero=>simp[pF]
   | succ k=>simp[pF,ih]
theorem vEA(i k:Nat)(l:List Tm)(hk:k≤l.length):(pF i l).drop k=pF (i+(wD (l.take k)).length) (l.drop k):=by
 have h:=p9 i (l.take k) (l.drop k);rw[List.take_append_drop]at h;rw[h,List.drop_append_of_le_length (by rw[dQ,List.length_take];omega)];have:(pF i (l.take k)).length=k:=by rw[dQ,List.length_take];omega
 rw[List.drop_of_length_le (by omega)];rfl
theorem lTA(i d:Nat)(l:List Tm):(pF i l).foldl (fun d (x:Nat×Nat)=>max d (x.2+1)) d=dX d l:=by
 induction l generalizing i d with
 | nil=>rfl
 | cons x l ih=>simp only[pF,List.foldl_cons,dX];exact ih _ _
theorem gRA(x:Nd)(i:Nat)(l:List Tm):meas (i+(wD l).length) (pF i l)=(i,gG (.mk x l)):=by
 unfold meas;rw[lTA]
 cases l with
 | nil=>simp[pF,wD,gG]
 | cons a l=>simp[pF,gG]
theorem mV:∀(t:List Nd) (all:List (Nat×Nat)) (Fs:List Tm) {r:List (Nat×Nat)×List (Nat×Nat)},j4 Fs→nD t (wD Fs).length all (pF 0 Fs)=some r →
 ∃ Gs,j4 Gs∧wD Gs=wD Fs++t∧r.2=pF 0 Gs
 | [],all,Fs,r,hF,h=>by cases h;exact⟨Fs,hF,by simp,rfl⟩
 | x :: t, all, Fs, r, hF, h => by
   unfold nD at h
   split at h
   · cases h
   · rename_i hc; rw [dQ] at hc h; have hx : eB x = true := by
      cases hr:eB x
      · exact absurd (.inl hr) hc
      · rfl
     have hl:(binds x).length≤Fs.length:=by
      apply Nat.le_of_not_lt;exact fun h=>hc (.inr h)
     have hk:Fs.length - (binds x).length≤Fs.length:=by omega
     generalize hkk:Fs.length - (binds x).length=k at *;have hsplit:wD Fs=wD (Fs.take k)++wD (Fs.drop k):=by rw[← dAA,List.take_append_drop]
     have hm:meas (wD Fs).length ((pF 0 Fs).drop k)=((wD (Fs.take k)).length,gG (.mk x (Fs.drop k))):=by
      rw[vEA 0 k Fs hk,hsplit,List.length_append,Nat.zero_add];exact gRA x _ _
     simp only at h;rw[hm,aEA]at h;have hnew:pF 0 (Fs.take k++[.mk x (Fs.drop k)])=pF 0 (Fs.take k)++[((wD (Fs.take k)).length,gG (.mk x (Fs.drop k)))]:=by rw[p9,Nat.zero_add];rfl
     have hfl:wD (Fs.take k++[.mk x (Fs.drop k)])=wD Fs++[x]:=by rw[dAA,hsplit];simp[wD,flat]
     rw[← hnew]at h;have hlen:(wD Fs).length+1=(wD (Fs.take k++[.mk x (Fs.drop k)])).length:=by rw[hfl];simp
     rw[hlen]at h;have hok:j4 (Fs.take k++[.mk x (Fs.drop k)]):=by
      have h0:=hF;rw[← List.take_append_drop k Fs]at h0;obtain⟨h1,h2⟩:=zJA.1 h0;exact zJA.2 ⟨h1,⟨hx,by rw[List.length_drop];omega,h2⟩,trivial⟩
     obtain⟨Gs,g1,g2,g3⟩:=mV t _ _ hok h;exact⟨Gs,g1,by rw[g2,hfl];simp,g3⟩
theorem yLA:∀(T:Tm),okT T→∀(all:List (Nat×Nat)) (Fs:List Tm),∃ all',nD (flat T) (wD Fs).length all (pF 0 Fs)=some (all++all',pF 0 (Fs++[T]))∧all'.length=(flat T).length∧all'.getLast? = some ((wD Fs).length,gG T):=by
 intro T
 induction T using Tm.rec (motive_2:=fun l=>j4 l→∀(all:List (Nat×Nat)) (Fs:List Tm),∃ all',nD (wD l) (wD Fs).length all (pF 0 Fs)=some (all++all',pF 0 (Fs++l))∧all'.length=(wD l).length) with
 | mk x l ih =>
   rintro⟨hx,hl,hls⟩ all Fs;obtain⟨a1,h1,h2⟩:=ih hls all Fs;refine⟨a1++[((wD Fs).length,gG (.mk x l))],?_,by simp[flat,h2],by simp⟩;rw[flat,aW,h1];simp only[Option.bind_some];unfold nD;rw[dQ,List.length_append,if_neg (by rw[hx];simp;omega)];have hk:Fs.length+l.length - (binds x).length=Fs.length:=by omega
   simp only[hk];have hd:(pF 0 (Fs++l)).drop Fs.length=pF (wD Fs).length l:=by
    rw[vEA 0 _ _ (by simp),List.drop_left,List.take_left,Nat.zero_add]
   have ht:(pF 0 (Fs++l)).take Fs.length=pF 0 Fs:=by rw[aEA,List.take_left]
   rw[hd,ht,gRA];unfold nD;rw[p9 0 Fs [.mk x l],Nat.zero_add,List.append_assoc];rfl
 | nil=>rename_i hh all Fs;exact⟨[],by simp[wD,nD],rfl⟩
 | cons a l iha ihl =>
   rename_i hh all Fs;obtain⟨ha,hl⟩:=hh;obtain⟨a1,h1,h2,_⟩:=iha ha all Fs;obtain⟨a2,h3,h4⟩:=ihl hl (all++a1) (Fs++[a]);refine⟨a1++a2,?_,by simp[wD,h2,h4]⟩;rw[wD,aW,h1];simp only[Option.bind_some];have:(wD Fs).length+(flat a).length=(wD (Fs++[a])).length:=by rw[dAA];simp[wD]
   rw[this,h3,List.append_assoc,List.append_assoc];rfl
def l6(c:UInt8):Bool:=decide (48≤c.toNat)&&decide (c.toNat≤57)
def mJA(l:List UInt8):Nat:=l.foldl (fun n c=>n * 10+(c.toNat - 48)) 0
theorem kHA(l:List UInt8)(c:UInt8):mJA (l++[c])=mJA l * 10+(c.toNat - 48):=by simp[mJA]
def uP(s:ByteArray):Int:=match vW s with | some n=>(n:Int) | none => -1
theorem ofNat_toNat(c:UInt8)(n:Nat)(h:c.toNat=n):UInt8.ofNat n=c:=by rw[← h];simp
theorem aAA{s:ByteArray}(h:∀ n,n < 100→s.data.toList≠jBA n):vW s=none:=by
 cases hn:vW s with
 | none=>rfl
 | some n =>
   obtain⟨h1,h2⟩:=wZ hn;rw[tBA h1]at h2;exact absurd h2 (h n h1)
theorem a1A(n:Nat):(jBA n).length=1∨(jBA n).length=2:=by
 unfold jBA;split
 · exact .inl rfl
 · exact .inr rfl
theorem zKA:(List.range 100).all (fun n=>(jBA n).all l6&&(decide ((jBA n).length=1) || !((jBA n).head? == some 48)))=true:=by decide +kernel
theorem hHA{s:ByteArray}(h:s.size < 1∨2 < s.size):uP s = -1:=by
 unfold uP; rw [aAA fun n hn e => by
   have:=congrArg List.length e;have hs:s.data.toList.length=s.size:=by rw[Array.length_toList];rfl
   rcases a1A n with h' | h'<;>omega]
theorem vY{s:ByteArray}{c:UInt8}(hc:c∈s.data.toList)(h:l6 c=false):uP s = -1:=by
 unfold uP; rw [aAA fun n hn e => by
   have:=List.all_eq_true.1 zKA n (List.mem_range.2 hn);simp only[Bool.and_eq_true]at this;rw[e]at hc;have:=List.all_eq_true.1 this.1 c hc;rw[h]at this;cases this]
theorem xVA{s:ByteArray}{d:UInt8}(h:s.data.toList=[48,d]):uP s = -1:=by
 unfold uP; rw [aAA fun n hn e => by
   have:=List.all_eq_true.1 zKA n (List.mem_range.2 hn);rw[← e,h]at this;simp at this]
theorem rYA{s:ByteArray}{c:UInt8}(h:s.data.toList=[c])(hd:l6 c=true):uP s=(mJA [c]:Int):=by
 unfold l6 at hd; simp only [Bool.and_eq_true, decide_eq_true_eq] at hd; have : vW s = some (c.toNat - 48) := kIA (by omega) (by
   rw[tBA (by omega),h];unfold jBA;rw[if_pos (by omega),ofNat_toNat c _ (by omega)])
 unfold uP;rw[this];simp[mJA]
theorem m0A{s:ByteArray}{c d:UInt8}(h:s.data.toList=[c,d])(h0:c≠48)(hc:l6 c=true)(hd:l6 d=true):uP s=(mJA [c,d]:Int):=by
 unfold l6 at hc hd;simp only[Bool.and_eq_true,decide_eq_true_eq]at hc hd;have h48:c.toNat≠48:=fun e=>h0 (UInt8.toNat_inj.1 e)
 have : vW s = some ((c.toNat - 48) * 10 + (d.toNat - 48)) := kIA (by omega) (by
   rw[tBA (by omega),h];unfold jBA;rw[if_neg (by omega),ofNat_toNat c _ (by omega),ofNat_toNat d _ (by omega)])
 unfold uP;rw[this];simp[mJA]
theorem dC{fn:Func}{u p:Tmp}{ty:TypeId}(h:fn.results=#[.tmp u,.cell p ty])(tmps:Array Value)(P:Program)(w:World) :
 (results fn tmps).run P w =
   ((asAddr (tmps.getD p undef)).run P w).andThen fun a w₁=>((loadVar ty a).run P w₁).andThen fun v w₂=>.ok (.tuple #[tmps.getD u undef,v]) w₂:=by
 simp only[results,h];simp[Sem.run_bind,Result.andThen]
end Go.Lx
namespace Go.Lx
open Go.RowKit
section
variable {P : Program} {w : World} {ops : Array Oper} {rest : List Oper} {o : Oper} {a : Act} {Q : Exit → Act → World → Prop}
theorem kF (hgd : o.guard = none) (s x : Operand) (t : TypeId)
    (ho:o.op = .call { callee:=.builtin .append,args:=#[s,x],argTypes:=#[t,t] })
    (base:Nat) (e:TypeId) (i:TypeInfo) (z:Value) (size bytes:Nat) (ht:P.underlying t=some (.slice e)) (hi:P.info? e=some i) (hz:i.zero=some z)
    (hsize:i.size=size) (hby:i.bytes=bytes) (hzs:z.cells.size=size) (hsz:0 < size)
    (v:Value) (n:Nat) (xs:List Value) (hs:a.eval s=v) (hown:w.ownsRow base e size v n xs)
    (p:Option Addr) (m c:Nat) (news:List Value) (hx:a.eval x = .slice p m c) (hl:news.length=m * size) (hc:m≤c) (h0:p=none→c=0) (hp:RowArg w p news) (h1:∀ u∈news,u.oneCell'=true)
    (h63:n+m≤maxLen) (hbytes:(n+m) * bytes≤140737488355328) (hbase:base≤w.heap.size)
    (h:∀ v' w',w'.ownsRow base e size v' (n+m) (xs++news)→w.grownBy w' v.ownBlock→wpList P ops Q rest (a.put o.dst v') w') :
    wpList P ops Q (o::rest) a w:=by
  cases p with
  | none =>
    have hc0:=h0 rfl;have hm0:m=0:=by omega
    subst hc0 hm0;have hn:news=[]:=List.eq_nil_of_length_eq_zero (by omega);subst hn;exact wpList_append_own_none hgd s x t ho base e i size ht hi v n xs hs hown hx (h v w (by simpa using hown) ⟨rfl,rfl,rfl,Nat.le_refl _,fun _ _ _=>rfl⟩)
  | some ad =>
    refine wpList_append_own_at _ hgd s x t ho base e i z size bytes ht hi hz hsize hby hzs hsz v n xs hs hown ad m c news hx hl ?_ h1 h63 hbytes hbase (fun v' w' h1 h2 _ _=>h v' w' h1 h2);intro j u hj;obtain⟨b,off,e,hb,ht⟩:=hp (fun e=>by rw[e]at hj;cases hj)
    cases e;rw[fP];exact ht j u hj
end
end Go.Lx
namespace Go.Lx
theorem nNA{cs:List ByteArray}{p:Int}{s:ByteArray}{st:List ByteArray}{c q:Int}(h:yF cs p s st = .error (c,q)):c≠0:=by
 unfold yF at h
 split at h
 · cases h
 · split at h
   · split at h
     · split at h
       · cases h;decide
       · cases h
     · split at h
       · cases h
       · cases h;decide
   · cases h;decide
theorem vS {cs ds : List ByteArray} : ∀ (ks : List PK) (ys : List ST) (x : Nd) (nms st : List ByteArray) (acc : List Nd) (c q : Int), (∀ y ∈ ys, ∀ st c q, aG cs ds y st = .error (c, q) → c ≠ 0) → goS cs ds ks ys x nms st acc = .error (c, q) → c ≠ 0
  | [], ys, x, nms, st, acc, c, q, _, h => by
    have:goS cs ds [] ys x nms st acc = .ok (acc++[x]):=by cases ys<;>simp[goS]
    rw[this]at h
    cases h
  | k :: ks, [], x, nms, st, acc, c, q, _, h => by
    have:goS cs ds (k::ks) [] x nms st acc = .ok (acc++[x]):=by cases k<;>simp[goS]
    rw[this]at h
    cases h
  | k :: ks, y :: ys, x, nms, st, acc, c, q, hy, h => by
    have hy':∀ z∈ys,∀ st c q,aG cs ds z st = .error (c,q)→c≠0:=fun z hz=>hy z (List.mem_cons_of_mem _ hz)
    cases k with
    | nm =>
      rw[goS]at h
      split at h
      · exact vS ks ys _ _ _ _ _ _ hy' h
      · cases h;decide
    | nu =>
      rw[goS]at h
      split at h
      · split at h
        · exact vS ks ys _ _ _ _ _ _ hy' h
        · cases h;decide
      · cases h;decide
    | da =>
      rw[goS]at h
      split at h
      · split at h
        · exact vS ks ys _ _ _ _ _ _ hy' h
        · cases h;decide
      · cases h;decide
    | te w =>
      rw[goS]at h
      split at h
      · exact vS ks ys _ _ _ _ _ _ hy' h
      · rename_i e he
        cases h;exact hy y List.mem_cons_self _ _ _ he
theorem vU{cs ds:List ByteArray}(T:ST):∀ st c q,aG cs ds T st = .error (c,q)→c≠0:=by
 induction T using ST.rec (motive_2:=fun l=>∀ a∈l,∀ st c q,aG cs ds a st = .error (c,q)→c≠0) with
 | word p s =>
   intro st c q h;rw[aG]at h;exact nNA h
 | list p l ih =>
   intro st c q h;rw[aG]at h
   cases l with
   | nil=>rw[uE]at h;cases h;decide
   | cons a l =>
     rw[uE]at h
     split at h
     · cases h;decide
     · split at h
       · exact vS _ _ _ _ _ _ _ _ (fun y hy=>ih y (List.mem_cons_of_mem _ hy)) h
       · cases h;decide
 | nil=>rename_i a ha st c q h;cases ha
 | cons a l iha ihl =>
   rename_i b hb st c q h;rcases List.mem_cons.1 hb with rfl | hb
   · exact iha st c q h
   · exact ihl b hb st c q h
end Go.Lx
