/- Part 13 of what the proof rests on. -/
import Derived.Maps.AppendAt
import Derived.Laws.AppendOwnNone
import Derived.Test.YtlnlpdephijcoaaGreatDoorM00
import Derived.Test.YtlnlpdephijcoaaGreatDoorM11
import Derived.Test.YtlnlpdephijcoaaGreatDoorM12
set_option linter.unusedSimpArgs false
set_option linter.unusedVariables false
namespace Go.Lx
open Go.RowKit
section
variable {P : Program}
theorem oBA (w : World) (base : Nat) (t u ty e : TypeId) (i : TypeInfo) (ht : P.underlying t = some (.slice e)) (hu : P.underlying u = some (.int .i64)) (hi : P.info? e = some i) (hz : i.zero = some (.int .i64 0)) (hs : i.size = 1) (hby : i.bytes = 8)
    (b:Addr) (y:Value) (hb:w.cell? b=some y) (n:Nat) (h1:1≤n) (h8:n≤8) (hbase:base≤w.heap.size) :
    ∃ v w',(Builtin.append_ #[t,u] ty #[.slice (some b) 1 1,.int .i64 (n:Int)]).run P w = .ok v w'∧w'.ownsRow base e 1 v (1+n) (y::List.replicate n (.int .i64 0))∧w.grownBy w' none:=by
  have hw:IntKind.i64.wrap (n:Int)=n:=by rw[IntKind.wrap_i64];omega
  have hn:¬(1+n≤1):=by omega
  have h63':¬(9223372036854775807 < ((1:Int)+(n:Int))):=by omega
  have h48':¬(281474976710656 < Builtin.nextslicecap (1+n) 1 * 8):=by
   unfold Builtin.nextslicecap
   split
   · omega
   · simp
  have hneg:¬((n:Int) < 0):=by omega
  have hbig:¬((281474976710656:Int) < (n:Int) * 8):=by omega
  have hn0:¬ n=0:=by omega
  have hfo := run_firstCells_some (P := P) w.drew 1 1 b 1 1 [y] rfl (by
    intro j v hj
    match j,hj with
    | 0,hj=>cases hj;simpa [Addr.add] using hb)
  refine⟨.slice (some ⟨w.heap.size,0,none⟩) (1+n) (grownCap w (1+n) 1 e),w.drew.alloc (.cells (#[y]++Builtin.zeroCells #[.int .i64 0] n++Builtin.zeroCells #[.int .i64 0] (grownCap w (1+n) 1 e - (1+n))) e),?_,?_,?_⟩
  · simp[Builtin.append_,run_underlying ht,run_underlying hu,sizeOf,typeInfo,zeroValue,hi,hz,hs,hby,Builtin.lenOf,hn,hn0,h63',h48',Question.forced,hfo,newRow,grownCap,asInt,asIntOf,hw,hneg,hbig];rfl
  · have hge := grownCap_ge w (1 + n) 1 e; have hcm : grownCap w (1 + n) 1 e ≤ maxLen := grownCap_le_maxLen w (1 + n) 1 e (by simp only [maxLen]; omega); refine ⟨by simp; omega, .inr ⟨w.heap.size, _, _, rfl, hbase, yA w.drew _ _, hge, hcm, ?_, ?_⟩⟩
    · simp only[Array.size_append,List.size_toArray,size_zeroCells];simp;omega
    · have hzc : (Builtin.zeroCells #[Value.int .i64 0] n).toList = List.replicate n (Value.int .i64 0) := by
        apply List.ext_getElem
        · simp[Builtin.zeroCells]
        · intro j h1 h2;simp[Builtin.zeroCells,Nat.mod_one]
      simp only[Array.toList_append,hzc,Nat.mul_one];rw[List.take_left' (by simp;omega)];rfl
  · exact ⟨rfl, rfl, rfl, by simp, fun k hk _ => by
      show(w.heap.push _)[k]? = _
      rw[Array.getElem?_push_lt hk,← Array.getElem?_eq_getElem]⟩
theorem sW {w : World} {ops : Array Oper} {rest : List Oper} {o : Oper} {a : Act} {Q : Exit → Act → World → Prop} (hgd : o.guard = none) (s x : Operand) (base : Nat) (t u e : TypeId)
    (ho:o.op = .call { callee:=.builtin .append,args:=#[s,x],argTypes:=#[t,u] }) (i:TypeInfo) (ht:P.underlying t=some (.slice e)) (hu:P.underlying u=some (.int .i64)) (hi:P.info? e=some i) (hz:i.zero=some (.int .i64 0)) (hs:i.size=1) (hby:i.bytes=8)
    (b:Addr) (y:Value) (n:Nat) (es:a.eval s = .slice (some b) 1 1) (ex:a.eval x = .int .i64 (n:Int)) (hb:w.cell? b=some y) (h1:1≤n) (h8:n≤8) (hbase:base≤w.heap.size)
    (h:∀ v w',w'.ownsRow base e 1 v (1+n) (y::List.replicate n (.int .i64 0))→w.grownBy w' none→wpList P ops Q rest (a.put o.dst v) w') :
    wpList P ops Q (o::rest) a w:=by
  refine wpList_plain hgd fun K hK'=>?_
  obtain⟨v,w',hrun,r1,r2⟩:=oBA (P:=P) w base t u o.type e i ht hu hi hz hs hby b y hb n h1 h8 hbase;unfold Oper.wp;simp[execOp,ho,resolve,invoke,builtin,es,ex,hrun,Result.andThen];exact hK' _ _ (h v w' r1 r2)
end
section
variable {P : Program}
theorem yGA(m:Nat):(Builtin.zeroCells #[Value.int .i64 0] m).toList=List.replicate m (Value.int .i64 0):=by
 apply List.ext_getElem
 · simp[Builtin.zeroCells]
 · intro j h1 h2;simp[Builtin.zeroCells,Nat.mod_one]
theorem rU (w : World) (base : Nat) (t u ty e : TypeId) (i : TypeInfo) (ht : P.underlying t = some (.slice e)) (hu : P.underlying u = some (.int .i64)) (hi : P.info? e = some i) (hz : i.zero = some (.int .i64 0)) (hs : i.size = 1) (hby : i.bytes = 8)
    (v:Value) (n:Nat) (xs:List Value) (hown:w.ownsRow base e 1 v n xs) (hn0:0 < n) (m:Nat) (h1:1≤m) (h8:n+m≤100) (hbase:base≤w.heap.size) :
    ∃ v' w',(Builtin.append_ #[t,u] ty #[v,.int .i64 (m:Int)]).run P w = .ok v' w'∧w'.ownsRow base e 1 v' (n+m) (xs++List.replicate m (.int .i64 0))∧w.grownBy w' v.ownBlock:=by
  have hw:IntKind.i64.wrap (m:Int)=m:=by rw[IntKind.wrap_i64];omega
  have hneg:¬((m:Int) < 0):=by omega
  have hbig:¬((281474976710656:Int) < (m:Int) * 8):=by omega
  have hm0:¬ m=0:=by omega
  have h63':¬(9223372036854775807 < ((n:Int)+(m:Int))):=by omega
  have hlen:(xs++List.replicate m (Value.int .i64 0)).length=(n+m) * 1:=by rw[List.length_append,hown.1,List.length_replicate];omega
  rcases hown.2 with⟨rfl,rfl⟩ | ⟨g,cap,cur,rfl,hbg,hg,hnc,hcm,hcs,htake⟩
  · omega
  · by_cases hroom : n + m ≤ cap
    · have hfit : n + (List.replicate m (Value.int .i64 0)).length ≤ cur.size := by rw [hcs, List.length_replicate]; omega
      have hzl:(Builtin.zeroCells (Value.int .i64 0).cells m).toList=List.replicate m (Value.int .i64 0):=yGA m;have hst:=run_storeCells_at P g n e (List.replicate m (Value.int .i64 0)) 0 cur w hg (by simpa using hfit) (fun u hu=>by rw[List.eq_of_mem_replicate hu];rfl);simp only[Nat.add_zero]at hst;refine⟨.slice (some ⟨g,0,none⟩) (n+m) cap,_,?_,⟨hlen,.inr ⟨g,cap,_,rfl,hbg,setRow_heap w g cur (cur.toList.take n++List.replicate m (Value.int .i64 0)++cur.toList.drop (n+(List.replicate m (Value.int .i64 0)).length)).toArray e _ hg,hroom,hcm,?_,?_⟩⟩,⟨rfl,rfl,rfl,by simp,fun k _ hk=>setRow_other w g k _ (fun e=>hk (by simp[Value.ownBlock,e]))⟩⟩
      · simp[Builtin.append_,run_underlying ht,run_underlying hu,sizeOf,typeInfo,zeroValue,hi,hz,hs,hby,Builtin.lenOf,hroom,asInt,asIntOf,hw,hneg,hbig,hm0,hzl,Addr.add_lit,hst,Result.andThen]
      · simp only[List.size_toArray,List.length_append,List.length_take,List.length_drop,Array.length_toList];omega
      · have ht' : cur.toList.take n = xs := by simpa using htake
        simp only;rw[ht',← hlen];exact List.take_left
    · have holds : ∀ j u, xs[j]? = some u → w.drew.cell? ((⟨g, 0, none⟩ : Addr).add j) = some u := hown.cells (g := g) rfl; have hfo := run_firstCells_some (P := P) w.drew 1 n ⟨g, 0, none⟩ n cap xs (by have := hown.1; omega) holds; have h48' : ¬ (281474976710656 < Builtin.nextslicecap (n + m) cap * 8) := by
       unfold Builtin.nextslicecap
       split
       · omega
       · split
         · omega
         · omega
      refine⟨.slice (some ⟨w.heap.size,0,none⟩) (n+m) (grownCap w (n+m) cap e),w.drew.alloc (.cells (xs.toArray++Builtin.zeroCells #[.int .i64 0] m++Builtin.zeroCells #[.int .i64 0] (grownCap w (n+m) cap e - (n+m))) e),?_,?_,?_⟩
      · simp[Builtin.append_,run_underlying ht,run_underlying hu,sizeOf,typeInfo,zeroValue,hi,hz,hs,hby,Builtin.lenOf,hroom,hm0,h63',h48',Question.forced,hfo,newRow,grownCap,asInt,asIntOf,hw,hneg,hbig];rfl
      · have hge := grownCap_ge w (n + m) cap e; have hcm : grownCap w (n + m) cap e ≤ maxLen := grownCap_le_maxLen w (n + m) cap e (by simp only [maxLen]; omega); refine ⟨hlen, .inr ⟨w.heap.size, _, _, rfl, hbase, yA w.drew _ _, hge, hcm, ?_, ?_⟩⟩
        · have:=hown.1;simp only[Array.size_append,List.size_toArray,size_zeroCells];simp;omega
        · simp only[Array.toList_append,yGA];rw[← hlen];exact List.take_left
      · exact ⟨rfl, rfl, rfl, by simp, fun k hk _ => by
          show(w.heap.push _)[k]? = _
          rw[Array.getElem?_push_lt hk,← Array.getElem?_eq_getElem]⟩
theorem pR {w : World} {ops : Array Oper} {rest : List Oper} {o : Oper} {a : Act} {Q : Exit → Act → World → Prop} (hgd : o.guard = none) (s x : Operand) (base : Nat) (t u e : TypeId)
    (ho:o.op = .call { callee:=.builtin .append,args:=#[s,x],argTypes:=#[t,u] }) (i:TypeInfo) (ht:P.underlying t=some (.slice e)) (hu:P.underlying u=some (.int .i64)) (hi:P.info? e=some i) (hz:i.zero=some (.int .i64 0)) (hs:i.size=1) (hby:i.bytes=8)
    (v:Value) (n:Nat) (xs:List Value) (m:Nat) (es:a.eval s=v) (ex:a.eval x = .int .i64 (m:Int)) (hown:w.ownsRow base e 1 v n xs) (hn0:0 < n) (h1:1≤m) (h8:n+m≤100) (hbase:base≤w.heap.size)
    (h:∀ v' w',w'.ownsRow base e 1 v' (n+m) (xs++List.replicate m (.int .i64 0))→w.grownBy w' v.ownBlock→wpList P ops Q rest (a.put o.dst v') w') :
    wpList P ops Q (o::rest) a w:=by
  refine wpList_plain hgd fun K hK'=>?_
  obtain⟨v',w',hrun,r1,r2⟩:=rU (P:=P) w base t u o.type e i ht hu hi hz hs hby v n xs hown hn0 m h1 h8 hbase;unfold Oper.wp;simp[execOp,ho,resolve,invoke,builtin,es,ex,hrun,Result.andThen];exact hK' _ _ (h v' w' r1 r2)
end
end Go.Lx
namespace Go.Lx
inductive Tm where
 | mk (x:Nd) (args:List Tm)
def Tm.root : Tm → Nd
  | .mk x _=>x
def Tm.args : Tm → List Tm
  | .mk _ l=>l
mutual
def flat : Tm → List Nd
  | .mk x l=>qA l++[x]
def qA : List Tm → List Nd
  | []=>[]
  | a::l=>flat a++qA l
end
mutual
def okT : Tm → Prop
  | .mk x l=>nA x=true∧l.length=(binds x).length∧jM l
def jM : List Tm → Prop
  | []=>True
  | a::l=>okT a∧jM l
end
mutual
def rC : Tm → Nat
  | .mk x l=>lI 1 l
def lI : Nat → List Tm → Nat
  | d,[]=>d
  | d,a::l=>lI (max d (rC a+1)) l
end
theorem jF(a b:List Tm):qA (a++b)=qA a++qA b:=by
 induction a with
 | nil=>rfl
 | cons x l ih=>simp[qA,ih]
theorem zGA{a b:List Tm}:jM (a++b)↔jM a∧jM b:=by
 induction a with
 | nil=>simp[jM]
 | cons x l ih=>simp[jM,ih,and_assoc]
theorem wR{l:List Tm}:jM l↔∀ a∈l,okT a:=by
 induction l with
 | nil=>simp[jM]
 | cons x l ih=>simp[jM,ih]
theorem qKA(T:Tm):flat T≠[]:=by cases T;simp[flat]
theorem bL(T:Tm):0 < (flat T).length:=List.length_pos_iff.2 (qKA T)
theorem lXA(T:Tm):(flat T).getLast (qKA T)=T.root:=by cases T;simp[flat,Tm.root]
def uE : Nat → List Tm → List (Nat × Nat)
  | _,[]=>[]
  | i,a::l=>(i,rC a)::uE (i+(flat a).length) l
theorem sO(i:Nat)(l:List Tm):(uE i l).length=l.length:=by
 induction l generalizing i with
 | nil=>rfl
 | cons x l ih=>simp[uE,ih]
theorem hAA(i:Nat)(a b:List Tm):uE i (a++b)=uE i a++uE (i+(qA a).length) b:=by
 induction a generalizing i with
 | nil=>simp[uE,qA]
 | cons x l ih=>simp[uE,ih,qA,Nat.add_assoc]
theorem wDA(i k:Nat)(l:List Tm):(uE i l).take k=uE i (l.take k):=by
 induction l generalizing i k with
 | nil=>simp[uE]
 | cons x l ih => cases k with
   | zero=>simp[uE]
   | succ k=>simp[uE,ih]
theorem tGA(i k:Nat)(l:List Tm)(hk:k≤l.length):(uE i l).drop k=uE (i+(qA (l.take k)).length) (l.drop k):=by
 have h:=hAA i (l.take k) (l.drop k);rw[List.take_append_drop]at h;rw[h,List.drop_append_of_le_length (by rw[sO,List.length_take];omega)];have:(uE i (l.take k)).length=k:=by rw[sO,List.length_take];omega
 rw[List.drop_of_length_le (by omega)];rfl
theorem jZA(i d:Nat)(l:List Tm):(uE i l).foldl (fun d (x:Nat×Nat)=>max d (x.2+1)) d=lI d l:=by
 induction l generalizing i d with
 | nil=>rfl
 | cons x l ih=>simp only[uE,List.foldl_cons,lI];exact ih _ _
theorem rVA(x:Nd)(i:Nat)(l:List Tm):meas (i+(qA l).length) (uE i l)=(i,rC (.mk x l)):=by
 unfold meas;rw[jZA]
 cases l with
 | nil=>simp[uE,qA,rC]
 | cons a l=>simp[uE,rC]
theorem sQ:∀(t:List Nd) (all:List (Nat×Nat)) (Fs:List Tm) {r:List (Nat×Nat)×List (Nat×Nat)},jM Fs→qC t (qA Fs).length all (uE 0 Fs)=some r →
 ∃ Gs,jM Gs∧qA Gs=qA Fs++t∧r.2=uE 0 Gs
 | [],all,Fs,r,hF,h=>by cases h;exact⟨Fs,hF,by simp,rfl⟩
 | x :: t, all, Fs, r, hF, h => by
   unfold qC at h
   split at h
   · cases h
   · rename_i hc; rw [sO] at hc h; have hx : nA x = true := by
      cases hr:nA x
      · exact absurd (.inl hr) hc
      · rfl
     have hl:(binds x).length≤Fs.length:=by
      apply Nat.le_of_not_lt;exact fun h=>hc (.inr h)
     have hk:Fs.length - (binds x).length≤Fs.length:=by omega
     generalize hkk:Fs.length - (binds x).length=k at *;have hsplit:qA Fs=qA (Fs.take k)++qA (Fs.drop k):=by rw[← jF,List.take_append_drop]
     have hm:meas (qA Fs).length ((uE 0 Fs).drop k)=((qA (Fs.take k)).length,rC (.mk x (Fs.drop k))):=by
      rw[tGA 0 k Fs hk,hsplit,List.length_append,Nat.zero_add];exact rVA x _ _
     simp only at h;rw[hm,wDA]at h;have hnew:uE 0 (Fs.take k++[.mk x (Fs.drop k)])=uE 0 (Fs.take k)++[((qA (Fs.take k)).length,rC (.mk x (Fs.drop k)))]:=by rw[hAA,Nat.zero_add];rfl
     have hfl:qA (Fs.take k++[.mk x (Fs.drop k)])=qA Fs++[x]:=by rw[jF,hsplit];simp[qA,flat]
     rw[← hnew]at h;have hlen:(qA Fs).length+1=(qA (Fs.take k++[.mk x (Fs.drop k)])).length:=by rw[hfl];simp
     rw[hlen]at h;have hok:jM (Fs.take k++[.mk x (Fs.drop k)]):=by
      have h0:=hF;rw[← List.take_append_drop k Fs]at h0;obtain⟨h1,h2⟩:=zGA.1 h0;exact zGA.2 ⟨h1,⟨hx,by rw[List.length_drop];omega,h2⟩,trivial⟩
     obtain⟨Gs,g1,g2,g3⟩:=sQ t _ _ hok h;exact⟨Gs,g1,by rw[g2,hfl];simp,g3⟩
theorem nN:∀(T:Tm),okT T→∀(all:List (Nat×Nat)) (Fs:List Tm),∃ all',qC (flat T) (qA Fs).length all (uE 0 Fs)=some (all++all',uE 0 (Fs++[T]))∧all'.length=(flat T).length∧all'.getLast? = some ((qA Fs).length,rC T):=by
 intro T
 induction T using Tm.rec (motive_2:=fun l=>jM l→∀(all:List (Nat×Nat)) (Fs:List Tm),∃ all',qC (qA l) (qA Fs).length all (uE 0 Fs)=some (all++all',uE 0 (Fs++l))∧all'.length=(qA l).length) with
 | mk x l ih =>
   rintro⟨hx,hl,hls⟩ all Fs;obtain⟨a1,h1,h2⟩:=ih hls all Fs;refine⟨a1++[((qA Fs).length,rC (.mk x l))],?_,by simp[flat,h2],by simp⟩;rw[flat,yL,h1];simp only[Option.bind_some];unfold qC;rw[sO,List.length_append,if_neg (by rw[hx];simp;omega)];have hk:Fs.length+l.length - (binds x).length=Fs.length:=by omega
   simp only[hk];have hd:(uE 0 (Fs++l)).drop Fs.length=uE (qA Fs).length l:=by
    rw[tGA 0 _ _ (by simp),List.drop_left,List.take_left,Nat.zero_add]
   have ht:(uE 0 (Fs++l)).take Fs.length=uE 0 Fs:=by rw[wDA,List.take_left]
   rw[hd,ht,rVA];unfold qC;rw[hAA 0 Fs [.mk x l],Nat.zero_add,List.append_assoc];rfl
 | nil=>rename_i hh all Fs;exact⟨[],by simp[qA,qC],rfl⟩
 | cons a l iha ihl =>
   rename_i hh all Fs;obtain⟨ha,hl⟩:=hh;obtain⟨a1,h1,h2,_⟩:=iha ha all Fs;obtain⟨a2,h3,h4⟩:=ihl hl (all++a1) (Fs++[a]);refine⟨a1++a2,?_,by simp[qA,h2,h4]⟩;rw[qA,yL,h1];simp only[Option.bind_some];have:(qA Fs).length+(flat a).length=(qA (Fs++[a])).length:=by rw[jF];simp[qA]
   rw[this,h3,List.append_assoc,List.append_assoc];rfl
theorem iX{t:List Nd}(h:vB t=0):∃ T,flat T=t∧okT T∧rC T≤60∧t.length≤4000:=by
 unfold vB at h
 split at h
 · cases h
 · rename_i hlen
   split at h
   · cases h
   · rename_i all op hm
     split at h
     · cases h
     · rename_i h1
       split at h
       · cases h
       · rename_i h2; obtain ⟨Gs, g1, g2, g3⟩ := sQ t [] [] (by simp [jM]) hm; simp only [ne_eq, Decidable.not_not] at h1; simp only at g3; rw [g3, sO] at h1
         match Gs,h1 with
         | [T], _ =>
           simp only[qA,List.nil_append,List.append_nil]at g2;refine⟨T,g2,g1.1,?_,by omega⟩;obtain⟨a',q1,q2,q3⟩:=nN T g1.1 [] [];rw[g2]at q1;rw[show qC t (qA []).length [] (uE 0 [])=qC t 0 [] [] from rfl,hm]at q1;simp only[Option.some.injEq,Prod.mk.injEq]at q1;rw[q1.1,List.nil_append]at h2;have:a'.getLastD (0,0)=((qA []).length,rC T):=by rw[List.getLastD_eq_getLast?,q3];rfl
           rw[this]at h2;omega
theorem gH{T:Tm}(h:okT T)(hd:rC T≤60)(hl:(flat T).length≤4000):vB (flat T)=0:=by
 obtain⟨a',q1,q2,q3⟩:=nN T h [] [];unfold vB;rw[if_neg (by omega)];have q1':qC (flat T) 0 [] []=some (a',uE 0 [T]):=by simpa [qA,uE] using q1
 rw[q1'];have:a'.getLastD (0,0)=((qA []).length,rC T):=by rw[List.getLastD_eq_getLast?,q3];rfl
 simp only[this];rw[if_neg (by simp[uE]),if_neg (by omega)]
def dE (av : List ByteArray) : List ByteArray → Nat → List ByteArray
  | _,0=>[]
  | st,n+1=>bC (oD (av++st) st.length)::dE av (st++[bC (oD (av++st) st.length)]) n
def qN(b:ByteArray):List UInt8:=32::b.data.toList
def kI : List ByteArray → List UInt8
  | []=>[]
  | x::l=>qN x++kI l
theorem hGA(a b:List ByteArray):kI (a++b)=kI a++kI b:=by
 induction a with
 | nil=>rfl
 | cons x a ih=>simp[kI,ih]
def jE(x:Nd):Bool:=x.k==3||x.k==6||x.k==4
def sH(x:Nd):Bool:=x.k==10||x.k==11||x.k==14||x.k==16||x.k==17||x.k==29
def hKA(x:Nd):List UInt8:=[40]++(uD x).data.toList++(if x.s.toList==[] then [] else qN x.s)++(if x.k=26 then 32::Lib.decDigits x.n.toNat else [])
mutual
def aG (av : List ByteArray) : Tm → List ByteArray → List UInt8
  | .mk x l, st =>
    if x.k=0 then(st.getD (st.length - 1 - x.n.toNat) ⟨#[]⟩).data.toList
    else if x.k=1 then x.s.data.toList
    else if sH x then(uD x).data.toList
    else if x.k=2 then(if x.n=0 then [80,114,111,112] else [40,84,121,112,101,32]++Lib.decDigits x.n.toNat++[41])
    else hKA x++(if jE x then qN (bC (oD (av++st) st.length)) else [])++mX av l (binds x) st (jE x)++[41]
def mX (av : List ByteArray) : List Tm → List Nat → List ByteArray → Bool → List UInt8
  | [],_,_,_=>[]
  | a::l,bs,st,f=>(if f then [] else kI (dE av st (bs.headD 0)))++32::aG av a (st++dE av st (bs.headD 0))++mX av l bs.tail st f
end
mutual
def inT : Tm → Nat → Prop
  | .mk x l,d=>if x.k=0 then x.n < (d:Int) else oFA l (binds x) d
def oFA : List Tm → List Nat → Nat → Prop
  | [],_,_=>True
  | a::l,bs,d=>inT a (d+bs.headD 0)∧oFA l bs.tail d
end
theorem b7A{l:List Tm}{bs:List Nat}{d:Nat}:∀ {j:Nat} (hj:j < l.length) (hb:j < bs.length),oFA l bs d→inT l[j] (d+bs[j]):=by
 induction l generalizing bs with
 | nil=>intro j hj;simp at hj
 | cons a l ih =>
   intro j hj hb h
   cases bs with
   | nil=>simp at hb
   | cons b bs =>
     cases j with
     | zero=>exact h.1
     | succ j=>exact ih (by simpa using hj) (by simpa using hb) h.2
theorem pM (av : List ByteArray) : ∀ (n : Nat) (st : List ByteArray), (dE av st n).length = n
  | 0,_=>rfl
  | n+1,st=>by simp[dE,pM av n]
theorem dW(n:Nat)(h:n≤9223372036854775807):(Lib.decDigits n).length≤21:=by
 have h:=Lib.itoa_length_le (n:Int) (by omega) (by omega);unfold Lib.itoa at h
 rwa [if_neg (by omega),show((n:Int)).toNat=n by omega]at h
theorem lAA{n:Nat}(h:n≤9223372036854775807):(bC n).size≤22:=by
 have:=dW n h;unfold bC ByteArray.size;simp;omega
theorem lCA (av : List ByteArray) : ∀ (n : Nat) (st : List ByteArray), av.length ≤ 1000000 → st.length + n ≤ 1000000 → ∀ s ∈ dE av st n, s.size ≤ 22
  | 0,st,_,_,s,hs=>by simp[dE]at hs
  | n + 1, st, ha, hl, s, hs => by
    rw[dE]at hs;rcases List.mem_cons.1 hs with rfl | hs
    · have:=(qI (av++st) st.length).2.1;rw[List.length_append]at this;exact lAA (by omega)
    · exact lCA av n _ ha (by simp;omega) s hs
theorem gGA : ∀ (l : List ByteArray), (∀ s ∈ l, s.size ≤ 22) → (kI l).length ≤ 23 * l.length
  | [],_=>Nat.le_refl _
  | x :: l, h => by
    have h1:=gGA l fun s hs=>h s (List.mem_cons_of_mem _ hs)
    have h2:=h x (List.mem_cons_self ..);have:x.data.toList.length=x.size:=rfl;simp[kI,qN];have:x.data.size=x.size:=rfl;omega
theorem kU{x:Nd}(h:nA x=true):0≤x.n∧x.n≤99:=by
 unfold nA at h
 split at h
 · cases h
 · split at h
   · cases h
   · rename_i h1
     split at h
     · cases h
     · split at h
       · cases h
       · split at h
         · cases h
         · split at h
           · simp at h;omega
           · split at h
             · simp at h;omega
             · split at h
               · rename_i h27;simp[h27,fN]at h1;omega
               · cases hf : fN x.k.toNat
                 · simp[hf]at h1;omega
                 · have h5 : yT x.k ≤ 99 := by unfold yT; split <;> (try split) <;> omega
                   rw[hf]at h;simp at h;omega
theorem rV{x:Nd}(h:nA x=true):x.s.size≤16:=by
 unfold nA at h
 split at h
 · cases h
 · split at h
   · cases h
   · split at h
     · cases h
     · split at h
       · cases h
       · rename_i h3
         split at h
         · cases h
         · rename_i h4
           cases hf:fS x.k.toNat
           · simp[hf]at h3;simp[h3]
           · simp[hf,qD]at h4;omega
theorem yJA(k:Nat):(kJ k).size≤6:=by
 unfold kJ
 split<;>decide
theorem mFA{x:Nd}(h:nA x=true):(uD x).size≤27:=by
 have h1:=yJA x.k.toNat;have h2:=kU h;unfold uD
 split
 · have := dW x.n.toNat (by omega); have e : (kJ x.k.toNat).data.size = (kJ x.k.toNat).size := rfl
   show((kJ x.k.toNat).data++(Lib.decDigits x.n.toNat).toArray).size≤27
   simp;omega
 · omega
theorem kYA{x:Nd}(h:nA x=true):(hKA x).length≤68:=by
 have h1:=mFA h;have h2:=rV h;have h3:=dW x.n.toNat (by have:=kU h;omega);have e1:(uD x).data.size=(uD x).size:=rfl;have e2:x.s.data.size=x.s.size:=rfl;unfold hKA
 split<;>split<;>simp[qN]<;>omega
theorem wEA(av:List ByteArray)(ha:av.length≤1000000)(T:Tm):okT T→∀ st:List ByteArray,(∀ s∈st,s.size≤22)→st.length+2 * (flat T).length≤1000000→(aG av T st).length+70≤162 * (flat T).length:=by
 induction T using Tm.rec (motive_2:=fun l=>jM l→∀(bs:List Nat) (st:List ByteArray) (f:Bool),(∀ b∈bs,b≤2)→(∀ s∈st,s.size≤22)→st.length+2+2 * (qA l).length≤1000000→(mX av l bs st f).length≤162 * (qA l).length) with
 | mk x l ih =>
   rintro⟨hx,_,hls⟩ st hst hl;have hfl:(flat (.mk x l)).length=(qA l).length+1:=by simp[flat]
   rw[hfl]at hl ⊢;unfold aG
   split
   · cases hg : st[st.length - 1 - x.n.toNat]? with
     | none=>simp[hg];omega
     | some y =>
       have:=hst y (List.mem_of_getElem? hg);have e:y.data.size=y.size:=rfl;simp[hg];omega
   split
   · have:=rV hx;have e:x.s.data.size=x.s.size:=rfl;simp;omega
   split
   · have:=mFA hx;have e:(uD x).data.size=(uD x).size:=rfl;simp;omega
   split
   · split
     · simp;omega
     · have:=dW x.n.toNat (by have:=kU hx;omega);simp;omega
   · have h1 := kYA hx; have h2 := ih hls (binds x) st (jE x) (fun b hb => by have := nK (x := x); unfold oF at this; rw [if_pos hx] at this; exact this b hb) hst (by omega); have h3 : (bC (oD (av ++ st) st.length)).size ≤ 22 := by
      have:=(qI (av++st) st.length).2.1;rw[List.length_append]at this;exact lAA (by omega)
     have e:(bC (oD (av++st) st.length)).data.size=(bC (oD (av++st) st.length)).size:=rfl;have h4:(if jE x then qN (bC (oD (av++st) st.length)) else []).length≤23:=by
      split
      · simp[qN];omega
      · simp
     simp only[List.length_append,List.length_cons,List.length_nil];omega
 | nil=>rename_i hh bs st f hb hs hl;simp[mX]
 | cons a l iha ihl =>
   rename_i hh bs st f hb hs hl;obtain⟨hoa,hol⟩:=hh;rw[qA,List.length_append]at hl;have hb2:bs.headD 0≤2:=by
    cases bs with
    | nil=>simp
    | cons b bs=>exact hb b (List.mem_cons_self ..)
   have hpos := bL a; have hsz := lCA av (bs.headD 0) st ha (by omega); have h1 := iha hoa (st ++ dE av st (bs.headD 0)) (fun s h => by
     rcases List.mem_append.1 h with h | h
     · exact hs s h
     · exact hsz s h) (by rw[List.length_append,pM];omega)
   have h2:=ihl hol bs.tail st f (fun b h=>hb b (List.mem_of_mem_tail h)) hs (by omega);have h3:(if f then [] else kI (dE av st (bs.headD 0))).length≤46:=by
    split
    · simp
    · have:=gGA _ hsz;rw[pM]at this;omega
   rw[qA,List.length_append];simp only[mX,List.length_append,List.length_cons];omega
end Go.Lx
namespace Go.Lx
open Go.RowKit
section
variable {P : Program} {w : World} {ops : Array Oper} {rest : List Oper} {o : Oper} {a : Act} {Q : Exit → Act → World → Prop}
theorem wJ (hgd : o.guard = none) (s x : Operand) (t : TypeId)
    (ho:o.op = .call { callee:=.builtin .append,args:=#[s,x],argTypes:=#[t,t] })
    (base:Nat) (e:TypeId) (i:TypeInfo) (z:Value) (size bytes:Nat) (ht:P.underlying t=some (.slice e)) (hi:P.info? e=some i) (hz:i.zero=some z)
    (hsize:i.size=size) (hby:i.bytes=bytes) (hzs:z.cells.size=size) (hsz:0 < size)
    (v:Value) (n:Nat) (xs:List Value) (hs:a.eval s=v) (hown:w.ownsRow base e size v n xs)
    (p:Option Addr) (m c:Nat) (news:List Value) (hx:a.eval x = .slice p m c) (hl:news.length=m * size) (hc:m≤c) (h0:p=none→c=0) (hp:RowArg w p news) (h1:∀ u∈news,u.oneCell'=true)
    (h63:n+m≤maxLen) (hbytes:(n+m) * bytes≤140737488355328) (hbase:base≤w.heap.size)
    (h:∀ v' w',w'.ownsRow base e size v' (n+m) (xs++news)→w.grownBy w' v.ownBlock→wpList P ops Q rest (a.put o.dst v') w') :
    wpList P ops Q (o::rest) a w:=by
  cases p with
  | none =>
    have hc0:=h0 rfl;have hm0:m=0:=by omega
    subst hc0 hm0;have hn:news=[]:=List.eq_nil_of_length_eq_zero (by omega);subst hn;exact wpList_append_own_none hgd s x t ho base e i size ht hi v n xs hs hown hx (h v w (by simpa using hown) ⟨rfl,rfl,rfl,Nat.le_refl _,fun _ _ _=>rfl⟩)
  | some ad =>
    refine wpList_append_own_at _ hgd s x t ho base e i z size bytes ht hi hz hsize hby hzs hsz v n xs hs hown ad m c news hx hl ?_ h1 h63 hbytes hbase (fun v' w' h1 h2 _ _=>h v' w' h1 h2);intro j u hj;obtain⟨b,off,e,hb,ht⟩:=hp (fun e=>by rw[e]at hj;cases hj)
    cases e;rw[eO];exact ht j u hj
end
variable {F : Fence} {n : Nat} {P : Program}
abbrev pOA(R:Nat→Prop)(W W':World):Prop:=Kept R none W W'
def cAB{α:Type}(F:Fence)(n:Nat)(P:Program)(gf:Nat)(lb:Array Value)(encs:α→Array Value)(R:Nat→Prop)(xs:List α)(w:World):Prop :=
 ∀(l:Nat) (J:List α→World→Prop) (Jx:List α→World→Prop) (W:World),Under w W →
  (∀ pre A A',J pre A→Under A A'→J pre A') →
  (∀ pre x A, J pre A → pre ++ [x] <+: xs → YieldAt F (n - 1) P l (encs x) A fun e A' =>
    (e = .returned (.bool true)∧J (pre++[x]) A'∧pOA R A A')∨(e = .returned (.bool false)∧Jx (pre++[x]) A')) →
  J [] W →
  CallsIn F n P gf (#[.func (.yield l) #[] #[]]++lb) W fun e W'=>(∃ v,e = .returned v)∧(J xs W'∨∃ pre,Jx pre W')
def uZA {α : Type} (B : Nat) (R : Nat → Prop) (I : List α → World → Prop) (Ix : Code → List α → World → Prop) (xs : List α) (W : World) : Exit → Act → World → Prop
  | .normal,_,W'=>KeepsFrom B W W'∧pOA R W W'∧I xs W'
  | .ret,_,W'=>KeepsFrom B W W'∧Ix .ret xs W'
  | .exit id,_,W'=>KeepsFrom B W W'∧Ix (.exit id) xs W'
  | .goto t,_,W'=>KeepsFrom B W W'∧Ix (.goto t) xs W'
  | .panic _,_,_=>False
  | .outgrown,_,_=>False
theorem kV {α : Type} {g : Operand} {ps : Array Tmp} {assign body : Code} {Q : Exit → Act → World → Prop} {a : Act} {w w0 : World}
    (hro:F.round=none) (h1:1≤n) {gf:Nat} {lb:Array Value} (hg:a.eval g = .func (.func gf) #[] lb) (hFg:F.fn gf) (eg:∀ args w,(callFunc gf args).run P w = .ok (.enter gf args) w)
    {encs:α→Array Value} {R:Nat→Prop} {xs:List α} (hit:cAB F (n - 1) P gf lb encs R xs w0) (hU:Under w0 w) (hps:∀ x,(encs x).size=ps.size) (hR:∀ k,R k→k < w.heap.size)
    (I:List α→World→Prop) (Ix:Code→List α→World→Prop)
    (hI:∀ pre A A',I pre A→Under A A'→w.heap.size≤A.heap.size→I pre A')
    (hIo:∀ pre A l o o',I pre A→w.heap.size≤l→A.heap[l]? = some o→o.isCells=false→I pre (A.putObj l o'))
    (hIx:∀ c pre A l o o',Ix c pre A→w.heap.size≤l→A.heap[l]? = some o→o.isCells=false→Ix c pre (A.putObj l o'))
    (h0:I [] w) (a₁:α→Act)
    (hassign : ∀ (l : Nat) (x : α) (W : World) (K : Act → World → Prop), K (a₁ x) W →
      assign.wpIn (F.inRound l) (n - 1 - 1) P (Exit.then K (fun _ _ _=>False)) { tmps:=(ps.zip (encs x)).foldl (fun t (p,v)=>t.setIfInBounds p v) a.tmps,defers:=[] } W)
    (hbody:∀(l:Nat) (pre:List α) (x:α) (W:World),w.heap.size≤W.heap.size→I pre W→pre++[x] <+: xs→body.wpIn (F.inRound l) (n - 1 - 1) P (uZA w.heap.size R I Ix (pre++[x]) W) (a₁ x) W)
    (hdone:∀(D:Nat) (W:World),w.heap.size≤D→I xs W→W.heap[D]? = some (.deferred (some []))→Q .normal { a with defers:={ target:=.collected D,args:=#[] }::a.defers } W)
    (hstop:∀(D:Nat) (c:Code) (pre:List α) (W:World),w.heap.size≤D→Ix c pre W→W.heap[D]? = some (.deferred (some []))→c.wpIn F n P Q { a with defers:={ target:=.collected D,args:=#[] }::a.defers } W) :
    (Code.rangeFunc g ps assign body).wpIn F n P Q a w:=by
  refine wpIn_rangeFunc fun fn hfn=>?_
  rw[hro];obtain⟨L,hL⟩:∃ L:LoopState→Option Code→Loop,L=fun st pe=>{ state:=st,pending:=pe,fn,tmps:=a.tmps,params:=ps,assign,body,defers:=w.heap.size }:=⟨_,rfl⟩
  obtain⟨W1,hW1⟩:∃ W1,W1=(w.alloc (.deferred (some []))).alloc (.loop (L .ready none)):=⟨_,rfl⟩;have hz1:W1.heap.size=w.heap.size+2:=by rw[hW1];simp
  have hU1:Under w W1:=by rw[hW1];exact aA (aA (Under.refl _) _) _
  have hl1:W1.heap[w.heap.size+1]? = some (.loop (L .ready none)):=by
   rw[hW1,uC];have:(w.alloc (.deferred (some []))).heap.size=w.heap.size+1:=by simp
   rw[← this,Array.getElem?_push_size]
  have hd1:W1.heap[w.heap.size]? = some (.deferred (some [])):=by
   rw[hW1,uC,Array.getElem?_push_lt (by simp),← Array.getElem?_eq_getElem]
   show(w.heap.push _)[w.heap.size]? = _
   rw[Array.getElem?_push_size]
  have hI1 : I [] W1 := hI _ _ _ h0 hU1 (Nat.le_refl _); refine ⟨w.heap.size + 1, [{ target := .collected w.heap.size, args := #[] }], W1, { target := .fn (.func gf) lb, args := #[.func (.yield (w.heap.size + 1)) #[] #[]] }, W1, gf,
    #[.func (.yield (w.heap.size + 1)) #[] #[]] ++ lb, W1, ?_, ?_, ?_, ?_, fun _ => h1, ?_⟩
  · rw[hW1,hL];exact run_enterLoop_outer _ _ _ _ _
  · simp only[resolve,hg];simp[go_sem]
  · intro f' hf';simp[Target.leads]at hf';subst hf';exact hFg
  · simp[invoke,go_sem,eg]
  · refine (hit (w.heap.size + 1)
      (fun pre W=>I pre W∧W.heap[w.heap.size+1]? = some (.loop (L .ready none))∧W.heap[w.heap.size]? = some (.deferred (some [])))
      (fun pre W=>∃ c,Ix c pre W∧W.heap[w.heap.size+1]? = some (.loop (L .done (some c)))∧W.heap[w.heap.size]? = some (.deferred (some [])))
      W1 (hU.trans hU1) ?_ ?_ ⟨hI1,hl1,hd1⟩).mono ?_
    · rintro pre A A' ⟨hi,hl,hd⟩ hs;have hlt:=(Array.getElem?_eq_some_iff.1 hl).1;exact⟨hI pre A A' hi hs (by omega),(hs.low _ hlt).trans hl,(hs.low _ (by omega)).trans hd⟩
    · rintro pre x W ⟨hi, hl, hd⟩ hpre; have hlt := (Array.getElem?_eq_some_iff.1 hl).1; have hy := run_yield (P := P) (args := encs x) hl (by rw [hL]; exact hps x); rw [hL] at hy; refine ⟨fn, _, assign, body, hy, roundIn_of_wpIn hfn (hassign _ x W _ ⟨_, run_beginRound hl (by rw [hL]), ?_⟩)⟩; have hl2 : (W.putObj (w.heap.size + 1) (.loop { L .ready none with state := .busy })).heap[w.heap.size + 1]? = some (.loop { L .ready none with state := .busy }) := World.putObj_heap_same hlt; have hd2 : (W.putObj (w.heap.size + 1) (.loop { L .ready none with state := .busy })).heap[w.heap.size]? = some (.deferred (some [])) := (World.putObj_heap_other (by omega)).trans hd; have hnR : ¬ R (w.heap.size + 1) := fun h => by have := hR _ h; omega
      have hnb:(none:Option Nat)≠some (w.heap.size+1):=fun e=>by cases e
      refine wpIn_mono (hbody _ pre x _ (by simp;omega) (hIo _ _ _ _ _ hi (by omega) hl rfl) hpre) ?_;have fin:∀(jump:Option Code) (W3:World),KeepsFrom w.heap.size (W.putObj (w.heap.size+1) (.loop { L .ready none with state:=.busy })) W3 →
       (Instr.endRound (w.heap.size+1) jump).run P W3 = .ok (.bool jump.isNone) (W3.putObj (w.heap.size+1) (.loop (L (if jump.isNone then .ready else .done) jump))) ∧
       W3.heap[w.heap.size+1]? = some (.loop { L .ready none with state:=.busy }) ∧
       (W3.putObj (w.heap.size+1) (.loop (L (if jump.isNone then .ready else .done) jump))).heap[w.heap.size+1]? = some (.loop (L (if jump.isNone then .ready else .done) jump)) ∧
       (W3.putObj (w.heap.size+1) (.loop (L (if jump.isNone then .ready else .done) jump))).heap[w.heap.size]? = some (.deferred (some [])):=fun jump W3 hk3=>by
       have hl3:=hk3.same _ _ (by omega) hl2 rfl;have:=run_endRound (P:=P) jump hl3;rw[hL]at this ⊢;exact⟨this,by rw[hL]at hl3;exact hl3,World.putObj_heap_same (Array.getElem?_eq_some_iff.1 hl3).1,(World.putObj_heap_other (by omega)).trans (hk3.same _ _ (by omega) hd2 rfl)⟩
      rintro e a3 W3 hp
      cases e with
      | normal =>
        obtain⟨hk3,hkp3,hi3⟩:=hp;obtain⟨hr,hl3,hl4,hk4⟩:=fin none W3 hk3;exact⟨_,_,hr,.inl ⟨rfl,⟨hIo _ _ _ _ _ hi3 (by omega) hl3 rfl,hl4,hk4⟩,((Kept.putObj _ hnR hnb).trans hkp3).trans (Kept.putObj _ hnR hnb)⟩⟩
      | ret =>
        obtain⟨hk3,hi3⟩:=hp;obtain⟨hr,hl3,hl4,hk4⟩:=fin (some .ret) W3 hk3;exact⟨_,_,hr,.inr ⟨rfl,.ret,hIx _ _ _ _ _ _ hi3 (by omega) hl3 rfl,hl4,hk4⟩⟩
      | exit id =>
        obtain⟨hk3,hi3⟩:=hp;obtain⟨hr,hl3,hl4,hk4⟩:=fin (some (.exit id)) W3 hk3;exact⟨_,_,hr,.inr ⟨rfl,.exit id,hIx _ _ _ _ _ _ hi3 (by omega) hl3 rfl,hl4,hk4⟩⟩
      | goto t =>
        obtain⟨hk3,hi3⟩:=hp;obtain⟨hr,hl3,hl4,hk4⟩:=fin (some (.goto t)) W3 hk3;exact⟨_,_,hr,.inr ⟨rfl,.goto t,hIx _ _ _ _ _ _ hi3 (by omega) hl3 rfl,hl4,hk4⟩⟩
      | panic ch=>exact hp.elim
      | outgrown=>exact hp.elim
    · rintro e W2 ⟨⟨v, rfl⟩, (⟨hi, hl, hk⟩ | ⟨pre, c, hi, hl, hk⟩)⟩
      · exact⟨none,_,by have:=run_endLoop (P:=P) hl (by rw[hL];simp);rw[hL]at this;exact this,hdone _ _ (Nat.le_refl _) (hIo _ _ _ _ _ hi (by omega) hl rfl) ((World.putObj_heap_other (by omega)).trans hk)⟩
      · exact⟨some c,_,by have:=run_endLoop (P:=P) hl (by rw[hL];simp);rw[hL]at this;exact this,hstop _ c pre _ (Nat.le_refl _) (hIx _ _ _ _ _ _ hi (by omega) hl rfl) ((World.putObj_heap_other (by omega)).trans hk)⟩
end Go.Lx
