/- Part 14 of what the proof rests on. -/
import Derived.Laws.AppendOwnNone
import Derived.Deep.DeepAppendWide
import Derived.Laws.ResultCell
import Derived.Maps.AppendAt
import Derived.Lib.AtoiAllCases
import Derived.Lib.ItoaLen
import Derived.Test.YtggjbblgoddnjaaGreatDoorM00
import Derived.Test.YtggjbblgoddnjaaGreatDoorM01
import Derived.Test.YtggjbblgoddnjaaGreatDoorM12
import Derived.Test.YtggjbblgoddnjaaGreatDoorM13
set_option linter.unusedSimpArgs false
set_option linter.unusedVariables false
namespace Go.Lx
open Go.RowKit
theorem qOA(w:World){n:Nat}(u:Value)(t:TypeId)(h:w.heap.size=n):RowArg (w.alloc (.cells #[u] t)) (some ⟨n,0,none⟩) [u]:=h▸nJ w [u] t (0,0)
section
variable {P : Program} {w : World} {ops : Array Oper} {rest : List Oper} {o : Oper} {a : Act} {Q : Exit → Act → World → Prop}
theorem vC (hgd : o.guard = none) (s x : Operand) (t : TypeId)
    (ho:o.op = .call { callee:=.builtin .append,args:=#[s,x],argTypes:=#[t,t] })
    (base:Nat) (e:TypeId) (i:TypeInfo) (z:Value) (size bytes:Nat) (ht:P.underlying t=some (.slice e)) (hi:P.info? e=some i) (hz:i.zero=some z)
    (hsize:i.size=size) (hby:i.bytes=bytes) (hzs:z.cells.size=size) (hsz:0 < size)
    (v:Value) (n:Nat) (xs:List Value) (hs:a.eval s=v) (hown:w.ownsRow base e size v n xs)
    (p:Option Addr) (m c:Nat) (news:List Value) (hx:a.eval x = .slice p m c) (hl:news.length=m * size) (hc:m≤c) (h0:p=none→c=0) (hp:RowArg w p news) (h1:∀ u∈news,u.oneCell'=true)
    (h63:n+m≤maxLen) (hbytes:(n+m) * bytes≤140737488355328) (hbase:base≤w.heap.size)
    (h:∀ v' w',w'.ownsRow base e size v' (n+m) (xs++news)→w.grownBy w' v.ownBlock→wpList P ops Q rest (a.put o.dst v') w') :
    wpList P ops Q (o::rest) a w:=by
  cases p with
  | none =>
    have hc0:=h0 rfl;have hm0:m=0:=by omega
    subst hc0 hm0;have hn:news=[]:=List.eq_nil_of_length_eq_zero (by omega);subst hn;exact wpList_append_own_none hgd s x t ho base e i size ht hi v n xs hs hown hx (h v w (by simpa using hown) ⟨rfl,rfl,rfl,Nat.le_refl _,fun _ _ _=>rfl⟩)
  | some ad =>
    refine wpList_append_own_at _ hgd s x t ho base e i z size bytes ht hi hz hsize hby hzs hsz v n xs hs hown ad m c news hx hl ?_ h1 h63 hbytes hbase (fun v' w' h1 h2 _ _=>h v' w' h1 h2);intro j u hj;obtain⟨b,off,e,hb,ht⟩:=hp (fun e=>by rw[e]at hj;cases hj)
    cases e;rw[jJ];exact ht j u hj
end
section
variable {P : Program}
theorem uQ (w : World) (base : Nat) (t u ty e : TypeId) (i : TypeInfo) (z : Value) (ht : P.underlying t = some (.slice e)) (hu : P.underlying u = some (.int .i64)) (hi : P.info? e = some i) (hz : i.zero = some z) (hs : i.size = 1) (hzs : z.cells = #[z])
    (n:Nat) (h1:1≤n) (h8:n * i.bytes≤281474976710656) (hmx:n≤maxLen) (hbase:base≤w.heap.size) :
    ∃ g c w',(Builtin.append_ #[t,u] ty #[.slice none 0 0,.int .i64 (n:Int)]).run P w = .ok (.slice (some ⟨g,0,none⟩) n c) w'∧w'.ownsRow base e 1 (.slice (some ⟨g,0,none⟩) n c) n (List.replicate n z)∧w.grownBy w' none:=by
  have hmx':=hmx;simp only[maxLen]at hmx';have hw:IntKind.i64.wrap (n:Int)=n:=by rw[IntKind.wrap_i64];omega
  have hn:¬ n=0:=by omega
  have h63':¬(9223372036854775807 < (n:Int)):=by omega
  have h48':¬(281474976710656 < Builtin.nextslicecap n 0 * i.bytes):=by rw[nextslicecap_zero (by omega)];omega
  have hneg:¬((n:Int) < 0):=by omega
  have hbig:¬((281474976710656:Int) < (n:Int) * i.bytes):=by
   have:((n * i.bytes:Nat):Int)=(n:Int) * i.bytes:=by simp
   omega
  refine⟨w.heap.size,grownCap w n 0 e,w.drew.alloc (.cells (Builtin.zeroCells z.cells n++Builtin.zeroCells z.cells (grownCap w n 0 e - n)) e),?_,?_,?_⟩
  · simp[Builtin.append_,run_underlying ht,run_underlying hu,sizeOf,typeInfo,zeroValue,hi,hz,hs,Builtin.lenOf,Builtin.firstCells,hn,h63',h48',Question.forced,newRow,grownCap,asInt,asIntOf,hw,hneg,hbig]
  · have hge := grownCap_ge w n 0 e; have hcm : grownCap w n 0 e ≤ maxLen := grownCap_le_maxLen w n 0 e hmx; refine ⟨by simp, .inr ⟨w.heap.size, _, _, rfl, hbase, qA w.drew _ _, hge, hcm, ?_, ?_⟩⟩
    · simp only[Array.size_append,size_zeroCells,hzs];simp;omega
    · have hzc : (Builtin.zeroCells z.cells n).toList = List.replicate n z := by
        rw[hzs];apply List.ext_getElem
        · simp[Builtin.zeroCells]
        · intro j h1 h2;simp[Builtin.zeroCells,Nat.mod_one]
      simp only[Array.toList_append,hzc,Nat.mul_one];rw[List.take_left' (by simp)]
  · exact ⟨rfl, rfl, rfl, by simp, fun k hk _ => by
      show(w.heap.push _)[k]? = _
      rw[Array.getElem?_push_lt hk,← Array.getElem?_eq_getElem]⟩
theorem rO {w : World} {ops : Array Oper} {rest : List Oper} {o : Oper} {a : Act} {Q : Exit → Act → World → Prop} (hgd : o.guard = none) (s x : Operand) (base : Nat) (t u e : TypeId)
    (ho:o.op = .call { callee:=.builtin .append,args:=#[s,x],argTypes:=#[t,u] }) (i:TypeInfo) (z:Value) (ht:P.underlying t=some (.slice e)) (hu:P.underlying u=some (.int .i64)) (hi:P.info? e=some i) (hz:i.zero=some z) (hs:i.size=1) (hzs:z.cells=#[z])
    (n:Nat) (es:a.eval s = .slice none 0 0) (ex:a.eval x = .int .i64 (n:Int)) (h1:1≤n) (h8:n * i.bytes≤281474976710656) (hmx:n≤maxLen) (hbase:base≤w.heap.size)
    (h:∀ g c w',w'.ownsRow base e 1 (.slice (some ⟨g,0,none⟩) n c) n (List.replicate n z)→w.grownBy w' none→wpList P ops Q rest (a.put o.dst (.slice (some ⟨g,0,none⟩) n c)) w') :
    wpList P ops Q (o::rest) a w:=by
  refine wpList_plain hgd fun K hK'=>?_
  obtain⟨g,c,w',hrun,r1,r2⟩:=uQ (P:=P) w base t u o.type e i z ht hu hi hz hs hzs n h1 h8 hmx hbase;unfold Oper.wp;simp[execOp,ho,resolve,invoke,builtin,es,ex,hrun,Result.andThen];exact hK' _ _ (h g c w' r1 r2)
end
section
variable {P : Program} {w : World} {ops : Array Oper} {rest : List Oper} {o : Oper} {a : Act} {Q : Exit → Act → World → Prop}
theorem mP (hgd : o.guard = none) (s x : Operand) (t : TypeId)
    (ho:o.op = .call { callee:=.builtin .append,args:=#[s,x],argTypes:=#[t,t] })
    (base:Nat) (e:TypeId) (i:TypeInfo) (z:Value) (size bytes:Nat) (ht:P.underlying t=some (.slice e)) (hi:P.info? e=some i) (hz:i.zero=some z)
    (hsize:i.size=size) (hby:i.bytes=bytes) (hzs:z.cells.size=size) (hsz:0 < size)
    (v:Value) (n:Nat) (xs:List Value) (hs:a.eval s=v) (hown:w.ownsRow base e size v n xs)
    (p:Option Addr) (m c:Nat) (news:List Value) (hx:a.eval x = .slice p m c) (hl:news.length=m * size) (hc:m≤c) (h0:p=none→c=0) (hp:RowArg w p news) (h1:∀ u∈news,u.oneCell'=true)
    (h63:n+m≤maxLen) (hbytes:((n+m)+(n+m) / 4+192) * bytes≤281474976710656) (hbase:base≤w.heap.size)
    (h:∀ v' w',w'.ownsRow base e size v' (n+m) (xs++news)→w.grownBy w' v.ownBlock→wpList P ops Q rest (a.put o.dst v') w') :
    wpList P ops Q (o::rest) a w:=by
  cases p with
  | none =>
    have hc0:=h0 rfl;have hm0:m=0:=by omega
    subst hc0 hm0;have hn:news=[]:=List.eq_nil_of_length_eq_zero (by omega);subst hn;exact wpList_append_own_none hgd s x t ho base e i size ht hi v n xs hs hown hx (h v w (by simpa using hown) ⟨rfl,rfl,rfl,Nat.le_refl _,fun _ _ _=>rfl⟩)
  | some ad =>
    refine wpList_append_own_wide _ hgd s x t ho base e i z size bytes ht hi hz hsize hby hzs hsz v n xs hs hown ad m c news hx hl ?_ h1 h63 hbytes hbase (fun v' w' h1 h2 _=>h v' w' h1 h2);intro j u hj;obtain⟨b,off,e,hb,ht⟩:=hp (fun e=>by rw[e]at hj;cases hj)
    cases e;rw[jJ];exact ht j u hj
end
end Go.Lx
namespace Go.Lx
theorem oO{fn:Func}{p:Tmp}{ty:TypeId}(h:fn.results=#[.cell p ty])(tmps:Array Value)(P:Program)(w:World) :
 (results fn tmps).run P w=((asAddr (tmps.getD p undef)).run P w).andThen fun a w₁=>(loadVar ty a).run P w₁:=by
 simp only[results,h];simp[Sem.run_bind,Result.andThen]
end Go.Lx
namespace Go.Lx
open Go.RowKit
section
variable {P : Program}
theorem vCA(m:Nat):(Builtin.zeroCells #[Value.int .i64 0] m).toList=List.replicate m (Value.int .i64 0):=by
 apply List.ext_getElem
 · simp[Builtin.zeroCells]
 · intro j h1 h2;simp[Builtin.zeroCells,Nat.mod_one]
theorem zQ (w : World) (base : Nat) (t u ty e : TypeId) (i : TypeInfo) (ht : P.underlying t = some (.slice e)) (hu : P.underlying u = some (.int .i64)) (hi : P.info? e = some i) (hz : i.zero = some (.int .i64 0)) (hs : i.size = 1) (hby : i.bytes = 8)
    (v:Value) (n:Nat) (xs:List Value) (hown:w.ownsRow base e 1 v n xs) (hn0:0 < n) (m:Nat) (h1:1≤m) (h8:n+m≤100) (hbase:base≤w.heap.size) :
    ∃ v' w',(Builtin.append_ #[t,u] ty #[v,.int .i64 (m:Int)]).run P w = .ok v' w'∧w'.ownsRow base e 1 v' (n+m) (xs++List.replicate m (.int .i64 0))∧w.grownBy w' v.ownBlock:=by
  have hw:IntKind.i64.wrap (m:Int)=m:=by rw[IntKind.wrap_i64];omega
  have hneg:¬((m:Int) < 0):=by omega
  have hbig:¬((281474976710656:Int) < (m:Int) * 8):=by omega
  have hm0:¬ m=0:=by omega
  have h63':¬(9223372036854775807 < ((n:Int)+(m:Int))):=by omega
  have hlen:(xs++List.replicate m (Value.int .i64 0)).length=(n+m) * 1:=by rw[List.length_append,hown.1,List.length_replicate];omega
  rcases hown.2 with⟨rfl,rfl⟩ | ⟨g,cap,cur,rfl,hbg,hg,hnc,hcm,hcs,htake⟩
  · omega
  · by_cases hroom : n + m ≤ cap
    · have hfit : n + (List.replicate m (Value.int .i64 0)).length ≤ cur.size := by rw [hcs, List.length_replicate]; omega
      have hzl:(Builtin.zeroCells (Value.int .i64 0).cells m).toList=List.replicate m (Value.int .i64 0):=vCA m;have hst:=run_storeCells_at P g n e (List.replicate m (Value.int .i64 0)) 0 cur w hg (by simpa using hfit) (fun u hu=>by rw[List.eq_of_mem_replicate hu];rfl);simp only[Nat.add_zero]at hst;refine⟨.slice (some ⟨g,0,none⟩) (n+m) cap,_,?_,⟨hlen,.inr ⟨g,cap,_,rfl,hbg,setRow_heap w g cur (cur.toList.take n++List.replicate m (Value.int .i64 0)++cur.toList.drop (n+(List.replicate m (Value.int .i64 0)).length)).toArray e _ hg,hroom,hcm,?_,?_⟩⟩,⟨rfl,rfl,rfl,by simp,fun k _ hk=>setRow_other w g k _ (fun e=>hk (by simp[Value.ownBlock,e]))⟩⟩
      · simp[Builtin.append_,run_underlying ht,run_underlying hu,sizeOf,typeInfo,zeroValue,hi,hz,hs,hby,Builtin.lenOf,hroom,asInt,asIntOf,hw,hneg,hbig,hm0,hzl,Addr.add_lit,hst,Result.andThen]
      · simp only[List.size_toArray,List.length_append,List.length_take,List.length_drop,Array.length_toList];omega
      · have ht' : cur.toList.take n = xs := by simpa using htake
        simp only;rw[ht',← hlen];exact List.take_left
    · have holds : ∀ j u, xs[j]? = some u → w.drew.cell? ((⟨g, 0, none⟩ : Addr).add j) = some u := hown.cells (g := g) rfl; have hfo := run_firstCells_some (P := P) w.drew 1 n ⟨g, 0, none⟩ n cap xs (by have := hown.1; omega) holds; have h48' : ¬ (281474976710656 < Builtin.nextslicecap (n + m) cap * 8) := by
       unfold Builtin.nextslicecap
       split
       · omega
       · split
         · omega
         · omega
      refine⟨.slice (some ⟨w.heap.size,0,none⟩) (n+m) (grownCap w (n+m) cap e),w.drew.alloc (.cells (xs.toArray++Builtin.zeroCells #[.int .i64 0] m++Builtin.zeroCells #[.int .i64 0] (grownCap w (n+m) cap e - (n+m))) e),?_,?_,?_⟩
      · simp[Builtin.append_,run_underlying ht,run_underlying hu,sizeOf,typeInfo,zeroValue,hi,hz,hs,hby,Builtin.lenOf,hroom,hm0,h63',h48',Question.forced,hfo,newRow,grownCap,asInt,asIntOf,hw,hneg,hbig];rfl
      · have hge := grownCap_ge w (n + m) cap e; have hcm : grownCap w (n + m) cap e ≤ maxLen := grownCap_le_maxLen w (n + m) cap e (by simp only [maxLen]; omega); refine ⟨hlen, .inr ⟨w.heap.size, _, _, rfl, hbase, qA w.drew _ _, hge, hcm, ?_, ?_⟩⟩
        · have:=hown.1;simp only[Array.size_append,List.size_toArray,size_zeroCells];simp;omega
        · simp only[Array.toList_append,vCA];rw[← hlen];exact List.take_left
      · exact ⟨rfl, rfl, rfl, by simp, fun k hk _ => by
          show(w.heap.push _)[k]? = _
          rw[Array.getElem?_push_lt hk,← Array.getElem?_eq_getElem]⟩
theorem eP {w : World} {ops : Array Oper} {rest : List Oper} {o : Oper} {a : Act} {Q : Exit → Act → World → Prop} (hgd : o.guard = none) (s x : Operand) (base : Nat) (t u e : TypeId)
    (ho:o.op = .call { callee:=.builtin .append,args:=#[s,x],argTypes:=#[t,u] }) (i:TypeInfo) (ht:P.underlying t=some (.slice e)) (hu:P.underlying u=some (.int .i64)) (hi:P.info? e=some i) (hz:i.zero=some (.int .i64 0)) (hs:i.size=1) (hby:i.bytes=8)
    (v:Value) (n:Nat) (xs:List Value) (m:Nat) (es:a.eval s=v) (ex:a.eval x = .int .i64 (m:Int)) (hown:w.ownsRow base e 1 v n xs) (hn0:0 < n) (h1:1≤m) (h8:n+m≤100) (hbase:base≤w.heap.size)
    (h:∀ v' w',w'.ownsRow base e 1 v' (n+m) (xs++List.replicate m (.int .i64 0))→w.grownBy w' v.ownBlock→wpList P ops Q rest (a.put o.dst v') w') :
    wpList P ops Q (o::rest) a w:=by
  refine wpList_plain hgd fun K hK'=>?_
  obtain⟨v',w',hrun,r1,r2⟩:=zQ (P:=P) w base t u o.type e i ht hu hi hz hs hby v n xs hown hn0 m h1 h8 hbase;unfold Oper.wp;simp[execOp,ho,resolve,invoke,builtin,es,ex,hrun,Result.andThen];exact hK' _ _ (h v' w' r1 r2)
end
end Go.Lx
namespace Go.Lx
inductive Tm where
 | mk (x:Nd) (args:List Tm)
def Tm.root : Tm → Nd
  | .mk x _=>x
def Tm.args : Tm → List Tm
  | .mk _ l=>l
mutual
def flat : Tm → List Nd
  | .mk x l=>jB l++[x]
def jB : List Tm → List Nd
  | []=>[]
  | a::l=>flat a++jB l
end
mutual
def okT : Tm → Prop
  | .mk x l=>yA x=true∧l.length=(binds x).length∧qQ l
def qQ : List Tm → Prop
  | []=>True
  | a::l=>okT a∧qQ l
end
mutual
def eF : Tm → Nat
  | .mk x l=>pU 1 l
def pU : Nat → List Tm → Nat
  | d,[]=>d
  | d,a::l=>pU (max d (eF a+1)) l
end
theorem rH(a b:List Tm):jB (a++b)=jB a++jB b:=by
 induction a with
 | nil=>rfl
 | cons x l ih=>simp[jB,ih]
theorem eLA{a b:List Tm}:qQ (a++b)↔qQ a∧qQ b:=by
 induction a with
 | nil=>simp[qQ]
 | cons x l ih=>simp[qQ,ih,and_assoc]
theorem lCA{l:List Tm}:qQ l↔∀ a∈l,okT a:=by
 induction l with
 | nil=>simp[qQ]
 | cons x l ih=>simp[qQ,ih]
theorem mZA(T:Tm):flat T≠[]:=by cases T;simp[flat]
theorem yKA(T:Tm):0 < (flat T).length:=List.length_pos_iff.2 (mZA T)
def xE : Nat → List Tm → List (Nat × Nat)
  | _,[]=>[]
  | i,a::l=>(i,eF a)::xE (i+(flat a).length) l
theorem xL(i:Nat)(l:List Tm):(xE i l).length=l.length:=by
 induction l generalizing i with
 | nil=>rfl
 | cons x l ih=>simp[xE,ih]
theorem eY(i:Nat)(a b:List Tm):xE i (a++b)=xE i a++xE (i+(jB a).length) b:=by
 induction a generalizing i with
 | nil=>simp[xE,jB]
 | cons x l ih=>simp[xE,ih,jB,Nat.add_assoc]
theorem vBA(i k:Nat)(l:List Tm):(xE i l).take k=xE i (l.take k):=by
 induction l generalizing i k with
 | nil=>simp[xE]
 | cons x l ih => cases k with
   | zero=>simp[xE]
   | succ k=>simp[xE,ih]
theorem vAA(i k:Nat)(l:List Tm)(hk:k≤l.length):(xE i l).drop k=xE (i+(jB (l.take k)).length) (l.drop k):=by
 have h:=eY i (l.take k) (l.drop k);rw[List.take_append_drop]at h;rw[h,List.drop_append_of_le_length (by rw[xL,List.length_take];omega)];have:(xE i (l.take k)).length=k:=by rw[xL,List.length_take];omega
 rw[List.drop_of_length_le (by omega)];rfl
theorem bTA(i d:Nat)(l:List Tm):(xE i l).foldl (fun d (x:Nat×Nat)=>max d (x.2+1)) d=pU d l:=by
 induction l generalizing i d with
 | nil=>rfl
 | cons x l ih=>simp only[xE,List.foldl_cons,pU];exact ih _ _
theorem uPA(x:Nd)(i:Nat)(l:List Tm):meas (i+(jB l).length) (xE i l)=(i,eF (.mk x l)):=by
 unfold meas;rw[bTA]
 cases l with
 | nil=>simp[xE,jB,eF]
 | cons a l=>simp[xE,eF]
theorem pO:∀(t:List Nd) (all:List (Nat×Nat)) (Fs:List Tm) {r:List (Nat×Nat)×List (Nat×Nat)},qQ Fs→wC t (jB Fs).length all (xE 0 Fs)=some r →
 ∃ Gs,qQ Gs∧jB Gs=jB Fs++t∧r.2=xE 0 Gs
 | [],all,Fs,r,hF,h=>by cases h;exact⟨Fs,hF,by simp,rfl⟩
 | x :: t, all, Fs, r, hF, h => by
   unfold wC at h
   split at h
   · cases h
   · rename_i hc; rw [xL] at hc h; have hx : yA x = true := by
      cases hr:yA x
      · exact absurd (.inl hr) hc
      · rfl
     have hl:(binds x).length≤Fs.length:=by
      apply Nat.le_of_not_lt;exact fun h=>hc (.inr h)
     have hk:Fs.length - (binds x).length≤Fs.length:=by omega
     generalize hkk:Fs.length - (binds x).length=k at *;have hsplit:jB Fs=jB (Fs.take k)++jB (Fs.drop k):=by rw[← rH,List.take_append_drop]
     have hm:meas (jB Fs).length ((xE 0 Fs).drop k)=((jB (Fs.take k)).length,eF (.mk x (Fs.drop k))):=by
      rw[vAA 0 k Fs hk,hsplit,List.length_append,Nat.zero_add];exact uPA x _ _
     simp only at h;rw[hm,vBA]at h;have hnew:xE 0 (Fs.take k++[.mk x (Fs.drop k)])=xE 0 (Fs.take k)++[((jB (Fs.take k)).length,eF (.mk x (Fs.drop k)))]:=by rw[eY,Nat.zero_add];rfl
     have hfl:jB (Fs.take k++[.mk x (Fs.drop k)])=jB Fs++[x]:=by rw[rH,hsplit];simp[jB,flat]
     rw[← hnew]at h;have hlen:(jB Fs).length+1=(jB (Fs.take k++[.mk x (Fs.drop k)])).length:=by rw[hfl];simp
     rw[hlen]at h;have hok:qQ (Fs.take k++[.mk x (Fs.drop k)]):=by
      have h0:=hF;rw[← List.take_append_drop k Fs]at h0;obtain⟨h1,h2⟩:=eLA.1 h0;exact eLA.2 ⟨h1,⟨hx,by rw[List.length_drop];omega,h2⟩,trivial⟩
     obtain⟨Gs,g1,g2,g3⟩:=pO t _ _ hok h;exact⟨Gs,g1,by rw[g2,hfl];simp,g3⟩
theorem lS:∀(T:Tm),okT T→∀(all:List (Nat×Nat)) (Fs:List Tm),∃ all',wC (flat T) (jB Fs).length all (xE 0 Fs)=some (all++all',xE 0 (Fs++[T]))∧all'.length=(flat T).length∧all'.getLast? = some ((jB Fs).length,eF T):=by
 intro T
 induction T using Tm.rec (motive_2:=fun l=>qQ l→∀(all:List (Nat×Nat)) (Fs:List Tm),∃ all',wC (jB l) (jB Fs).length all (xE 0 Fs)=some (all++all',xE 0 (Fs++l))∧all'.length=(jB l).length) with
 | mk x l ih =>
   rintro⟨hx,hl,hls⟩ all Fs;obtain⟨a1,h1,h2⟩:=ih hls all Fs;refine⟨a1++[((jB Fs).length,eF (.mk x l))],?_,by simp[flat,h2],by simp⟩;rw[flat,wU,h1];simp only[Option.bind_some];unfold wC;rw[xL,List.length_append,if_neg (by rw[hx];simp;omega)];have hk:Fs.length+l.length - (binds x).length=Fs.length:=by omega
   simp only[hk];have hd:(xE 0 (Fs++l)).drop Fs.length=xE (jB Fs).length l:=by
    rw[vAA 0 _ _ (by simp),List.drop_left,List.take_left,Nat.zero_add]
   have ht:(xE 0 (Fs++l)).take Fs.length=xE 0 Fs:=by rw[vBA,List.take_left]
   rw[hd,ht,uPA];unfold wC;rw[eY 0 Fs [.mk x l],Nat.zero_add,List.append_assoc];rfl
 | nil=>rename_i hh all Fs;exact⟨[],by simp[jB,wC],rfl⟩
 | cons a l iha ihl =>
   rename_i hh all Fs;obtain⟨ha,hl⟩:=hh;obtain⟨a1,h1,h2,_⟩:=iha ha all Fs;obtain⟨a2,h3,h4⟩:=ihl hl (all++a1) (Fs++[a]);refine⟨a1++a2,?_,by simp[jB,h2,h4]⟩;rw[jB,wU,h1];simp only[Option.bind_some];have:(jB Fs).length+(flat a).length=(jB (Fs++[a])).length:=by rw[rH];simp[jB]
   rw[this,h3,List.append_assoc,List.append_assoc];rfl
theorem gEA{t:List Nd}(h:bC t=0):∃ T,flat T=t∧okT T∧eF T≤60∧t.length≤4000:=by
 unfold bC at h
 split at h
 · cases h
 · rename_i hlen
   split at h
   · cases h
   · rename_i all op hm
     split at h
     · cases h
     · rename_i h1
       split at h
       · cases h
       · rename_i h2; obtain ⟨Gs, g1, g2, g3⟩ := pO t [] [] (by simp [qQ]) hm; simp only [ne_eq, Decidable.not_not] at h1; simp only at g3; rw [g3, xL] at h1
         match Gs,h1 with
         | [T], _ =>
           simp only[jB,List.nil_append,List.append_nil]at g2;refine⟨T,g2,g1.1,?_,by omega⟩;obtain⟨a',q1,q2,q3⟩:=lS T g1.1 [] [];rw[g2]at q1;rw[show wC t (jB []).length [] (xE 0 [])=wC t 0 [] [] from rfl,hm]at q1;simp only[Option.some.injEq,Prod.mk.injEq]at q1;rw[q1.1,List.nil_append]at h2;have:a'.getLastD (0,0)=((jB []).length,eF T):=by rw[List.getLastD_eq_getLast?,q3];rfl
           rw[this]at h2;omega
theorem jEA{T:Tm}(h:okT T)(hd:eF T≤60)(hl:(flat T).length≤4000):bC (flat T)=0:=by
 obtain⟨a',q1,q2,q3⟩:=lS T h [] [];unfold bC;rw[if_neg (by omega)];have q1':wC (flat T) 0 [] []=some (a',xE 0 [T]):=by simpa [jB,xE] using q1
 rw[q1'];have:a'.getLastD (0,0)=((jB []).length,eF T):=by rw[List.getLastD_eq_getLast?,q3];rfl
 simp only[this];rw[if_neg (by simp[xE]),if_neg (by omega)]
theorem ofNat_toNat(c:UInt8)(n:Nat)(h:c.toNat=n):UInt8.ofNat n=c:=by rw[← h];simp
inductive SX where
 | w (s:ByteArray)
 | l (xs:List SX)
mutual
def pF : SX → List UInt8
  | .w s=>s.data.toList
  | .l xs=>40::(zK xs++[41])
def zK : List SX → List UInt8
  | []=>[]
  | a::l=>pF a++dP l
def dP : List SX → List UInt8
  | []=>[]
  | a::l=>32::(pF a++dP l)
end
mutual
def rG : Nat → SX → List PTok
  | k,.w s=>[⟨1,(k:Int),s⟩]
  | k,.l xs=>⟨2,(k:Int),⟨#[40]⟩⟩::(sM (k+1) xs++[⟨3,((k+1+(zK xs).length:Nat):Int),⟨#[41]⟩⟩])
def sM : Nat → List SX → List PTok
  | _,[]=>[]
  | k,a::l=>rG k a++xI (k+(pF a).length) l
def xI : Nat → List SX → List PTok
  | _,[]=>[]
  | k,a::l=>rG (k+1) a++xI (k+1+(pF a).length) l
end
mutual
def pIA : Nat → SX → ST
  | k,.w s=>.word (k:Int) s
  | k,.l xs=>.list (k:Int) (lFA (k+1) xs)
def lFA : Nat → List SX → List ST
  | _,[]=>[]
  | k,a::l=>pIA k a::wZ (k+(pF a).length) l
def wZ : Nat → List SX → List ST
  | _,[]=>[]
  | k,a::l=>pIA (k+1) a::wZ (k+1+(pF a).length) l
end
mutual
def cIA : SX → Nat
  | .w _=>0
  | .l xs=>tHA xs+1
def tHA : List SX → Nat
  | []=>0
  | a::l=>max (cIA a) (tHA l)
end
mutual
def okX (p : UInt8 → Bool) : SX → Prop
  | .w s=>s.size≠0∧∀ c∈s.data.toList,p c=true
  | .l xs=>zRA p xs
def zRA (p : UInt8 → Bool) : List SX → Prop
  | []=>True
  | a::l=>okX p a∧zRA p l
end
theorem oFA : ∀ (xs : List SX) (k : Nat), (wZ k xs).length = xs.length
  | [],_=>rfl
  | a::l,k=>by simp[wZ,oFA l]
theorem uSA(xs:List SX)(k:Nat):(lFA k xs).length=xs.length:=by
 cases xs with
 | nil=>rfl
 | cons a l=>simp[lFA,oFA]
theorem bJA(x:SX):∀(k:Nat) (r:List PTok) (row st:List Sx) (t:Sx),st.length+cIA x≤60→bF (rG k x++r) row st t=bF r (row++xB (pIA k x)) st ⟨t.many+1,t.pos,t.word⟩:=by
 induction x using SX.rec (motive_2:=fun l=>∀(k:Nat) (r:List PTok) (row st:List Sx) (t:Sx),st.length+tHA l≤60→bF (xI k l++r) row st t=bF r (row++fC (wZ k l)) st ⟨t.many+l.length,t.pos,t.word⟩) with
 | w s =>
   intro k r row st t _;unfold rG pIA xB;rw[List.singleton_append,lL,if_pos rfl]
 | l xs ih =>
   intro k r row st t hd;unfold cIA at hd;unfold rG pIA;rw[xB,uSA,List.cons_append,lL,if_neg (show ¬(2:Int)=1 by decide),if_pos (show(2:Int)=2 from rfl),if_neg (by omega)];have key:bF ((sM (k+1) xs++[⟨3,((k+1+(zK xs).length:Nat):Int),⟨#[41]⟩⟩])++r) row (t::st) ⟨0,(k:Int),⟨#[]⟩⟩=bF (⟨3,((k+1+(zK xs).length:Nat):Int),⟨#[41]⟩⟩::r) (row++fC (lFA (k+1) xs)) (t::st) ⟨(xs.length:Int),(k:Int),⟨#[]⟩⟩:=by
    have h:=ih k (⟨3,((k+1+(zK xs).length:Nat):Int),⟨#[41]⟩⟩::r) row (t::st) ⟨0,(k:Int),⟨#[]⟩⟩ (by simp;omega);rw[List.append_assoc,List.singleton_append]
    cases xs with
    | nil=>simp[sM,lFA,fC]
    | cons a l =>
      simp only[xI,wZ]at h;simp only[sM,lFA];rw[Int.zero_add]at h;exact h
   rw[key,lL,if_neg (show ¬(3:Int)=1 by decide),if_neg (show ¬(3:Int)=2 by decide)];simp only[List.append_assoc]
 | nil=>rename_i k r row st t _;simp[xI,wZ,fC]
 | cons a l iha ihl =>
   rename_i k r row st t hd;unfold tHA at hd;unfold xI wZ;rw[List.append_assoc,iha _ _ _ _ _ (by omega),ihl _ _ _ _ _ (by omega),fC,List.append_assoc,List.length_cons];have e:t.many+1+(l.length:Int)=t.many+((l.length+1:Nat):Int):=by omega
   simp only;rw[e]
theorem gMA(x:SX)(h:cIA x≤60)(k:Nat):bF (rG k x) [] [] ⟨0,0,⟨#[]⟩⟩ = .ok (xB (pIA k x)):=by
 have:=bJA x k [] [] [] ⟨0,0,⟨#[]⟩⟩ (by simpa using h);rw[List.append_nil]at this;rw[this];rfl
theorem dFA : ∀ (l : List SX), (∀ a ∈ l, ∀ k, (rG k a).length ≤ (pF a).length) → ∀ k, (xI k l).length ≤ (dP l).length
  | [],_,k=>by simp[xI]
  | a :: l, h, k => by
    have h1:=h a List.mem_cons_self (k+1);have h2:=dFA l (fun b hb=>h b (List.mem_cons_of_mem _ hb)) (k+1+(pF a).length);simp only[xI,dP,List.length_append,List.length_cons];omega
theorem vXA{p:UInt8→Bool}(x:SX):okX p x→∀ k,(rG k x).length≤(pF x).length:=by
 induction x using SX.rec (motive_2:=fun l=>zRA p l→∀ a∈l,∀ k,(rG k a).length≤(pF a).length) with
 | w s =>
   intro h k;have:s.data.toList.length=s.size:=by rw[Array.length_toList];rfl
   have:=h.1;simp only[rG,pF,List.length_singleton];omega
 | l xs ih =>
   intro h k;have hX:=ih h
   cases xs with
   | nil=>simp[rG,pF,sM,zK]
   | cons a l =>
     have h1:=hX a List.mem_cons_self (k+1);have h2:=dFA l (fun b hb=>hX b (List.mem_cons_of_mem _ hb)) (k+1+(pF a).length);simp only[rG,pF,sM,zK,List.length_append,List.length_cons,List.length_nil];omega
 | nil=>rename_i h a ha k;cases ha
 | cons a l iha ihl =>
   rename_i h b hb k;rcases List.mem_cons.1 hb with rfl | hb
   · exact iha h.1 k
   · exact ihl h.2 b hb k
end Go.Lx
