/- Part 5 of what the proof rests on. -/
import Derived.Laws.AppendOwnNone
import Derived.Deep.DeepAppendWide
import Derived.Laws.ResultCell
import Derived.Tactics
import Derived.Lib.Hide
import Derived.Maps.AppendAt
import Derived.Lib.AtoiAllCases
import Derived.Lib.ItoaLen
import Derived.Test.YtggjbblgoddnjaaGreatDoorM00
import Derived.Test.YtggjbblgoddnjaaGreatDoorM04
set_option linter.unusedSimpArgs false
set_option linter.unusedVariables false
namespace Go.Lx
open Go.RowKit
section
variable {P : Program}
theorem dBA (w : World) (base : Nat) (t u ty e : TypeId) (i : TypeInfo) (ht : P.underlying t = some (.slice e)) (hu : P.underlying u = some (.int .i64)) (hi : P.info? e = some i) (hz : i.zero = some (.int .i64 0)) (hs : i.size = 1) (hby : i.bytes = 8)
    (b:Addr) (y:Value) (hb:w.cell? b=some y) (n:Nat) (h1:1≤n) (h8:n≤8) (hbase:base≤w.heap.size) :
    ∃ v w',(Builtin.append_ #[t,u] ty #[.slice (some b) 1 1,.int .i64 (n:Int)]).run P w = .ok v w'∧w'.ownsRow base e 1 v (1+n) (y::List.replicate n (.int .i64 0))∧w.grownBy w' none:=by
  have hw:IntKind.i64.wrap (n:Int)=n:=by rw[IntKind.wrap_i64];omega
  have hn:¬(1+n≤1):=by omega
  have h63':¬(9223372036854775807 < ((1:Int)+(n:Int))):=by omega
  have h48':¬(281474976710656 < Builtin.nextslicecap (1+n) 1 * 8):=by
   unfold Builtin.nextslicecap
   split
   · omega
   · simp
  have hneg:¬((n:Int) < 0):=by omega
  have hbig:¬((281474976710656:Int) < (n:Int) * 8):=by omega
  have hn0:¬ n=0:=by omega
  have hfo := run_firstCells_some (P := P) w.drew 1 1 b 1 1 [y] rfl (by
    intro j v hj
    match j,hj with
    | 0,hj=>cases hj;simpa [Addr.add] using hb)
  refine⟨.slice (some ⟨w.heap.size,0,none⟩) (1+n) (grownCap w (1+n) 1 e),w.drew.alloc (.cells (#[y]++Builtin.zeroCells #[.int .i64 0] n++Builtin.zeroCells #[.int .i64 0] (grownCap w (1+n) 1 e - (1+n))) e),?_,?_,?_⟩
  · simp[Builtin.append_,run_underlying ht,run_underlying hu,sizeOf,typeInfo,zeroValue,hi,hz,hs,hby,Builtin.lenOf,hn,hn0,h63',h48',Question.forced,hfo,newRow,grownCap,asInt,asIntOf,hw,hneg,hbig];rfl
  · have hge := grownCap_ge w (1 + n) 1 e; have hcm : grownCap w (1 + n) 1 e ≤ maxLen := grownCap_le_maxLen w (1 + n) 1 e (by simp only [maxLen]; omega); refine ⟨by simp; omega, .inr ⟨w.heap.size, _, _, rfl, hbase, rA w.drew _ _, hge, hcm, ?_, ?_⟩⟩
    · simp only[Array.size_append,List.size_toArray,size_zeroCells];simp;omega
    · have hzc : (Builtin.zeroCells #[Value.int .i64 0] n).toList = List.replicate n (Value.int .i64 0) := by
        apply List.ext_getElem
        · simp[Builtin.zeroCells]
        · intro j h1 h2;simp[Builtin.zeroCells,Nat.mod_one]
      simp only[Array.toList_append,hzc,Nat.mul_one];rw[List.take_left' (by simp;omega)];rfl
  · exact ⟨rfl, rfl, rfl, by simp, fun k hk _ => by
      show(w.heap.push _)[k]? = _
      rw[Array.getElem?_push_lt hk,← Array.getElem?_eq_getElem]⟩
theorem bX {w : World} {ops : Array Oper} {rest : List Oper} {o : Oper} {a : Act} {Q : Exit → Act → World → Prop} (hgd : o.guard = none) (s x : Operand) (base : Nat) (t u e : TypeId)
    (ho:o.op = .call { callee:=.builtin .append,args:=#[s,x],argTypes:=#[t,u] }) (i:TypeInfo) (ht:P.underlying t=some (.slice e)) (hu:P.underlying u=some (.int .i64)) (hi:P.info? e=some i) (hz:i.zero=some (.int .i64 0)) (hs:i.size=1) (hby:i.bytes=8)
    (b:Addr) (y:Value) (n:Nat) (es:a.eval s = .slice (some b) 1 1) (ex:a.eval x = .int .i64 (n:Int)) (hb:w.cell? b=some y) (h1:1≤n) (h8:n≤8) (hbase:base≤w.heap.size)
    (h:∀ v w',w'.ownsRow base e 1 v (1+n) (y::List.replicate n (.int .i64 0))→w.grownBy w' none→wpList P ops Q rest (a.put o.dst v) w') :
    wpList P ops Q (o::rest) a w:=by
  refine wpList_plain hgd fun K hK'=>?_
  obtain⟨v,w',hrun,r1,r2⟩:=dBA (P:=P) w base t u o.type e i ht hu hi hz hs hby b y hb n h1 h8 hbase;unfold Oper.wp;simp[execOp,ho,resolve,invoke,builtin,es,ex,hrun,Result.andThen];exact hK' _ _ (h v w' r1 r2)
end
theorem fVA(w:World){n:Nat}(u:Value)(t:TypeId)(h:w.heap.size=n):RowArg (w.alloc (.cells #[u] t)) (some ⟨n,0,none⟩) [u]:=h▸cO w [u] t (0,0)
section
variable {P : Program} {w : World} {ops : Array Oper} {rest : List Oper} {o : Oper} {a : Act} {Q : Exit → Act → World → Prop}
theorem nE (hgd : o.guard = none) (s x : Operand) (t : TypeId)
    (ho:o.op = .call { callee:=.builtin .append,args:=#[s,x],argTypes:=#[t,t] })
    (base:Nat) (e:TypeId) (i:TypeInfo) (z:Value) (size bytes:Nat) (ht:P.underlying t=some (.slice e)) (hi:P.info? e=some i) (hz:i.zero=some z)
    (hsize:i.size=size) (hby:i.bytes=bytes) (hzs:z.cells.size=size) (hsz:0 < size)
    (v:Value) (n:Nat) (xs:List Value) (hs:a.eval s=v) (hown:w.ownsRow base e size v n xs)
    (p:Option Addr) (m c:Nat) (news:List Value) (hx:a.eval x = .slice p m c) (hl:news.length=m * size) (hc:m≤c) (h0:p=none→c=0) (hp:RowArg w p news) (h1:∀ u∈news,u.oneCell'=true)
    (h63:n+m≤maxLen) (hbytes:(n+m) * bytes≤140737488355328) (hbase:base≤w.heap.size)
    (h:∀ v' w',w'.ownsRow base e size v' (n+m) (xs++news)→w.grownBy w' v.ownBlock→wpList P ops Q rest (a.put o.dst v') w') :
    wpList P ops Q (o::rest) a w:=by
  cases p with
  | none =>
    have hc0:=h0 rfl;have hm0:m=0:=by omega
    subst hc0 hm0;have hn:news=[]:=List.eq_nil_of_length_eq_zero (by omega);subst hn;exact wpList_append_own_none hgd s x t ho base e i size ht hi v n xs hs hown hx (h v w (by simpa using hown) ⟨rfl,rfl,rfl,Nat.le_refl _,fun _ _ _=>rfl⟩)
  | some ad =>
    refine wpList_append_own_at _ hgd s x t ho base e i z size bytes ht hi hz hsize hby hzs hsz v n xs hs hown ad m c news hx hl ?_ h1 h63 hbytes hbase (fun v' w' h1 h2 _ _=>h v' w' h1 h2);intro j u hj;obtain⟨b,off,e,hb,ht⟩:=hp (fun e=>by rw[e]at hj;cases hj)
    cases e;rw[zM];exact ht j u hj
end
section
variable {P : Program}
theorem nU (w : World) (base : Nat) (t u ty e : TypeId) (i : TypeInfo) (z : Value) (ht : P.underlying t = some (.slice e)) (hu : P.underlying u = some (.int .i64)) (hi : P.info? e = some i) (hz : i.zero = some z) (hs : i.size = 1) (hzs : z.cells = #[z])
    (n:Nat) (h1:1≤n) (h8:n * i.bytes≤281474976710656) (hmx:n≤maxLen) (hbase:base≤w.heap.size) :
    ∃ g c w',(Builtin.append_ #[t,u] ty #[.slice none 0 0,.int .i64 (n:Int)]).run P w = .ok (.slice (some ⟨g,0,none⟩) n c) w'∧w'.ownsRow base e 1 (.slice (some ⟨g,0,none⟩) n c) n (List.replicate n z)∧w.grownBy w' none:=by
  have hmx':=hmx;simp only[maxLen]at hmx';have hw:IntKind.i64.wrap (n:Int)=n:=by rw[IntKind.wrap_i64];omega
  have hn:¬ n=0:=by omega
  have h63':¬(9223372036854775807 < (n:Int)):=by omega
  have h48':¬(281474976710656 < Builtin.nextslicecap n 0 * i.bytes):=by rw[nextslicecap_zero (by omega)];omega
  have hneg:¬((n:Int) < 0):=by omega
  have hbig:¬((281474976710656:Int) < (n:Int) * i.bytes):=by
   have:((n * i.bytes:Nat):Int)=(n:Int) * i.bytes:=by simp
   omega
  refine⟨w.heap.size,grownCap w n 0 e,w.drew.alloc (.cells (Builtin.zeroCells z.cells n++Builtin.zeroCells z.cells (grownCap w n 0 e - n)) e),?_,?_,?_⟩
  · simp[Builtin.append_,run_underlying ht,run_underlying hu,sizeOf,typeInfo,zeroValue,hi,hz,hs,Builtin.lenOf,Builtin.firstCells,hn,h63',h48',Question.forced,newRow,grownCap,asInt,asIntOf,hw,hneg,hbig]
  · have hge := grownCap_ge w n 0 e; have hcm : grownCap w n 0 e ≤ maxLen := grownCap_le_maxLen w n 0 e hmx; refine ⟨by simp, .inr ⟨w.heap.size, _, _, rfl, hbase, rA w.drew _ _, hge, hcm, ?_, ?_⟩⟩
    · simp only[Array.size_append,size_zeroCells,hzs];simp;omega
    · have hzc : (Builtin.zeroCells z.cells n).toList = List.replicate n z := by
        rw[hzs];apply List.ext_getElem
        · simp[Builtin.zeroCells]
        · intro j h1 h2;simp[Builtin.zeroCells,Nat.mod_one]
      simp only[Array.toList_append,hzc,Nat.mul_one];rw[List.take_left' (by simp)]
  · exact ⟨rfl, rfl, rfl, by simp, fun k hk _ => by
      show(w.heap.push _)[k]? = _
      rw[Array.getElem?_push_lt hk,← Array.getElem?_eq_getElem]⟩
theorem aR {w : World} {ops : Array Oper} {rest : List Oper} {o : Oper} {a : Act} {Q : Exit → Act → World → Prop} (hgd : o.guard = none) (s x : Operand) (base : Nat) (t u e : TypeId)
    (ho:o.op = .call { callee:=.builtin .append,args:=#[s,x],argTypes:=#[t,u] }) (i:TypeInfo) (z:Value) (ht:P.underlying t=some (.slice e)) (hu:P.underlying u=some (.int .i64)) (hi:P.info? e=some i) (hz:i.zero=some z) (hs:i.size=1) (hzs:z.cells=#[z])
    (n:Nat) (es:a.eval s = .slice none 0 0) (ex:a.eval x = .int .i64 (n:Int)) (h1:1≤n) (h8:n * i.bytes≤281474976710656) (hmx:n≤maxLen) (hbase:base≤w.heap.size)
    (h:∀ g c w',w'.ownsRow base e 1 (.slice (some ⟨g,0,none⟩) n c) n (List.replicate n z)→w.grownBy w' none→wpList P ops Q rest (a.put o.dst (.slice (some ⟨g,0,none⟩) n c)) w') :
    wpList P ops Q (o::rest) a w:=by
  refine wpList_plain hgd fun K hK'=>?_
  obtain⟨g,c,w',hrun,r1,r2⟩:=nU (P:=P) w base t u o.type e i z ht hu hi hz hs hzs n h1 h8 hmx hbase;unfold Oper.wp;simp[execOp,ho,resolve,invoke,builtin,es,ex,hrun,Result.andThen];exact hK' _ _ (h g c w' r1 r2)
end
section
variable {P : Program} {w : World} {ops : Array Oper} {rest : List Oper} {o : Oper} {a : Act} {Q : Exit → Act → World → Prop}
theorem pR (hgd : o.guard = none) (s x : Operand) (t : TypeId)
    (ho:o.op = .call { callee:=.builtin .append,args:=#[s,x],argTypes:=#[t,t] })
    (base:Nat) (e:TypeId) (i:TypeInfo) (z:Value) (size bytes:Nat) (ht:P.underlying t=some (.slice e)) (hi:P.info? e=some i) (hz:i.zero=some z)
    (hsize:i.size=size) (hby:i.bytes=bytes) (hzs:z.cells.size=size) (hsz:0 < size)
    (v:Value) (n:Nat) (xs:List Value) (hs:a.eval s=v) (hown:w.ownsRow base e size v n xs)
    (p:Option Addr) (m c:Nat) (news:List Value) (hx:a.eval x = .slice p m c) (hl:news.length=m * size) (hc:m≤c) (h0:p=none→c=0) (hp:RowArg w p news) (h1:∀ u∈news,u.oneCell'=true)
    (h63:n+m≤maxLen) (hbytes:((n+m)+(n+m) / 4+192) * bytes≤281474976710656) (hbase:base≤w.heap.size)
    (h:∀ v' w',w'.ownsRow base e size v' (n+m) (xs++news)→w.grownBy w' v.ownBlock→wpList P ops Q rest (a.put o.dst v') w') :
    wpList P ops Q (o::rest) a w:=by
  cases p with
  | none =>
    have hc0:=h0 rfl;have hm0:m=0:=by omega
    subst hc0 hm0;have hn:news=[]:=List.eq_nil_of_length_eq_zero (by omega);subst hn;exact wpList_append_own_none hgd s x t ho base e i size ht hi v n xs hs hown hx (h v w (by simpa using hown) ⟨rfl,rfl,rfl,Nat.le_refl _,fun _ _ _=>rfl⟩)
  | some ad =>
    refine wpList_append_own_wide _ hgd s x t ho base e i z size bytes ht hi hz hsize hby hzs hsz v n xs hs hown ad m c news hx hl ?_ h1 h63 hbytes hbase (fun v' w' h1 h2 _=>h v' w' h1 h2);intro j u hj;obtain⟨b,off,e,hb,ht⟩:=hp (fun e=>by rw[e]at hj;cases hj)
    cases e;rw[zM];exact ht j u hj
end
end Go.Lx
namespace Go.Lx
theorem mX{fn:Func}{p:Tmp}{ty:TypeId}(h:fn.results=#[.cell p ty])(tmps:Array Value)(P:Program)(w:World) :
 (results fn tmps).run P w=((asAddr (tmps.getD p undef)).run P w).andThen fun a w₁=>(loadVar ty a).run P w₁:=by
 simp only[results,h];simp[Sem.run_bind,Result.andThen]
inductive Tm where
 | mk (x:Nd) (args:List Tm)
def Tm.root : Tm → Nd
  | .mk x _=>x
def Tm.args : Tm → List Tm
  | .mk _ l=>l
mutual
def flat : Tm → List Nd
  | .mk x l=>zB l++[x]
def zB : List Tm → List Nd
  | []=>[]
  | a::l=>flat a++zB l
end
mutual
def okT : Tm → Prop
  | .mk x l=>zA x=true∧l.length=(binds x).length∧gT l
def gT : List Tm → Prop
  | []=>True
  | a::l=>okT a∧gT l
end
mutual
def aG : Tm → Nat
  | .mk x l=>eZ 1 l
def eZ : Nat → List Tm → Nat
  | d,[]=>d
  | d,a::l=>eZ (max d (aG a+1)) l
end
theorem xI(a b:List Tm):zB (a++b)=zB a++zB b:=by
 induction a with
 | nil=>rfl
 | cons x l ih=>simp[zB,ih]
theorem zOA{a b:List Tm}:gT (a++b)↔gT a∧gT b:=by
 induction a with
 | nil=>simp[gT]
 | cons x l ih=>simp[gT,ih,and_assoc]
theorem oHA{l:List Tm}:gT l↔∀ a∈l,okT a:=by
 induction l with
 | nil=>simp[gT]
 | cons x l ih=>simp[gT,ih]
theorem lAB(T:Tm):flat T≠[]:=by cases T;simp[flat]
theorem ePA(T:Tm):0 < (flat T).length:=List.length_pos_iff.2 (lAB T)
def rF : Nat → List Tm → List (Nat × Nat)
  | _,[]=>[]
  | i,a::l=>(i,aG a)::rF (i+(flat a).length) l
theorem sO(i:Nat)(l:List Tm):(rF i l).length=l.length:=by
 induction l generalizing i with
 | nil=>rfl
 | cons x l ih=>simp[rF,ih]
theorem qCA(i:Nat)(a b:List Tm):rF i (a++b)=rF i a++rF (i+(zB a).length) b:=by
 induction a generalizing i with
 | nil=>simp[rF,zB]
 | cons x l ih=>simp[rF,ih,zB,Nat.add_assoc]
theorem yFA(i k:Nat)(l:List Tm):(rF i l).take k=rF i (l.take k):=by
 induction l generalizing i k with
 | nil=>simp[rF]
 | cons x l ih => cases k with
   | zero=>simp[rF]
   | succ k=>simp[rF,ih]
theorem tFA(i k:Nat)(l:List Tm)(hk:k≤l.length):(rF i l).drop k=rF (i+(zB (l.take k)).length) (l.drop k):=by
 have h:=qCA i (l.take k) (l.drop k);rw[List.take_append_drop]at h;rw[h,List.drop_append_of_le_length (by rw[sO,List.length_take];omega)];have:(rF i (l.take k)).length=k:=by rw[sO,List.length_take];omega
 rw[List.drop_of_length_le (by omega)];rfl
theorem iZA(i d:Nat)(l:List Tm):(rF i l).foldl (fun d (x:Nat×Nat)=>max d (x.2+1)) d=eZ d l:=by
 induction l generalizing i d with
 | nil=>rfl
 | cons x l ih=>simp only[rF,List.foldl_cons,eZ];exact ih _ _
theorem dWA(x:Nd)(i:Nat)(l:List Tm):meas (i+(zB l).length) (rF i l)=(i,aG (.mk x l)):=by
 unfold meas;rw[iZA]
 cases l with
 | nil=>simp[rF,zB,aG]
 | cons a l=>simp[rF,aG]
theorem kR:∀(t:List Nd) (all:List (Nat×Nat)) (Fs:List Tm) {r:List (Nat×Nat)×List (Nat×Nat)},gT Fs→yC t (zB Fs).length all (rF 0 Fs)=some r →
 ∃ Gs,gT Gs∧zB Gs=zB Fs++t∧r.2=rF 0 Gs
 | [],all,Fs,r,hF,h=>by cases h;exact⟨Fs,hF,by simp,rfl⟩
 | x :: t, all, Fs, r, hF, h => by
   unfold yC at h
   split at h
   · cases h
   · rename_i hc; rw [sO] at hc h; have hx : zA x = true := by
      cases hr:zA x
      · exact absurd (.inl hr) hc
      · rfl
     have hl:(binds x).length≤Fs.length:=by
      apply Nat.le_of_not_lt;exact fun h=>hc (.inr h)
     have hk:Fs.length - (binds x).length≤Fs.length:=by omega
     generalize hkk:Fs.length - (binds x).length=k at *;have hsplit:zB Fs=zB (Fs.take k)++zB (Fs.drop k):=by rw[← xI,List.take_append_drop]
     have hm:meas (zB Fs).length ((rF 0 Fs).drop k)=((zB (Fs.take k)).length,aG (.mk x (Fs.drop k))):=by
      rw[tFA 0 k Fs hk,hsplit,List.length_append,Nat.zero_add];exact dWA x _ _
     simp only at h;rw[hm,yFA]at h;have hnew:rF 0 (Fs.take k++[.mk x (Fs.drop k)])=rF 0 (Fs.take k)++[((zB (Fs.take k)).length,aG (.mk x (Fs.drop k)))]:=by rw[qCA,Nat.zero_add];rfl
     have hfl:zB (Fs.take k++[.mk x (Fs.drop k)])=zB Fs++[x]:=by rw[xI,hsplit];simp[zB,flat]
     rw[← hnew]at h;have hlen:(zB Fs).length+1=(zB (Fs.take k++[.mk x (Fs.drop k)])).length:=by rw[hfl];simp
     rw[hlen]at h;have hok:gT (Fs.take k++[.mk x (Fs.drop k)]):=by
      have h0:=hF;rw[← List.take_append_drop k Fs]at h0;obtain⟨h1,h2⟩:=zOA.1 h0;exact zOA.2 ⟨h1,⟨hx,by rw[List.length_drop];omega,h2⟩,trivial⟩
     obtain⟨Gs,g1,g2,g3⟩:=kR t _ _ hok h;exact⟨Gs,g1,by rw[g2,hfl];simp,g3⟩
theorem qV:∀(T:Tm),okT T→∀(all:List (Nat×Nat)) (Fs:List Tm),∃ all',yC (flat T) (zB Fs).length all (rF 0 Fs)=some (all++all',rF 0 (Fs++[T]))∧all'.length=(flat T).length∧all'.getLast? = some ((zB Fs).length,aG T):=by
 intro T
 induction T using Tm.rec (motive_2:=fun l=>gT l→∀(all:List (Nat×Nat)) (Fs:List Tm),∃ all',yC (zB l) (zB Fs).length all (rF 0 Fs)=some (all++all',rF 0 (Fs++l))∧all'.length=(zB l).length) with
 | mk x l ih =>
   rintro⟨hx,hl,hls⟩ all Fs;obtain⟨a1,h1,h2⟩:=ih hls all Fs;refine⟨a1++[((zB Fs).length,aG (.mk x l))],?_,by simp[flat,h2],by simp⟩;rw[flat,gZ,h1];simp only[Option.bind_some];unfold yC;rw[sO,List.length_append,if_neg (by rw[hx];simp;omega)];have hk:Fs.length+l.length - (binds x).length=Fs.length:=by omega
   simp only[hk];have hd:(rF 0 (Fs++l)).drop Fs.length=rF (zB Fs).length l:=by
    rw[tFA 0 _ _ (by simp),List.drop_left,List.take_left,Nat.zero_add]
   have ht:(rF 0 (Fs++l)).take Fs.length=rF 0 Fs:=by rw[yFA,List.take_left]
   rw[hd,ht,dWA];unfold yC;rw[qCA 0 Fs [.mk x l],Nat.zero_add,List.append_assoc];rfl
 | nil=>rename_i hh all Fs;exact⟨[],by simp[zB,yC],rfl⟩
 | cons a l iha ihl =>
   rename_i hh all Fs;obtain⟨ha,hl⟩:=hh;obtain⟨a1,h1,h2,_⟩:=iha ha all Fs;obtain⟨a2,h3,h4⟩:=ihl hl (all++a1) (Fs++[a]);refine⟨a1++a2,?_,by simp[zB,h2,h4]⟩;rw[zB,gZ,h1];simp only[Option.bind_some];have:(zB Fs).length+(flat a).length=(zB (Fs++[a])).length:=by rw[xI];simp[zB]
   rw[this,h3,List.append_assoc,List.append_assoc];rfl
theorem xIA{t:List Nd}(h:gB t=0):∃ T,flat T=t∧okT T∧aG T≤60∧t.length≤4000:=by
 unfold gB at h
 split at h
 · cases h
 · rename_i hlen
   split at h
   · cases h
   · rename_i all op hm
     split at h
     · cases h
     · rename_i h1
       split at h
       · cases h
       · rename_i h2; obtain ⟨Gs, g1, g2, g3⟩ := kR t [] [] (by simp [gT]) hm; simp only [ne_eq, Decidable.not_not] at h1; simp only at g3; rw [g3, sO] at h1
         match Gs,h1 with
         | [T], _ =>
           simp only[zB,List.nil_append,List.append_nil]at g2;refine⟨T,g2,g1.1,?_,by omega⟩;obtain⟨a',q1,q2,q3⟩:=qV T g1.1 [] [];rw[g2]at q1;rw[show yC t (zB []).length [] (rF 0 [])=yC t 0 [] [] from rfl,hm]at q1;simp only[Option.some.injEq,Prod.mk.injEq]at q1;rw[q1.1,List.nil_append]at h2;have:a'.getLastD (0,0)=((zB []).length,aG T):=by rw[List.getLastD_eq_getLast?,q3];rfl
           rw[this]at h2;omega
theorem uIA{T:Tm}(h:okT T)(hd:aG T≤60)(hl:(flat T).length≤4000):gB (flat T)=0:=by
 obtain⟨a',q1,q2,q3⟩:=qV T h [] [];unfold gB;rw[if_neg (by omega)];have q1':yC (flat T) 0 [] []=some (a',rF 0 [T]):=by simpa [zB,rF] using q1
 rw[q1'];have:a'.getLastD (0,0)=((zB []).length,aG T):=by rw[List.getLastD_eq_getLast?,q3];rfl
 simp only[this];rw[if_neg (by simp[rF]),if_neg (by omega)]
end Go.Lx
namespace Go.Lx
open Go Go.RowKit
theorem n3A {P : Program} {fn : Func} {T : TypeId} {R : Ending → World → Prop} {A : Array Value} {w : World} {b : Nat} {a0 a1 a2 a3 a4 a5 v0 v1 v2 v3 v4 v5 x : Value}
    (hl:∀ w':World,BoxAt w' b T #[v0,v1,v2,v3,v4,v5]→(loadVar T ⟨b,0,none⟩).run P w' = .ok (.agg #[v0,v1,v2,v3,v4,v5]) w')
    (hr:fn.results=#[.cell 2 T,.tmp 3]) (h2:A.getD 2 undef = .pointer (some ⟨b,0,none⟩)) (h3:A.getD 3 undef=x) (hB:BoxAt w b T #[a0,a1,a2,a3,a4,a5])
    (hR:∀ wf,Hid (Ch (fun g=>g=b) w wf)→R (.returned (.tuple #[.agg #[v0,v1,v2,v3,v4,v5],x])) wf) :
    bodyPost P fn R .ret ⟨A,[]⟩ ((((((w.setCell ⟨b,0,none⟩ v0).setCell ⟨b,1,none⟩ v1).setCell ⟨b,2,none⟩ v2).setCell ⟨b,3,none⟩ v3).setCell ⟨b,4,none⟩ v4).setCell ⟨b,5,none⟩ v5):=by
  refine bodyPost_ret (v:=.tuple #[.agg #[v0,v1,v2,v3,v4,v5],x]) ((results_cell_tmp hr _ _ _).trans ?_) rfl (hR _ (aA ((((((Ch.refl (C:=fun g=>g=b) w).set (fun _=>rfl) _ _).set (fun _=>rfl) _ _).set (fun _=>rfl) _ _).set (fun _=>rfl) _ _).set (fun _=>rfl) _ _ |>.set (fun _=>rfl) _ _)));have:=hl _ ((((((hB.set 0 v0).set 1 v1).set 2 v2).set 3 v3).set 4 v4).set 5 v5);rw[h2,h3];simp only[asAddr,Sem.run_pure,Result.andThen];rw[this]
end Go.Lx
namespace Go.Lx
open Go.RowKit
section
variable {P : Program}
theorem bFA(m:Nat):(Builtin.zeroCells #[Value.int .i64 0] m).toList=List.replicate m (Value.int .i64 0):=by
 apply List.ext_getElem
 · simp[Builtin.zeroCells]
 · intro j h1 h2;simp[Builtin.zeroCells,Nat.mod_one]
theorem sV (w : World) (base : Nat) (t u ty e : TypeId) (i : TypeInfo) (ht : P.underlying t = some (.slice e)) (hu : P.underlying u = some (.int .i64)) (hi : P.info? e = some i) (hz : i.zero = some (.int .i64 0)) (hs : i.size = 1) (hby : i.bytes = 8)
    (v:Value) (n:Nat) (xs:List Value) (hown:w.ownsRow base e 1 v n xs) (hn0:0 < n) (m:Nat) (h1:1≤m) (h8:n+m≤100) (hbase:base≤w.heap.size) :
    ∃ v' w',(Builtin.append_ #[t,u] ty #[v,.int .i64 (m:Int)]).run P w = .ok v' w'∧w'.ownsRow base e 1 v' (n+m) (xs++List.replicate m (.int .i64 0))∧w.grownBy w' v.ownBlock:=by
  have hw:IntKind.i64.wrap (m:Int)=m:=by rw[IntKind.wrap_i64];omega
  have hneg:¬((m:Int) < 0):=by omega
  have hbig:¬((281474976710656:Int) < (m:Int) * 8):=by omega
  have hm0:¬ m=0:=by omega
  have h63':¬(9223372036854775807 < ((n:Int)+(m:Int))):=by omega
  have hlen:(xs++List.replicate m (Value.int .i64 0)).length=(n+m) * 1:=by rw[List.length_append,hown.1,List.length_replicate];omega
  rcases hown.2 with⟨rfl,rfl⟩ | ⟨g,cap,cur,rfl,hbg,hg,hnc,hcm,hcs,htake⟩
  · omega
  · by_cases hroom : n + m ≤ cap
    · have hfit : n + (List.replicate m (Value.int .i64 0)).length ≤ cur.size := by rw [hcs, List.length_replicate]; omega
      have hzl:(Builtin.zeroCells (Value.int .i64 0).cells m).toList=List.replicate m (Value.int .i64 0):=bFA m;have hst:=run_storeCells_at P g n e (List.replicate m (Value.int .i64 0)) 0 cur w hg (by simpa using hfit) (fun u hu=>by rw[List.eq_of_mem_replicate hu];rfl);simp only[Nat.add_zero]at hst;refine⟨.slice (some ⟨g,0,none⟩) (n+m) cap,_,?_,⟨hlen,.inr ⟨g,cap,_,rfl,hbg,setRow_heap w g cur (cur.toList.take n++List.replicate m (Value.int .i64 0)++cur.toList.drop (n+(List.replicate m (Value.int .i64 0)).length)).toArray e _ hg,hroom,hcm,?_,?_⟩⟩,⟨rfl,rfl,rfl,by simp,fun k _ hk=>setRow_other w g k _ (fun e=>hk (by simp[Value.ownBlock,e]))⟩⟩
      · simp[Builtin.append_,run_underlying ht,run_underlying hu,sizeOf,typeInfo,zeroValue,hi,hz,hs,hby,Builtin.lenOf,hroom,asInt,asIntOf,hw,hneg,hbig,hm0,hzl,Addr.add_lit,hst,Result.andThen]
      · simp only[List.size_toArray,List.length_append,List.length_take,List.length_drop,Array.length_toList];omega
      · have ht' : cur.toList.take n = xs := by simpa using htake
        simp only;rw[ht',← hlen];exact List.take_left
    · have holds : ∀ j u, xs[j]? = some u → w.drew.cell? ((⟨g, 0, none⟩ : Addr).add j) = some u := hown.cells (g := g) rfl; have hfo := run_firstCells_some (P := P) w.drew 1 n ⟨g, 0, none⟩ n cap xs (by have := hown.1; omega) holds; have h48' : ¬ (281474976710656 < Builtin.nextslicecap (n + m) cap * 8) := by
       unfold Builtin.nextslicecap
       split
       · omega
       · split
         · omega
         · omega
      refine⟨.slice (some ⟨w.heap.size,0,none⟩) (n+m) (grownCap w (n+m) cap e),w.drew.alloc (.cells (xs.toArray++Builtin.zeroCells #[.int .i64 0] m++Builtin.zeroCells #[.int .i64 0] (grownCap w (n+m) cap e - (n+m))) e),?_,?_,?_⟩
      · simp[Builtin.append_,run_underlying ht,run_underlying hu,sizeOf,typeInfo,zeroValue,hi,hz,hs,hby,Builtin.lenOf,hroom,hm0,h63',h48',Question.forced,hfo,newRow,grownCap,asInt,asIntOf,hw,hneg,hbig];rfl
      · have hge := grownCap_ge w (n + m) cap e; have hcm : grownCap w (n + m) cap e ≤ maxLen := grownCap_le_maxLen w (n + m) cap e (by simp only [maxLen]; omega); refine ⟨hlen, .inr ⟨w.heap.size, _, _, rfl, hbase, rA w.drew _ _, hge, hcm, ?_, ?_⟩⟩
        · have:=hown.1;simp only[Array.size_append,List.size_toArray,size_zeroCells];simp;omega
        · simp only[Array.toList_append,bFA];rw[← hlen];exact List.take_left
      · exact ⟨rfl, rfl, rfl, by simp, fun k hk _ => by
          show(w.heap.push _)[k]? = _
          rw[Array.getElem?_push_lt hk,← Array.getElem?_eq_getElem]⟩
theorem kS {w : World} {ops : Array Oper} {rest : List Oper} {o : Oper} {a : Act} {Q : Exit → Act → World → Prop} (hgd : o.guard = none) (s x : Operand) (base : Nat) (t u e : TypeId)
    (ho:o.op = .call { callee:=.builtin .append,args:=#[s,x],argTypes:=#[t,u] }) (i:TypeInfo) (ht:P.underlying t=some (.slice e)) (hu:P.underlying u=some (.int .i64)) (hi:P.info? e=some i) (hz:i.zero=some (.int .i64 0)) (hs:i.size=1) (hby:i.bytes=8)
    (v:Value) (n:Nat) (xs:List Value) (m:Nat) (es:a.eval s=v) (ex:a.eval x = .int .i64 (m:Int)) (hown:w.ownsRow base e 1 v n xs) (hn0:0 < n) (h1:1≤m) (h8:n+m≤100) (hbase:base≤w.heap.size)
    (h:∀ v' w',w'.ownsRow base e 1 v' (n+m) (xs++List.replicate m (.int .i64 0))→w.grownBy w' v.ownBlock→wpList P ops Q rest (a.put o.dst v') w') :
    wpList P ops Q (o::rest) a w:=by
  refine wpList_plain hgd fun K hK'=>?_
  obtain⟨v',w',hrun,r1,r2⟩:=sV (P:=P) w base t u o.type e i ht hu hi hz hs hby v n xs hown hn0 m h1 h8 hbase;unfold Oper.wp;simp[execOp,ho,resolve,invoke,builtin,es,ex,hrun,Result.andThen];exact hK' _ _ (h v' w' r1 r2)
end
end Go.Lx
namespace Go.Lx
theorem ofNat_toNat(c:UInt8)(n:Nat)(h:c.toNat=n):UInt8.ofNat n=c:=by rw[← h];simp
inductive SX where
 | w (s:ByteArray)
 | l (xs:List SX)
mutual
def mG : SX → List UInt8
  | .w s=>s.data.toList
  | .l xs=>40::(vN xs++[41])
def vN : List SX → List UInt8
  | []=>[]
  | a::l=>mG a++bS l
def bS : List SX → List UInt8
  | []=>[]
  | a::l=>32::(mG a++bS l)
end
mutual
def qH : Nat → SX → List PTok
  | k,.w s=>[⟨1,(k:Int),s⟩]
  | k,.l xs=>⟨2,(k:Int),⟨#[40]⟩⟩::(sP (k+1) xs++[⟨3,((k+1+(vN xs).length:Nat):Int),⟨#[41]⟩⟩])
def sP : Nat → List SX → List PTok
  | _,[]=>[]
  | k,a::l=>qH k a++nK (k+(mG a).length) l
def nK : Nat → List SX → List PTok
  | _,[]=>[]
  | k,a::l=>qH (k+1) a++nK (k+1+(mG a).length) l
end
mutual
def tQA : Nat → SX → ST
  | k,.w s=>.word (k:Int) s
  | k,.l xs=>.list (k:Int) (mJA (k+1) xs)
def mJA : Nat → List SX → List ST
  | _,[]=>[]
  | k,a::l=>tQA k a::sCA (k+(mG a).length) l
def sCA : Nat → List SX → List ST
  | _,[]=>[]
  | k,a::l=>tQA (k+1) a::sCA (k+1+(mG a).length) l
end
mutual
def hQA : SX → Nat
  | .w _=>0
  | .l xs=>wLA xs+1
def wLA : List SX → Nat
  | []=>0
  | a::l=>max (hQA a) (wLA l)
end
mutual
def okX (p : UInt8 → Bool) : SX → Prop
  | .w s=>s.size≠0∧∀ c∈s.data.toList,p c=true
  | .l xs=>l0A p xs
def l0A (p : UInt8 → Bool) : List SX → Prop
  | []=>True
  | a::l=>okX p a∧l0A p l
end
theorem wKA : ∀ (xs : List SX) (k : Nat), (sCA k xs).length = xs.length
  | [],_=>rfl
  | a::l,k=>by simp[sCA,wKA l]
theorem eZA(xs:List SX)(k:Nat):(mJA k xs).length=xs.length:=by
 cases xs with
 | nil=>rfl
 | cons a l=>simp[mJA,wKA]
theorem iPA(x:SX):∀(k:Nat) (r:List PTok) (row st:List Sx) (t:Sx),st.length+hQA x≤60→wF (qH k x++r) row st t=wF r (row++fC (tQA k x)) st ⟨t.many+1,t.pos,t.word⟩:=by
 induction x using SX.rec (motive_2:=fun l=>∀(k:Nat) (r:List PTok) (row st:List Sx) (t:Sx),st.length+wLA l≤60→wF (nK k l++r) row st t=wF r (row++kC (sCA k l)) st ⟨t.many+l.length,t.pos,t.word⟩) with
 | w s =>
   intro k r row st t _;unfold qH tQA fC;rw[List.singleton_append,dO,if_pos rfl]
 | l xs ih =>
   intro k r row st t hd;unfold hQA at hd;unfold qH tQA;rw[fC,eZA,List.cons_append,dO,if_neg (show ¬(2:Int)=1 by decide),if_pos (show(2:Int)=2 from rfl),if_neg (by omega)];have key:wF ((sP (k+1) xs++[⟨3,((k+1+(vN xs).length:Nat):Int),⟨#[41]⟩⟩])++r) row (t::st) ⟨0,(k:Int),⟨#[]⟩⟩=wF (⟨3,((k+1+(vN xs).length:Nat):Int),⟨#[41]⟩⟩::r) (row++kC (mJA (k+1) xs)) (t::st) ⟨(xs.length:Int),(k:Int),⟨#[]⟩⟩:=by
    have h:=ih k (⟨3,((k+1+(vN xs).length:Nat):Int),⟨#[41]⟩⟩::r) row (t::st) ⟨0,(k:Int),⟨#[]⟩⟩ (by simp;omega);rw[List.append_assoc,List.singleton_append]
    cases xs with
    | nil=>simp[sP,mJA,kC]
    | cons a l =>
      simp only[nK,sCA]at h;simp only[sP,mJA];rw[Int.zero_add]at h;exact h
   rw[key,dO,if_neg (show ¬(3:Int)=1 by decide),if_neg (show ¬(3:Int)=2 by decide)];simp only[List.append_assoc]
 | nil=>rename_i k r row st t _;simp[nK,sCA,kC]
 | cons a l iha ihl =>
   rename_i k r row st t hd;unfold wLA at hd;unfold nK sCA;rw[List.append_assoc,iha _ _ _ _ _ (by omega),ihl _ _ _ _ _ (by omega),kC,List.append_assoc,List.length_cons];have e:t.many+1+(l.length:Int)=t.many+((l.length+1:Nat):Int):=by omega
   simp only;rw[e]
theorem fTA(x:SX)(h:hQA x≤60)(k:Nat):wF (qH k x) [] [] ⟨0,0,⟨#[]⟩⟩ = .ok (fC (tQA k x)):=by
 have:=iPA x k [] [] [] ⟨0,0,⟨#[]⟩⟩ (by simpa using h);rw[List.append_nil]at this;rw[this];rfl
theorem fKA : ∀ (l : List SX), (∀ a ∈ l, ∀ k, (qH k a).length ≤ (mG a).length) → ∀ k, (nK k l).length ≤ (bS l).length
  | [],_,k=>by simp[nK]
  | a :: l, h, k => by
    have h1:=h a List.mem_cons_self (k+1);have h2:=fKA l (fun b hb=>h b (List.mem_cons_of_mem _ hb)) (k+1+(mG a).length);simp only[nK,bS,List.length_append,List.length_cons];omega
theorem z1A{p:UInt8→Bool}(x:SX):okX p x→∀ k,(qH k x).length≤(mG x).length:=by
 induction x using SX.rec (motive_2:=fun l=>l0A p l→∀ a∈l,∀ k,(qH k a).length≤(mG a).length) with
 | w s =>
   intro h k;have:s.data.toList.length=s.size:=by rw[Array.length_toList];rfl
   have:=h.1;simp only[qH,mG,List.length_singleton];omega
 | l xs ih =>
   intro h k;have hX:=ih h
   cases xs with
   | nil=>simp[qH,mG,sP,vN]
   | cons a l =>
     have h1:=hX a List.mem_cons_self (k+1);have h2:=fKA l (fun b hb=>hX b (List.mem_cons_of_mem _ hb)) (k+1+(mG a).length);simp only[qH,mG,sP,vN,List.length_append,List.length_cons,List.length_nil];omega
 | nil=>rename_i h a ha k;cases ha
 | cons a l iha ihl =>
   rename_i h b hb k;rcases List.mem_cons.1 hb with rfl | hb
   · exact iha h.1 k
   · exact ihl h.2 b hb k
end Go.Lx
