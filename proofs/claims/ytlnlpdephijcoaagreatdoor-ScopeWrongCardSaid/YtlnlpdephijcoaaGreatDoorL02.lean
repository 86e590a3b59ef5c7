/- Part 2 of what the proof rests on. -/
import Derived.Lib.ItoaLen
import GoSem.ClaimLeaving
import Derived.Test.YtlnlpdephijcoaaGreatDoorL00
import Derived.Test.YtlnlpdephijcoaaGreatDoorL01
set_option linter.unusedSimpArgs false
set_option linter.unusedVariables false
namespace Go.Lx
open Go.RowKit
def TextsV(w:World)(v:Value)(ss:List ByteArray):Prop:=∃ p c,v = .slice p ss.length c∧ss.length≤c∧(p=none→c=0)∧RowArg w p (ss.map .string)
theorem TextsV.under{w w':World}{v:Value}{ss:List ByteArray}(h:TextsV w v ss)(hU:Under w w'):TextsV w' v ss:=by
 obtain⟨p,c,rfl,h1,h2,h3⟩:=h;exact⟨p,c,rfl,h1,h2,h3.under hU⟩
theorem TextsV.of_own{w:World}{base:Nat}{e:TypeId}{v:Value}{ss:List ByteArray}(h:w.ownsRow base e 1 v ss.length (ss.map .string)):TextsV w v ss:=by
 have hc:∀ q n c,v = .slice q n c→q=none→c=0:=by
  intro q n c e hq;subst hq;rcases h.2 with⟨rfl,_⟩ | ⟨g,cap,cur,e',_⟩
  · cases e;rfl
  · rw[e']at e;cases e
 obtain⟨q,c,rfl,h1,h2⟩:=RowArg.of_own h;exact⟨q,c,rfl,h1,hc q _ c rfl,h2⟩
theorem TextsV.nil(w:World):TextsV w (.slice none 0 0) []:=⟨none,0,rfl,Nat.le_refl _,fun _=>rfl,RowArg.nil⟩
theorem sBA{w:World}{p:Option Addr}{ss:List ByteArray}(h:RowArg w p (ss.map .string)){k:Nat}(hk:k < ss.length):∃ b off,p=some ⟨b,off,none⟩∧b < w.heap.size∧w.cell? ⟨b,off+k,none⟩=some (.string ss[k]):=by
 obtain⟨b,off,e,hb,hc⟩:=h (fun e=>by rw[List.map_eq_nil_iff]at e;rw[e]at hk;simp at hk);exact⟨b,off,e,hb,hc k _ (by simp[List.getElem?_eq_getElem hk])⟩
def yJ(ss:List ByteArray)(s:ByteArray):Bool:=ss.any fun x=>x.toList==s.toList
end Go.Lx
namespace Go.Lx
def formT:List (List UInt8×Int×Int×List UInt8):=[([84,121,112,101],2,0,[110]),([108,97,109],4,0,[119,46,46]),([97,112,112],5,0,[46,46]),([112,97,105,114],7,0,[46,46,46]),([102,115,116],8,0,[46]),([115,110,100],9,0,[46]),([115,117,99],12,0,[46]),([112,114,102],28,0,[46]),([114,101,99],13,0,[118,46,46,118,118,46,46]),([97,98,111,114,116],15,0,[46,46]),([101,113],18,0,[46,46,46]),([114,101,102,108],19,0,[46,46]),([99,97,115,116],20,0,[46,46,46,46]),([116,114,97,110,115,112],21,0,[46,46,118,46,46,46,46]),([113,117,111,116],22,0,[46,118,118,46,46,46,46]),([99,108,97,115,115],23,0,[46,46]),([113,101,108,105,109],24,0,[46,118,46,46,46]),([100,97,116,97],25,0,[100]),([99,111,110],26,0,[100,110,42]),([101,108,105,109],27,0,[100,118,46,42,46]),([112,105],3,0,[119,46,46]),([115,105,103],6,0,[119,46,46]),([112,105,49],3,1,[119,46,46]),([115,105,103,49],6,1,[119,46,46]),([112,105,50],3,2,[119,46,46]),([115,105,103,50],6,2,[119,46,46]),([112,105,51],3,3,[119,46,46]),([115,105,103,51],6,3,[119,46,46])]
def leafT:List (List UInt8×Int):=[([80,114,111,112],2),([78,97,116],10),([122,101,114,111],11),([69,109,112,116,121],14),([85,110,105,116],16),([115,116,97,114],17),([116,105,99,107],29)]
def kY (w : List UInt8) : List (List UInt8 × Int × Int × List UInt8) → Option (Int × Int × List UInt8)
  | []=>none
  | (x,y)::l=>if w=x then some y else kY w l
def kLA (w : List UInt8) : List (List UInt8 × Int) → Option Int
  | []=>none
  | (x,y)::l=>if w=x then some y else kLA w l
def uM(s:ByteArray):Option (Int×Int×List UInt8):=kY s.data.toList formT
def qM(s:ByteArray):Option Int:=kLA s.data.toList leafT
def kwW(s:ByteArray):Bool:=(uM s).isSome||(qM s).isSome
inductive PK where
 | nm
 | nu
 | da
 | te (wait:Bool)
def yA(parts:List UInt8)(n:Nat):List UInt8:=parts.flatMap fun c=>if c=42 then List.replicate (n+1 - parts.length) c else [c]
def uB : Bool → List UInt8 → List PK
  | _,[]=>[]
  | w,c::l=>if c=118 then .nm::uB false l else if c=119 then .nm::uB true l else if c=110 then .nu::uB w l else if c=100 then .da::uB w l else .te w::uB false l
abbrev Say:=Except (Int×Int) (List Nd)
def uJ(st:List ByteArray)(s:ByteArray):Option Nat:=st.reverse.findIdx? fun x=>x.toList==s.toList
def mH(s:ByteArray):Bool:=jD s && !kwW s
def yF(cs:List ByteArray)(p:Int)(s:ByteArray)(st:List ByteArray):Say :=
 match qM s with
 | some k=>.ok [⟨k,0,0,⟨#[]⟩⟩]
 | none => if mH s then
     match uJ st s with
     | some i=>if 99 < i then .error (2,p) else .ok [⟨0,(i:Int),0,⟨#[]⟩⟩]
     | none=>if yJ cs s then .ok [⟨1,0,0,s⟩] else .error (80,p)
   else .error (71,p)
def vW(s:ByteArray):Option Nat:=(List.range 100).find? fun n=>s.data.toList==Lib.decDigits n
def v0A(k:Int)(n:Nat):Bool:=if k=26 then n < 6 else(1≤n&&n≤9)
mutual
def aG (cs ds : List ByteArray) : ST → List ByteArray → Say
  | .word p s,st=>yF cs p s st
  | .list p l,st=>uE cs ds p l st
def uE (cs ds : List ByteArray) (p : Int) : List ST → List ByteArray → Say
  | [],_=>.error (71,p)
  | h :: l, st =>
    match uM h.last.word with
    | none=>.error (71,p)
    | some (k, n, parts) =>
      if(yA parts l.length).length=l.length∧((k=26∨k=27)→l.length+1 - parts.length≤6) then
       goS cs ds (uB false (yA parts l.length)) l ⟨k,n,if k=26∨k=27 then((l.length+1 - parts.length:Nat):Int) else 0,⟨#[]⟩⟩ [] st []
      else .error (71,p)
def goS (cs ds : List ByteArray) : List PK → List ST → Nd → List ByteArray → List ByteArray → List Nd → Say
  | .nm::ks,y::ys,x,nms,st,acc=>if mH y.last.word then goS cs ds ks ys x (nms++[y.last.word]) st acc else .error (71,y.last.pos)
  | .nu :: ks, y :: ys, x, nms, st, acc =>
    match vW y.last.word with
    | some n=>if v0A x.k n then goS cs ds ks ys ⟨x.k,(n:Int),x.m,x.s⟩ nms st acc else .error (71,y.last.pos)
    | none=>.error (71,y.last.pos)
  | .da :: ks, y :: ys, x, nms, st, acc =>
    if mH y.last.word then(if yJ ds y.last.word then goS cs ds ks ys ⟨x.k,x.n,x.m,y.last.word⟩ nms st acc else .error (80,y.last.pos)) else .error (71,y.last.pos)
  | .te w :: ks, y :: ys, x, nms, st, acc =>
    match aG cs ds y (if w then st else st++nms) with
    | .ok t=>goS cs ds ks ys x (if w then nms else []) st (acc++t)
    | .error e=>.error e
  | _,_,x,_,_,acc=>.ok (acc++[x])
end
def qN(l:List UInt8):List UInt8 :=
 if l=[119,46,46] then [46,118,46] else if l=[118,46,46,118,118,46,46] then [118,46,46,86,46,46] else if l=[46,118,118,46,46,46,46] then [46,86,46,46,46,46] else l
def jF(l:List UInt8):List UInt8:=if l=[46,118,46] then [118,58,46] else l
def pO : List UInt8 → Nat
  | []=>0
  | c::l=>(if c=42 then 0 else if c=86 then 2 else 1)+pO l
def rY(l:List UInt8):Bool:=l.any (· == 42)
def sM (k : Nat) : List UInt8 → List UInt8
  | []=>[]
  | c::l=>(if c=42 then List.replicate k 46 else if c=86 then [86,87] else [c])++sM k l
def sG(l:List UInt8)(n:Nat):Option (List UInt8):=if n < pO l∨(pO l < n∧rY l=false) then none else some (sM (n - pO l) l)
def tC : List UInt8 → List PK
  | []=>[]
  | c::l=>(if c=118∨c=86∨c=87 then .nm else if c=110 then .nu else if c=100 then .da else .te (c==58))::tC l
theorem tOA(a b:List UInt8):tC (a++b)=tC a++tC b:=by
 induction a with
 | nil=>rfl
 | cons c l ih=>simp[tC,ih]
theorem eDA(k:Nat)(r:List UInt8):uB false (List.replicate k 42++r)=List.replicate k (.te false)++uB false r:=by
 induction k with
 | zero=>rfl
 | succ k ih=>simp[List.replicate_succ,uB,ih]
theorem vAA(k:Nat):tC (List.replicate k 46)=List.replicate k (.te false):=by
 induction k with
 | zero=>rfl
 | succ k ih=>simp[List.replicate_succ,tC,ih]
theorem nAA{parts:List UInt8}(h:parts.all (· != 42)=true)(n:Nat):yA parts n=parts:=by
 unfold yA;generalize parts.length=m
 induction parts with
 | nil=>rfl
 | cons c l ih =>
   simp only[List.all_cons,Bool.and_eq_true]at h;rw[List.flatMap_cons,ih h.2,if_neg (by simpa using h.1)];rfl
theorem sTA{l:List UInt8}(h:l.all (· != 42)=true)(k:Nat):sM k l=sM 0 l:=by
 induction l with
 | nil=>rfl
 | cons c l ih =>
   simp only[List.all_cons,Bool.and_eq_true]at h;have hc:c≠42:=by simpa using h.1
   simp[sM,ih h.2,hc]
def z0A(parts:List UInt8):Bool :=
 parts.all (· != 42)&&((jF (qN parts)).all (· != 42)&&(pO (jF (qN parts))==parts.length&&(!rY (jF (qN parts))&&(sM 0 (jF (qN parts))).length==parts.length)))
theorem oUA{parts:List UInt8}(h:z0A parts=true)(hk:tC (sM 0 (jF (qN parts)))=uB false parts)(n:Nat) :
 (sG (jF (qN parts)) n=none∧(yA parts n).length≠n)∨∃ l,sG (jF (qN parts)) n=some l∧(yA parts n).length=n∧l.length=n∧tC l=uB false (yA parts n):=by
 unfold z0A at h;simp only[Bool.and_eq_true,beq_iff_eq,Bool.not_eq_true']at h;obtain⟨h1,h2,h3,h4,h5⟩:=h;rw[nAA h1];unfold sG;rw[h3,h4];by_cases hn:n=parts.length
 · right
   rw[if_neg (by omega),sTA h2];exact⟨_,rfl,hn.symm,by rw[h5,hn],hk⟩
 · left
   refine⟨?_,fun e=>hn e.symm⟩;rw[if_pos];rcases Nat.lt_or_gt_of_ne hn with h | h
   · exact .inl h
   · exact .inr ⟨h,rfl⟩
theorem yMA{w parts:List UInt8}{k m:Int}(h:(w,k,m,parts)∈formT)(n:Nat) :
 (sG (jF (qN parts)) n=none∧(yA parts n).length≠n)∨∃ l,sG (jF (qN parts)) n=some l∧(yA parts n).length=n∧l.length=n∧tC l=uB false (yA parts n):=by
 simp only[formT,List.mem_cons,List.not_mem_nil,or_false,Prod.mk.injEq]at h;have con:(sG (jF (qN [100,110,42])) n=none∧(yA [100,110,42] n).length≠n)∨∃ l,sG (jF (qN [100,110,42])) n=some l∧(yA [100,110,42] n).length=n∧l.length=n∧tC l=uB false (yA [100,110,42] n):=by
  have e1:jF (qN [100,110,42])=[100,110,42]:=by decide
  have e2:yA [100,110,42] n=[100,110]++List.replicate (n - 2) 42:=by simp[yA]
  have e3:pO [100,110,42]=2:=by decide
  have e4:rY [100,110,42]=true:=by decide
  rw[e1,e2];unfold sG;rw[e3,e4];by_cases hn:n < 2
  · left
    rw[if_pos (.inl hn)];refine⟨rfl,?_⟩;simp;omega
  · right
    rw[if_neg (by simp;omega)];refine⟨_,rfl,by simp;omega,by simp[sM];omega,?_⟩;have:=eDA (n - 2) [];rw[List.append_nil]at this;simp[sM,tC,uB,this,vAA]
 have elim:(sG (jF (qN [100,118,46,42,46])) n=none∧(yA [100,118,46,42,46] n).length≠n)∨∃ l,sG (jF (qN [100,118,46,42,46])) n=some l∧(yA [100,118,46,42,46] n).length=n∧l.length=n∧tC l=uB false (yA [100,118,46,42,46] n):=by
  have e1:jF (qN [100,118,46,42,46])=[100,118,46,42,46]:=by decide
  have e2:yA [100,118,46,42,46] n=[100,118,46]++(List.replicate (n - 4) 42++[46]):=by simp[yA]
  have e3:pO [100,118,46,42,46]=4:=by decide
  have e4:rY [100,118,46,42,46]=true:=by decide
  rw[e1,e2];unfold sG;rw[e3,e4];by_cases hn:n < 4
  · left
    rw[if_pos (.inl hn)];refine⟨rfl,?_⟩;simp;omega
  · right
    rw[if_neg (by simp;omega)];refine⟨_,rfl,by simp;omega,by simp[sM];omega,?_⟩;simp[sM,tC,uB,eDA,tOA,vAA]
 rcases h with⟨rfl,rfl,rfl,rfl⟩ | ⟨rfl,rfl,rfl,rfl⟩ | ⟨rfl,rfl,rfl,rfl⟩ | ⟨rfl,rfl,rfl,rfl⟩ | ⟨rfl,rfl,rfl,rfl⟩ | ⟨rfl,rfl,rfl,rfl⟩ | ⟨rfl,rfl,rfl,rfl⟩ | ⟨rfl,rfl,rfl,rfl⟩ | ⟨rfl,rfl,rfl,rfl⟩ | ⟨rfl,rfl,rfl,rfl⟩ | ⟨rfl,rfl,rfl,rfl⟩ | ⟨rfl,rfl,rfl,rfl⟩ | ⟨rfl,rfl,rfl,rfl⟩ | ⟨rfl,rfl,rfl,rfl⟩ | ⟨rfl,rfl,rfl,rfl⟩ | ⟨rfl,rfl,rfl,rfl⟩ | ⟨rfl,rfl,rfl,rfl⟩ | ⟨rfl,rfl,rfl,rfl⟩ | ⟨rfl,rfl,rfl,rfl⟩ | ⟨rfl,rfl,rfl,rfl⟩ | ⟨rfl,rfl,rfl,rfl⟩ | ⟨rfl,rfl,rfl,rfl⟩ | ⟨rfl,rfl,rfl,rfl⟩ | ⟨rfl,rfl,rfl,rfl⟩ | ⟨rfl,rfl,rfl,rfl⟩ | ⟨rfl,rfl,rfl,rfl⟩ | ⟨rfl,rfl,rfl,rfl⟩ | ⟨rfl,rfl,rfl,rfl⟩
 all_goals first
  | exact con
  | exact elim
  | exact oUA (by decide) (by rfl) n
theorem uGA {w : List UInt8} {y : Int × Int × List UInt8} : ∀ {l : List (List UInt8 × Int × Int × List UInt8)}, kY w l = some y → (w, y) ∈ l
  | (x, z) :: l, h => by
    unfold kY at h
    split at h
    · rename_i e
      cases h;rw[e];exact List.mem_cons_self ..
    · exact List.mem_cons_of_mem _ (uGA h)
theorem q8{s:ByteArray}{k m:Int}{parts:List UInt8}(h:uM s=some (k,m,parts)):(s.data.toList,k,m,parts)∈formT:=uGA h
end Go.Lx
namespace Go.Lx
open Go.RowKit
structure Ch (C:Nat→Prop) (w w':World):Prop where
 os:w'.os=w.os
 output:w'.output=w.output
 size:w.heap.size≤w'.heap.size
 block:∀ b,b < w.heap.size→¬ C b→w'.heap[b]? = w.heap[b]?
theorem Ch.refl{C:Nat→Prop}(w:World):Ch C w w:=⟨rfl,rfl,Nat.le_refl _,fun _ _ _=>rfl⟩
theorem Ch.of_under{C:Nat→Prop}{w w':World}(h:Under w w'):Ch C w w':=⟨h.os,h.output,h.size,fun b hb _=>h.low b hb⟩
theorem Ch.trans{C D:Nat→Prop}{a b c:World}(h:Ch C a b)(k:Ch D b c)(hD:∀ i,i < a.heap.size→D i→C i):Ch C a c :=
 ⟨k.os.trans h.os,k.output.trans h.output,Nat.le_trans h.size k.size,fun i hi hc=>(k.block i (Nat.lt_of_lt_of_le hi h.size) (fun hd=>hc (hD i hi hd))).trans (h.block i hi hc)⟩
theorem Ch.under{C:Nat→Prop}{a b c:World}(h:Ch C a b)(k:Under b c):Ch C a c:=h.trans (Ch.of_under (C:=fun _=>False) k) fun _ _ h=>h.elim
theorem Ch.weak{C D:Nat→Prop}{a b:World}(h:Ch C a b)(k:∀ i,i < a.heap.size→C i→D i):Ch D a b:=⟨h.os,h.output,h.size,fun i hi hc=>h.block i hi fun hd=>hc (k i hi hd)⟩
theorem Ch.set{C:Nat→Prop}{a b:World}(h:Ch C a b){g:Nat}(hg:g < a.heap.size→C g)(j:Nat)(u:Value):Ch C a (b.setCell ⟨g,j,none⟩ u) :=
 ⟨h.os,h.output,by rw[pJ];exact h.size,fun i hi hc=>(heap_set b _ u i (by show i≠g;intro e;subst e;exact hc (hg hi))).trans (h.block i hi hc)⟩
theorem Ch.turned{C:Nat→Prop}{a b c:World}(h:Ch C a b){r:Option Nat}(k:Turned r b c)(hr:∀ g,r=some g→g < a.heap.size→C g):Ch C a c :=
 ⟨k.os.trans h.os,k.output.trans h.output,Nat.le_trans h.size k.size,fun i hi hc=>(k.block i (Nat.lt_of_lt_of_le hi h.size) (fun e=>hc (hr i e.symm hi))).trans (h.block i hi hc)⟩
theorem Ch.grown{C:Nat→Prop}{a b c:World}(h:Ch C a b){r:Option Nat}(k:b.grownBy c r)(hr:∀ g,r=some g→g < a.heap.size→C g):Ch C a c :=
 ⟨k.os.trans h.os,k.output.trans h.output,Nat.le_trans h.size k.size,fun i hi hc=>(k.block i (Nat.lt_of_lt_of_le hi h.size) (fun e=>hc (hr i e.symm hi))).trans (h.block i hi hc)⟩
theorem mI{C:Nat→Prop}{w w':World}{b:Nat}{t:TypeId}{cs:Array Value}(h:BoxAt w b t cs)(k:Ch C w w')(hc:¬ C b):BoxAt w' b t cs:=(k.block b h.lt hc).trans h
theorem bQ{C:Nat→Prop}{w w':World}{base:Nat}{e:TypeId}{s n:Nat}{v:Value}{xs:List Value}(h:w.ownsRow base e s v n xs)(k:Ch C w w')(hc:∀ g,v.ownBlock=some g→¬ C g):w'.ownsRow base e s v n xs:=by
 refine⟨h.1,?_⟩;rcases h.2 with hn | ⟨g,cap,cur,rfl,hb,hgg,rest⟩
 · exact .inl hn
 · exact .inr ⟨g,cap,cur,rfl,hb,by rw[k.block g (Array.getElem?_eq_some_iff.1 hgg).1 (hc g rfl)];exact hgg,rest⟩
theorem iW{w:World}{b:Nat}{t e:TypeId}{cs:Array Value}{base s n:Nat}{v:Value}{xs:List Value}(h:BoxAt w b t cs)(k:w.ownsRow base e s v n xs)(hne:e≠t):v.ownBlock≠some b:=by
 rcases k.2 with⟨rfl,_⟩ | ⟨g,cap,cur,rfl,_,hg,_⟩
 · simp[Value.ownBlock]
 · intro e0; obtain rfl : g = b := by simpa [Value.ownBlock] using e0
   unfold BoxAt at h;rw[h]at hg
   cases hg;exact hne rfl
theorem dFA{w:World}{b:Nat}{e:TypeId}{ks:zH}{base s n:Nat}{v:Value}{xs:List Value}(h:MapAt w b ks)(k:w.ownsRow base e s v n xs):v.ownBlock≠some b:=by
 obtain⟨es,cl,hb,_⟩:=h;rcases k.2 with⟨rfl,_⟩ | ⟨g,cap,cur,rfl,_,hg,_⟩
 · simp[Value.ownBlock]
 · intro e0; obtain rfl : g = b := by simpa [Value.ownBlock] using e0
   rw[hb]at hg
   cases hg
theorem eG{w:World}{a b:Nat}{t t':TypeId}{cs ds:Array Value}(h:BoxAt w a t cs)(k:BoxAt w b t' ds)(hne:t≠t'):a≠b:=by
 rintro rfl;unfold BoxAt at h k;rw[h]at k
 cases k;exact hne rfl
theorem aR{w:World}{a b:Nat}{t:TypeId}{cs:Array Value}{ks:zH}(h:BoxAt w a t cs)(k:MapAt w b ks):a≠b:=by
 rintro rfl;obtain⟨es,cl,hb,_⟩:=k;unfold BoxAt at h;rw[h]at hb
 cases hb
theorem kE{W0 w:World}{C:Nat→Prop}{w':World}(h:Under W0 w)(k:Ch C w w')(hC:∀ b,C b→W0.heap.size≤b):Under W0 w' :=
 ⟨k.os.trans h.os,k.output.trans h.output,Nat.le_trans h.size k.size,fun b hb=>(k.block b (Nat.lt_of_lt_of_le hb h.size) fun hc=>by have:=hC b hc;omega).trans (h.low b hb)⟩
end Go.Lx
namespace Go.Lx
def re(w:World)(τ:Nat→Question→Nat)(d:Nat):World:={ w with tape:=τ,drawn:=d }
def Agree(τ:Nat→Question→Nat)(d:Nat)(τ':Nat→Question→Nat)(d' c:Nat):Prop:=∀ i,i < c→∀ q,τ' (d'+i) q=τ (d+i) q
theorem Agree.head{τ τ':Nat→Question→Nat}{d d' c:Nat}(h:Agree τ d τ' d' (1+c))(q:Question):τ' d' q=τ d q:=by simpa using h 0 (by omega) q
theorem Agree.tail{τ τ':Nat→Question→Nat}{d d' c:Nat}(h:Agree τ d τ' d' (1+c)):Agree τ (d+1) τ' (d'+1) c:=fun i hi q=>by
 have:=h (1+i) (by omega) q
 rwa [← Nat.add_assoc,← Nat.add_assoc]at this
theorem Agree.left{τ τ':Nat→Question→Nat}{d d' a b:Nat}(h:Agree τ d τ' d' (a+b)):Agree τ d τ' d' a:=fun i hi q=>h i (by omega) q
theorem Agree.right{τ τ':Nat→Question→Nat}{d d' a b:Nat}(h:Agree τ d τ' d' (a+b)):Agree τ (d+a) τ' (d'+a) b:=fun i hi q=>by
 have:=h (a+i) (by omega) q
 rwa [← Nat.add_assoc,← Nat.add_assoc]at this
def reR{α:Type}(r:Result α)(τ:Nat→Question→Nat)(d:Nat):Result α :=
 match r with
 | .ok a w=>.ok a (re w τ d)
 | .halt h w=>.halt h (re w τ d)
def wOf {α : Type} : Result α → World
  | .ok _ w=>w
  | .halt _ w=>w
theorem z3A{α:Type}(a:Ask α):∀(w:World),∃ c,(w.ask a).2.drawn=w.drawn+c∧(w.ask a).2.tape=w.tape ∧
 ∀ τ d,Agree w.tape w.drawn τ d c→(re w τ d).ask a=((w.ask a).1,re (w.ask a).2 τ (d+c)):=by
 induction a with
 | done a=>exact fun w=>⟨0,rfl,rfl,fun τ d _=>rfl⟩
 | ask what range k ih =>
   intro w;by_cases hf:(Question.extern what range).forced=true
   · obtain ⟨c, h1, h2, h3⟩ := ih 0 w; refine ⟨c, ?_, ?_, fun τ d ha => ?_⟩
     · simpa only[World.ask,hf,if_true] using h1
     · simpa only[World.ask,hf,if_true] using h2
     · simpa only[World.ask,hf,if_true] using h3 τ d ha
   · simp only [Bool.not_eq_true] at hf; obtain ⟨c, h1, h2, h3⟩ := ih ((Question.extern what range).cut (w.tape w.drawn (Question.extern what range))) { w with drawn := w.drawn + 1 }; refine ⟨1 + c, ?_, ?_, fun τ d ha => ?_⟩
     · simp only[World.ask,hf,Bool.false_eq_true,if_false];rw[h1];show w.drawn+1+c=_;omega
     · simp only[World.ask,hf,Bool.false_eq_true,if_false];exact h2
     · have e:=ha.head (Question.extern what range);have:=h3 τ (d+1) ha.tail;simp only[World.ask,hf,Bool.false_eq_true,if_false];rw[show(re w τ d).tape (re w τ d).drawn (Question.extern what range)=w.tape w.drawn (Question.extern what range) from e];rw[show({ re w τ d with drawn:=(re w τ d).drawn+1 }:World)=re { w with drawn:=w.drawn+1 } τ (d+1) from rfl];rw[this,Nat.add_assoc]
theorem p4A(cl:Sys)(w:World):(w.sys cl).1 = .wouldBlock∨∃ c,(w.sys cl).2.drawn=w.drawn+c∧(w.sys cl).2.tape=w.tape ∧
 ∀ τ d,Agree w.tape w.drawn τ d c→(re w τ d).sys cl=((w.sys cl).1,re (w.sys cl).2 τ (d+c)):=by
 obtain⟨c,h1,h2,h3⟩:=z3A (Kernel.perform cl w.os) w;generalize ha:w.ask (Kernel.perform cl w.os)=x at h1 h2 h3;obtain⟨⟨r,os⟩,w'⟩:=x;by_cases hr:r = .wouldBlock
 · subst hr
   left
   simp only[World.sys,ha]
 · right
   have e:∀(v:World),v.ask (Kernel.perform cl v.os)=((r,os),w')→v.sys cl=(r,{ w' with os }):=by
    intro v hv;simp only[World.sys,hv]
   refine⟨c,?_,?_,fun τ d hag=>?_⟩
   · rw[e w ha];exact h1
   · rw[e w ha];exact h2
   · have h := h3 τ d hag; rw [e w ha]; simp only [World.sys]; rw [show (re w τ d).os = w.os from rfl, h]
     split
     · rename_i h';simp only[Prod.mk.injEq]at h';exact absurd h'.1.1 hr
     · rename_i h';simp only[Prod.mk.injEq]at h';obtain⟨⟨rfl,rfl⟩,rfl⟩:=h';rfl
def rV : Halt → Prop
  | .blocked | .waiting | .stuck _ | .unsupported _=>True
  | _=>False
def calm : Halt → Prop
  | .fatal _=>False
  | _=>True
def dead : Halt → Prop
  | .stuck _ | .unsupported (.noEntry _)=>True
  | _=>False
def Safe (P : Program) {α : Type} (φ : α → Prop) : Nat → Sem α → Prop
  | d,.pure a=>d=0∧φ a
  | d,.load _ _ k=>∀ v,Safe P φ d (k v)
  | d,.store _ _ _ k=>Safe P φ d k
  | d,.new _ k=>∀ r,Safe P φ d (k r)
  | d,.shape _ k=>∀ s,Safe P φ d (k s)
  | d,.freeze _ _ k=>Safe P φ d k
  | d,.frozen _ k=>∀ b,Safe P φ d (k b)
  | d,.getObj _ k=>∀ o,Safe P φ d (k o)
  | d,.setObj _ _ k=>Safe P φ d k
  | d,.choose _ k=>∀ n,Safe P φ d (k n)
  | d,.sys _ k=>(∃ h,dead h∧k .wouldBlock = .halt h)∧∀ r,Safe P φ d (k r)
  | d,.program k=>Safe P φ d (k P)
  | d, .mark m k => match m with
    | .disable=>Safe P φ (d+1) k
    | .enable=>0 < d∧Safe P φ (d - 1) k
    | _=>Safe P φ d k
  | d,.halt h=>calm h∧(d=0∨rV h)
def cJA(P:Program){α:Type}(s:Sem α)(w:World)(es:Array Event):Prop :=
 ∃ c,(wOf (s.runT P w es).1).drawn=w.drawn+c∧(wOf (s.runT P w es).1).tape=w.tape ∧
  ∀ τ d,Agree w.tape w.drawn τ d c→s.runT P (re w τ d) es=(reR (s.runT P w es).1 τ (d+c),(s.runT P w es).2)
def dZ{α:Type}(r:Result α):Prop:=∃ h w',dead h∧r = .halt h w'
theorem eFA(P:Program)(w:World)(τ:Nat→Question→Nat)(d:Nat)(a:Addr)(b:Bool):(re w τ d).farLoad P a b=w.farLoad P a b:=rfl
theorem rIA(P:Program)(w:World)(τ:Nat→Question→Nat)(d:Nat)(at_:Addr)(u:TypeId)(a:Addr)(v:Value)(b:Bool) :
 (re w τ d).viewStore P at_ u a v b=(w.viewStore P at_ u a v b).map fun x=>(re x.1 τ d,x.2):=by
 unfold World.viewStore;rw[show(re w τ d).seen P at_ u a b=w.seen P at_ u a b from rfl];simp only[bind,Except.bind,pure,Except.pure]
 repeat' (first | rfl | split)
theorem aU(P:Program)(w:World)(τ:Nat→Question→Nat)(d:Nat)(a:Addr)(v:Value)(b:Bool) :
 (re w τ d).farStore P a v b=(w.farStore P a v b).map fun x=>(re x.1 τ d,x.2):=by
 unfold World.farStore;rw[show(re w τ d).heap=w.heap from rfl]
 cases w.heap[a.block]? with
 | none=>rfl
 | some o =>
   cases o with
   | view at_ u =>
     simp only[rIA]
     cases w.viewStore P at_ u a v b<;>rfl
   | _=>rfl
theorem dGA{P:Program}{w w':World}{a:Addr}{v:Value}{b:Bool}{t:List Addr}(h:w.farStore P a v b = .ok (w',t)):w'.drawn=w.drawn∧w'.tape=w.tape:=by
 have e:=aU P w w.tape w.drawn a v b;rw[show re w w.tape w.drawn=w from rfl,h]at e;simp only[Except.map,Except.ok.injEq,Prod.mk.injEq]at e;have:=e.1;exact⟨by rw[this];rfl,by rw[this];rfl⟩
theorem jWA{P:Program}{α:Type}{φ:α→Prop}(s:Sem α):∀(d:Nat),Safe P φ d s→∀(w:World) (es:Array Event),dZ (s.runT P w es).1∨cJA P s w es:=by
 induction s with
 | pure a=>exact fun _ _ w es=>.inr ⟨0,rfl,rfl,fun τ d _=>rfl⟩
 | halt h=>exact fun _ _ w es=>.inr ⟨0,rfl,rfl,fun τ d _=>rfl⟩
 | load m a k ih =>
   intro d hs w es
   cases hc:w.cell? a with
   | some v =>
     have e:∀ τ d,(re w τ d).cell? a=some v:=fun _ _=>hc
     have:=ih v d (hs v) w (es.push ⟨.cell a,false,m == .atomic⟩)
     simpa only[cJA,Sem.runT,hc,e] using this
   | none =>
     have e:∀ τ d,(re w τ d).cell? a=none:=fun _ _=>hc
     cases hf:w.farLoad P a (m == .atomic) with
     | ok x =>
       obtain⟨v,t⟩:=x;have:=ih v d (hs v) w (es++t.toArray.map (⟨.cell ·,false,m == .atomic⟩))
       simpa only[cJA,Sem.runT,hc,e,eFA,hf] using this
     | error h =>
       right
       exact⟨0,by simp only[Sem.runT,hc,hf];rfl,by simp only[Sem.runT,hc,hf];rfl,fun τ d _=>by simp only[Sem.runT,hc,e,eFA,hf];rfl⟩
 | store m a v k ih =>
   intro d hs w es;by_cases hv:(∃ x,v = .agg x)∨∃ x,v = .tuple x
   · right
     rcases hv with⟨x,rfl⟩ | ⟨x,rfl⟩<;>exact⟨0,rfl,rfl,fun τ d _=>rfl⟩
   · have e0 : ∀ (w : World), (Sem.store m a v k).runT P w es = match w.cell? a with
         | some _ =>
           if w.frozen? a then (.halt (.unsupported (.unsafePointer "a write to bytes that a string shares")) w, es)
           else k.runT P (w.setCell a v) (es.push ⟨.cell a,true,m == .atomic⟩)
         | none => match w.farStore P a v (m == .atomic) with
           | .ok (w,touched)=>k.runT P w (es++touched.toArray.map (⟨.cell ·,true,m == .atomic⟩))
           | .error h=>(.halt h w,es):=by
       intro w
       cases v<;>first | rfl | exact absurd (.inl ⟨_,rfl⟩) hv | exact absurd (.inr ⟨_,rfl⟩) hv
     cases hc:w.cell? a with
     | some x =>
       have e:∀ τ d,(re w τ d).cell? a=some x:=fun _ _=>hc
       cases hz:w.frozen? a with
       | true =>
         have ez:∀ τ d,(re w τ d).frozen? a=true:=fun _ _=>hz
         right
         exact⟨0,by simp only[e0,hc,hz,if_true];rfl,by simp only[e0,hc,hz,if_true];rfl,fun τ d _=>by simp only[e0,hc,e,hz,ez,if_true];rfl⟩
       | false =>
         have ez:∀ τ d,(re w τ d).frozen? a=false:=fun _ _=>hz
         have:=ih d hs (w.setCell a v) (es.push ⟨.cell a,true,m == .atomic⟩);simp only[cJA,e0,hc,e,hz,ez,Bool.false_eq_true,if_false];exact this
     | none =>
       have e:∀ τ d,(re w τ d).cell? a=none:=fun _ _=>hc
       cases hf:w.farStore P a v (m == .atomic) with
       | ok x =>
         obtain⟨w',t⟩:=x;have ef:∀ τ d,(re w τ d).farStore P a v (m == .atomic) = .ok (re w' τ d,t):=fun τ d=>by rw[aU,hf];rfl
         obtain⟨q1,q2⟩:=dGA hf;have:=ih d hs w' (es++t.toArray.map (⟨.cell ·,true,m == .atomic⟩));simp only[cJA,e0,hc,e,hf,ef]at this ⊢;rw[q1,q2]at this;exact this
       | error h =>
         have ef:∀ τ d,(re w τ d).farStore P a v (m == .atomic) = .error h:=fun τ d=>by rw[aU,hf];rfl
         right
         exact⟨0,by simp only[e0,hc,hf];rfl,by simp only[e0,hc,hf];rfl,fun τ d _=>by simp only[e0,hc,e,hf,ef];rfl⟩
 | new o k ih => 
   intro d hs w es;exact ih w.heap.size d (hs _) { w with heap:=w.heap.push o } es
 | shape r k ih=>intro d hs w es;exact ih (w.shape? r) d (hs _) w es
 | freeze a n k ih => 
   intro d hs w es;have:=ih d hs (w.freeze a n) es;have e:∀ τ d,(re w τ d).freeze a n=re (w.freeze a n) τ d:=fun τ d=>by unfold World.freeze;split<;>rfl
   have e1:(w.freeze a n).drawn=w.drawn:=by unfold World.freeze;split<;>rfl
   have e2:(w.freeze a n).tape=w.tape:=by unfold World.freeze;split<;>rfl
   simp only[cJA,Sem.runT,e]at this ⊢;rw[e1,e2]at this;exact this
 | frozen a k ih=>intro d hs w es;exact ih (w.frozen? a) d (hs _) w es
 | getObj r k ih =>
   intro d hs w es
   cases hr:w.heap[r]? with
   | none =>
     have e:∀ τ d,(re w τ d).heap[r]? = none:=fun _ _=>hr
     right
     exact⟨0,by simp only[Sem.runT,hr];rfl,by simp only[Sem.runT,hr];rfl,fun τ d _=>by simp only[Sem.runT,hr,e];rfl⟩
   | some o =>
     have e:∀ τ d,(re w τ d).heap[r]? = some o:=fun _ _=>hr
     by_cases hc:∃ c e f,o = .cells c e f
     · obtain ⟨c, e', f, rfl⟩ := hc
       right
       exact⟨0,by simp only[Sem.runT,hr];rfl,by simp only[Sem.runT,hr];rfl,fun τ d _=>by simp only[Sem.runT,hr,e];rfl⟩
     · have := ih o d (hs o) w (es.push ⟨.obj r, false, o.isChan⟩); have e0 : ∀ (w : World), w.heap[r]? = some o → (Sem.getObj r k).runT P w es = (k o).runT P w (es.push ⟨.obj r, false, o.isChan⟩) := by
        intro w hw;simp only[Sem.runT,hw]
        cases o<;>first | rfl | exact absurd ⟨_,_,_,rfl⟩ hc
       simp only[cJA,e0 w hr,e0 _ (e _ _)];exact this
 | setObj r o k ih =>
   intro d hs w es
   cases hr:w.heap[r]? with
   | none =>
     have e:∀ τ d,(re w τ d).heap[r]? = none:=fun _ _=>hr
     right
     exact⟨0,by simp only[Sem.runT,hr];rfl,by simp only[Sem.runT,hr];rfl,fun τ d _=>by simp only[Sem.runT,hr,e];rfl⟩
   | some o' =>
     have e:∀ τ d,(re w τ d).heap[r]? = some o':=fun _ _=>hr
     by_cases hc:∃ c e f,o' = .cells c e f
     · obtain ⟨c, e', f, rfl⟩ := hc
       right
       exact⟨0,by simp only[Sem.runT,hr];rfl,by simp only[Sem.runT,hr];rfl,fun τ d _=>by simp only[Sem.runT,hr,e];rfl⟩
     · have := ih d hs { w with heap := w.heap.setIfInBounds r o } (es.push ⟨.obj r, true, o.isChan⟩); have e0 : ∀ (w : World), w.heap[r]? = some o' → (Sem.setObj r o k).runT P w es = k.runT P { w with heap := w.heap.setIfInBounds r o } (es.push ⟨.obj r, true, o.isChan⟩) := by
        intro w hw;simp only[Sem.runT,hw]
        cases o'<;>first | rfl | exact absurd ⟨_,_,_,rfl⟩ hc
       simp only[cJA,e0 w hr,e0 _ (e _ _)];exact this
 | choose q k ih =>
   intro d hs w es;by_cases hf:q.forced=true
   · have := ih 0 d (hs 0) w es
     simpa only[cJA,Sem.runT,hf,if_true] using this
   · simp only [Bool.not_eq_true] at hf; rcases ih (q.cut (w.tape w.drawn q)) d (hs _) { w with drawn := w.drawn + 1 } es with h | ⟨c, h1, h2, h3⟩
     · left
       simpa only[Sem.runT,hf,Bool.false_eq_true,if_false] using h
     · right
       refine⟨1+c,?_,?_,fun τ d ha=>?_⟩
       · simp only[Sem.runT,hf,Bool.false_eq_true,if_false];rw[h1];show w.drawn+1+c=_;omega
       · simp only[Sem.runT,hf,Bool.false_eq_true,if_false];exact h2
       · have e:=ha.head q;have:=h3 τ (d+1) ha.tail;simp only[Sem.runT,hf,Bool.false_eq_true,if_false];rw[show(re w τ d).tape (re w τ d).drawn q=w.tape w.drawn q from e];rw[show({ re w τ d with drawn:=(re w τ d).drawn+1 }:World)=re { w with drawn:=w.drawn+1 } τ (d+1) from rfl];rw[this,Nat.add_assoc]
 | sys c k ih =>
   intro d hs w es;obtain⟨⟨x,hd,hx⟩,hk⟩:=hs;rcases p4A c w with hb | ⟨n,h1,h2,h3⟩
   · left
     refine⟨x,(w.sys c).2,hd,?_⟩;simp only[Sem.runT];rw[hb,hx];rfl
   · rcases ih (w.sys c).1 d (hk _) (w.sys c).2 (es.push ⟨.output, true, false⟩) with h | ⟨n', g1, g2, g3⟩
     · left;simpa only[Sem.runT] using h
     · right
       refine⟨n+n',?_,?_,fun τ d ha=>?_⟩
       · simp only[Sem.runT];rw[g1,h1];omega
       · simp only[Sem.runT];rw[g2,h2]
       · simp only[Sem.runT];rw[h3 τ d ha.left];have:=g3 τ (d+n) (by rw[h1,h2];exact ha.right);rw[this,Nat.add_assoc]
 | program k ih=>intro d hs w es;exact ih P d hs w es
 | mark m k ih =>
   intro d hs w es;have:∃ d',Safe P φ d' k:=by
    cases m with
    | disable=>exact⟨_,hs⟩
    | enable=>exact⟨_,hs.2⟩
    | _=>exact⟨_,hs⟩
   obtain⟨d',h'⟩:=this;exact ih d' h' w (es.push ⟨.mark m,false,true⟩)
end Go.Lx
