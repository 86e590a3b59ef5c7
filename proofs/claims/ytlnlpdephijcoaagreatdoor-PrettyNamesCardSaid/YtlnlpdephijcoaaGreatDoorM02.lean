/- Part 2 of what the proof rests on. -/
import Derived.Lib.ItoaLen
import GoSem.ClaimLeaving
import Derived.Test.YtlnlpdephijcoaaGreatDoorM00
import Derived.Test.YtlnlpdephijcoaaGreatDoorM01
set_option linter.unusedSimpArgs false
set_option linter.unusedVariables false
namespace Go.Lx
open Go.RowKit
def cYA(l:List UInt8):Nat:=l.foldl (fun n c=>n * 10+(c.toNat - 48)) 0
theorem e1A(l:List UInt8)(c:UInt8):cYA (l++[c])=cYA l * 10+(c.toNat - 48):=by unfold cYA;rw[List.foldl_append];rfl
theorem oIA(d:Nat)(h:d < 10):(UInt8.ofNat (48+d)).toNat - 48=d:=by
 rw[UInt8.toNat_ofNat'];omega
theorem oOA(n:Nat):cYA (Lib.decDigits n)=n:=by
 induction n using Nat.strongRecOn with
 | ind n ih =>
   rw[Lib.decDigits]
   split
   · rename_i h;have:=oIA n h;unfold cYA;simp only[List.foldl_cons,List.foldl_nil];omega
   · rename_i h;rw[e1A,ih (n / 10) (by omega),oIA _ (by omega)];omega
theorem lX{a b:Nat}(h:Lib.decDigits a=Lib.decDigits b):a=b:=by
 have:=congrArg cYA h
 rwa [oOA,oOA]at this
def bC(k:Nat):ByteArray:=⟨#[120]++(Lib.decDigits k).toArray⟩
theorem eHA(k:Nat):(bC k).toList=120::Lib.decDigits k:=by rw[ByteArray.toList_eq];simp[bC]
theorem kWA{a b:Nat}(h:(bC a).toList=(bC b).toList):a=b:=by
 rw[eHA,eHA,List.cons.injEq]at h;exact lX h.2
def rD(ss:List ByteArray)(s:ByteArray):Bool:=ss.any fun x=>x.toList==s.toList
theorem mHA(a b:List ByteArray)(s:ByteArray):rD (a++b) s=(rD a s||rD b s):=by simp[rD]
theorem cNA : ∀ (n : Nat) (ss : List ByteArray), ss.length ≤ n → ∀ d : Nat, ∃ k, d ≤ k ∧ k ≤ d + n ∧ rD ss (bC k) = false
  | 0, ss, h, d => ⟨d, Nat.le_refl _, Nat.le_refl _, by
      have:ss=[]:=List.eq_nil_of_length_eq_zero (by omega);subst this;rfl⟩
  | n + 1, ss, h, d => by
    cases hd:rD ss (bC d)
    · exact⟨d,Nat.le_refl _,by omega,hd⟩
    · have hlen : (ss.filter fun x => !(x.toList == (bC d).toList)).length ≤ n := by
        unfold rD at hd;rw[List.any_eq_true]at hd;obtain⟨x,hx,he⟩:=hd;have h1:(ss.filter fun x => !(x.toList==(bC d).toList)).length < ss.length:=by
         rcases Nat.lt_or_ge (ss.filter fun x => !(x.toList==(bC d).toList)).length ss.length with h | h
         · exact h
         · have:=List.length_filter_le (fun x:ByteArray => !(x.toList==(bC d).toList)) ss;have h2:=(List.length_filter_eq_length_iff (p:=fun x:ByteArray => !(x.toList==(bC d).toList)) (l:=ss)).1 (by omega) x hx;simp[he]at h2
        omega
      obtain⟨k,k1,k2,k3⟩:=cNA n _ hlen (d+1);refine⟨k,by omega,by omega,?_⟩;unfold rD at *;rw[List.any_eq_false]at *;intro x hx he;by_cases hxd:x.toList=(bC d).toList
      · have hk:(bC d).toList=(bC k).toList:=hxd.symm.trans (by simpa using he);have:=kWA hk;omega
      · exact k3 x (List.mem_filter.2 ⟨hx,by simpa using hxd⟩) he
def mK (ss : List ByteArray) : Nat → Nat → Nat
  | 0,d=>d
  | f+1,d=>if rD ss (bC d)=true then mK ss f (d+1) else d
theorem pV (ss : List ByteArray) : ∀ (f d k : Nat), d ≤ k → k ≤ d + f → rD ss (bC k) = false → d ≤ mK ss f d ∧ mK ss f d ≤ k ∧ rD ss (bC (mK ss f d)) = false ∧ ∀ j, d ≤ j → j < mK ss f d → rD ss (bC j) = true
  | 0, d, k, h1, h2, h3 => by
    obtain rfl:k=d:=by omega
    exact⟨Nat.le_refl _,Nat.le_refl _,h3,fun j h4 h5=>absurd h5 (by simp only[mK];omega)⟩
  | f + 1, d, k, h1, h2, h3 => by
    unfold mK
    split
    · rename_i hd; have hne : k ≠ d := by rintro rfl; rw [hd] at h3; cases h3
      obtain⟨g1,g2,g3,g4⟩:=pV ss f (d+1) k (by omega) (by omega) h3;refine⟨by omega,g2,g3,fun j h4 h5=>?_⟩;rcases Nat.lt_or_ge d j with h | h
      · exact g4 j (by omega) h5
      · obtain rfl : j = d := by omega
        exact hd
    · rename_i hd;exact⟨Nat.le_refl _,h1,by simpa using hd,fun j h4 h5=>absurd h5 (by omega)⟩
def oD(ss:List ByteArray)(d:Nat):Nat:=mK ss ss.length d
theorem qI(ss:List ByteArray)(d:Nat):d≤oD ss d∧oD ss d≤d+ss.length∧rD ss (bC (oD ss d))=false∧∀ j,d≤j→j < oD ss d→rD ss (bC j)=true:=by
 obtain⟨k,h1,h2,h3⟩:=cNA ss.length ss (Nat.le_refl _) d;obtain⟨g1,g2,g3,g4⟩:=pV ss ss.length d k h1 h2 h3;exact⟨g1,by unfold oD;omega,g3,g4⟩
theorem kZA{ss:List ByteArray}{d k:Nat}(h1:d≤k)(h2:rD ss (bC k)=false)(h3:∀ j,d≤j→j < k→rD ss (bC j)=true):oD ss d=k:=by
 obtain⟨g1,g2,g3,g4⟩:=qI ss d;rcases Nat.lt_trichotomy (oD ss d) k with h | h | h
 · rw[h3 _ g1 h]at g3;cases g3
 · exact h
 · rw[g4 k h1 h]at h2;cases h2
end Go.Lx
namespace Go.Lx
def formT:List (List UInt8×Int×Int×List UInt8):=[([84,121,112,101],2,0,[110]),([108,97,109],4,0,[119,46,46]),([97,112,112],5,0,[46,46]),([112,97,105,114],7,0,[46,46,46]),([102,115,116],8,0,[46]),([115,110,100],9,0,[46]),([115,117,99],12,0,[46]),([112,114,102],28,0,[46]),([114,101,99],13,0,[118,46,46,118,118,46,46]),([97,98,111,114,116],15,0,[46,46]),([101,113],18,0,[46,46,46]),([114,101,102,108],19,0,[46,46]),([99,97,115,116],20,0,[46,46,46,46]),([116,114,97,110,115,112],21,0,[46,46,118,46,46,46,46]),([113,117,111,116],22,0,[46,118,118,46,46,46,46]),([99,108,97,115,115],23,0,[46,46]),([113,101,108,105,109],24,0,[46,118,46,46,46]),([100,97,116,97],25,0,[100]),([99,111,110],26,0,[100,110,42]),([101,108,105,109],27,0,[100,118,46,42,46]),([112,105],3,0,[119,46,46]),([115,105,103],6,0,[119,46,46]),([112,105,49],3,1,[119,46,46]),([115,105,103,49],6,1,[119,46,46]),([112,105,50],3,2,[119,46,46]),([115,105,103,50],6,2,[119,46,46]),([112,105,51],3,3,[119,46,46]),([115,105,103,51],6,3,[119,46,46])]
def leafT:List (List UInt8×Int):=[([80,114,111,112],2),([78,97,116],10),([122,101,114,111],11),([69,109,112,116,121],14),([85,110,105,116],16),([115,116,97,114],17),([116,105,99,107],29)]
def pX (w : List UInt8) : List (List UInt8 × Int × Int × List UInt8) → Option (Int × Int × List UInt8)
  | []=>none
  | (x,y)::l=>if w=x then some y else pX w l
def mCA (w : List UInt8) : List (List UInt8 × Int) → Option Int
  | []=>none
  | (x,y)::l=>if w=x then some y else mCA w l
def gN(s:ByteArray):Option (Int×Int×List UInt8):=pX s.data.toList formT
def zN(s:ByteArray):Option Int:=mCA s.data.toList leafT
def kwW(s:ByteArray):Bool:=(gN s).isSome||(zN s).isSome
inductive PK where
 | nm
 | nu
 | da
 | te (wait:Bool)
def yB(parts:List UInt8)(n:Nat):List UInt8:=parts.flatMap fun c=>if c=42 then List.replicate (n+1 - parts.length) c else [c]
def dC : Bool → List UInt8 → List PK
  | _,[]=>[]
  | w,c::l=>if c=118 then .nm::dC false l else if c=119 then .nm::dC true l else if c=110 then .nu::dC w l else if c=100 then .da::dC w l else .te w::dC false l
abbrev Say:=Except (Int×Int) (List Nd)
def jQ(st:List ByteArray)(s:ByteArray):Option Nat:=st.reverse.findIdx? fun x=>x.toList==s.toList
def nameK(s:ByteArray):Bool:=qD s && !kwW s
def lK(cs:List ByteArray)(p:Int)(s:ByteArray)(st:List ByteArray):Say :=
 match zN s with
 | some k=>.ok [⟨k,0,0,⟨#[]⟩⟩]
 | none => if nameK s then
     match jQ st s with
     | some i=>if 99 < i then .error (2,p) else .ok [⟨0,(i:Int),0,⟨#[]⟩⟩]
     | none=>if rD cs s then .ok [⟨1,0,0,s⟩] else .error (80,p)
   else .error (71,p)
def rDA(s:ByteArray):Option Nat:=(List.range 100).find? fun n=>s.data.toList==Lib.decDigits n
def zUA(k:Int)(n:Nat):Bool:=if k=26 then n < 6 else(1≤n&&n≤9)
mutual
def pJ (cs ds : List ByteArray) : ST → List ByteArray → Say
  | .word p s,st=>lK cs p s st
  | .list p l,st=>iK cs ds p l st
def iK (cs ds : List ByteArray) (p : Int) : List ST → List ByteArray → Say
  | [],_=>.error (71,p)
  | h :: l, st =>
    match gN h.last.word with
    | none=>.error (71,p)
    | some (k, n, parts) =>
      if(yB parts l.length).length=l.length∧((k=26∨k=27)→l.length+1 - parts.length≤6) then
       goS cs ds (dC false (yB parts l.length)) l ⟨k,n,if k=26∨k=27 then((l.length+1 - parts.length:Nat):Int) else 0,⟨#[]⟩⟩ [] st []
      else .error (71,p)
def goS (cs ds : List ByteArray) : List PK → List ST → Nd → List ByteArray → List ByteArray → List Nd → Say
  | .nm::ks,y::ys,x,nms,st,acc=>if nameK y.last.word then goS cs ds ks ys x (nms++[y.last.word]) st acc else .error (71,y.last.pos)
  | .nu :: ks, y :: ys, x, nms, st, acc =>
    match rDA y.last.word with
    | some n=>if zUA x.k n then goS cs ds ks ys ⟨x.k,(n:Int),x.m,x.s⟩ nms st acc else .error (71,y.last.pos)
    | none=>.error (71,y.last.pos)
  | .da :: ks, y :: ys, x, nms, st, acc =>
    if nameK y.last.word then(if rD ds y.last.word then goS cs ds ks ys ⟨x.k,x.n,x.m,y.last.word⟩ nms st acc else .error (80,y.last.pos)) else .error (71,y.last.pos)
  | .te w :: ks, y :: ys, x, nms, st, acc =>
    match pJ cs ds y (if w then st else st++nms) with
    | .ok t=>goS cs ds ks ys x (if w then nms else []) st (acc++t)
    | .error e=>.error e
  | _,_,x,_,_,acc=>.ok (acc++[x])
end
theorem bFA(k:Nat)(r:List UInt8):dC false (List.replicate k 42++r)=List.replicate k (.te false)++dC false r:=by
 induction k with
 | zero=>rfl
 | succ k ih=>simp[List.replicate_succ,dC,ih]
theorem lOA{parts:List UInt8}(h:parts.all (· != 42)=true)(n:Nat):yB parts n=parts:=by
 unfold yB;generalize parts.length=m
 induction parts with
 | nil=>rfl
 | cons c l ih =>
   simp only[List.all_cons,Bool.and_eq_true]at h;rw[List.flatMap_cons,ih h.2,if_neg (by simpa using h.1)];rfl
theorem eKA {w : List UInt8} {y : Int × Int × List UInt8} : ∀ {l : List (List UInt8 × Int × Int × List UInt8)}, pX w l = some y → (w, y) ∈ l
  | (x, z) :: l, h => by
    unfold pX at h
    split at h
    · rename_i e
      cases h;rw[e];exact List.mem_cons_self ..
    · exact List.mem_cons_of_mem _ (eKA h)
theorem a0A{s:ByteArray}{k m:Int}{parts:List UInt8}(h:gN s=some (k,m,parts)):(s.data.toList,k,m,parts)∈formT:=eKA h
end Go.Lx
namespace Go.Lx
open Go.RowKit
structure Ch (C:Nat→Prop) (w w':World):Prop where
 os:w'.os=w.os
 output:w'.output=w.output
 size:w.heap.size≤w'.heap.size
 block:∀ b,b < w.heap.size→¬ C b→w'.heap[b]? = w.heap[b]?
theorem Ch.refl{C:Nat→Prop}(w:World):Ch C w w:=⟨rfl,rfl,Nat.le_refl _,fun _ _ _=>rfl⟩
theorem Ch.of_under{C:Nat→Prop}{w w':World}(h:Under w w'):Ch C w w':=⟨h.os,h.output,h.size,fun b hb _=>h.low b hb⟩
theorem Ch.trans{C D:Nat→Prop}{a b c:World}(h:Ch C a b)(k:Ch D b c)(hD:∀ i,i < a.heap.size→D i→C i):Ch C a c :=
 ⟨k.os.trans h.os,k.output.trans h.output,Nat.le_trans h.size k.size,fun i hi hc=>(k.block i (Nat.lt_of_lt_of_le hi h.size) (fun hd=>hc (hD i hi hd))).trans (h.block i hi hc)⟩
theorem Ch.under{C:Nat→Prop}{a b c:World}(h:Ch C a b)(k:Under b c):Ch C a c:=h.trans (Ch.of_under (C:=fun _=>False) k) fun _ _ h=>h.elim
theorem Ch.weak{C D:Nat→Prop}{a b:World}(h:Ch C a b)(k:∀ i,i < a.heap.size→C i→D i):Ch D a b:=⟨h.os,h.output,h.size,fun i hi hc=>h.block i hi fun hd=>hc (k i hi hd)⟩
theorem Ch.set{C:Nat→Prop}{a b:World}(h:Ch C a b){g:Nat}(hg:g < a.heap.size→C g)(j:Nat)(u:Value):Ch C a (b.setCell ⟨g,j,none⟩ u) :=
 ⟨h.os,h.output,by rw[q8];exact h.size,fun i hi hc=>(heap_set b _ u i (by show i≠g;intro e;subst e;exact hc (hg hi))).trans (h.block i hi hc)⟩
theorem Ch.turned{C:Nat→Prop}{a b c:World}(h:Ch C a b){r:Option Nat}(k:Turned r b c)(hr:∀ g,r=some g→g < a.heap.size→C g):Ch C a c :=
 ⟨k.os.trans h.os,k.output.trans h.output,Nat.le_trans h.size k.size,fun i hi hc=>(k.block i (Nat.lt_of_lt_of_le hi h.size) (fun e=>hc (hr i e.symm hi))).trans (h.block i hi hc)⟩
theorem Ch.grown{C:Nat→Prop}{a b c:World}(h:Ch C a b){r:Option Nat}(k:b.grownBy c r)(hr:∀ g,r=some g→g < a.heap.size→C g):Ch C a c :=
 ⟨k.os.trans h.os,k.output.trans h.output,Nat.le_trans h.size k.size,fun i hi hc=>(k.block i (Nat.lt_of_lt_of_le hi h.size) (fun e=>hc (hr i e.symm hi))).trans (h.block i hi hc)⟩
theorem pF{C:Nat→Prop}{w w':World}{b:Nat}{t:TypeId}{cs:Array Value}(h:BoxAt w b t cs)(k:Ch C w w')(hc:¬ C b):BoxAt w' b t cs:=(k.block b h.lt hc).trans h
theorem fK{C:Nat→Prop}{w w':World}{base:Nat}{e:TypeId}{s n:Nat}{v:Value}{xs:List Value}(h:w.ownsRow base e s v n xs)(k:Ch C w w')(hc:∀ g,v.ownBlock=some g→¬ C g):w'.ownsRow base e s v n xs:=by
 refine⟨h.1,?_⟩;rcases h.2 with hn | ⟨g,cap,cur,rfl,hb,hgg,rest⟩
 · exact .inl hn
 · exact .inr ⟨g,cap,cur,rfl,hb,by rw[k.block g (Array.getElem?_eq_some_iff.1 hgg).1 (hc g rfl)];exact hgg,rest⟩
theorem jC{w:World}{b:Nat}{t e:TypeId}{cs:Array Value}{base s n:Nat}{v:Value}{xs:List Value}(h:BoxAt w b t cs)(k:w.ownsRow base e s v n xs)(hne:e≠t):v.ownBlock≠some b:=by
 rcases k.2 with⟨rfl,_⟩ | ⟨g,cap,cur,rfl,_,hg,_⟩
 · simp[Value.ownBlock]
 · intro e0; obtain rfl : g = b := by simpa [Value.ownBlock] using e0
   unfold BoxAt at h;rw[h]at hg
   cases hg;exact hne rfl
theorem nI{w:World}{b:Nat}{e:TypeId}{ks:lD}{base s n:Nat}{v:Value}{xs:List Value}(h:MapAt w b ks)(k:w.ownsRow base e s v n xs):v.ownBlock≠some b:=by
 obtain⟨es,cl,hb,_⟩:=h;rcases k.2 with⟨rfl,_⟩ | ⟨g,cap,cur,rfl,_,hg,_⟩
 · simp[Value.ownBlock]
 · intro e0; obtain rfl : g = b := by simpa [Value.ownBlock] using e0
   rw[hb]at hg
   cases hg
theorem uI{w:World}{a b:Nat}{t t':TypeId}{cs ds:Array Value}(h:BoxAt w a t cs)(k:BoxAt w b t' ds)(hne:t≠t'):a≠b:=by
 rintro rfl;unfold BoxAt at h k;rw[h]at k
 cases k;exact hne rfl
theorem xI{w:World}{a b:Nat}{t:TypeId}{cs:Array Value}{ks:lD}(h:BoxAt w a t cs)(k:MapAt w b ks):a≠b:=by
 rintro rfl;obtain⟨es,cl,hb,_⟩:=k;unfold BoxAt at h;rw[h]at hb
 cases hb
theorem zK{W0 w:World}{C:Nat→Prop}{w':World}(h:Under W0 w)(k:Ch C w w')(hC:∀ b,C b→W0.heap.size≤b):Under W0 w' :=
 ⟨k.os.trans h.os,k.output.trans h.output,Nat.le_trans h.size k.size,fun b hb=>(k.block b (Nat.lt_of_lt_of_le hb h.size) fun hc=>by have:=hC b hc;omega).trans (h.low b hb)⟩
end Go.Lx
namespace Go.Lx
def re(w:World)(τ:Nat→Question→Nat)(d:Nat):World:={ w with tape:=τ,drawn:=d }
def Agree(τ:Nat→Question→Nat)(d:Nat)(τ':Nat→Question→Nat)(d' c:Nat):Prop:=∀ i,i < c→∀ q,τ' (d'+i) q=τ (d+i) q
theorem Agree.head{τ τ':Nat→Question→Nat}{d d' c:Nat}(h:Agree τ d τ' d' (1+c))(q:Question):τ' d' q=τ d q:=by simpa using h 0 (by omega) q
theorem Agree.tail{τ τ':Nat→Question→Nat}{d d' c:Nat}(h:Agree τ d τ' d' (1+c)):Agree τ (d+1) τ' (d'+1) c:=fun i hi q=>by
 have:=h (1+i) (by omega) q
 rwa [← Nat.add_assoc,← Nat.add_assoc]at this
theorem Agree.left{τ τ':Nat→Question→Nat}{d d' a b:Nat}(h:Agree τ d τ' d' (a+b)):Agree τ d τ' d' a:=fun i hi q=>h i (by omega) q
theorem Agree.right{τ τ':Nat→Question→Nat}{d d' a b:Nat}(h:Agree τ d τ' d' (a+b)):Agree τ (d+a) τ' (d'+a) b:=fun i hi q=>by
 have:=h (a+i) (by omega) q
 rwa [← Nat.add_assoc,← Nat.add_assoc]at this
def reR{α:Type}(r:Result α)(τ:Nat→Question→Nat)(d:Nat):Result α :=
 match r with
 | .ok a w=>.ok a (re w τ d)
 | .halt h w=>.halt h (re w τ d)
def wOf {α : Type} : Result α → World
  | .ok _ w=>w
  | .halt _ w=>w
theorem i7A{α:Type}(a:Ask α):∀(w:World),∃ c,(w.ask a).2.drawn=w.drawn+c∧(w.ask a).2.tape=w.tape ∧
 ∀ τ d,Agree w.tape w.drawn τ d c→(re w τ d).ask a=((w.ask a).1,re (w.ask a).2 τ (d+c)):=by
 induction a with
 | done a=>exact fun w=>⟨0,rfl,rfl,fun τ d _=>rfl⟩
 | ask what range k ih =>
   intro w;by_cases hf:(Question.extern what range).forced=true
   · obtain ⟨c, h1, h2, h3⟩ := ih 0 w; refine ⟨c, ?_, ?_, fun τ d ha => ?_⟩
     · simpa only[World.ask,hf,if_true] using h1
     · simpa only[World.ask,hf,if_true] using h2
     · simpa only[World.ask,hf,if_true] using h3 τ d ha
   · simp only [Bool.not_eq_true] at hf; obtain ⟨c, h1, h2, h3⟩ := ih ((Question.extern what range).cut (w.tape w.drawn (Question.extern what range))) { w with drawn := w.drawn + 1 }; refine ⟨1 + c, ?_, ?_, fun τ d ha => ?_⟩
     · simp only[World.ask,hf,Bool.false_eq_true,if_false];rw[h1];show w.drawn+1+c=_;omega
     · simp only[World.ask,hf,Bool.false_eq_true,if_false];exact h2
     · have e:=ha.head (Question.extern what range);have:=h3 τ (d+1) ha.tail;simp only[World.ask,hf,Bool.false_eq_true,if_false];rw[show(re w τ d).tape (re w τ d).drawn (Question.extern what range)=w.tape w.drawn (Question.extern what range) from e];rw[show({ re w τ d with drawn:=(re w τ d).drawn+1 }:World)=re { w with drawn:=w.drawn+1 } τ (d+1) from rfl];rw[this,Nat.add_assoc]
theorem q8A(cl:Sys)(w:World):(w.sys cl).1 = .wouldBlock∨∃ c,(w.sys cl).2.drawn=w.drawn+c∧(w.sys cl).2.tape=w.tape ∧
 ∀ τ d,Agree w.tape w.drawn τ d c→(re w τ d).sys cl=((w.sys cl).1,re (w.sys cl).2 τ (d+c)):=by
 obtain⟨c,h1,h2,h3⟩:=i7A (Kernel.perform cl w.os) w;generalize ha:w.ask (Kernel.perform cl w.os)=x at h1 h2 h3;obtain⟨⟨r,os⟩,w'⟩:=x;by_cases hr:r = .wouldBlock
 · subst hr
   left
   simp only[World.sys,ha]
 · right
   have e:∀(v:World),v.ask (Kernel.perform cl v.os)=((r,os),w')→v.sys cl=(r,{ w' with os }):=by
    intro v hv;simp only[World.sys,hv]
   refine⟨c,?_,?_,fun τ d hag=>?_⟩
   · rw[e w ha];exact h1
   · rw[e w ha];exact h2
   · have h := h3 τ d hag; rw [e w ha]; simp only [World.sys]; rw [show (re w τ d).os = w.os from rfl, h]
     split
     · rename_i h';simp only[Prod.mk.injEq]at h';exact absurd h'.1.1 hr
     · rename_i h';simp only[Prod.mk.injEq]at h';obtain⟨⟨rfl,rfl⟩,rfl⟩:=h';rfl
def uY : Halt → Prop
  | .blocked | .waiting | .stuck _ | .unsupported _=>True
  | _=>False
def calm : Halt → Prop
  | .fatal _=>False
  | _=>True
def dead : Halt → Prop
  | .stuck _ | .unsupported (.noEntry _)=>True
  | _=>False
def Safe (P : Program) {α : Type} (φ : α → Prop) : Nat → Sem α → Prop
  | d,.pure a=>d=0∧φ a
  | d,.load _ _ k=>∀ v,Safe P φ d (k v)
  | d,.store _ _ _ k=>Safe P φ d k
  | d,.new _ k=>∀ r,Safe P φ d (k r)
  | d,.shape _ k=>∀ s,Safe P φ d (k s)
  | d,.freeze _ _ k=>Safe P φ d k
  | d,.frozen _ k=>∀ b,Safe P φ d (k b)
  | d,.getObj _ k=>∀ o,Safe P φ d (k o)
  | d,.setObj _ _ k=>Safe P φ d k
  | d,.choose _ k=>∀ n,Safe P φ d (k n)
  | d,.sys _ k=>(∃ h,dead h∧k .wouldBlock = .halt h)∧∀ r,Safe P φ d (k r)
  | d,.program k=>Safe P φ d (k P)
  | d, .mark m k => match m with
    | .disable=>Safe P φ (d+1) k
    | .enable=>0 < d∧Safe P φ (d - 1) k
    | _=>Safe P φ d k
  | d,.halt h=>calm h∧(d=0∨uY h)
def cLA(P:Program){α:Type}(s:Sem α)(w:World)(es:Array Event):Prop :=
 ∃ c,(wOf (s.runT P w es).1).drawn=w.drawn+c∧(wOf (s.runT P w es).1).tape=w.tape ∧
  ∀ τ d,Agree w.tape w.drawn τ d c→s.runT P (re w τ d) es=(reR (s.runT P w es).1 τ (d+c),(s.runT P w es).2)
def bZ{α:Type}(r:Result α):Prop:=∃ h w',dead h∧r = .halt h w'
theorem rEA(P:Program)(w:World)(τ:Nat→Question→Nat)(d:Nat)(a:Addr)(b:Bool):(re w τ d).farLoad P a b=w.farLoad P a b:=rfl
theorem oKA(P:Program)(w:World)(τ:Nat→Question→Nat)(d:Nat)(at_:Addr)(u:TypeId)(a:Addr)(v:Value)(b:Bool) :
 (re w τ d).viewStore P at_ u a v b=(w.viewStore P at_ u a v b).map fun x=>(re x.1 τ d,x.2):=by
 unfold World.viewStore;rw[show(re w τ d).seen P at_ u a b=w.seen P at_ u a b from rfl];simp only[bind,Except.bind,pure,Except.pure]
 repeat' (first | rfl | split)
theorem sV(P:Program)(w:World)(τ:Nat→Question→Nat)(d:Nat)(a:Addr)(v:Value)(b:Bool) :
 (re w τ d).farStore P a v b=(w.farStore P a v b).map fun x=>(re x.1 τ d,x.2):=by
 unfold World.farStore;rw[show(re w τ d).heap=w.heap from rfl]
 cases w.heap[a.block]? with
 | none=>rfl
 | some o =>
   cases o with
   | view at_ u =>
     simp only[oKA]
     cases w.viewStore P at_ u a v b<;>rfl
   | _=>rfl
theorem aIA{P:Program}{w w':World}{a:Addr}{v:Value}{b:Bool}{t:List Addr}(h:w.farStore P a v b = .ok (w',t)):w'.drawn=w.drawn∧w'.tape=w.tape:=by
 have e:=sV P w w.tape w.drawn a v b;rw[show re w w.tape w.drawn=w from rfl,h]at e;simp only[Except.map,Except.ok.injEq,Prod.mk.injEq]at e;have:=e.1;exact⟨by rw[this];rfl,by rw[this];rfl⟩
theorem f2A{P:Program}{α:Type}{φ:α→Prop}(s:Sem α):∀(d:Nat),Safe P φ d s→∀(w:World) (es:Array Event),bZ (s.runT P w es).1∨cLA P s w es:=by
 induction s with
 | pure a=>exact fun _ _ w es=>.inr ⟨0,rfl,rfl,fun τ d _=>rfl⟩
 | halt h=>exact fun _ _ w es=>.inr ⟨0,rfl,rfl,fun τ d _=>rfl⟩
 | load m a k ih =>
   intro d hs w es
   cases hc:w.cell? a with
   | some v =>
     have e:∀ τ d,(re w τ d).cell? a=some v:=fun _ _=>hc
     have:=ih v d (hs v) w (es.push ⟨.cell a,false,m == .atomic⟩)
     simpa only[cLA,Sem.runT,hc,e] using this
   | none =>
     have e:∀ τ d,(re w τ d).cell? a=none:=fun _ _=>hc
     cases hf:w.farLoad P a (m == .atomic) with
     | ok x =>
       obtain⟨v,t⟩:=x;have:=ih v d (hs v) w (es++t.toArray.map (⟨.cell ·,false,m == .atomic⟩))
       simpa only[cLA,Sem.runT,hc,e,rEA,hf] using this
     | error h =>
       right
       exact⟨0,by simp only[Sem.runT,hc,hf];rfl,by simp only[Sem.runT,hc,hf];rfl,fun τ d _=>by simp only[Sem.runT,hc,e,rEA,hf];rfl⟩
 | store m a v k ih =>
   intro d hs w es;by_cases hv:(∃ x,v = .agg x)∨∃ x,v = .tuple x
   · right
     rcases hv with⟨x,rfl⟩ | ⟨x,rfl⟩<;>exact⟨0,rfl,rfl,fun τ d _=>rfl⟩
   · have e0 : ∀ (w : World), (Sem.store m a v k).runT P w es = match w.cell? a with
         | some _ =>
           if w.frozen? a then (.halt (.unsupported (.unsafePointer "a write to bytes that a string shares")) w, es)
           else k.runT P (w.setCell a v) (es.push ⟨.cell a,true,m == .atomic⟩)
         | none => match w.farStore P a v (m == .atomic) with
           | .ok (w,touched)=>k.runT P w (es++touched.toArray.map (⟨.cell ·,true,m == .atomic⟩))
           | .error h=>(.halt h w,es):=by
       intro w
       cases v<;>first | rfl | exact absurd (.inl ⟨_,rfl⟩) hv | exact absurd (.inr ⟨_,rfl⟩) hv
     cases hc:w.cell? a with
     | some x =>
       have e:∀ τ d,(re w τ d).cell? a=some x:=fun _ _=>hc
       cases hz:w.frozen? a with
       | true =>
         have ez:∀ τ d,(re w τ d).frozen? a=true:=fun _ _=>hz
         right
         exact⟨0,by simp only[e0,hc,hz,if_true];rfl,by simp only[e0,hc,hz,if_true];rfl,fun τ d _=>by simp only[e0,hc,e,hz,ez,if_true];rfl⟩
       | false =>
         have ez:∀ τ d,(re w τ d).frozen? a=false:=fun _ _=>hz
         have:=ih d hs (w.setCell a v) (es.push ⟨.cell a,true,m == .atomic⟩);simp only[cLA,e0,hc,e,hz,ez,Bool.false_eq_true,if_false];exact this
     | none =>
       have e:∀ τ d,(re w τ d).cell? a=none:=fun _ _=>hc
       cases hf:w.farStore P a v (m == .atomic) with
       | ok x =>
         obtain⟨w',t⟩:=x;have ef:∀ τ d,(re w τ d).farStore P a v (m == .atomic) = .ok (re w' τ d,t):=fun τ d=>by rw[sV,hf];rfl
         obtain⟨q1,q2⟩:=aIA hf;have:=ih d hs w' (es++t.toArray.map (⟨.cell ·,true,m == .atomic⟩));simp only[cLA,e0,hc,e,hf,ef]at this ⊢;rw[q1,q2]at this;exact this
       | error h =>
         have ef:∀ τ d,(re w τ d).farStore P a v (m == .atomic) = .error h:=fun τ d=>by rw[sV,hf];rfl
         right
         exact⟨0,by simp only[e0,hc,hf];rfl,by simp only[e0,hc,hf];rfl,fun τ d _=>by simp only[e0,hc,e,hf,ef];rfl⟩
 | new o k ih => 
   intro d hs w es;exact ih w.heap.size d (hs _) { w with heap:=w.heap.push o } es
 | shape r k ih=>intro d hs w es;exact ih (w.shape? r) d (hs _) w es
 | freeze a n k ih => 
   intro d hs w es;have:=ih d hs (w.freeze a n) es;have e:∀ τ d,(re w τ d).freeze a n=re (w.freeze a n) τ d:=fun τ d=>by unfold World.freeze;split<;>rfl
   have e1:(w.freeze a n).drawn=w.drawn:=by unfold World.freeze;split<;>rfl
   have e2:(w.freeze a n).tape=w.tape:=by unfold World.freeze;split<;>rfl
   simp only[cLA,Sem.runT,e]at this ⊢;rw[e1,e2]at this;exact this
 | frozen a k ih=>intro d hs w es;exact ih (w.frozen? a) d (hs _) w es
 | getObj r k ih =>
   intro d hs w es
   cases hr:w.heap[r]? with
   | none =>
     have e:∀ τ d,(re w τ d).heap[r]? = none:=fun _ _=>hr
     right
     exact⟨0,by simp only[Sem.runT,hr];rfl,by simp only[Sem.runT,hr];rfl,fun τ d _=>by simp only[Sem.runT,hr,e];rfl⟩
   | some o =>
     have e:∀ τ d,(re w τ d).heap[r]? = some o:=fun _ _=>hr
     by_cases hc:∃ c e f,o = .cells c e f
     · obtain ⟨c, e', f, rfl⟩ := hc
       right
       exact⟨0,by simp only[Sem.runT,hr];rfl,by simp only[Sem.runT,hr];rfl,fun τ d _=>by simp only[Sem.runT,hr,e];rfl⟩
     · have := ih o d (hs o) w (es.push ⟨.obj r, false, o.isChan⟩); have e0 : ∀ (w : World), w.heap[r]? = some o → (Sem.getObj r k).runT P w es = (k o).runT P w (es.push ⟨.obj r, false, o.isChan⟩) := by
        intro w hw;simp only[Sem.runT,hw]
        cases o<;>first | rfl | exact absurd ⟨_,_,_,rfl⟩ hc
       simp only[cLA,e0 w hr,e0 _ (e _ _)];exact this
 | setObj r o k ih =>
   intro d hs w es
   cases hr:w.heap[r]? with
   | none =>
     have e:∀ τ d,(re w τ d).heap[r]? = none:=fun _ _=>hr
     right
     exact⟨0,by simp only[Sem.runT,hr];rfl,by simp only[Sem.runT,hr];rfl,fun τ d _=>by simp only[Sem.runT,hr,e];rfl⟩
   | some o' =>
     have e:∀ τ d,(re w τ d).heap[r]? = some o':=fun _ _=>hr
     by_cases hc:∃ c e f,o' = .cells c e f
     · obtain ⟨c, e', f, rfl⟩ := hc
       right
       exact⟨0,by simp only[Sem.runT,hr];rfl,by simp only[Sem.runT,hr];rfl,fun τ d _=>by simp only[Sem.runT,hr,e];rfl⟩
     · have := ih d hs { w with heap := w.heap.setIfInBounds r o } (es.push ⟨.obj r, true, o.isChan⟩); have e0 : ∀ (w : World), w.heap[r]? = some o' → (Sem.setObj r o k).runT P w es = k.runT P { w with heap := w.heap.setIfInBounds r o } (es.push ⟨.obj r, true, o.isChan⟩) := by
        intro w hw;simp only[Sem.runT,hw]
        cases o'<;>first | rfl | exact absurd ⟨_,_,_,rfl⟩ hc
       simp only[cLA,e0 w hr,e0 _ (e _ _)];exact this
 | choose q k ih =>
   intro d hs w es;by_cases hf:q.forced=true
   · have := ih 0 d (hs 0) w es
     simpa only[cLA,Sem.runT,hf,if_true] using this
   · simp only [Bool.not_eq_true] at hf; rcases ih (q.cut (w.tape w.drawn q)) d (hs _) { w with drawn := w.drawn + 1 } es with h | ⟨c, h1, h2, h3⟩
     · left
       simpa only[Sem.runT,hf,Bool.false_eq_true,if_false] using h
     · right
       refine⟨1+c,?_,?_,fun τ d ha=>?_⟩
       · simp only[Sem.runT,hf,Bool.false_eq_true,if_false];rw[h1];show w.drawn+1+c=_;omega
       · simp only[Sem.runT,hf,Bool.false_eq_true,if_false];exact h2
       · have e:=ha.head q;have:=h3 τ (d+1) ha.tail;simp only[Sem.runT,hf,Bool.false_eq_true,if_false];rw[show(re w τ d).tape (re w τ d).drawn q=w.tape w.drawn q from e];rw[show({ re w τ d with drawn:=(re w τ d).drawn+1 }:World)=re { w with drawn:=w.drawn+1 } τ (d+1) from rfl];rw[this,Nat.add_assoc]
 | sys c k ih =>
   intro d hs w es;obtain⟨⟨x,hd,hx⟩,hk⟩:=hs;rcases q8A c w with hb | ⟨n,h1,h2,h3⟩
   · left
     refine⟨x,(w.sys c).2,hd,?_⟩;simp only[Sem.runT];rw[hb,hx];rfl
   · rcases ih (w.sys c).1 d (hk _) (w.sys c).2 (es.push ⟨.output, true, false⟩) with h | ⟨n', g1, g2, g3⟩
     · left;simpa only[Sem.runT] using h
     · right
       refine⟨n+n',?_,?_,fun τ d ha=>?_⟩
       · simp only[Sem.runT];rw[g1,h1];omega
       · simp only[Sem.runT];rw[g2,h2]
       · simp only[Sem.runT];rw[h3 τ d ha.left];have:=g3 τ (d+n) (by rw[h1,h2];exact ha.right);rw[this,Nat.add_assoc]
 | program k ih=>intro d hs w es;exact ih P d hs w es
 | mark m k ih =>
   intro d hs w es;have:∃ d',Safe P φ d' k:=by
    cases m with
    | disable=>exact⟨_,hs⟩
    | enable=>exact⟨_,hs.2⟩
    | _=>exact⟨_,hs⟩
   obtain⟨d',h'⟩:=this;exact ih d' h' w (es.push ⟨.mark m,false,true⟩)
end Go.Lx
