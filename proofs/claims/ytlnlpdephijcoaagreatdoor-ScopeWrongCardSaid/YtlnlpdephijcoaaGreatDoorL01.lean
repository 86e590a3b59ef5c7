/- Part 1 of what the proof rests on. -/
import Derived.Laws.Strings
import Derived.Test.YtlnlpdephijcoaaGreatDoorL00
set_option linter.unusedSimpArgs false
set_option linter.unusedVariables false
namespace Go.Lx
open Go.RowKit
theorem dK{t:ByteArray}(h:t.size≠0):¬ t.toList=[]∧t.toList.isEmpty=false:=by
 have:t.toList.length≠0:=by rw[ByteArray.toList_eq];exact h
 constructor
 · intro e;rw[e]at this;exact this rfl
 · cases hl : t.toList with
   | nil=>rw[hl]at this;exact absurd rfl this
   | cons a l=>rfl
structure Sx where
 many:Int
 pos:Int
 word:ByteArray
def nC : List Sx → List Value
  | []=>[]
  | x::l=>.int .i64 x.many :: .int .i64 x.pos :: .string x.word::nC l
theorem tH(l r:List Sx):nC (l++r)=nC l++nC r:=by
 induction l with
 | nil=>rfl
 | cons x l ih=>simp[nC,ih]
theorem uH(l:List Sx):(nC l).length=l.length * 3:=by
 induction l with
 | nil=>rfl
 | cons x l ih=>simp[nC,ih];omega
def y9(x:Sx)(n:Nat):Prop:=0≤x.many∧(x.word.size≠0→x.many=0)∧x.many≤n
instance (x:Sx) (n:Nat):Decidable (y9 x n):=inferInstanceAs (Decidable (_∧_∧_))
def qI(x:Sx)(i:Nat)(st:List Nat):List Nat:=st.take (st.length - x.many.toNat)++[(st.drop (st.length - x.many.toNat)).headD i]
def fC : List Sx → Nat → List Nat → Option (List Nat)
  | [],_,st=>some st
  | x::l,i,st=>if y9 x st.length then fC l (i+1) (qI x i st) else none
section
variable {l : List Sx}
theorem oN(a b:List Sx):∀(i:Nat) (st:List Nat),fC (a++b) i st=(fC a i st).bind (fC b (i+a.length)):=by
 induction a with
 | nil=>intro i st;simp[fC]
 | cons x a ih =>
   intro i st;simp only[List.cons_append,fC]
   split
   · rw[ih];simp only[List.length_cons];rw[show i+1+a.length=i+(a.length+1) by omega]
   · rfl
def pre(l:List Sx)(k:Nat):Option (List Nat):=fC (l.take k) 0 []
theorem zLA:pre l 0=some []:=by simp[pre,fC]
theorem hMA{k:Nat}{x:Sx}(h:l[k]? = some x):pre l (k+1)=(pre l k).bind fun st=>if y9 x st.length then some (qI x k st) else none:=by
 have hk:k < l.length:=(List.getElem?_eq_some_iff.1 h).1;have hx:l[k]=x:=(List.getElem?_eq_some_iff.1 h).2;unfold pre;rw[List.take_succ_eq_append_getElem hk,oN,hx,List.length_take,Nat.min_eq_left (Nat.le_of_lt hk),Nat.zero_add];rfl
def Inc(st:List Nat)(i:Nat):Prop:=(st++[i]).Pairwise (· < ·)
theorem eXA{st:List Nat}{i:Nat}(x:Sx)(h:Inc st i):Inc (qI x i st) (i+1):=by
 unfold Inc at *;unfold qI;generalize hm:st.length - x.many.toNat=m;have hst:st=st.take m++st.drop m:=(List.take_append_drop m st).symm;generalize st.take m=s at *;generalize st.drop m=t at *;subst hst;simp only[List.pairwise_append,List.mem_append,List.mem_singleton,List.pairwise_cons,List.Pairwise.nil]at h ⊢;obtain⟨⟨h1,h2,h3⟩,h4,h5⟩:=h;have hh:t.headD i≤i∧∀ a∈s,a < t.headD i:=by
  cases t with
  | nil=>exact⟨Nat.le_refl _,fun a ha=>h5 a (.inl ha) i rfl⟩
  | cons y t=>exact⟨Nat.le_of_lt (h5 y (.inr (List.mem_cons_self ..)) i rfl),fun a ha=>h3 a ha y (List.mem_cons_self ..)⟩
 refine⟨⟨h1,⟨fun _ h=>by simp at h,trivial⟩,fun a ha b hb=>by rw[hb];exact hh.2 a ha⟩,⟨fun _ h=>by simp at h,trivial⟩,?_⟩;rintro a (ha | ha) b rfl
 · have:=h5 a (.inl ha) i rfl;omega
 · omega
theorem z5A:∀(l:List Sx) (i:Nat) (st s:List Nat),Inc st i→fC l i st=some s→Inc s (i+l.length):=by
 intro l
 induction l with
 | nil=>intro i st s h e;cases e;exact h
 | cons x l ih =>
   intro i st s h e;simp only[fC]at e
   split at e
   · have:=ih (i+1) _ s (eXA x h) e;rw[List.length_cons,show i+(l.length+1)=i+1+l.length by omega];exact this
   · cases e
theorem b1A(i:Nat):Inc [] i:=List.pairwise_singleton ..
def lJ (f : Nat → Option Nat) : Nat → Nat → Option Nat
  | 0,k=>some k
  | m+1,k=>match f k with | none=>none | some b=>lJ f m b
def hAA(x:Sx):Prop:=x.many < 0∨(x.word.size≠0∧x.many≠0)
instance (x:Sx):Decidable (hAA x):=inferInstanceAs (Decidable (_∨_))
def rbF (l : List Sx) : Nat → Nat → Option Nat
  | 0,_=>none
  | _+1,0=>none
  | fuel + 1, e + 1 => match l[e]? with
    | none=>none
    | some x=>if hAA x then none else lJ (rbF l fuel) x.many.toNat e
def rb(l:List Sx)(k:Nat):Option Nat:=rbF l k k
theorem vSA{f:Nat→Option Nat}(hf:∀ k b,f k=some b→b < k):∀ m k b,lJ f m k=some b→b≤k:=by
 intro m
 induction m with
 | zero=>intro k b h;cases h;exact Nat.le_refl _
 | succ m ih =>
   intro k b h;simp only[lJ]at h
   cases hk:f k with
   | none=>rw[hk]at h;cases h
   | some c=>rw[hk]at h;have:=ih c b h;have:=hf k c hk;omega
theorem wNA(l:List Sx):∀ fuel k b,rbF l fuel k=some b→b < k:=by
 intro fuel
 induction fuel with
 | zero=>intro k b h;cases h
 | succ fuel ih =>
   intro k b h
   cases k with
   | zero=>cases h
   | succ e =>
     simp only[rbF]at h
     split at h
     · cases h
     · split at h
       · cases h
       · have:=vSA ih _ _ _ h;omega
theorem gX{f g:Nat→Option Nat}(hf:∀ k b,f k=some b→b < k){e:Nat}(h:∀ k,k≤e→f k=g k):∀ m k,k≤e→lJ f m k=lJ g m k:=by
 intro m
 induction m with
 | zero=>intro k _;rfl
 | succ m ih =>
   intro k hk;simp only[lJ];rw[← h k hk]
   cases hc:f k with
   | none=>rfl
   | some c=>have:=hf k c hc;exact ih c (by omega)
theorem q6A(l:List Sx):∀ k fuel,k≤fuel→rbF l fuel k=rb l k:=by
 intro k
 induction k using Nat.strongRecOn with
 | _ k ih =>
   intro fuel hf
   cases k with
   | zero=>unfold rb;cases fuel<;>rfl
   | succ e =>
     obtain⟨f,rfl⟩:∃ f,fuel=f+1:=⟨fuel - 1,by omega⟩;simp only[rb,rbF]
     split
     · rfl
     · split
       · rfl
       · refine gX (wNA l f) (e:=e) (fun k hk=>?_) _ _ (Nat.le_refl _);rw[ih k (by omega) f (by omega),ih k (by omega) e hk]
theorem bSA(l:List Sx):rb l 0=none:=rfl
theorem sJA{e:Nat}{x:Sx}(h:l[e]? = some x):rb l (e+1)=if hAA x then none else lJ (rb l) x.many.toNat e:=by
 simp only[rb,rbF,h]
 split
 · rfl
 · exact gX (wNA l e) (fun k hk=>q6A l k e hk) _ _ (Nat.le_refl _)
theorem bFA{k b:Nat}(h:rb l k=some b):b < k:=wNA l k k b h
theorem xTA(x:Sx)(i:Nat)(s t:List Nat)(h:x.many.toNat=t.length):qI x i (s++t)=s++[t.headD i]:=by
 unfold qI;rw[h,List.length_append,Nat.add_sub_cancel,List.take_left,List.drop_left]
theorem cYA:∀ e,e < l.length→∀ b,rb l (e+1)=some b→∀ s,pre l b=some s→pre l (e+1)=some (s++[b]):=by
 intro e
 induction e using Nat.strongRecOn with
 | _ e ih =>
   intro he b hb s hs;obtain⟨x,hx⟩:∃ x,l[e]? = some x:=⟨_,List.getElem?_eq_getElem he⟩;rw[sJA hx]at hb
   split at hb
   · cases hb
   · rename_i hbad; have loop : ∀ m k b, k ≤ e → lJ (rb l) m k = some b → ∀ s, pre l b = some s → ∃ t : List Nat, t.length = m ∧ pre l k = some (s ++ t) ∧ t.headD k = b := by
      intro m
      induction m with
      | zero=>intro k b _ h s hs;cases h;exact⟨[],rfl,by simpa using hs,rfl⟩
      | succ m ihm =>
        intro k b hk h s hs;simp only[lJ]at h
        cases hc:rb l k with
        | none=>rw[hc]at h;cases h
        | some c =>
          rw[hc]at h;have hck:=bFA hc;obtain⟨t,h1,h2,h3⟩:=ihm c b (by omega) h s hs
          cases k with
          | zero=>rw[bSA]at hc;cases hc
          | succ k =>
            refine⟨t++[c],by simp[h1],?_,?_⟩
            · rw[← List.append_assoc];exact ih k (by omega) (by omega) c hc _ h2
            · rw [← h3]
              cases t<;>simp
     obtain⟨t,h1,h2,h3⟩:=loop _ _ _ (Nat.le_refl _) hb s hs;unfold hAA at hbad;rw[hMA hx,h2];simp only[Option.bind_some];rw[if_pos,xTA _ _ _ _ h1.symm,h3];refine⟨by omega,fun h=>?_,?_⟩
     · exact Decidable.byContradiction fun h'=>hbad (.inr ⟨h,h'⟩)
     · rw[List.length_append];omega
theorem wRA:∀ e,e < l.length→∀ st,pre l (e+1)=some st→∃ s b,st=s++[b]∧rb l (e+1)=some b∧pre l b=some s:=by
 intro e
 induction e using Nat.strongRecOn with
 | _ e ih =>
   intro he st hst;obtain⟨x,hx⟩:∃ x,l[e]? = some x:=⟨_,List.getElem?_eq_getElem he⟩;rw[hMA hx]at hst
   cases hp:pre l e with
   | none=>rw[hp]at hst;cases hst
   | some st0 =>
     rw[hp]at hst;simp only[Option.bind_some]at hst
     split at hst
     · rename_i hg
       cases hst;obtain⟨g1,g2,g3⟩:=hg;have loop:∀ n (t:List Nat),t.length=n→∀(s:List Nat) k,k≤e→pre l k=some (s++t)→lJ (rb l) n k=some (t.headD k)∧pre l (t.headD k)=some s:=by
        intro n
        induction n with
        | zero=>intro t ht s k hk h;cases List.length_eq_zero_iff.1 ht;exact⟨rfl,by simpa using h⟩
        | succ n ihn =>
          intro t ht s k hk h;obtain⟨t',c,rfl⟩:∃ t' c,t=t'++[c]:=⟨t.dropLast,t.getLast (by intro e;rw[e]at ht;cases ht),(List.dropLast_concat_getLast _).symm⟩
          cases k with
          | zero =>
            rw[zLA]at h;simp at h
          | succ k =>
            obtain⟨s',b,h1,h2,h3⟩:=ih k (by omega) (by omega) _ h;rw[← List.append_assoc]at h1;obtain⟨rfl,h1'⟩:=List.append_inj' h1 rfl
            cases h1';have hlt:=bFA h2;obtain⟨i1,i2⟩:=ihn t' (by simpa using ht) s c (by omega) h3;have hh:(t'++[c]).headD (k+1)=t'.headD c:=by cases t'<;>simp
            rw[hh];simp only[lJ,h2];exact⟨i1,i2⟩
       have hs:st0=st0.take (st0.length - x.many.toNat)++st0.drop (st0.length - x.many.toNat):=(List.take_append_drop _ _).symm;obtain⟨i1,i2⟩:=loop _ (st0.drop (st0.length - x.many.toNat)) (List.length_drop ..) _ _ (Nat.le_refl _) (by rw[← hs];exact hp);rw[show st0.length - (st0.length - x.many.toNat)=x.many.toNat by omega]at i1;refine⟨_,_,rfl,?_,i2⟩;rw[sJA hx,if_neg,i1];rintro(h | ⟨h,h'⟩)
       · omega
       · exact h' (g2 h)
     · cases hst
def piece(l:List Sx)(a b:Nat):List Sx:=(l.drop a).take (b - a)
def pieces(l:List Sx)(st:List Nat)(k:Nat):List (List Sx):=(List.range st.length).map fun i=>piece l ((st++[k]).getD i 0) ((st++[k]).getD (i+1) 0)
theorem rLA(s:List Nat)(b k:Nat):pieces l (s++[b]) k=pieces l s b++[piece l b k]:=by
 unfold pieces;rw[List.length_append,List.length_singleton,List.range_succ,List.map_append];congr 1
 · refine List.map_congr_left fun i hi => ?_
   rw[List.mem_range]at hi;congr 1
   · simp only[List.getD_eq_getElem?_getD];rw[List.getElem?_append_left (by simp;omega)]
   · simp only[List.getD_eq_getElem?_getD];rw[List.getElem?_append_left (by simp;omega)]
 · simp
inductive RItems (l : List Sx) : Nat → List (List Sx) → Option (List (List Sx)) → Prop
  | done (acc):RItems l 0 acc (some acc)
  | bad {k acc}:0 < k→rb l k=none→RItems l k acc none
  | one {k acc b R}:0 < k→rb l k=some b→RItems l b (piece l b k::acc) R→RItems l k acc R
theorem e8A(l:List Sx):∀ k acc,∃ R,RItems l k acc R:=by
 intro k
 induction k using Nat.strongRecOn with
 | _ k ih =>
   intro acc;by_cases hk:k=0
   · subst hk;exact⟨_,.done acc⟩
   · cases hb : rb l k with
     | none=>exact⟨_,.bad (by omega) hb⟩
     | some b =>
       obtain⟨R,h⟩:=ih b (bFA hb) (piece l b k::acc);exact⟨R,.one (by omega) hb h⟩
theorem r7A{k:Nat}{acc:List (List Sx)}{R:Option (List (List Sx))}(h:RItems l k acc R)(hk:k≤l.length):R=(pre l k).map fun st=>pieces l st k++acc:=by
 induction h with
 | done acc=>rw[zLA];rfl
 | @bad k acc h0 hb =>
   obtain⟨e,rfl⟩:∃ e,k=e+1:=⟨k - 1,by omega⟩
   cases hp:pre l (e+1) with
   | none=>rfl
   | some st =>
     obtain⟨s,b,_,h2,_⟩:=wRA e (by omega) st hp;rw[hb]at h2;cases h2
 | @one k acc b R h0 hb hr ih =>
   have hlt:=bFA hb;rw[ih (by omega)];obtain⟨e,rfl⟩:∃ e,k=e+1:=⟨k - 1,by omega⟩
   cases hp:pre l (e+1) with
   | none =>
     cases hq:pre l b with
     | none=>rfl
     | some s=>rw[cYA e (by omega) b hb s hq]at hp;cases hp
   | some st =>
     obtain⟨s,b',rfl,h2,h3⟩:=wRA e (by omega) st hp;rw[hb]at h2;cases h2;rw[h3];simp only[Option.map_some];rw[rLA];simp
def gF(l:List Sx):Option (List (List Sx)):=(fC l 0 []).map fun st=>pieces l st l.length
theorem pXA{R:Option (List (List Sx))}(h:RItems l l.length [] R):R=gF l:=by
 rw[r7A h (Nat.le_refl _),pre,List.take_length,gF];simp
end
section
theorem rW(l:List Sx)(st:List Nat)(k:Nat):(pieces l st k).length=st.length:=by simp[pieces]
end
def kN(row:List Sx):Option (List (List Sx)) :=
 match fC row 0 [],row.getLast? with
 | some [_],some x=>if x.word.size=0 then gF row.dropLast else none
 | _,_=>none
theorem sN(init:List Sx)(x:Sx):kN (init++[x])=match fC (init++[x]) 0 [] with
 | some [_]=>if x.word.size=0 then gF init else none
 | _=>none:=by
 unfold kN;rw[List.getLast?_concat,List.dropLast_concat]
 split
 · rename_i h1 h2
   cases h2;rw[h1]
 · rename_i h
   split
   · rename_i h1;exact absurd rfl (h _ _ h1)
   · rfl
structure PTok where
 kind:Int
 pos:Int
 text:ByteArray
def vC : List PTok → List Sx → List Sx → Sx → Except (Int × Int) (List Sx)
  | [],row,[],_=>.ok row
  | [],_,_::_,x=>.error (x.pos,70)
  | t :: ts, row, st, x =>
    if t.kind=1 then vC ts (row++[⟨0,t.pos,t.text⟩]) st ⟨x.many+1,x.pos,x.word⟩
    else if t.kind=2 then(if st.length=60 then .error (t.pos,22) else vC ts row (x::st) ⟨0,t.pos,⟨#[]⟩⟩)
    else match st with
     | []=>.error (t.pos,70)
     | y::st=>vC ts (row++[x]) st ⟨y.many+1,y.pos,y.word⟩
theorem vF(t:PTok)(ts:List PTok)(row st:List Sx)(x:Sx):vC (t::ts) row st x =
    if t.kind=1 then vC ts (row++[⟨0,t.pos,t.text⟩]) st ⟨x.many+1,x.pos,x.word⟩
    else if t.kind=2 then(if st.length=60 then .error (t.pos,22) else vC ts row (x::st) ⟨0,t.pos,⟨#[]⟩⟩)
    else match st with
     | []=>.error (t.pos,70)
     | y::st=>vC ts (row++[x]) st ⟨y.many+1,y.pos,y.word⟩:=by
  cases st<;>rfl
def xFA(w0:World)(b off:Nat)(row:List Sx):Prop:=∀ k x,row[k]? = some x→w0.cell? ⟨b,off+k * 3,none⟩=some (.int .i64 x.many)∧w0.cell? ⟨b,off+k * 3+1,none⟩=some (.int .i64 x.pos)∧w0.cell? ⟨b,off+k * 3+2,none⟩=some (.string x.word)
def SxArg(w0:World)(p:Option Addr)(row:List Sx):Prop:=row≠[]→∃ b off,p=some ⟨b,off,none⟩∧b < w0.heap.size∧xFA w0 b off row
theorem rQA(all:List Sx):∀ k t,all[k]? = some t→(nC all)[k * 3]? = some (.int .i64 t.many)∧(nC all)[k * 3+1]? = some (.int .i64 t.pos)∧(nC all)[k * 3+2]? = some (.string t.word):=by
 induction all with
 | nil=>intro k t h;simp at h
 | cons x l ih =>
   intro k t h
   cases k with
   | zero=>cases h;exact⟨rfl,rfl,rfl⟩
   | succ k =>
     have:=ih k t h;rw[show(k+1) * 3=k * 3+1+1+1 by omega,show k * 3+1+1+1+1=(k * 3+1)+1+1+1 by omega,show k * 3+1+1+1+2=(k * 3+2)+1+1+1 by omega];exact this
theorem k7A{w:World}{base:Nat}{e:TypeId}{l:Value}{row:List Sx}(h:w.ownsRow base e 3 l row.length (nC row)):∃ p cap,l = .slice p row.length cap∧SxArg w p row:=by
 rcases h.2 with⟨rfl,h0⟩ | ⟨g,cap,cur,rfl,hb,hg,rest⟩
 · refine⟨none,0,by rw[h0],fun hne=>?_⟩;exact absurd (List.length_eq_zero_iff.1 h0) hne
 · refine⟨_,cap,rfl,fun _=>⟨g,0,rfl,(Array.getElem?_eq_some_iff.1 hg).1,fun k t ht=>?_⟩⟩;obtain⟨h1,h2,h3⟩:=rQA row k t ht;rw[Nat.zero_add];exact⟨kD h rfl h1,kD h rfl h2,kD h rfl h3⟩
theorem SxArg.under{a b:World}{p:Option Addr}{l:List Sx}(h:SxArg a p l)(hU:Under a b):SxArg b p l:=by
 intro hne;obtain⟨bl,off,rfl,hb,ht⟩:=h hne;refine⟨bl,off,rfl,Nat.lt_of_lt_of_le hb hU.size,fun k t hk=>?_⟩;rw[jA hU hb,jA hU hb,jA hU hb];exact ht k t hk
theorem wI(w:World)(base:Nat)(e:TypeId)(size:Nat)(hb:base≤w.heap.size):(w.alloc (.cells #[] e)).ownsRow base e size (.slice (some ⟨w.heap.size,0,none⟩) 0 0) 0 [] :=
 ⟨by simp,.inr ⟨w.heap.size,0,#[],rfl,hb,xA w _ _,Nat.le_refl _,by decide,by simp,by simp⟩⟩
end Go.Lx
namespace Go.Lx
inductive ST where
 | word (p:Int) (s:ByteArray)
 | list (p:Int) (l:List ST)
mutual
def uA : ST → List Sx
  | .word p s=>[⟨0,p,s⟩]
  | .list p l=>fA l++[⟨(l.length:Int),p,⟨#[]⟩⟩]
def fA : List ST → List Sx
  | []=>[]
  | a::l=>uA a++fA l
end
mutual
def okS : ST → Prop
  | .word _ s=>s.size≠0
  | .list _ l=>nK l
def nK : List ST → Prop
  | []=>True
  | a::l=>okS a∧nK l
end
def ST.last : ST → Sx
  | .word p s=>⟨0,p,s⟩
  | .list p l=>⟨(l.length:Int),p,⟨#[]⟩⟩
theorem zD(a b:List ST):fA (a++b)=fA a++fA b:=by
 induction a with
 | nil=>rfl
 | cons x l ih=>simp[fA,ih]
theorem kFA{a b:List ST}:nK (a++b)↔nK a∧nK b:=by
 induction a with
 | nil=>simp[nK]
 | cons x l ih=>simp[nK,ih,and_assoc]
theorem jEA{l:List ST}:nK l↔∀ a∈l,okS a:=by
 induction l with
 | nil=>simp[nK]
 | cons x l ih=>simp[nK,ih]
theorem bJ(a:ST):∃ i,uA a=i++[a.last]:=by
 cases a with
 | word p s=>exact⟨[],by simp[uA,ST.last]⟩
 | list p l=>exact⟨fA l,by simp[uA,ST.last]⟩
theorem zN(a:ST):0 < (uA a).length:=by
 obtain⟨i,h⟩:=bJ a;rw[h];simp
def kC : Nat → List ST → List Nat
  | _,[]=>[]
  | i,a::l=>i::kC (i+(uA a).length) l
theorem yI(i:Nat)(l:List ST):(kC i l).length=l.length:=by
 induction l generalizing i with
 | nil=>rfl
 | cons x l ih=>simp[kC,ih]
theorem iK(i:Nat)(a b:List ST):kC i (a++b)=kC i a++kC (i+(fA a).length) b:=by
 induction a generalizing i with
 | nil=>simp[kC,fA]
 | cons x l ih=>simp[kC,ih,fA,Nat.add_assoc]
theorem xZA{s:ByteArray}(h:s.size=0):s=⟨#[]⟩:=by
 obtain⟨a⟩:=s;have:a=#[]:=Array.eq_empty_of_size_eq_zero h;rw[this]
theorem rR : ∀ (row : List Sx) (Fs : List ST) (st : List Nat), nK Fs → fC row (fA Fs).length (kC 0 Fs) = some st → ∃ Gs, nK Gs ∧ fA Gs = fA Fs ++ row ∧ st = kC 0 Gs
  | [],Fs,st,hF,h=>by cases h;exact⟨Fs,hF,by simp,rfl⟩
  | x :: row, Fs, st, hF, h => by
    unfold fC at h
    split at h
    · rename_i hg; obtain ⟨h0, h1, h2⟩ := hg; rw [yI] at h2; obtain ⟨m, p, s⟩ := x; simp only at h0 h1 h2; obtain ⟨n, rfl⟩ : ∃ n : Nat, m = n := ⟨m.toNat, by omega⟩; have hn : n ≤ Fs.length := by omega
      obtain⟨k,hk⟩:∃ k,Fs.length=k+n:=⟨Fs.length - n,by omega⟩;have hs:qI ⟨n,p,s⟩ (fA Fs).length (kC 0 Fs)=kC 0 (Fs.take k)++[(fA (Fs.take k)).length]:=by
       have e:Fs=Fs.take k++Fs.drop k:=(List.take_append_drop k Fs).symm;have e1:kC 0 Fs=kC 0 (Fs.take k)++kC (fA (Fs.take k)).length (Fs.drop k):=by
        conv=>lhs;rw[e]
        rw[iK,Nat.zero_add]
       have e2:(kC 0 (Fs.take k)).length=k:=by rw[yI,List.length_take];omega
       unfold qI;rw[yI];simp only[Int.toNat_natCast];rw[show Fs.length - n=k by omega,e1,List.take_left' e2,List.drop_left' e2];congr 2
       cases hd:Fs.drop k with
       | nil =>
         have:Fs.take k=Fs:=by
          have:=List.drop_eq_nil_iff.1 hd;exact List.take_of_length_le this
         rw[this];rfl
       | cons a l=>rfl
      rw[hs]at h;have hok:nK (Fs.take k)∧nK (Fs.drop k):=kFA.1 (by rw[List.take_append_drop];exact hF);have hdl:(Fs.drop k).length=n:=by rw[List.length_drop];omega
      have hfl:fA Fs=fA (Fs.take k)++fA (Fs.drop k):=by rw[← zD,List.take_append_drop]
      by_cases hz:s.size=0
      · have hs0 := xZA hz; subst hs0; have e3 : fA (Fs.take k ++ [.list p (Fs.drop k)]) = fA Fs ++ [⟨n, p, ⟨#[]⟩⟩] := by
         rw[zD,hfl];simp only[fA,uA,hdl];simp
        have e4:kC 0 (Fs.take k)++[(fA (Fs.take k)).length]=kC 0 (Fs.take k++[.list p (Fs.drop k)]):=by rw[iK,Nat.zero_add];rfl
        rw[e4,show(fA Fs).length+1=(fA (Fs.take k++[.list p (Fs.drop k)])).length by rw[e3];simp]at h;obtain⟨Gs,g1,g2,g3⟩:=rR row _ st (kFA.2 ⟨hok.1,by exact⟨hok.2,trivial⟩⟩) h;exact⟨Gs,g1,by rw[g2,e3];simp,g3⟩
      · have hn0 : n = 0 := by have := h1 hz; omega
        subst hn0;have hkl:Fs.take k=Fs:=List.take_of_length_le (by omega);rw[hkl]at h;have e3:fA (Fs++[.word p s])=fA Fs++[⟨(0:Nat),p,s⟩]:=by rw[zD];simp[fA,uA]
        have e4:kC 0 Fs++[(fA Fs).length]=kC 0 (Fs++[.word p s]):=by rw[iK,Nat.zero_add];rfl
        rw[e4,show(fA Fs).length+1=(fA (Fs++[.word p s])).length by rw[e3];simp]at h;obtain⟨Gs,g1,g2,g3⟩:=rR row _ st (kFA.2 ⟨hF,by exact⟨hz,trivial⟩⟩) h;exact⟨Gs,g1,by rw[g2,e3];simp,g3⟩
    · cases h
theorem kAA(T:ST):okS T→∀(Fs:List ST),fC (uA T) (fA Fs).length (kC 0 Fs)=some (kC 0 (Fs++[T])):=by
 induction T using ST.rec (motive_2:=fun l=>nK l→∀(Fs:List ST),fC (fA l) (fA Fs).length (kC 0 Fs)=some (kC 0 (Fs++l))) with
 | word p s =>
   rintro h Fs;rw[uA];unfold fC;rw[if_pos ⟨Int.le_refl _,fun _=>rfl,Int.natCast_nonneg _⟩];unfold fC qI;simp[iK,kC]
 | list p l ih =>
   rintro h Fs;rw[uA,oN,ih h Fs];simp only[Option.bind_some];unfold fC;rw[if_pos ⟨Int.natCast_nonneg _,fun h=>absurd rfl h,by rw[yI,List.length_append];show(l.length:Int)≤_;omega⟩];unfold fC qI;have e2:(kC 0 Fs).length=Fs.length:=yI _ _;rw[yI,iK,List.length_append];simp only[Int.toNat_natCast];rw[show Fs.length+l.length - l.length=Fs.length by omega,List.take_left' e2,List.drop_left' e2,iK]
   cases l with
   | nil=>simp[kC,fA]
   | cons a l=>simp[kC]
 | nil=>rename_i h Fs;simp[fA,fC]
 | cons a l iha ihl =>
   rename_i h Fs;rw[fA,oN,iha h.1 Fs];simp only[Option.bind_some];have e:(fA Fs).length+(uA a).length=(fA (Fs++[a])).length:=by rw[zD];simp[fA]
   rw[e,ihl h.2];simp
theorem nV : ∀ (l : List ST), nK l → ∀ Fs : List ST, fC (fA l) (fA Fs).length (kC 0 Fs) = some (kC 0 (Fs ++ l))
  | [],_,Fs=>by simp[fA,fC]
  | a :: l, h, Fs => by
    rw[fA,oN,kAA a h.1 Fs];simp only[Option.bind_some];have e:(fA Fs).length+(uA a).length=(fA (Fs++[a])).length:=by rw[zD];simp[fA]
    rw[e,nV l h.2];simp
theorem jY : ∀ (ts : List ST) (pre : List Sx), (List.range ts.length).map (fun i => piece (pre ++ fA ts) ((kC pre.length ts ++ [(pre ++ fA ts).length]).getD i 0) ((kC pre.length ts ++ [(pre ++ fA ts).length]).getD (i + 1) 0)) = ts.map uA
  | [],pre=>rfl
  | a :: l, pre => by
    have ih:=jY l (pre++uA a);rw[List.length_cons,List.range_succ_eq_map,List.map_cons,List.map_map,List.map_cons];have e:pre++fA (a::l)=pre++uA a++fA l:=by simp[fA]
    rw[e];congr 1
    · have h1 : (kC pre.length (a :: l) ++ [(pre ++ uA a ++ fA l).length]).getD 0 0 = pre.length := by simp [kC]
      have h2:(kC pre.length (a::l)++[(pre++uA a++fA l).length]).getD (0+1) 0=pre.length+(uA a).length:=by
       cases l with
       | nil=>simp[kC,fA]
       | cons b l=>simp[kC]
      rw[h1,h2];unfold piece;rw[List.append_assoc,List.drop_left,show pre.length+(uA a).length - pre.length=(uA a).length by omega,List.take_left]
    · rw [← ih]; refine List.map_congr_left fun i hi => ?_
      simp only[Function.comp];simp only[kC,List.cons_append,List.getD_eq_getElem?_getD,List.getElem?_cons_succ,List.length_append]
theorem oH{ts:List ST}(h:nK ts):gF (fA ts)=some (ts.map uA):=by
 have hb:=nV ts h [];simp only[fA,kC,List.length_nil,List.nil_append]at hb;unfold gF;rw[hb];have:=jY ts [];simp only[List.nil_append,List.length_nil]at this;rw[Option.map_some];unfold pieces;rw[yI,this]
theorem gFA{row:List Sx}{ls:List (List Sx)}(h:gF row=some ls):∃ ts,nK ts∧row=fA ts∧ls=ts.map uA:=by
 have h':=h;unfold gF at h'
 cases hb:fC row 0 [] with
 | none=>rw[hb]at h';cases h'
 | some st =>
   obtain⟨ts,h1,h2,rfl⟩:=rR row [] st (by simp[nK]) hb;rw[fA,List.nil_append]at h2;rw[← h2,oH h1]at h;exact⟨ts,h1,h2.symm,(Option.some.inj h).symm⟩
theorem wDA{p:Int}{l:List ST}(h:nK l):kN (uA (.list p l))=some (l.map uA):=by
 have hb:=kAA (.list p l) h [];simp only[fA,kC,List.length_nil,List.nil_append]at hb;rw[uA,sN];rw[uA]at hb;rw[hb]
 show(if(⟨#[]⟩:ByteArray).size=0 then gF (fA l) else none)=_
 rw[if_pos (show(⟨#[]⟩:ByteArray).size=0 from rfl),oH h]
theorem qH{l:List ST}{a:ST}(h:a∈l):(uA a).length≤(fA l).length:=by
 induction l with
 | nil=>cases h
 | cons b l ih =>
   rw[fA,List.length_append];rcases List.mem_cons.1 h with rfl | h
   · omega
   · have:=ih h;omega
theorem kH(l:List ST):l.length≤(fA l).length:=by
 induction l with
 | nil=>simp
 | cons a l ih=>rw[fA,List.length_append,List.length_cons];have:=zN a;omega
end Go.Lx
namespace Go.Lx
open Go.RowKit
def Zip{α β:Type}(R:α→β→Prop)(vs:List α)(ls:List β):Prop:=vs.length=ls.length∧∀(i:Nat) v x,vs[i]? = some v→ls[i]? = some x→R v x
theorem Zip.nil{α β:Type}(R:α→β→Prop):Zip R [] []:=⟨rfl,fun i v x h=>by simp at h⟩
theorem Zip.app{α β:Type}{R:α→β→Prop}{vs us:List α}{ls ks:List β}(h:Zip R vs ls)(k:Zip R us ks):Zip R (vs++us) (ls++ks):=by
 refine⟨by rw[List.length_append,List.length_append,h.1,k.1],fun i v x hv hx=>?_⟩;by_cases hi:i < vs.length
 · rw[List.getElem?_append_left hi]at hv;rw[List.getElem?_append_left (by rw[← h.1];exact hi)]at hx;exact h.2 i v x hv hx
 · rw[List.getElem?_append_right (by omega)]at hv;rw[List.getElem?_append_right (by rw[← h.1];omega),← h.1]at hx;exact k.2 _ v x hv hx
theorem Zip.one{α β:Type}{R:α→β→Prop}{v:α}{x:β}(h:R v x):Zip R [v] [x]:=⟨rfl,fun i u y hu hy=>by
  match i,hu,hy with
  | 0,hu,hy=>cases hu;cases hy;exact h⟩
theorem Zip.mono{α β:Type}{R S:α→β→Prop}{vs:List α}{ls:List β}(h:Zip R vs ls)(hRS:∀ v x,R v x→S v x):Zip S vs ls:=⟨h.1,fun i v x hv hx=>hRS v x (h.2 i v x hv hx)⟩
theorem Zip.at{α β:Type}{R:α→β→Prop}{vs:List α}{ls:List β}(h:Zip R vs ls){i:Nat}{x:β}(hx:ls[i]? = some x):∃ v,vs[i]? = some v∧R v x:=by
 have hi:i < vs.length:=by rw[h.1];exact(List.getElem?_eq_some_iff.1 hx).1
 exact⟨vs[i],List.getElem?_eq_getElem hi,h.2 i _ x (List.getElem?_eq_getElem hi) hx⟩
def ListV{α:Type}(R:World→Value→α→Prop)(w:World)(v:Value)(ls:List α):Prop:=∃ p c vs,v = .slice p ls.length c∧ls.length≤c∧(p=none→c=0)∧RowArg w p vs∧Zip (R w) vs ls
def TermV(w:World)(v:Value)(t:List Nd):Prop:=∃ p c,v = .slice p t.length c∧t.length≤c∧(p=none→c=0)∧RowArg w p (lC t)
def wSA{α:Type}(R:World→Value→α→Prop):Prop:=∀ w w' v x,Under w w'→R w v x→R w' v x
theorem TermV.mono:wSA TermV:=fun w w' v t hU ⟨p,c,h1,h2,h0,h3⟩=>⟨p,c,h1,h2,h0,h3.under hU⟩
theorem ListV.mono{α:Type}{R:World→Value→α→Prop}(hR:wSA R):wSA (ListV R):=fun w w' v ls hU ⟨p,c,vs,h1,h2,h0,h3,h4⟩=>⟨p,c,vs,h1,h2,h0,h3.under hU,h4.mono fun v x h=>hR w w' v x hU h⟩
theorem TermV.one{w:World}{v:Value}{t:List Nd}(h:TermV w v t):v.oneCell'=true:=by obtain⟨p,c,rfl,_⟩:=h;rfl
theorem ListV.one{α:Type}{R:World→Value→α→Prop}{w:World}{v:Value}{ls:List α}(h:ListV R w v ls):v.oneCell'=true:=by obtain⟨p,c,vs,rfl,_⟩:=h;rfl
abbrev TermsV:=ListV TermV
abbrev ConsV:=ListV TermsV
theorem ListV.of_own{α:Type}{R:World→Value→α→Prop}{w:World}{base:Nat}{e:TypeId}{v:Value}{ls:List α}{vs:List Value}(h:w.ownsRow base e 1 v ls.length vs)(hz:Zip (R w) vs ls):ListV R w v ls:=by
 have hc:∀ q n c,v = .slice q n c→q=none→c=0:=by
  intro q n c e hq;subst hq;rcases h.2 with⟨rfl,_⟩ | ⟨g,cap,cur,e',_⟩
  · cases e;rfl
  · rw[e']at e;cases e
 obtain⟨q,c,rfl,h1,h2⟩:=RowArg.of_own h;exact⟨q,c,vs,rfl,h1,hc q _ c rfl,h2,hz⟩
section
variable {P : Program}
theorem yS (w : World) (base : Nat) (t u ty e : TypeId) (i : TypeInfo) (z : Value) (ht : P.underlying t = some (.slice e)) (hu : P.underlying u = some (.int .i64)) (hi : P.info? e = some i) (hz : i.zero = some z) (hs : i.size = 1) (hzs : z.cells = #[z])
    (n:Nat) (h1:1≤n) (h8:n * i.bytes≤140737488355328) (hmx:n≤1000000) (hbase:base≤w.heap.size) :
    ∃ g c w',(Builtin.append_ #[t,u] ty #[.slice none 0 0,.int .i64 (n:Int)]).run P w = .ok (.slice (some ⟨g,0,none⟩) n c) w'∧w'.ownsRow base e 1 (.slice (some ⟨g,0,none⟩) n c) n (List.replicate n z)∧w.grownBy w' none:=by
  have hw:IntKind.i64.wrap (n:Int)=n:=by rw[IntKind.wrap_i64];omega
  have hn:¬ n=0:=by omega
  have h63':¬(9223372036854775807 < (n:Int)):=by omega
  have h48':¬(281474976710656 < Builtin.nextslicecap n 0 * i.bytes):=by rw[nextslicecap_zero (by omega)];omega
  have hneg:¬((n:Int) < 0):=by omega
  have hbig:¬((281474976710656:Int) < (n:Int) * i.bytes):=by
   have:((n * i.bytes:Nat):Int)=(n:Int) * i.bytes:=by simp
   omega
  refine⟨w.heap.size,grownCap w n 0 e,w.drew.alloc (.cells (Builtin.zeroCells z.cells n++Builtin.zeroCells z.cells (grownCap w n 0 e - n)) e),?_,?_,?_⟩
  · simp[Builtin.append_,run_underlying ht,run_underlying hu,sizeOf,typeInfo,zeroValue,hi,hz,hs,Builtin.lenOf,Builtin.firstCells,hn,h63',h48',Question.forced,newRow,grownCap,asInt,asIntOf,hw,hneg,hbig]
  · have hge := grownCap_ge w n 0 e; have hcm : grownCap w n 0 e ≤ maxLen := grownCap_le_maxLen w n 0 e (by simp only [maxLen]; omega); refine ⟨by simp, .inr ⟨w.heap.size, _, _, rfl, hbase, xA w.drew _ _, hge, hcm, ?_, ?_⟩⟩
    · simp only[Array.size_append,size_zeroCells,hzs];simp;omega
    · have hzc : (Builtin.zeroCells z.cells n).toList = List.replicate n z := by
        rw[hzs];apply List.ext_getElem
        · simp[Builtin.zeroCells]
        · intro j h1 h2;simp[Builtin.zeroCells,Nat.mod_one]
      simp only[Array.toList_append,hzc,Nat.mul_one];rw[List.take_left' (by simp)]
  · exact ⟨rfl, rfl, rfl, by simp, fun k hk _ => by
      show(w.heap.push _)[k]? = _
      rw[Array.getElem?_push_lt hk,← Array.getElem?_eq_getElem]⟩
theorem uQ {w : World} {ops : Array Oper} {rest : List Oper} {o : Oper} {a : Act} {Q : Exit → Act → World → Prop} (hgd : o.guard = none) (s x : Operand) (base : Nat) (t u e : TypeId)
    (ho:o.op = .call { callee:=.builtin .append,args:=#[s,x],argTypes:=#[t,u] }) (i:TypeInfo) (z:Value) (ht:P.underlying t=some (.slice e)) (hu:P.underlying u=some (.int .i64)) (hi:P.info? e=some i) (hz:i.zero=some z) (hs:i.size=1) (hzs:z.cells=#[z])
    (n:Nat) (es:a.eval s = .slice none 0 0) (ex:a.eval x = .int .i64 (n:Int)) (h1:1≤n) (h8:n * i.bytes≤140737488355328) (hmx:n≤1000000) (hbase:base≤w.heap.size)
    (h:∀ g c w',w'.ownsRow base e 1 (.slice (some ⟨g,0,none⟩) n c) n (List.replicate n z)→w.grownBy w' none→wpList P ops Q rest (a.put o.dst (.slice (some ⟨g,0,none⟩) n c)) w') :
    wpList P ops Q (o::rest) a w:=by
  refine wpList_plain hgd fun K hK'=>?_
  obtain⟨g,c,w',hrun,r1,r2⟩:=yS (P:=P) w base t u o.type e i z ht hu hi hz hs hzs n h1 h8 hmx hbase;unfold Oper.wp;simp[execOp,ho,resolve,invoke,builtin,es,ex,hrun,Result.andThen];exact hK' _ _ (h g c w' r1 r2)
end
end Go.Lx
