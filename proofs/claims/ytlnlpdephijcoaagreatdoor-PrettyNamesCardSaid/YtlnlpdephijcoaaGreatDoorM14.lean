/- Part 14 of what the proof rests on. -/
import Derived.Test.YtlnlpdephijcoaaGreatDoorM01
import Derived.Test.YtlnlpdephijcoaaGreatDoorM02
import Derived.Test.YtlnlpdephijcoaaGreatDoorM13
set_option linter.unusedSimpArgs false
set_option linter.unusedVariables false
namespace Go.Lx
def bU(c:UInt8):Bool:=oV c||eBA c
theorem m8A{c:UInt8}(h:bU c=true):c≠32∧c≠40∧c≠41:=by
 refine⟨?_,?_,?_⟩<;>rintro rfl<;>exact absurd h (by decide +kernel)
def dl(c:UInt8):Int:=if c=40 then 1 else if c=41 then -1 else 0
def iBB : Int → List UInt8 → Option Int
  | d,[]=>some d
  | d,c::l=>if d+dl c < 0 then none else iBB (d+dl c) l
def o1A(c:UInt8):Bool:=c==40||(c==41||(c==32||bU c))
def cRA(a b:UInt8):Bool := !(a==32&&b==32) && !(a==40&&b==32) && !(a==32&&b==41)
def aBB : List UInt8 → Bool
  | []=>true
  | a::l=>(match l with | []=>true | b::_=>cRA a b)&&aBB l
structure GoodL (l:List UInt8):Prop where
 ne:l≠[]
 fst:∀ a,l.head? = some a→a≠32∧a≠41
 lst:∀ a,l.getLast? = some a→a≠32∧a≠40
 adj:aBB l=true
 byt:∀ c∈l,o1A c=true
 run:∀ d:Int,0≤d→iBB d l=some d
theorem eWA{a b:UInt8}(ha:a≠32∧a≠40)(hb:b≠41):cRA a b=true:=by
 unfold cRA;simp[ha.1,ha.2,hb]
theorem cXA{l:List UInt8}(h0:l≠[])(h:∀ c∈l,bU c=true):GoodL l:=by
 have hne:∀ c∈l,c≠32∧c≠40∧c≠41:=fun c hc=>m8A (h c hc)
 refine⟨h0,fun a ha=>?_,fun a ha=>?_,?_,fun c hc=>?_,?_⟩
 · have:=hne a (List.mem_of_mem_head? (by rw[ha];rfl));exact⟨this.1,this.2.2⟩
 · have:=hne a (List.mem_of_mem_getLast? (by rw[ha];rfl));exact⟨this.1,this.2.1⟩
 · clear h h0
   induction l with
   | nil=>rfl
   | cons a l ih =>
     simp only[aBB,Bool.and_eq_true];refine⟨?_,ih fun c hc=>hne c (List.mem_cons_of_mem _ hc)⟩
     cases l with
     | nil=>rfl
     | cons b l =>
       have h1:=hne a (List.mem_cons_self ..);have h2:=hne b (by simp);exact eWA ⟨h1.1,h1.2.1⟩ h2.2.2
 · simp[o1A,h c hc]
 · clear h h0
   induction l with
   | nil=>intro d _;rfl
   | cons a l ih =>
     intro d hd;have h1:=hne a (List.mem_cons_self ..);have e:dl a=0:=by simp[dl,h1.2.1,h1.2.2]
     rw[iBB,e,if_neg (by omega),Int.add_zero];exact ih (fun c hc=>hne c (List.mem_cons_of_mem _ hc)) d hd
inductive TailL : List UInt8 → Prop
  | nil:TailL []
  | cons {a l:List UInt8}:GoodL a→TailL l→TailL (32::a++l)
def WordB(s:ByteArray):Prop:=s.data.toList≠[]∧∀ c∈s.data.toList,bU c=true
theorem WordB.good{s:ByteArray}(h:WordB s):GoodL s.data.toList:=cXA h.1 h.2
theorem WordB.tail{s:ByteArray}(h:WordB s):TailL (qN s):=by
 have:=TailL.cons h.good .nil
 rwa [List.append_nil]at this
theorem dKA(d:Nat)(h:d < 10):bU (UInt8.ofNat (48+d))=true:=by
 rcases(by omega:d=0∨d=1∨d=2∨d=3∨d=4∨d=5∨d=6∨d=7∨d=8∨d=9) with rfl | rfl | rfl | rfl | rfl | rfl | rfl | rfl | rfl | rfl<;>decide +kernel
theorem lS(n:Nat):Lib.decDigits n≠[]∧∀ c∈Lib.decDigits n,bU c=true:=by
 induction n using Nat.strongRecOn with
 | ind n ih =>
   rw[Lib.decDigits]
   split
   · rename_i h;refine⟨by simp,fun c hc=>?_⟩;obtain rfl:=List.mem_singleton.1 hc;exact dKA n h
   · refine ⟨by simp, fun c hc => ?_⟩; rcases List.mem_append.1 hc with hc | hc
     · exact(ih (n / 10) (by omega)).2 c hc
     · obtain rfl:=List.mem_singleton.1 hc;exact dKA _ (by omega)
theorem jY(k:Nat):WordB (bC k):=by
 refine⟨by simp[bC],fun c hc=>?_⟩;have:(bC k).data.toList=120::Lib.decDigits k:=by simp[bC]
 rw[this]at hc;rcases List.mem_cons.1 hc with rfl | hc
 · decide +kernel
 · exact(lS k).2 c hc
theorem qRA{k:Nat}(h1:2≤k)(h2:k < 30):WordB (kJ k):=by
 have h:∀ k:Nat,k < 28→(kJ (k+2)).data.toList≠[]∧((kJ (k+2)).data.toList.all fun c=>bU c)=true:=by decide +kernel
 obtain⟨k',rfl⟩:∃ k',k=k'+2:=⟨k - 2,by omega⟩;have:=h k' (by omega);exact⟨this.1,List.all_eq_true.1 this.2⟩
theorem nCA{x:Nd}(hx:nA x=true)(h0:x.k≠0)(h1:x.k≠1):WordB (uD x):=by
 have hk:=oH hx;have hw:=qRA (k:=x.k.toNat) (by omega) (by omega);unfold uD
 split
 · refine ⟨by simp [(lS x.n.toNat).1], fun c hc => ?_⟩; have : ((⟨(kJ x.k.toNat).data ++ (Lib.decDigits x.n.toNat).toArray⟩ : ByteArray)).data.toList = (kJ x.k.toNat).data.toList ++ Lib.decDigits x.n.toNat := by simp
   rw[this]at hc;rcases List.mem_append.1 hc with hc | hc
   · exact hw.2 c hc
   · exact(lS _).2 c hc
 · exact hw
theorem oZ : ∀ (l : List UInt8) (i : Nat), eD i l = true → ∀ c ∈ l, bU c = true
  | [],i,_,c,hc=>by simp at hc
  | a :: l, i, h, c, hc => by
    simp only[eD,Bool.and_eq_true]at h;rcases List.mem_cons.1 hc with rfl | hc
    · have := h.1; unfold okB at this; unfold bU
      cases hl:oV c
      · rw[hl]at this;simp at this;simp[this.2]
      · rfl
    · exact oZ l _ h.2 c hc
theorem uP{s:ByteArray}(h:qD s=true):WordB s:=by
 unfold qD at h;simp only[Bool.and_eq_true,decide_eq_true_eq]at h;refine⟨fun e=>?_,oZ _ _ h.1⟩;have e2:s.data.toList.length=s.size:=by rw[Array.length_toList];rfl
 rw[e]at e2;exact h.2.1 e2.symm
theorem fG{x:Nd}(h:nA x=true):(x.s.toList=[]∧fS x.k.toNat=false)∨(qD x.s=true∧fS x.k.toNat=true):=by
 unfold nA at h
 split at h
 · cases h
 · split at h
   · cases h
   · split at h
     · cases h
     · split at h
       · cases h
       · rename_i h3
         split at h
         · cases h
         · rename_i h4
           cases hf:fS x.k.toNat
           · left
             simp[hf]at h3;refine⟨?_,rfl⟩;rw[ByteArray.toList_eq];have e2:x.s.data.toList.length=x.s.size:=by rw[Array.length_toList];rfl
             rw[h3]at e2 ⊢;rfl
           · right
             simp[hf]at h4;exact⟨h4,rfl⟩
theorem aEA (av : List ByteArray) : ∀ (n : Nat) (st : List ByteArray), ∀ s ∈ dE av st n, WordB s
  | 0,st,s,hs=>by simp[dE]at hs
  | n + 1, st, s, hs => by
    rw[dE]at hs;rcases List.mem_cons.1 hs with rfl | hs
    · exact jY _
    · exact aEA av n _ s hs
theorem vL{a b:ByteArray}(h:a.data.toList=b.data.toList):a=b:=by
 obtain⟨⟨a⟩⟩:=a;obtain⟨⟨b⟩⟩:=b;simp only at h;rw[h]
def eVA:List (List UInt8):=[[80,114,111,112],[78,97,116],[122,101,114,111],[69,109,112,116,121],[85,110,105,116],[115,116,97,114],[116,105,99,107]]
theorem wP{ss:List ByteArray}{s:ByteArray}:rD ss s=true↔s∈ss:=by
 unfold rD;rw[List.any_eq_true];constructor
 · rintro⟨x,hx,he⟩;rw[ByteArray.toList_eq,ByteArray.toList_eq]at he;have e:x=s:=vL (by simpa using he);exact e▸hx
 · intro h;exact⟨s,h,by simp⟩
structure StJ (av av' st:List ByteArray):Prop where
 own:∀ s∈st,∃ k,s=bC k
 nod:st.Nodup
 out:∀ s∈st,s∉av
 out':∀ s∈st,s∉av'
theorem StJ.word{av av' st:List ByteArray}(h:StJ av av' st):∀ s∈st,WordB s:=fun s hs=>by
 obtain⟨k,rfl⟩:=h.own s hs;exact jY k
theorem qBA(av st:List ByteArray)(d:Nat):bC (oD (av++st) d)∉av∧bC (oD (av++st) d)∉st:=by
 have h:=(qI (av++st) d).2.2.1;have:bC (oD (av++st) d)∉av++st:=fun hm=>by
  rw[wP.2 hm]at h
  cases h
 simpa using this
theorem StJ.snoc{av av' st:List ByteArray}(h:StJ av av' st){s:ByteArray}(h1:s=bC (oD (av++st) st.length))(h2:s=bC (oD (av'++st) st.length)):StJ av av' (st++[s]):=by
 have f1:=qBA av st st.length;have f2:=qBA av' st st.length;rw[← h1]at f1;rw[← h2]at f2;refine⟨fun x hx=>?_,?_,fun x hx=>?_,fun x hx=>?_⟩
 · rcases List.mem_append.1 hx with hx | hx
   · exact h.own x hx
   · exact⟨_,(List.mem_singleton.1 hx).trans h1⟩
 · rw[List.nodup_append];refine⟨h.nod,by simp,fun a ha b hb=>?_⟩;obtain rfl:=List.mem_singleton.1 hb;rintro rfl;exact f1.2 ha
 · rcases List.mem_append.1 hx with hx | hx
   · exact h.out x hx
   · rw[List.mem_singleton.1 hx];exact f1.1
 · rcases List.mem_append.1 hx with hx | hx
   · exact h.out' x hx
   · rw[List.mem_singleton.1 hx];exact f2.1
theorem zWA{x:Nd}(h:nA x=true)(hk:x.k=3∨x.k=6):0≤x.n∧x.n≤3:=by
 unfold nA at h;rcases hk with hk | hk<;>simp[hk,fN,fM,fS,yT]at h<;>omega
theorem vI{x:Nd}(h:nA x=true):(fN x.k.toNat=false→x.n=0)∧(fM x.k.toNat=false→x.m=0)∧(fS x.k.toNat=false→x.s=⟨#[]⟩):=by
 have hs:=fG h;unfold nA at h
 split at h
 · cases h
 · split at h
   · cases h
   · rename_i h1
     split at h
     · cases h
     · rename_i h2; refine ⟨fun hf => ?_, fun hf => ?_, fun hf => ?_⟩
       · apply Decidable.byContradiction;intro hn;exact h1 ⟨hf,hn⟩
       · apply Decidable.byContradiction;intro hn;exact h2 ⟨hf,hn⟩
       · rcases hs with ⟨h, _⟩ | ⟨_, h⟩
         · rw[ByteArray.toList_eq]at h;exact vL h
         · rw[hf]at h;cases h
theorem bUA{l:List UInt8}(h:l∈eVA):∃ c r,l=c::r∧c≠120∧c≠40∧∀ c∈l,bU c=true:=by
 have:∀ l∈eVA,(∃ c r,l=c::r∧c≠120∧c≠40)∧(l.all fun c=>bU c)=true:=by
  intro l hl;simp only[eVA,List.mem_cons,List.not_mem_nil,or_false]at hl;rcases hl with rfl | rfl | rfl | rfl | rfl | rfl | rfl<;>exact⟨⟨_,_,rfl,by decide,by decide⟩,by decide +kernel⟩
 obtain⟨⟨c,r,h1,h2,h3⟩,h4⟩:=this l h;exact⟨c,r,h1,h2,h3,List.all_eq_true.1 h4⟩
inductive Atom (av st : List ByteArray) : Tm → List UInt8 → Prop
  | var (x:Nd) (i:Nat) (h:x.k=0) (hi:i < st.length) (e:x.n=((st.length - 1 - i:Nat):Int)):Atom av st (.mk x []) (st[i].data.toList)
  | con (x:Nd) (h:x.k=1) (hw:WordB x.s):Atom av st (.mk x []) (x.s.data.toList)
  | leaf (x:Nd) (l:List UInt8) (h:l∈eVA) (hk:l=if x.k=2 then [80,114,111,112] else(kJ x.k.toNat).data.toList) (h2:(x.k=2∧x.n=0)∨sH x=true):Atom av st (.mk x []) l
theorem Atom.word{av av' st:List ByteArray}(hs:StJ av av' st){T:Tm}{l:List UInt8}(h:Atom av st T l):l≠[]∧∀ c∈l,bU c=true:=by
 cases h with
 | var x i h hi e=>exact hs.word _ (List.getElem_mem hi)
 | con x h hw=>exact hw
 | leaf x l h hk h2 =>
   obtain⟨c,r,rfl,_,_,hw⟩:=bUA h;exact⟨by simp,hw⟩
theorem yZA{α:Type}{l:List α}(h:l.Nodup){i j:Nat}(hi:i < l.length)(hj:j < l.length)(e:l[i]=l[j]):i=j:=by
 rcases Nat.lt_trichotomy i j with hlt | rfl | hlt
 · exact absurd e ((List.pairwise_iff_getElem.1 h) i j hi hj hlt)
 · rfl
 · exact absurd e.symm ((List.pairwise_iff_getElem.1 h) j i hj hi hlt)
inductive SX where
 | w (s:ByteArray)
 | l (xs:List SX)
mutual
def xC : SX → List UInt8
  | .w s=>s.data.toList
  | .l xs=>40::(nJ xs++[41])
def nJ : List SX → List UInt8
  | []=>[]
  | a::l=>xC a++yF l
def yF : List SX → List UInt8
  | []=>[]
  | a::l=>32::(xC a++yF l)
end
mutual
def iH : Nat → SX → List PTok
  | k,.w s=>[⟨1,(k:Int),s⟩]
  | k,.l xs=>⟨2,(k:Int),⟨#[40]⟩⟩::(fP (k+1) xs++[⟨3,((k+1+(nJ xs).length:Nat):Int),⟨#[41]⟩⟩])
def fP : Nat → List SX → List PTok
  | _,[]=>[]
  | k,a::l=>iH k a++dK (k+(xC a).length) l
def dK : Nat → List SX → List PTok
  | _,[]=>[]
  | k,a::l=>iH (k+1) a++dK (k+1+(xC a).length) l
end
mutual
def nL : Nat → SX → ST
  | k,.w s=>.word (k:Int) s
  | k,.l xs=>.list (k:Int) (zT (k+1) xs)
def zT : Nat → List SX → List ST
  | _,[]=>[]
  | k,a::l=>nL k a::wF (k+(xC a).length) l
def wF : Nat → List SX → List ST
  | _,[]=>[]
  | k,a::l=>nL (k+1) a::wF (k+1+(xC a).length) l
end
mutual
def aO : SX → Nat
  | .w _=>0
  | .l xs=>dG xs+1
def dG : List SX → Nat
  | []=>0
  | a::l=>max (aO a) (dG l)
end
mutual
def okX (p : UInt8 → Bool) : SX → Prop
  | .w s=>s.size≠0∧∀ c∈s.data.toList,p c=true
  | .l xs=>aV p xs
def aV (p : UInt8 → Bool) : List SX → Prop
  | []=>True
  | a::l=>okX p a∧aV p l
end
theorem wAA : ∀ (xs : List SX) (k : Nat), (wF k xs).length = xs.length
  | [],_=>rfl
  | a::l,k=>by simp[wF,wAA l]
theorem xWA(xs:List SX)(k:Nat):(zT k xs).length=xs.length:=by
 cases xs with
 | nil=>rfl
 | cons a l=>simp[zT,wAA]
theorem uMA{p:UInt8→Bool}{l:List SX}:aV p l↔∀ a∈l,okX p a:=by
 induction l with
 | nil=>simp[aV]
 | cons x l ih=>simp[aV,ih]
theorem p9A{p:UInt8→Bool}(x:SX):okX p x→∀ k,okS (nL k x):=by
 induction x using SX.rec (motive_2:=fun l=>aV p l→∀ k,p9 (wF k l)) with
 | w s=>intro h k;exact h.1
 | l xs ih =>
   intro h k;unfold nL okS
   cases xs with
   | nil=>trivial
   | cons a l =>
     have:=ih h k;simp only[wF]at this;exact this
 | nil=>rename_i h k;trivial
 | cons a l iha ihl=>rename_i h k;exact⟨iha h.1 _,ihl h.2 _⟩
theorem ePA(x:SX):∀(k:Nat) (r:List PTok) (row st:List Sx) (t:Sx),st.length+aO x≤60→eF (iH k x++r) row st t=eF r (row++jB (nL k x)) st ⟨t.many+1,t.pos,t.word⟩:=by
 induction x using SX.rec (motive_2:=fun l=>∀(k:Nat) (r:List PTok) (row st:List Sx) (t:Sx),st.length+dG l≤60→eF (dK k l++r) row st t=eF r (row++iA (wF k l)) st ⟨t.many+l.length,t.pos,t.word⟩) with
 | w s =>
   intro k r row st t _;unfold iH nL jB;rw[List.singleton_append,dO,if_pos rfl]
 | l xs ih =>
   intro k r row st t hd;unfold aO at hd;unfold iH nL;rw[jB,xWA,List.cons_append,dO,if_neg (show ¬(2:Int)=1 by decide),if_pos (show(2:Int)=2 from rfl),if_neg (by omega)];have key:eF ((fP (k+1) xs++[⟨3,((k+1+(nJ xs).length:Nat):Int),⟨#[41]⟩⟩])++r) row (t::st) ⟨0,(k:Int),⟨#[]⟩⟩=eF (⟨3,((k+1+(nJ xs).length:Nat):Int),⟨#[41]⟩⟩::r) (row++iA (zT (k+1) xs)) (t::st) ⟨(xs.length:Int),(k:Int),⟨#[]⟩⟩:=by
    have h:=ih k (⟨3,((k+1+(nJ xs).length:Nat):Int),⟨#[41]⟩⟩::r) row (t::st) ⟨0,(k:Int),⟨#[]⟩⟩ (by simp;omega);rw[List.append_assoc,List.singleton_append]
    cases xs with
    | nil=>simp[fP,zT,iA]
    | cons a l =>
      simp only[dK,wF]at h;simp only[fP,zT];rw[Int.zero_add]at h;exact h
   rw[key,dO,if_neg (show ¬(3:Int)=1 by decide),if_neg (show ¬(3:Int)=2 by decide)];simp only[List.append_assoc]
 | nil=>rename_i k r row st t _;simp[dK,wF,iA]
 | cons a l iha ihl =>
   rename_i k r row st t hd;unfold dG at hd;unfold dK wF;rw[List.append_assoc,iha _ _ _ _ _ (by omega),ihl _ _ _ _ _ (by omega),iA,List.append_assoc,List.length_cons];have e:t.many+1+(l.length:Int)=t.many+((l.length+1:Nat):Int):=by omega
   simp only;rw[e]
theorem aSA(x:SX)(h:aO x≤60)(k:Nat):eF (iH k x) [] [] ⟨0,0,⟨#[]⟩⟩ = .ok (jB (nL k x)):=by
 have:=ePA x k [] [] [] ⟨0,0,⟨#[]⟩⟩ (by simpa using h);rw[List.append_nil]at this;rw[this];rfl
theorem fKA : ∀ (l : List SX), (∀ a ∈ l, ∀ k, (iH k a).length ≤ (xC a).length) → ∀ k, (dK k l).length ≤ (yF l).length
  | [],_,k=>by simp[dK]
  | a :: l, h, k => by
    have h1:=h a List.mem_cons_self (k+1);have h2:=fKA l (fun b hb=>h b (List.mem_cons_of_mem _ hb)) (k+1+(xC a).length);simp only[dK,yF,List.length_append,List.length_cons];omega
theorem j4A{p:UInt8→Bool}(x:SX):okX p x→∀ k,(iH k x).length≤(xC x).length:=by
 induction x using SX.rec (motive_2:=fun l=>aV p l→∀ a∈l,∀ k,(iH k a).length≤(xC a).length) with
 | w s =>
   intro h k;have:s.data.toList.length=s.size:=by rw[Array.length_toList];rfl
   have:=h.1;simp only[iH,xC,List.length_singleton];omega
 | l xs ih =>
   intro h k;have hX:=ih h
   cases xs with
   | nil=>simp[iH,xC,fP,nJ]
   | cons a l =>
     have h1:=hX a List.mem_cons_self (k+1);have h2:=fKA l (fun b hb=>hX b (List.mem_cons_of_mem _ hb)) (k+1+(xC a).length);simp only[iH,xC,fP,nJ,List.length_append,List.length_cons,List.length_nil];omega
 | nil=>rename_i h a ha k;cases ha
 | cons a l iha ihl =>
   rename_i h b hb k;rcases List.mem_cons.1 hb with rfl | hb
   · exact iha h.1 k
   · exact ihl h.2 b hb k
mutual
def sxT (av : List ByteArray) : Tm → List ByteArray → SX
  | .mk x l, st =>
    if x.k=0 then .w (st.getD (st.length - 1 - x.n.toNat) ⟨#[]⟩)
    else if x.k=1 then .w x.s
    else if sH x then .w (uD x)
    else if x.k=2 then(if x.n=0 then .w ⟨#[80,114,111,112]⟩ else .l [.w ⟨#[84,121,112,101]⟩,.w ⟨(Lib.decDigits x.n.toNat).toArray⟩])
    else .l (.w (uD x)::((if x.s.toList==[] then [] else [.w x.s])++(if x.k=26 then [.w ⟨(Lib.decDigits x.n.toNat).toArray⟩] else [])++(if jE x then [.w (bC (oD (av++st) st.length))] else [])++aR av l (binds x) st (jE x)))
def aR (av : List ByteArray) : List Tm → List Nat → List ByteArray → Bool → List SX
  | [],_,_,_=>[]
  | a::l,bs,st,f=>(if f then [] else(dE av st (bs.headD 0)).map .w)++sxT av a (st++dE av st (bs.headD 0))::aR av l bs.tail st f
end
theorem sIA(a b:List SX):yF (a++b)=yF a++yF b:=by
 induction a with
 | nil=>rfl
 | cons x l ih=>simp[yF,ih]
theorem vOA(l:List ByteArray):yF (l.map .w)=kI l:=by
 induction l with
 | nil=>rfl
 | cons x l ih=>simp[yF,xC,kI,qN,ih]
theorem aPA(av:List ByteArray)(T:Tm):∀ st,xC (sxT av T st)=aG av T st:=by
 induction T using Tm.rec (motive_2:=fun l=>∀(bs:List Nat) st f,yF (aR av l bs st f)=mX av l bs st f) with
 | mk x l ih =>
   intro st;unfold sxT aG
   split
   · rfl
   split
   · rfl
   split
   · rfl
   split
   · split
     · rfl
     · simp[xC,nJ,yF]
   · simp only [xC, nJ, sIA, ih]; unfold hKA; have e1 : yF (if x.s.toList == [] then [] else [SX.w x.s]) = if x.s.toList == [] then [] else qN x.s := by split <;> simp [yF, xC, qN]
     have e2:yF (if x.k=26 then [SX.w ⟨(Lib.decDigits x.n.toNat).toArray⟩] else [])=if x.k=26 then 32::Lib.decDigits x.n.toNat else []:=by split<;>simp[yF,xC]
     have e3:yF (if jE x then [SX.w (bC (oD (av++st) st.length))] else [])=if jE x then qN (bC (oD (av++st) st.length)) else []:=by split<;>simp[yF,xC,qN]
     rw[e1,e2,e3];simp
 | nil=>rename_i bs st f;rfl
 | cons a l iha ihl =>
   rename_i bs st f;unfold aR mX;rw[sIA,yF,iha,ihl]
   split<;>simp[yF,vOA]
theorem yEA(a b:List SX):dG (a++b)=max (dG a) (dG b):=by
 induction a with
 | nil=>simp[dG]
 | cons x l ih=>simp only[List.cons_append,dG,ih];omega
theorem jKA(l:List ByteArray):dG (l.map .w)=0:=by
 induction l with
 | nil=>rfl
 | cons x l ih=>simp[dG,aO,ih]
theorem zBA : ∀ (l : List Tm) (d : Nat), d ≤ lI d l
  | [],d=>Nat.le_refl _
  | a::l,d=>by have:=zBA l (max d (rC a+1));simp only[lI];omega
theorem pCA : ∀ (l : List Tm) (d e : Nat), d ≤ e → lI d l ≤ lI e l
  | [],d,e,h=>h
  | a::l,d,e,h=>by simp only[lI];exact pCA l _ _ (by omega)
theorem t7A(av:List ByteArray)(T:Tm):∀ st,aO (sxT av T st)≤rC T:=by
 induction T using Tm.rec (motive_2:=fun l=>∀(bs:List Nat) st f,dG (aR av l bs st f)+1≤lI 1 l) with
 | mk x l ih =>
   intro st;have h1:1≤rC (.mk x l):=by unfold rC;exact zBA l 1
   unfold sxT
   split
   · simp[aO]
   split
   · simp[aO]
   split
   · simp[aO]
   split
   · split
     · simp[aO]
     · simpa [aO,dG] using h1
   · simp only [aO, dG, yEA]; have h2 := ih (binds x) st (jE x); have e1 : dG (if x.s.toList == [] then [] else [SX.w x.s]) = 0 := by split <;> simp [dG, aO]
     have e2:dG (if x.k=26 then [SX.w ⟨(Lib.decDigits x.n.toNat).toArray⟩] else [])=0:=by split<;>simp[dG,aO]
     have e3:dG (if jE x then [SX.w (bC (oD (av++st) st.length))] else [])=0:=by split<;>simp[dG,aO]
     rw[e1,e2,e3];unfold rC;omega
 | nil=>rename_i bs st f;simp[aR,dG,lI]
 | cons a l iha ihl =>
   rename_i bs st f;unfold aR;rw[yEA,dG];have h1:=iha (st++dE av st (bs.headD 0));have h2:=ihl bs.tail st f;have e1:dG (if f then [] else(dE av st (bs.headD 0)).map SX.w)=0:=by split<;>simp[dG,jKA]
   rw[e1];simp only[lI];have h3:=pCA l 1 (max 1 (rC a+1)) (by omega);have h4:=zBA l (max 1 (rC a+1));omega
theorem kBB(k:Nat):∀ n,n < 10 ^ (k+1)→(Lib.decDigits n).length≤k+1:=by
 induction k with
 | zero=>intro n h;rw[Lib.decDigits,dif_pos (by simpa using h)];simp
 | succ k ih =>
   intro n h;rw[Lib.decDigits]
   split
   · simp
   · have := ih (n / 10) (by rw [Nat.pow_succ] at h; omega); rw [List.length_append]
     simpa using this
theorem vRA{n:Nat}(h:n < 10000000):(bC n).size≤8:=by
 have:=kBB 6 n (by simpa using h)
 show(#[(120:UInt8)]++(Lib.decDigits n).toArray).size≤8
 simp;omega
theorem y6A(n:Nat):∀ c∈Lib.decDigits n,eBA c=true:=by
 induction n using Nat.strongRecOn with
 | ind n ih =>
   have hd:∀ d:Nat,d < 10→eBA (UInt8.ofNat (48+d))=true:=by decide
   rw[Lib.decDigits]
   split
   · rename_i h;intro c hc;rw[List.mem_singleton.1 hc];exact hd n h
   · intro c hc; rcases List.mem_append.1 hc with hc | hc
     · exact ih (n / 10) (by omega) c hc
     · rw[List.mem_singleton.1 hc];exact hd _ (by omega)
theorem dX : ∀ (l : List UInt8) (i : Nat), i ≠ 0 → (∀ c ∈ l, eBA c = true) → eD i l = true
  | [],_,_,_=>rfl
  | c :: l, i, hi, h => by
    simp only[eD,okB,h c (List.mem_cons_self ..),decide_eq_true hi,Bool.and_self,Bool.or_true,Bool.true_and];exact dX l (i+1) (by omega) fun c hc=>h c (List.mem_cons_of_mem _ hc)
theorem jEA {w : List UInt8} : ∀ {l : List (List UInt8 × Int × Int × List UInt8)}, (l.all fun e => e.1 != w) = true → pX w l = none
  | [],_=>rfl
  | (x, y) :: l, h => by
    simp only[List.all_cons,Bool.and_eq_true,bne_iff_ne]at h;rw[pX,if_neg (fun e=>h.1 e.symm)];exact jEA h.2
theorem tFA {w : List UInt8} : ∀ {l : List (List UInt8 × Int)}, (l.all fun e => e.1 != w) = true → mCA w l = none
  | [],_=>rfl
  | (x, y) :: l, h => by
    simp only[List.all_cons,Bool.and_eq_true,bne_iff_ne]at h;rw[mCA,if_neg (fun e=>h.1 e.symm)];exact tFA h.2
theorem fQA(n:Nat):zN (bC n)=none∧kwW (bC n)=false:=by
 have e:(bC n).data.toList=120::Lib.decDigits n:=by simp[bC]
 have h1:gN (bC n)=none:=by
  unfold gN;rw[e];refine jEA ?_;have:∀ x∈formT,x.1.head?≠some 120:=by decide
  rw[List.all_eq_true];intro x hx;have:=this x hx;simp only[bne_iff_ne];intro e2;rw[e2]at this;exact this rfl
 have h2:zN (bC n)=none:=by
  unfold zN;rw[e];refine tFA ?_;have:∀ x∈leafT,x.1.head?≠some 120:=by decide
  rw[List.all_eq_true];intro x hx;have:=this x hx;simp only[bne_iff_ne];intro e2;rw[e2]at this;exact this rfl
 exact⟨h2,by unfold kwW;rw[h1,h2];rfl⟩
theorem iOA{n:Nat}(h:(bC n).size≤16):nameK (bC n)=true:=by
 have e:(bC n).data.toList=120::Lib.decDigits n:=by simp[bC]
 unfold nameK qD;rw[(fQA n).2,e];have h0:(bC n).size≠0:=by
  intro h0;have h1:(bC n).data.toList.length=0:=by rw[Array.length_toList];exact h0
  rw[e]at h1;simp at h1
 have h2:okB 0 120=true:=by decide
 simp only[eD,h2,dX _ 1 (by decide) (y6A n),h0,h,ne_eq,not_false_eq_true,decide_true,Bool.and_self,Bool.not_false]
theorem iNA{n:Nat}(h:n < 100):rDA ⟨(Lib.decDigits n).toArray⟩=some n:=by
 unfold rDA;rw[List.find?_eq_some_iff_getElem];refine⟨by simp,n,by simpa using h,by simp,fun j hj=>?_⟩;simp;intro e;have:=lX e;omega
structure StK (av st:List ByteArray):Prop where
 own:∀ s∈st,∃ k,s=bC k
 size:∀ s∈st,s.size≤16
 nod:st.Nodup
 out:∀ s∈st,s∉av
 few:av.length+st.length≤1000000
theorem StK.fresh{av st:List ByteArray}(h:StK av st):(bC (oD (av++st) st.length)).size≤8:=by
 have:=qI (av++st) st.length;have h2:=h.few;rw[List.length_append]at this;exact vRA (by omega)
theorem StK.snoc{av st:List ByteArray}(h:StK av st)(hf:av.length+st.length+1≤1000000):StK av (st++[bC (oD (av++st) st.length)]):=by
 have hn:=qBA av st st.length;have hs:=h.fresh;refine⟨fun s hs=>?_,fun s hs'=>?_,?_,fun s hs=>?_,by simp;omega⟩
 · rcases List.mem_append.1 hs with hs | hs
   · exact h.own s hs
   · exact⟨_,List.mem_singleton.1 hs⟩
 · rcases List.mem_append.1 hs' with hs' | hs'
   · exact h.size s hs'
   · rw[List.mem_singleton.1 hs'];omega
 · rw[List.nodup_append];refine⟨h.nod,by simp,fun a ha b hb e=>?_⟩;rw[List.mem_singleton.1 hb]at e;exact hn.2 (e▸ha)
 · rcases List.mem_append.1 hs with hs | hs
   · exact h.out s hs
   · rw[List.mem_singleton.1 hs];exact hn.1
theorem StK.binds {av : List ByteArray} : ∀ (n : Nat) {st : List ByteArray}, StK av st → av.length + st.length + n ≤ 1000000 → StK av (st ++ dE av st n)
  | 0,st,h,_=>by simpa [dE] using h
  | n + 1, st, h, hf => by
    have h1:=h.snoc (by omega);have h2:=StK.binds n h1 (by simp;omega);rw[dE]
    rwa [List.append_assoc,List.singleton_append]at h2
theorem StK.nameK{av st:List ByteArray}(h:StK av st){s:ByteArray}(hs:s∈st):nameK s=true∧zN s=none:=by
 obtain⟨k,rfl⟩:=h.own s hs;exact⟨iOA (h.size _ hs),(fQA k).1⟩
theorem iTA{st:List ByteArray}(h:st.Nodup){i:Nat}(hi:i < st.length):jQ st (st[st.length - 1 - i]'(by omega))=some i:=by
 unfold jQ;rw[List.findIdx?_eq_some_iff_getElem];refine⟨by simpa using hi,by simp[List.getElem_reverse],fun j hj=>?_⟩;rw[List.getElem_reverse];simp only[Bool.not_eq_true,beq_eq_false_iff_ne,ne_eq];rw[ByteArray.toList_eq,ByteArray.toList_eq];intro e;have:=yZA h (by omega) (by omega) (vL e);omega
theorem vKA{st:List ByteArray}{s:ByteArray}(h:s∉st):jQ st s=none:=by
 unfold jQ;rw[List.findIdx?_eq_none_iff];intro x hx;simp only[beq_eq_false_iff_ne,ne_eq];rw[ByteArray.toList_eq,ByteArray.toList_eq];intro e;rw[vL e]at hx;exact h (List.mem_reverse.1 hx)
def vQ(x:Nd):List PK:=(if x.s.toList==[] then [] else [.da])++(if x.k=26 then [.nu] else [])++(if jE x then [.nm,.te true,.te false] else(binds x).flatMap fun b=>List.replicate b .nm++[.te false])
def xK(x:Nd):Nat:=(if x.s.toList==[] then 0 else 1)+(if x.k=26 then 1 else 0)+(if jE x then 3 else((binds x).map (· + 1)).sum)
theorem p6A{x:Nd}(hx:nA x=true)(h0:x.k≠0)(h1:x.k≠1)(hp:sH x=false)(h2:x.k≠2) :
 ∃ parts,gN (uD x)=some (x.k,(if x.k=3∨x.k=6 then x.n else 0),parts)∧(yB parts (xK x)).length=xK x∧dC false (yB parts (xK x))=vQ x∧((x.k=26∨x.k=27)→xK x+1 - parts.length=x.m.toNat):=by
 have hk:=oH hx;have hn:=fG hx;have hz:=vI hx;obtain⟨k,n,m,s⟩:=x;simp only at *;have hs:fS k.toNat=false→s=⟨#[]⟩:=hz.2.2;have es:((⟨#[]⟩:ByteArray).toList==[])=true:=by rw[ByteArray.toList_eq];rfl
 have hs1:fS k.toNat=true→(s.toList==[])=false:=by
  intro h;rcases hn with⟨_,h'⟩ | ⟨h',_⟩
  · rw[h]at h';cases h'
  · have := (uP h').1; rw [ByteArray.toList_eq]
    simpa using this
 by_cases h36:k=3∨k=6
 · have hn3 := zWA hx h36; simp only at hn3; obtain rfl : s = ⟨#[]⟩ := hs (by rcases h36 with rfl | rfl <;> rfl); obtain ⟨hn0, hn4⟩ := hn3; rcases h36 with rfl | rfl
   · have hM : xK ⟨3, n, m, ⟨#[]⟩⟩ = 3 := by unfold xK; simp only [es]; rfl
     have hK:vQ ⟨3,n,m,⟨#[]⟩⟩=[.nm,.te true,.te false]:=by unfold vQ;simp only[es];rfl
     have hw:uD ⟨3,n,m,⟨#[]⟩⟩=uD ⟨3,n,0,⟨#[]⟩⟩:=rfl;rw[hM,hK,hw];refine⟨[119,46,46],?_,rfl,rfl,fun h=>by omega⟩;rcases(by omega:n=0∨n=1∨n=2∨n=3) with rfl | rfl | rfl | rfl<;>decide +kernel
   · have hM : xK ⟨6, n, m, ⟨#[]⟩⟩ = 3 := by unfold xK; simp only [es]; rfl
     have hK:vQ ⟨6,n,m,⟨#[]⟩⟩=[.nm,.te true,.te false]:=by unfold vQ;simp only[es];rfl
     have hw:uD ⟨6,n,m,⟨#[]⟩⟩=uD ⟨6,n,0,⟨#[]⟩⟩:=rfl;rw[hM,hK,hw];refine⟨[119,46,46],?_,rfl,rfl,fun h=>by omega⟩;rcases(by omega:n=0∨n=1∨n=2∨n=3) with rfl | rfl | rfl | rfl<;>decide +kernel
 by_cases h26:k=26
 · subst h26; have hm := uK hx (.inl rfl); simp only at hm; have e1 := hs1 rfl; have hw : uD ⟨26, n, m, s⟩ = kJ 26 := by unfold uD; rw [if_neg (fun h => by simp at h)]; rfl
   obtain⟨M,rfl⟩:∃ M:Nat,m=M:=⟨m.toNat,by omega⟩;have hM:xK ⟨26,n,(M:Int),s⟩=M+2:=by
    unfold xK;simp only[e1,jE,binds];simp
    try omega
   have hsp:yB [100,110,42] (M+2)=[100,110]++List.replicate M 42:=by simp[yB]
   refine⟨[100,110,42],?_,?_,?_,fun _=>?_⟩
   · rw[hw];rfl
   · rw[hM,hsp];simp
   · rw[hM,hsp];unfold vQ;simp only[e1,jE,binds];have:=bFA M [];rw[List.append_nil]at this;simp[dC,this,List.flatMap_replicate]
   · rw[hM];simp
 by_cases h27:k=27
 · subst h27; have hm := uK hx (.inr rfl); simp only at hm; have e1 := hs1 rfl; have hw : uD ⟨27, n, m, s⟩ = kJ 27 := by unfold uD; rw [if_neg (fun h => by simp at h)]; rfl
   obtain⟨M,rfl⟩:∃ M:Nat,m=M:=⟨m.toNat,by omega⟩;have hM:xK ⟨27,n,(M:Int),s⟩=M+4:=by
    unfold xK;simp only[e1,jE,binds];simp
    try omega
   have hsp:yB [100,118,46,42,46] (M+4)=[100,118,46]++(List.replicate M 42++[46]):=by simp[yB]
   refine⟨[100,118,46,42,46],?_,?_,?_,fun _=>?_⟩
   · rw[hw];rfl
   · rw[hM,hsp];simp
   · rw[hM,hsp];unfold vQ;simp only[e1,jE,binds];simp[dC,bFA,List.flatMap_replicate,List.replicate_succ',List.flatMap_cons]
   · rw[hM];simp
 have hw:uD ⟨k,n,m,s⟩=kJ k.toNat:=by unfold uD;rw[if_neg (fun h=>h36 h.1)]
 rw[hw];unfold sH at hp;simp only at hp;rcases(by omega:k=4∨k=5∨k=7∨k=8∨k=9∨k=10∨k=11∨k=12∨k=13∨k=14∨k=15∨k=16∨k=17∨k=18∨k=19∨k=20∨k=21∨k=22∨k=23∨k=24∨k=25∨k=28∨k=29) with rfl | rfl | rfl | rfl | rfl | rfl | rfl | rfl | rfl | rfl | rfl | rfl | rfl | rfl | rfl | rfl | rfl | rfl | rfl | rfl | rfl | rfl | rfl
 all_goals first
  | (exact absurd hp (by decide))
  | (have e1 := hs1 rfl
     refine⟨_,rfl,?_,?_,fun h=>by omega⟩
     · unfold xK;simp only[e1,jE,binds];rfl
     · unfold xK vQ;simp only[e1,jE,binds];rfl)
  | (obtain rfl : s = ⟨#[]⟩ := hs rfl
     refine⟨_,rfl,?_,?_,fun h=>by omega⟩
     · unfold xK;simp only[es,jE,binds];rfl
     · unfold xK vQ;simp only[es,jE,binds];rfl)
end Go.Lx
