/- Part 15 of what the proof rests on. -/
import Derived.Test.YtlnlpdephijcoaaGreatDoorM14
set_option linter.unusedSimpArgs false
set_option linter.unusedVariables false
namespace Go.Lx
theorem dPA (av : List ByteArray) : ∀ (l : List Tm) (bs : List Nat) (st : List ByteArray), l.length = bs.length → (aR av l bs st false).length = (bs.map (· + 1)).sum
  | [], bs, st, h => by
    have:bs=[]:=List.eq_nil_of_length_eq_zero h.symm;subst this;rfl
  | a::l,[],st,h=>by cases h
  | a :: l, b :: bs, st, h => by
    have ih:=dPA av l bs st (by simpa using h);simp only[aR,List.headD_cons,List.tail_cons];simp[pM,ih];omega
theorem oM(k:Nat)(s:ByteArray):(nL k (.w s)).last=⟨0,(k:Int),s⟩:=rfl
section
variable {cs ds : List ByteArray}
theorem cVA(l:List ST)(x:Nd)(nms st:List ByteArray)(acc:List Nd):goS cs ds [] l x nms st acc = .ok (acc++[x]):=by
 rw[goS]<;>(intros;simp_all)
theorem oEA(ks:List PK):∀(l:List ByteArray) (r:List SX) (k:Nat) (x:Nd) (nms st:List ByteArray) (acc:List Nd),(∀ s∈l,nameK s=true) →
 ∃ k',goS cs ds (List.replicate l.length .nm++ks) (wF k (l.map .w++r)) x nms st acc=goS cs ds ks (wF k' r) x (nms++l) st acc
 | [],r,k,x,nms,st,acc,_=>⟨k,by simp⟩
 | s :: l, r, k, x, nms, st, acc, h => by
   obtain⟨k',hk⟩:=oEA ks l r (k+1+(xC (.w s)).length) x (nms++[s]) st acc fun s' hs=>h s' (List.mem_cons_of_mem _ hs)
   refine⟨k',?_⟩;rw[List.length_cons,List.replicate_succ,List.cons_append,List.map_cons,List.cons_append,wF,goS,oM];simp only[h s (List.mem_cons_self ..),if_true];rw[hk,List.append_assoc];rfl
def kUA(av cs ds:List ByteArray)(T:Tm):Prop:=∀(st:List ByteArray) (k:Nat),StK av st→av.length+st.length+2 * (flat T).length≤1000000→inT T st.length→pJ cs ds (nL k (sxT av T st)) st = .ok (flat T)
theorem pIA(av:List ByteArray):∀(l:List Tm) (bs:List Nat) (k:Nat) (x:Nd) (st:List ByteArray) (acc:List Nd),l.length=bs.length→(∀ b∈bs,b≤2)→(∀ a∈l,kUA av cs ds a)→StK av st→av.length+st.length+2 * (qA l).length+2≤1000000→oFA l bs st.length →
 goS cs ds (bs.flatMap fun b=>List.replicate b .nm++[.te false]) (wF k (aR av l bs st false)) x [] st acc = .ok (acc++qA l++[x])
 | [], bs, k, x, st, acc, hl, _, _, _, _, _ => by
   have:bs=[]:=List.eq_nil_of_length_eq_zero hl.symm;subst this;simp[aR,wF,goS,qA]
 | a::l,[],k,x,st,acc,hl,_,_,_,_,_=>by cases hl
 | a :: l, b :: bs, k, x, st, acc, hl, hb, ha, hst, hf, hin => by
   simp only[aR,List.headD_cons,List.tail_cons,List.flatMap_cons,if_neg (show ¬(false=true) by decide)];rw[qA,List.length_append]at hf;have hfl:=bL a;have hb2:=hb b (List.mem_cons_self ..);have hst2:=hst.binds b (by omega);have hbl:=pM av b st;obtain⟨k',hk⟩:=oEA (cs:=cs) (ds:=ds) (.te false::bs.flatMap fun b=>List.replicate b .nm++[.te false]) (dE av st b) (sxT av a (st++dE av st b)::aR av l bs st false) k x [] st acc (fun s hs=>(hst2.nameK (List.mem_append_right _ hs)).1);rw[hbl]at hk;rw[List.append_assoc,List.singleton_append,hk,wF,goS,List.nil_append];have hB:=ha a (List.mem_cons_self ..) (st++dE av st b) (k'+1) hst2 (by rw[List.length_append,hbl];omega) (by rw[List.length_append,hbl];exact hin.1);simp only[Bool.false_eq_true,if_false];rw[hB];simp only;rw[pIA av l bs _ x st (acc++flat a) (by simpa using hl) (fun b hb'=>hb b (List.mem_cons_of_mem _ hb')) (fun a' h'=>ha a' (List.mem_cons_of_mem _ h')) hst (by omega) hin.2,qA];simp
def KnownT(av cs ds:List ByteArray)(t:List Nd):Prop:=∀ y∈t,(y.k=1→y.s∈av∧y.s∈cs∧kwW y.s=false)∧(y.k≠1→y.s.toList≠[]→y.s∈ds∧kwW y.s=false)
theorem KnownT.app{av:List ByteArray}{a b:List Nd}(h:KnownT av cs ds (a++b)):KnownT av cs ds a∧KnownT av cs ds b:=⟨fun y hy=>h y (List.mem_append_left _ hy),fun y hy=>h y (List.mem_append_right _ hy)⟩
theorem KnownT.part {av : List ByteArray} : ∀ {l : List Tm}, KnownT av cs ds (qA l) → ∀ a ∈ l, KnownT av cs ds (flat a)
  | b :: l, h, a, ha => by
    rw[qA]at h;rcases List.mem_cons.1 ha with rfl | ha
    · exact h.app.1
    · exact KnownT.part h.app.2 a ha
theorem hXA{s:ByteArray}(h:kwW s=false):zN s=none:=by
 unfold kwW at h;simp at h;exact h.2
theorem lMA{ks:List PK}{k:Nat}{things:List SX}{x:Nd}{st:List ByteArray}(hs:(x.s.toList==[])=true∨(nameK x.s=true∧x.s∈ds))(hn:x.k=26→0≤x.n∧x.n≤5) :
 ∃ k', goS cs ds ((if x.s.toList == [] then [] else [.da]) ++ ((if x.k = 26 then [.nu] else []) ++ ks)) (wF k ((if x.s.toList == [] then [] else [.w x.s]) ++ ((if x.k = 26 then [.w ⟨(Lib.decDigits x.n.toNat).toArray⟩] else []) ++ things)))
   ⟨x.k,if x.k=26 then 0 else x.n,x.m,⟨#[]⟩⟩ [] st []=goS cs ds ks (wF k' things) ⟨x.k,x.n,x.m,if x.s.toList==[] then⟨#[]⟩ else x.s⟩ [] st []:=by
 have num:∀(k:Nat) (s:ByteArray),∃ k',goS cs ds ((if x.k=26 then [.nu] else [])++ks) (wF k ((if x.k=26 then [.w ⟨(Lib.decDigits x.n.toNat).toArray⟩] else [])++things)) ⟨x.k,if x.k=26 then 0 else x.n,x.m,s⟩ [] st []=goS cs ds ks (wF k' things) ⟨x.k,x.n,x.m,s⟩ [] st []:=by
  intro k s;by_cases h26:x.k=26
  · have hn':=hn h26;simp only[if_pos h26];refine⟨k+1+(xC (SX.w ⟨(Lib.decDigits x.n.toNat).toArray⟩)).length,?_⟩;rw[List.singleton_append,List.singleton_append,wF,goS,oM];simp only;rw[iNA (by omega)];simp only;unfold zUA;rw[if_pos h26,if_pos (by simp;omega)];rw[show((x.n.toNat:Nat):Int)=x.n by omega]
  · simp only[if_neg h26];exact⟨k,rfl⟩
 cases hz:(x.s.toList==[])
 · rcases hs with h | ⟨h1, h2⟩
   · rw[h]at hz;cases hz
   · obtain⟨k',hk⟩:=num (k+1+(xC (.w x.s)).length) x.s;refine⟨k',?_⟩;simp only[Bool.false_eq_true,if_false];rw[List.singleton_append,List.singleton_append,wF,goS,oM];simp only[h1,if_true];rw[if_pos (wP.2 h2),hk]
 · simp only[if_true];exact num k _
theorem k5A(av:List ByteArray)(T:Tm):okT T→KnownT av cs ds (flat T)→kUA av cs ds T:=by
 induction T using Tm.rec (motive_2:=fun l=>jM l→KnownT av cs ds (qA l)→∀ a∈l,kUA av cs ds a) with
 | mk x l ih =>
   rintro⟨hx,hl,hls⟩ hkn st k hst hf hin;rw[flat]at hkn;have hrt:=hkn.app.2 x (by simp);have ihl:=ih hls hkn.app.1;have hk:=oH hx;unfold inT at hin;rw[flat,List.length_append,List.length_singleton]at hf;unfold sxT;by_cases h0:x.k=0
   · rw [if_pos h0] at hin ⊢; have hv := xJ hx h0; obtain ⟨u, hu⟩ : ∃ u : Nat, x.n = u := ⟨x.n.toNat, by omega⟩; rw [hu] at hin hv; have hlt : u < st.length := by omega
     rw[hu,Int.toNat_natCast,List.getD_eq_getElem?_getD,List.getElem?_eq_getElem (by omega),Option.getD_some,nL,pJ];have hm:=List.getElem_mem (l:=st) (n:=st.length - 1 - u) (by omega);unfold lK;rw[(hst.nameK hm).2];simp only;rw[if_pos (hst.nameK hm).1,iTA hst.nod hlt];simp only;rw[if_neg (by omega)];have hb0:binds x=[]:=by simp[binds,h0,pE]
     have hl0:l=[]:=List.eq_nil_of_length_eq_zero (by rw[hl,hb0];rfl);subst hl0;have hz:=vI hx;have ex:x=⟨0,(u:Int),0,⟨#[]⟩⟩:=by
      obtain⟨xk,xn,xm,xs⟩:=x;simp only at hu h0 hz;subst h0;rw[hz.2.1 rfl,hz.2.2 rfl,hu]
     rw[ex];rfl
   rw[if_neg h0]at hin ⊢;by_cases h1:x.k=1
   · rw [if_pos h1, nL, pJ]; obtain ⟨k1, k2, k3⟩ := hrt.1 h1; have hnm : qD x.s = true := by
      rcases fG hx with⟨_,h⟩ | ⟨h,_⟩
      · rw[h1]at h;cases h
      · exact h
     unfold lK;rw[hXA k3];simp only;rw[if_pos (by unfold nameK;rw[hnm,k3];rfl),vKA (fun h=>hst.out _ h k1)];simp only;rw[if_pos (wP.2 k2)];have hb0:binds x=[]:=by simp[binds,h1,pE]
     have hl0:l=[]:=List.eq_nil_of_length_eq_zero (by rw[hl,hb0];rfl);subst hl0;have hz:=vI hx;obtain⟨xk,xn,xm,xs⟩:=x;simp only at *;subst h1;rw[hz.2.1 rfl,hz.1 rfl];rfl
   rw[if_neg h1]
   cases hp:sH x
   · rw [if_neg (by decide)]; by_cases h2 : x.k = 2
     · rw [if_pos h2]; have hb0 : binds x = [] := by simp [binds, h2, pE]
       have hl0:l=[]:=List.eq_nil_of_length_eq_zero (by rw[hl,hb0];rfl);subst hl0;have hz:=vI hx;have hn2:0≤x.n∧x.n≤9:=by
        unfold nA at hx;simp[h2,fN,fM,fS]at hx;omega
       obtain⟨xk,xn,xm,xs⟩:=x;simp only at *;subst h2;obtain rfl:=hz.2.1 rfl;obtain rfl:=hz.2.2 rfl;by_cases hn:xn=0
       · subst hn;rw[if_pos rfl,nL,pJ];rfl
       · rw [if_neg hn, nL, pJ, zT, wF, wF, iK, oM]; have hf2 : gN ⟨#[84, 121, 112, 101]⟩ = some (2, 0, [110]) := by rfl
         simp only;rw[hf2];simp only;have e1:yB [110] 1=[110]:=by rfl
         rw[show([nL (k+1+(xC (SX.w ⟨#[84,121,112,101]⟩)).length+1) (SX.w ⟨(Lib.decDigits xn.toNat).toArray⟩)]:List ST).length=1 from rfl,e1,if_pos ⟨rfl,fun h=>by omega⟩];rw[show dC false [110]=[.nu] from rfl,goS,oM];simp only;rw[iNA (by omega)];simp only;rw[if_pos (by unfold zUA;rw[if_neg (by decide)];simp;omega),cVA]
         · simp only[flat,qA];rw[show((xn.toNat:Nat):Int)=xn by omega,if_neg (by decide)]
     · rw [if_neg h2]; obtain ⟨parts, f1, f2, f3, f4⟩ := p6A hx h0 h1 hp h2; have hbl : ∀ b ∈ binds x, b ≤ 2 := fun b hb => by
        have:=nK (x:=x);unfold oF at this;rw[if_pos hx]at this;exact this b hb
       have hsd:(x.s.toList==[])=true∨(nameK x.s=true∧x.s∈ds):=by
        cases hz:(x.s.toList==[])
        · right
          have hne:x.s.toList≠[]:=by simpa using hz
          obtain⟨g1,g2⟩:=hrt.2 h1 hne;rcases fG hx with⟨h,_⟩ | ⟨h,_⟩
          · exact absurd h hne
          · exact⟨by unfold nameK;rw[h,g2];rfl,g1⟩
        · exact .inl rfl
       have hn26:x.k=26→0≤x.n∧x.n≤5:=fun h26=>by
        unfold nA at hx
        split at hx
        · cases hx
        split at hx
        · cases hx
        split at hx
        · cases hx
        split at hx
        · cases hx
        split at hx
        · cases hx
        simp at hx;omega
       have hlen:((if x.s.toList==[] then [] else [SX.w x.s])++(if x.k=26 then [SX.w ⟨(Lib.decDigits x.n.toNat).toArray⟩] else [])++(if jE x then [SX.w (bC (oD (av++st) st.length))] else [])++aR av l (binds x) st (jE x)).length=xK x:=by
        unfold xK;simp only[List.length_append]
        cases hfk:jE x
        · rw [dPA av l (binds x) st hl]
          split<;>split<;>simp<;>omega
        · have hfb : binds x = [0, 1] := by
            unfold jE at hfk;simp at hfk;unfold binds;rcases hfk with(h | h) | h<;>simp[h,pE]
          rw[hfb]at hl
          match l,hl with
          | [a,b],_=>split<;>split<;>simp[aR]
       rw [nL, pJ, zT, iK, oM]; simp only; rw [f1]; simp only; rw [wAA, hlen, if_pos ⟨f2, fun h => by
         rw[f4 h];have:=uK hx h;omega⟩,f3]
       unfold vQ;have hnode:(⟨x.k,if x.k=3∨x.k=6 then x.n else 0,if x.k=26∨x.k=27 then((xK x+1 - parts.length:Nat):Int) else 0,⟨#[]⟩⟩:Nd)=⟨x.k,if x.k=26 then 0 else x.n,x.m,⟨#[]⟩⟩:=by
        have hz:=vI hx;congr 1
        · by_cases h36 : x.k = 3 ∨ x.k = 6
          · rw[if_pos h36,if_neg (by omega)]
          · rw [if_neg h36]; by_cases h26 : x.k = 26
            · rw[if_pos h26]
            · rw [if_neg h26]; refine (hz.1 ?_).symm; have : ∀ j : Fin 30, j.val = 0 ∨ j.val = 2 ∨ j.val = 3 ∨ j.val = 6 ∨ j.val = 26 ∨ fN j.val = false := by decide
              rcases this ⟨x.k.toNat,by omega⟩ with h | h | h | h | h | h
              · exact absurd h (by show ¬ x.k.toNat=0;omega)
              · exact absurd h (by show ¬ x.k.toNat=2;omega)
              · exact absurd h (by show ¬ x.k.toNat=3;omega)
              · exact absurd h (by show ¬ x.k.toNat=6;omega)
              · exact absurd h (by show ¬ x.k.toNat=26;omega)
              · exact h
        · by_cases hm : x.k = 26 ∨ x.k = 27
          · rw[if_pos hm,f4 hm];have:=uK hx hm;omega
          · rw [if_neg hm]; refine (hz.2.1 ?_).symm; have : ∀ j : Fin 30, j.val = 26 ∨ j.val = 27 ∨ fM j.val = false := by decide
            rcases this ⟨x.k.toNat,by omega⟩ with h | h | h
            · exact absurd h (by show ¬ x.k.toNat=26;omega)
            · exact absurd h (by show ¬ x.k.toNat=27;omega)
            · exact h
       rw[hnode];have hxs:(⟨x.k,x.n,x.m,if x.s.toList==[] then⟨#[]⟩ else x.s⟩:Nd)=x:=by
        cases hz:(x.s.toList==[])
        · rfl
        · have : x.s = ⟨#[]⟩ := by
            rw[ByteArray.toList_eq]at hz;exact vL (by simpa using hz)
          simp only[if_true];rw[← this]
       cases hfk:jE x
       · simp only[Bool.false_eq_true,if_false,List.append_nil];obtain⟨k',hk'⟩:=lMA (cs:=cs) (ds:=ds) (ks:=(binds x).flatMap fun b=>List.replicate b .nm++[.te false]) (k:=k+1+(xC (.w (uD x))).length) (things:=aR av l (binds x) st false) (x:=x) (st:=st) hsd hn26;rw[List.append_assoc,List.append_assoc,hk',hxs,pIA av l (binds x) k' x st [] hl hbl ihl hst (by omega) hin,flat,List.nil_append]
       · have hfb : binds x = [0, 1] := by
           unfold jE at hfk;simp at hfk;unfold binds;rcases hfk with(h | h) | h<;>simp[h,pE]
         rw[hfb]at hl hin
         match l,hl with
         | [a, b], _ =>
           simp only[if_true];obtain⟨k',hk'⟩:=lMA (cs:=cs) (ds:=ds) (ks:=[.nm,.te true,.te false]) (k:=k+1+(xC (.w (uD x))).length) (things:=[SX.w (bC (oD (av++st) st.length))]++aR av [a,b] (binds x) st true) (x:=x) (st:=st) hsd hn26;have hfl:=bL a;have hfl2:=bL b;simp only[qA,List.length_append,List.length_nil]at hf;have hst2:=hst.snoc (by omega);have hnk:=hst2.nameK (s:=bC (oD (av++st) st.length)) (by simp);rw[List.append_assoc,List.append_assoc,List.append_assoc,hk',hxs,hfb];simp only[aR,List.headD_cons,List.tail_cons,if_true,List.nil_append,List.singleton_append,dE,List.append_nil];rw[wF,goS,oM];simp only[hnk.1,if_true];have h3:=ihl a (by simp) st (k'+1+(xC (SX.w (bC (oD (av++st) st.length)))).length+1) hst (by omega) hin.1;have h4:=fun k=>ihl b (by simp) (st++[bC (oD (av++st) st.length)]) k hst2 (by simp;omega) (by simpa using hin.2.1)
           rw[wF,goS];simp only[if_true];rw[h3];simp only;rw[wF,goS];simp only[Bool.false_eq_true,if_false,List.nil_append];rw[h4];simp only;rw[wF,cVA];simp[flat,qA]
   · rw [if_pos rfl, nL, pJ]; have h6 : x.k = 10 ∨ x.k = 11 ∨ x.k = 14 ∨ x.k = 16 ∨ x.k = 17 ∨ x.k = 29 := by simpa [sH, or_assoc] using hp
     have hb0:binds x=[]:=by rcases h6 with h | h | h | h | h | h<;>simp[binds,h,pE]
     have hl0:l=[]:=List.eq_nil_of_length_eq_zero (by rw[hl,hb0];rfl);subst hl0;have hz:=vI hx;obtain⟨xk,xn,xm,xs⟩:=x;simp only at *;rcases h6 with rfl | rfl | rfl | rfl | rfl | rfl<;>(obtain rfl:=hz.1 rfl;obtain rfl:=hz.2.1 rfl;obtain rfl:=hz.2.2 rfl;rfl)
 | nil=>rename_i h1 h2 a ha;cases ha
 | cons a l iha ihl =>
   rename_i h1 h2 b hb;rw[qA]at h2;rcases List.mem_cons.1 hb with rfl | hb
   · exact iha h1.1 h2.app.1
   · exact ihl h1.2 h2.app.2 b hb
end
theorem WordB.okX{s:ByteArray}(h:WordB s):okX bU (.w s):=⟨fun e=>h.1 (List.length_eq_zero_iff.1 (by rw[Array.length_toList];exact e)),h.2⟩
theorem bAA{p:UInt8→Bool}{a b:List SX}(ha:aV p a)(hb:aV p b):aV p (a++b):=by
 rw[uMA]at *;intro x hx;rcases List.mem_append.1 hx with h | h
 · exact ha x h
 · exact hb x h
theorem sZA{l:List ByteArray}(h:∀ s∈l,WordB s):aV bU (l.map .w):=by
 rw[uMA];intro x hx;obtain⟨s,hs,rfl⟩:=List.mem_map.1 hx;exact(h s hs).okX
theorem jCA(n:Nat):WordB ⟨(Lib.decDigits n).toArray⟩:=by
 have:=lS n;exact⟨by simpa using this.1,fun c hc=>this.2 c (by simpa using hc)⟩
theorem tCB(av:List ByteArray)(T:Tm):okT T→∀ st:List ByteArray,(∀ s∈st,WordB s)→inT T st.length→okX bU (sxT av T st):=by
 induction T using Tm.rec (motive_2:=fun l=>jM l→∀(bs:List Nat) (st:List ByteArray) (f:Bool),(∀ s∈st,WordB s)→oFA l bs st.length→aV bU (aR av l bs st f)) with
 | mk x l ih =>
   rintro⟨hx,hl,hls⟩ st hst hin;unfold inT at hin;unfold sxT;by_cases h0:x.k=0
   · rw[if_pos h0]at hin ⊢;have hv:=xJ hx h0;obtain⟨u,hu⟩:∃ u:Nat,x.n=u:=⟨x.n.toNat,by omega⟩;rw[hu]at hin;rw[hu,Int.toNat_natCast,List.getD_eq_getElem?_getD,List.getElem?_eq_getElem (by omega),Option.getD_some];exact(hst _ (List.getElem_mem _)).okX
   rw[if_neg h0]at hin ⊢;by_cases h1:x.k=1
   · rw [if_pos h1]; rcases fG hx with ⟨_, h⟩ | ⟨h, _⟩
     · rw[h1]at h;cases h
     · exact(uP h).okX
   rw[if_neg h1]
   cases hp:sH x;rotate_left
   · simp only[if_true];exact(nCA hx h0 h1).okX
   simp only[Bool.false_eq_true,if_false];by_cases h2:x.k=2
   · rw [if_pos h2]
     split
     · exact⟨by decide,by decide⟩
     · exact⟨⟨by decide,by decide⟩,(jCA _).okX,trivial⟩
   rw[if_neg h2];refine⟨(nCA hx h0 h1).okX,bAA (bAA (bAA ?_ ?_) ?_) (ih hls _ st _ hst hin)⟩
   · split
     · trivial
     · rename_i hs; rcases fG hx with ⟨h, _⟩ | ⟨h, _⟩
       · rw[h]at hs;exact absurd rfl hs
       · exact⟨(uP h).okX,trivial⟩
   · split
     · exact⟨(jCA _).okX,trivial⟩
     · trivial
   · split
     · exact⟨(jY _).okX,trivial⟩
     · trivial
 | nil=>rename_i bs st f hst hin;trivial
 | cons a l iha ihl =>
   rename_i h bs st f hst hin;obtain⟨ha,hl⟩:=h;obtain⟨h1,h2⟩:=hin;have hb:=aEA av (bs.headD 0) st;have hst2:∀ s∈st++dE av st (bs.headD 0),WordB s:=fun s hs=>by
    rcases List.mem_append.1 hs with hs | hs
    · exact hst s hs
    · exact hb s hs
   unfold aR;refine bAA ?_ ⟨iha ha _ hst2 (by rw[List.length_append,pM];exact h1),ihl hl bs.tail st f hst h2⟩
   split
   · trivial
   · exact sZA hb
theorem n3A{p q:UInt8→Bool}(h:∀ c,p c=true→q c=true)(x:SX):okX p x→okX q x:=by
 induction x using SX.rec (motive_2:=fun l=>aV p l→aV q l) with
 | w s=>exact fun k=>⟨k.1,fun c hc=>h c (k.2 c hc)⟩
 | l xs ih=>exact ih
 | nil=>rename_i k;exact k
 | cons a l iha ihl=>rename_i k;exact⟨iha k.1,ihl k.2⟩
theorem gSA(l:List SX)(h:∀ a∈l,∀ k,∀ y∈jB (nL k a),y.word.size≤(xC a).length):∀ k,∀ y∈iA (wF k l),y.word.size≤(yF l).length:=by
 induction l with
 | nil=>intro k y hy;simp[wF,iA]at hy
 | cons a l ih =>
   intro k y hy;rw[wF,iA]at hy;rw[yF];simp only[List.length_cons,List.length_append];rcases List.mem_append.1 hy with hy | hy
   · have:=h a List.mem_cons_self _ y hy;omega
   · have:=ih (fun b hb=>h b (List.mem_cons_of_mem _ hb)) _ y hy;omega
theorem oQA(x:SX):∀ k,∀ y∈jB (nL k x),y.word.size≤(xC x).length:=by
 induction x using SX.rec (motive_2:=fun l=>∀ a∈l,∀ k,∀ y∈jB (nL k a),y.word.size≤(xC a).length) with
 | w s =>
   intro k y hy;rw[nL,jB]at hy;rw[List.mem_singleton.1 hy,xC,Array.length_toList];exact Nat.le_refl _
 | l xs ih =>
   intro k y hy;rw[nL,jB]at hy;rw[xC];simp only[List.length_cons,List.length_append];rcases List.mem_append.1 hy with hy | hy
   · cases xs with
     | nil=>simp[zT,iA]at hy
     | cons a l =>
       rw[zT,iA]at hy;rw[nJ,List.length_append];rcases List.mem_append.1 hy with hy | hy
       · have:=ih a List.mem_cons_self _ y hy;omega
       · have:=gSA l (fun b hb=>ih b (List.mem_cons_of_mem _ hb)) _ y hy;omega
   · rw[List.mem_singleton.1 hy];exact Nat.zero_le _
 | nil=>rename_i a ha k y hy;cases ha
 | cons a l iha ihl =>
   rename_i b hb k y hy;rcases List.mem_cons.1 hb with rfl | hb
   · exact iha k y hy
   · exact ihl b hb k y hy
theorem hEA(l:List SX)(h:∀ a∈l,∀ k,(jB (nL k a)).length≤(xC a).length):∀ k,(iA (wF k l)).length≤(yF l).length:=by
 induction l with
 | nil=>intro k;simp[wF,iA,yF]
 | cons a l ih =>
   intro k;rw[wF,iA,yF];simp only[List.length_cons,List.length_append];have h1:=h a List.mem_cons_self (k+1);have h2:=ih (fun b hb=>h b (List.mem_cons_of_mem _ hb)) (k+1+(xC a).length);omega
theorem q0A{p:UInt8→Bool}(x:SX):okX p x→∀ k,(jB (nL k x)).length≤(xC x).length:=by
 induction x using SX.rec (motive_2:=fun l=>aV p l→∀ a∈l,∀ k,(jB (nL k a)).length≤(xC a).length) with
 | w s =>
   intro h k;rw[nL,jB,xC,Array.length_toList];have h1:=h.1;have:s.data.size=s.size:=rfl;simp;omega
 | l xs ih =>
   intro h k;rw[nL,jB,xC];simp only[List.length_cons,List.length_append,List.length_nil];have ih:=ih h
   cases xs with
   | nil=>simp[zT,iA]
   | cons a l =>
     rw[zT,iA,nJ,List.length_append,List.length_append];have h1:=ih a List.mem_cons_self (k+1);have h2:=hEA l (fun b hb=>ih b (List.mem_cons_of_mem _ hb)) (k+1+(xC a).length);omega
 | nil=>rename_i h a ha k;cases ha
 | cons a l iha ihl =>
   rename_i h b hb k;rcases List.mem_cons.1 hb with rfl | hb
   · exact iha h.1 k
   · exact ihl h.2 b hb k
end Go.Lx
