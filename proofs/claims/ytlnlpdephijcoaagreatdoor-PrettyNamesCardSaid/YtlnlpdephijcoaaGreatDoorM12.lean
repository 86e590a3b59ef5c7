/- Part 12 of what the proof rests on. -/
import Derived.Deep.Slices
import Derived.Deep.Fields
import Derived.WideKeyArgs
import Derived.OpenShut
import Derived.Conc.LeavingOf
import Derived.SevenTiedAt
import Derived.Test.YtlnlpdephijcoaaGreatDoorM01
import Derived.Test.YtlnlpdephijcoaaGreatDoorM02
import Derived.Test.YtlnlpdephijcoaaGreatDoorM11
set_option linter.unusedSimpArgs false
set_option linter.unusedVariables false
namespace Go.Lx
open Go.ChangeShapes Go.WideShapes Go.RowKit Go.Deep
theorem lWA{α:Type}{Q:Nat→α→Prop}(n:Nat)(h:∀ i,i < n→∃ t,Q i t):∃ l:List α,l.length=n∧∀ i t,l[i]? = some t→Q i t:=by
 induction n with
 | zero=>exact⟨[],rfl,fun i t h=>by simp at h⟩
 | succ n ih =>
   obtain⟨l,h1,h2⟩:=ih fun i hi=>h i (by omega)
   obtain⟨t,ht⟩:=h n (by omega);refine⟨l++[t],by simp[h1],fun i u hu=>?_⟩;rw[List.getElem?_append]at hu
   split at hu
   · exact h2 i u hu
   · rename_i hi; have h0 : i - l.length = 0 := by
      have:=(List.getElem?_eq_some_iff.1 hu).1;simp at this;omega
     rw[h0]at hu
     cases hu;have:i=n:=by omega
     exact this▸ht
theorem mOA{rows:List (List Value)}{size:Nat}(hs:0 < size)(h:∀ r∈rows,r.length=size){j:Nat}{u:Value}(hj:rows.flatten[j]? = some u):∃ r,rows[j / size]? = some r∧r[j % size]? = some u:=by
 have hlen:=kLA h;have hjl:=(List.getElem?_eq_some_iff.1 hj).1;rw[hlen]at hjl;have hk:j / size < rows.length:=(Nat.div_lt_iff_lt_mul hs).2 hjl;have hm:j % size < size:=Nat.mod_lt _ hs;have hr:=List.getElem?_eq_getElem hk;have hrl:=h _ (List.getElem_mem hk);refine⟨rows[j / size],hr,?_⟩;have:=rT (j:=j % size) (u:=rows[j / size][j % size]'(by omega)) h hr (List.getElem?_eq_getElem (by omega));rw[Nat.div_add_mod' j size]at this;rw[this]at hj
 cases hj;exact List.getElem?_eq_getElem _
section
variable {H : Type} {enc : TypeId × Value → H} {P : Program} {w : World} {spare : Nat → Bool} {held : Bool} {t e : TypeId} {fuel : Nat} {cs : List Value} {x : DataW H × List MemPlace}
theorem jJA {α : Type} {R : World → List Value → α → Prop} {size : Nat} (ht : P.underlying t = some (.slice e)) (hC : P.cellsOf e = size) (hs : 0 < size)
    (hopen:∀ fuel cs x,cs.length=size→DataW.trod enc P w 0 spare held fuel e cs=some x→∃ a,R w cs a) (h:DataW.trod enc P w 0 spare held fuel t cs=some x) :
    ∃(p:Option Addr) (c:Nat) (xs:List α),cs=[.slice p xs.length c]∧xs.length≤c∧(p=none→c=0)∧RowsV size R w p xs:=by
  rcases open_slice ht h with⟨rfl,_⟩ | ⟨a,len,cap,m,n,D,Pl,rfl,_,hl,hm,hmm,_,hi⟩
  · exact⟨none,0,[],rfl,Nat.le_refl _,fun _=>rfl,RowsV.nil⟩
  · have hlm : len ≤ m := by rw [hmm]; split <;> omega
    rw[hC]at hi;have each:∀ i,i < len→∃ q:List Value×α,q.1.length=size∧R w q.1 q.2∧∀ j u,q.1[j]? = some u→w.cell? ((a.add (i * size)).add j)=some u:=by
     intro i hlt; obtain ⟨cs', hc, ht'⟩ := hi i (by omega); obtain ⟨_, hcl, hat⟩ := World.cells?_some hc; obtain ⟨b, hb⟩ := hopen _ _ _ hcl ht'; exact ⟨(cs', b), hcl, hb, fun j u hj => by
       have hjl:=(List.getElem?_eq_some_iff.1 hj).1;have hj':cs'[j]? = some u:=hj;rw[hat j (by have:(cs',b).1.length=cs'.length:=rfl;omega)];exact hj'⟩
    obtain⟨l,hll,hl2⟩:=lWA len each;refine⟨some a,cap,l.map (·.2),by simp[hll],by simpa [hll] using hl,(fun h=>by cases h),l.map (·.1),?_,?_,?_⟩
    · intro hne; obtain ⟨b, off, sp⟩ := a; have hrows : ∀ r ∈ l.map (·.1), r.length = size := by
       intro r hr;obtain⟨q,hq,rfl⟩:=List.mem_map.1 hr;obtain⟨i,hi'⟩:=List.getElem?_of_mem hq;exact(hl2 i q hi').1
      obtain⟨u0,hu0⟩:∃ u,(l.map (·.1)).flatten[0]? = some u:=by
       cases hf:(l.map (·.1)).flatten with
       | nil=>exact absurd hf hne
       | cons y ys=>exact⟨y,rfl⟩
      have cellof:∀ j u,(l.map (·.1)).flatten[j]? = some u→w.cell? ((Addr.add ⟨b,off,sp⟩ (j / size * size)).add (j % size))=some u:=by
       intro j u hj;obtain⟨r,hr,hru⟩:=mOA hs hrows hj;rw[List.getElem?_map]at hr
       cases hq:l[j / size]? with
       | none=>rw[hq]at hr;cases hr
       | some q =>
         rw[hq]at hr
         cases hr;exact(hl2 _ q hq).2.2 _ u hru
      have c0:=cellof 0 u0 hu0;have hsp:sp=none:=by
       have:=World.cell?_spot c0
       simpa [Addr.add] using this
      subst hsp;refine⟨b,off,rfl,?_,fun j u hj=>?_⟩
      · simp only [World.cell?, Addr.add] at c0; simp at c0
        cases hb:w.heap[b]? with
        | none=>simp[hb]at c0
        | some o=>exact(Array.getElem?_eq_some_iff.1 hb).1
      · have:=cellof j u hj;rw[eO,eO,Nat.add_assoc,Nat.div_add_mod' j size]at this;exact this
    · intro r hr;obtain⟨q,hq,rfl⟩:=List.mem_map.1 hr;obtain⟨i,hi'⟩:=List.getElem?_of_mem hq;exact(hl2 i q hi').1
    · refine ⟨by simp, fun i v y hv hy => ?_⟩; rw [List.getElem?_map] at hv hy
      cases hq:l[i]? with
      | none=>rw[hq]at hv;cases hv
      | some q =>
        rw[hq]at hv hy
        cases hv;cases hy;exact(hl2 i q hq).2.1
theorem gUA {f0 f1 f2 f3 : Field} (ht : P.underlying t = some (.slice e)) (he : P.underlying e = some (.struct #[f0, f1, f2, f3])) (hone : oneCellFields P #[f0, f1, f2, f3] = true) (hC : P.cellsOf e = 4)
    (u0:P.underlying f0.type=some (.int .i64)) (u1:P.underlying f1.type=some (.int .i64)) (u2:P.underlying f2.type=some (.int .i64)) (u3:P.underlying f3.type=some .string) (h:DataW.trod enc P w 0 spare held fuel t cs=some x) :
    ∃ v l,cs=[v]∧TermV w v l:=by
  obtain ⟨p, c, xs, rfl, hc, h0, rows, hr1, hr2, hr3⟩ := jJA (R := fun _ cs (a : Nd) => cs = sQA a) ht hC (by decide) (fun fuel cs x hcl hx => by
    obtain⟨ys,n',_,_,_,hyl,hf⟩:=DataW.trod_struct he hx;obtain⟨o0,k0⟩:=hone_of hone 0 f0 rfl;obtain⟨o1,k1⟩:=hone_of hone 1 f1 rfl;obtain⟨o2,k2⟩:=hone_of hone 2 f2 rfl;obtain⟨o3,k3⟩:=hone_of hone 3 f3 rfl;have g0:=hf 0 f0 rfl;have g1:=hf 1 f1 rfl;have g2:=hf 2 f2 rfl;have g3:=hf 3 f3 rfl;rw[o0,k0]at g0;rw[o1,k1]at g1;rw[o2,k2]at g2;rw[o3,k3]at g3
    match cs,hcl with
    | [v0, v1, v2, v3], _ =>
      match ys,hyl with
      | [y0, y1, y2, y3], _ =>
        obtain⟨z0,e0,_,_⟩:=DataW.trod_int u0 (x:=y0) g0;obtain⟨z1,e1,_,_⟩:=DataW.trod_int u1 (x:=y1) g1;obtain⟨z2,e2,_,_⟩:=DataW.trod_int u2 (x:=y2) g2;obtain⟨z3,e3,_,_⟩:=DataW.trod_string u3 (x:=y3) g3
        cases e0;cases e1;cases e2;cases e3;exact⟨⟨z0,z1,z2,z3⟩,rfl⟩) h
  refine⟨_,xs,rfl,p,c,rfl,hc,h0,?_⟩;have:∀(rows:List (List Value)) (xs:List Nd),Zip (fun cs a=>cs=sQA a) rows xs→rows.flatten=zB xs:=by
   intro rows
   induction rows with
   | nil=>intro xs hz;obtain⟨e,_⟩:=hz;cases xs with | nil=>rfl | cons=>cases e
   | cons r l ih =>
     intro xs hz
     cases xs with
     | nil=>cases hz.1
     | cons y ys =>
       obtain rfl:=hz.2 0 r y rfl rfl;have ht:Zip (fun cs a=>cs=sQA a) l ys:=⟨by have:=hz.1;simpa using this,fun i v x hv hx=>hz.2 (i+1) v x (by simpa using hv) (by simpa using hx)⟩;rw[List.flatten_cons,ih ys ht];rfl
  rw[← this rows xs hr3];exact hr1
end
def gBA{H:Type}(l:List Nat):DataW H:=if l=[] then .nil else .slice (l.map fun(n:Nat)=>.lit (.int .i64 (n:Int))) []
def qSA{H:Type}(k:Nat):DataW H:=.agg [gBA (pE k),.lit (.bool (fN k)),.lit (.bool (fM k)),.lit (.bool (fS k))]
theorem jZ{w:World}{b j:Nat}{v:Value}(h:w.cell? ⟨b,j,none⟩=some v):b < w.heap.size:=by
 simp only[World.cell?]at h
 cases hb:w.heap[b]? with
 | none=>simp[hb]at h
 | some o=>exact(Array.getElem?_eq_some_iff.1 hb).1
section
variable {H : Type} {enc : TypeId × Value → H} {P : Program} {w : World} {base : Nat} {spare : Nat → Bool} {held : Bool} {t e : TypeId} {fuel : Nat} {cs : List Value} {q : List MemPlace}
theorem oWA{l:List Nat}(ht:P.underlying t=some (.slice e))(he:P.underlying e=some (.int .i64))(hC:P.cellsOf e=1)(h:DataW.trod enc P w base spare held fuel t cs=some (gBA l,q)) :
 ∃ p c,cs=[.slice p l.length c]∧l.length≤c∧RowArg w p (iE l):=by
 rcases open_slice ht h with⟨rfl,hx⟩ | ⟨a,len,cap,m,n,D,Pl,rfl,_,hl,hm,hmm,hx,hi⟩
 · have : l = [] := by
     unfold gBA at hx
     split at hx
     · assumption
     · simp at hx
   subst this;exact⟨none,0,rfl,Nat.le_refl _,RowArg.nil⟩
 · have hlm : len ≤ m := by rw [hmm]; split <;> omega
   rw[hC]at hi;have hne:l≠[]:=by
    intro e;subst e;simp[gBA]at hx
   unfold gBA at hx;rw[if_neg hne]at hx;simp only[Prod.mk.injEq,DataW.slice.injEq]at hx;obtain⟨⟨hmap,_⟩,_⟩:=hx;have hlen:l.length=len:=by have:=congrArg List.length hmap;simpa using this
   have each:∀(i n':Nat),l[i]? = some n'→w.cell? (a.add (i * 1))=some (.int .i64 (n':Int)):=by
    intro i n' hn';have hil:=(List.getElem?_eq_some_iff.1 hn').1;obtain⟨cs',hc,ht'⟩:=hi i (by omega);obtain⟨_,hcl,hat⟩:=World.cells?_some hc;obtain⟨z,e1,e2,_⟩:=DataW.trod_int he ht';subst e1;have h0:=hat 0 (by decide);have hD:D i = .lit (.int .i64 (n':Int)):=by
     have:=congrArg (fun r=>r[i]?) hmap;simp only[List.getElem?_map,hn',Option.map_some,List.getElem?_range (show i < len by omega)]at this;exact(Option.some.inj this).symm
    have e3:D i = .lit (.int .i64 z):=congrArg Prod.fst e2;rw[hD]at e3
    cases e3
    simpa [Addr.add] using h0
   refine⟨some a,cap,by rw[hlen],by omega,fun _=>?_⟩;obtain⟨b,off,sp⟩:=a;have hp:0 < l.length:=List.length_pos_iff.2 hne;have c0:=each 0 l[0] (List.getElem?_eq_getElem hp);have hsp:sp=none:=by simpa [Addr.add] using World.cell?_spot c0
   subst hsp;refine⟨b,off,rfl,?_,fun j u hj=>?_⟩
   · rw[eO]at c0;exact jZ c0
   · unfold iE at hj; rw [List.getElem?_map] at hj
     cases hq:l[j]? with
     | none=>rw[hq]at hj;cases hj
     | some n' =>
       rw[hq]at hj
       cases hj;have:=each j n' hq;rw[eO,Nat.mul_one]at this;exact this
theorem vAB{n size m':Nat}{ds:List (DataW H)}(ht:P.underlying t=some (.array n e))(hC:P.cellsOf e=size)(h:DataW.trod enc P w base spare held fuel t cs=some (.agg ds,q)){i:Nat}(hi:i < n) :
 ∃ d q' m,ds[i]? = some d∧DataW.trod enc P w base spare held m e ((cs.drop (i * size)).take size)=some (d,q'):=by
 obtain⟨xs,m,_,hx,_,hn,hel⟩:=DataW.trod_array ht h;simp only[Prod.mk.injEq,DataW.agg.injEq]at hx;have h1:=hel i hi;rw[hC]at h1;have hxi:xs[i]? = some xs[i]:=List.getElem?_eq_getElem (by omega);rw[hxi]at h1;exact⟨xs[i].1,xs[i].2,m,by rw[hx.1,List.getElem?_map,hxi];rfl,h1⟩
theorem gMA{cs:List Value}{i size j:Nat}{v:Value}(h:((cs.drop (i * size)).take size)[j]? = some v):cs[i * size+j]? = some v:=by
 rw[List.getElem?_take]at h
 split at h
 · rw[List.getElem?_drop]at h;exact h
 · cases h
theorem nPA {g : Nat} {s ti : TypeId} {f0 f1 f2 f3 : Field} (hcell : ∀ j, w.cell? ⟨g, j, none⟩ = cs[j]?) (ht : P.underlying t = some (.array 30 s)) (hC : P.cellsOf s = 4) (hs : P.underlying s = some (.struct #[f0, f1, f2, f3])) (hone : oneCellFields P #[f0, f1, f2, f3] = true)
    (u0:P.underlying f0.type=some (.slice ti)) (ui:P.underlying ti=some (.int .i64)) (ci:P.cellsOf ti=1) (u1:P.underlying f1.type=some .bool) (u2:P.underlying f2.type=some .bool) (u3:P.underlying f3.type=some .bool)
    (h:DataW.trod enc P w base spare held fuel t cs=some (.agg ((List.range 30).map qSA),q)):ShapesAt g w:=by
  have each:∀ k,k < 30→∃ p c,w.cell? ⟨g,k * 4,none⟩=some (.slice p (pE k).length c)∧(pE k).length≤c∧RowArg w p (iE (pE k)) ∧
   w.cell? ⟨g,k * 4+1,none⟩=some (.bool (fN k))∧w.cell? ⟨g,k * 4+2,none⟩=some (.bool (fM k))∧w.cell? ⟨g,k * 4+3,none⟩=some (.bool (fS k)):=by
   intro k hk;obtain⟨d,q',m,hd,htr⟩:=vAB (m':=0) ht hC h hk;rw[List.getElem?_map,List.getElem?_range hk]at hd
   cases hd;obtain⟨ys,n',_,hx,hcl,hyl,hf⟩:=DataW.trod_struct hs htr;obtain⟨o0,k0⟩:=hone_of hone 0 f0 rfl;obtain⟨o1,k1⟩:=hone_of hone 1 f1 rfl;obtain⟨o2,k2⟩:=hone_of hone 2 f2 rfl;obtain⟨o3,k3⟩:=hone_of hone 3 f3 rfl;have g0:=hf 0 f0 rfl;have g1:=hf 1 f1 rfl;have g2:=hf 2 f2 rfl;have g3:=hf 3 f3 rfl;rw[o0,k0]at g0;rw[o1,k1]at g1;rw[o2,k2]at g2;rw[o3,k3]at g3;have hat:∀ j v,((cs.drop (k * 4)).take 4)[j]? = some v→w.cell? ⟨g,k * 4+j,none⟩=some v:=fun j v hj=>by rw[hcell];exact gMA hj
   rw[hC]at hcl;generalize (cs.drop (k * 4)).take 4=r at *
   match r,hcl with
   | [v0, v1, v2, v3], _ =>
     match ys,hyl with
     | [y0, y1, y2, y3], _ =>
       simp only[qSA,Prod.mk.injEq,DataW.agg.injEq,List.map_cons,List.map_nil,List.cons.injEq]at hx;obtain⟨⟨e0,e1,e2,e3,_⟩,_⟩:=hx;have g0':DataW.trod enc P w base spare held n' f0.type [v0]=some (gBA (pE k),y0.2):=by rw[e0];exact g0
       obtain⟨p,c,hv0,hc,hr⟩:=oWA u0 ui ci g0';obtain⟨b1,hv1,hb1⟩:=DataW.trod_bool u1 (x:=y1) g1;obtain⟨b2,hv2,hb2⟩:=DataW.trod_bool u2 (x:=y2) g2;obtain⟨b3,hv3,hb3⟩:=DataW.trod_bool u3 (x:=y3) g3;rw[hb1]at e1;rw[hb2]at e2;rw[hb3]at e3
       cases e1;cases e2;cases e3
       cases hv0;cases hv1;cases hv2;cases hv3;exact⟨p,c,hat 0 _ rfl,hc,hr,hat 1 _ rfl,hat 2 _ rfl,hat 3 _ rfl⟩
  refine⟨?_,each⟩;obtain⟨_,_,c0,_⟩:=each 0 (by decide);exact jZ c0
end
end Go.Lx
namespace Go.Lx
theorem m0A{cs:List ByteArray}{p:Int}{s:ByteArray}{st:List ByteArray}{t:List Nd}(h:lK cs p s st = .ok t):t.length=1:=by
 unfold lK at h
 split at h
 · cases h;rfl
 · split at h
   · split at h
     · split at h
       · cases h
       · cases h;rfl
     · split at h
       · cases h;rfl
       · cases h
   · cases h
theorem vZ {cs ds : List ByteArray} : ∀ (ks : List PK) (ys : List ST) (x : Nd) (nms st : List ByteArray) (acc t : List Nd), (∀ y ∈ ys, ∀ st t, pJ cs ds y st = .ok t → t.length ≤ (jB y).length) → goS cs ds ks ys x nms st acc = .ok t → t.length ≤ acc.length + (iA ys).length + 1
  | [], ys, x, nms, st, acc, t, _, h => by
    have:goS cs ds [] ys x nms st acc = .ok (acc++[x]):=by cases ys<;>simp[goS]
    rw[this]at h
    cases h;simp
  | k :: ks, [], x, nms, st, acc, t, _, h => by
    have:goS cs ds (k::ks) [] x nms st acc = .ok (acc++[x]):=by cases k<;>simp[goS]
    rw[this]at h
    cases h;simp
  | k :: ks, y :: ys, x, nms, st, acc, t, hy, h => by
    have hy':∀ z∈ys,∀ st t,pJ cs ds z st = .ok t→t.length≤(jB z).length:=fun z hz=>hy z (List.mem_cons_of_mem _ hz)
    have hp:=aP y;rw[iA,List.length_append]
    cases k with
    | nm =>
      rw[goS]at h
      split at h
      · have:=vZ ks ys _ _ _ _ _ hy' h;omega
      · cases h
    | nu =>
      rw[goS]at h
      split at h
      · split at h
        · have:=vZ ks ys _ _ _ _ _ hy' h;omega
        · cases h
      · cases h
    | da =>
      rw[goS]at h
      split at h
      · split at h
        · have:=vZ ks ys _ _ _ _ _ hy' h;omega
        · cases h
      · cases h
    | te w =>
      rw[goS]at h
      split at h
      · rename_i u hu;have h1:=hy y List.mem_cons_self _ _ hu;have:=vZ ks ys _ _ _ _ _ hy' h;rw[List.length_append]at this;omega
      · cases h
theorem oGA{cs ds:List ByteArray}(T:ST):∀ st t,pJ cs ds T st = .ok t→t.length≤(jB T).length:=by
 induction T using ST.rec (motive_2:=fun l=>∀ a∈l,∀ st t,pJ cs ds a st = .ok t→t.length≤(jB a).length) with
 | word p s =>
   intro st t h;rw[pJ]at h;rw[m0A h,jB];simp
 | list p l ih =>
   intro st t h;rw[pJ]at h
   cases l with
   | nil=>rw[iK]at h;cases h
   | cons a l =>
     rw[iK]at h
     split at h
     · cases h
     · split at h
       · have:=vZ _ _ _ _ _ _ _ (fun y hy=>ih y (List.mem_cons_of_mem _ hy)) h;rw[jB,iA,List.length_append,List.length_append];simp only[List.length_nil,List.length_singleton]at this ⊢;omega
       · cases h
 | nil=>rename_i a ha st t h;cases ha
 | cons a l iha ihl =>
   rename_i b hb st t h;rcases List.mem_cons.1 hb with rfl | hb
   · exact iha st t h
   · exact ihl b hb st t h
theorem nEA{s:ByteArray}(h:nameK s=true):s.size≤16:=by
 unfold nameK qD at h;simp at h;omega
theorem cOA{cs:List ByteArray}{p:Int}{s:ByteArray}{st:List ByteArray}{t:List Nd}(h:lK cs p s st = .ok t):∀ x∈t,x.s.size≤16:=by
 unfold lK at h
 split at h
 · cases h;intro x hx;rw[List.mem_singleton.1 hx];exact Nat.zero_le _
 · split at h
   · rename_i hk
     split at h
     · split at h
       · cases h
       · cases h;intro x hx;rw[List.mem_singleton.1 hx];exact Nat.zero_le _
     · split at h
       · cases h;intro x hx;rw[List.mem_singleton.1 hx];exact nEA hk
       · cases h
   · cases h
theorem mR {cs ds : List ByteArray} : ∀ (ks : List PK) (ys : List ST) (x : Nd) (nms st : List ByteArray) (acc t : List Nd), (∀ y ∈ ys, ∀ st t, pJ cs ds y st = .ok t → ∀ z ∈ t, z.s.size ≤ 16) → x.s.size ≤ 16 → (∀ z ∈ acc, z.s.size ≤ 16) → goS cs ds ks ys x nms st acc = .ok t → ∀ z ∈ t, z.s.size ≤ 16
  | [], ys, x, nms, st, acc, t, _, hx, ha, h => by
    have:goS cs ds [] ys x nms st acc = .ok (acc++[x]):=by cases ys<;>simp[goS]
    rw[this]at h
    cases h;intro z hz;rcases List.mem_append.1 hz with hz | hz
    · exact ha z hz
    · rw[List.mem_singleton.1 hz];exact hx
  | k :: ks, [], x, nms, st, acc, t, _, hx, ha, h => by
    have:goS cs ds (k::ks) [] x nms st acc = .ok (acc++[x]):=by cases k<;>simp[goS]
    rw[this]at h
    cases h;intro z hz;rcases List.mem_append.1 hz with hz | hz
    · exact ha z hz
    · rw[List.mem_singleton.1 hz];exact hx
  | k :: ks, y :: ys, x, nms, st, acc, t, hy, hx, ha, h => by
    have hy':∀ z∈ys,∀ st t,pJ cs ds z st = .ok t→∀ z∈t,z.s.size≤16:=fun z hz=>hy z (List.mem_cons_of_mem _ hz)
    cases k with
    | nm =>
      rw[goS]at h
      split at h
      · exact mR ks ys _ _ _ _ _ hy' hx ha h
      · cases h
    | nu =>
      rw[goS]at h
      split at h
      · split at h
        · refine mR ks ys _ _ _ _ _ hy' ?_ ha h;exact hx
        · cases h
      · cases h
    | da =>
      rw[goS]at h
      split at h
      · rename_i hk
        split at h
        · refine mR ks ys _ _ _ _ _ hy' ?_ ha h;exact nEA hk
        · cases h
      · cases h
    | te w =>
      rw[goS]at h
      split at h
      · rename_i u hu; refine mR ks ys _ _ _ _ _ hy' hx (fun z hz => ?_) h; rcases List.mem_append.1 hz with hz | hz
        · exact ha z hz
        · exact hy y List.mem_cons_self _ _ hu z hz
      · cases h
theorem uTA{cs ds:List ByteArray}(T:ST):∀ st t,pJ cs ds T st = .ok t→∀ z∈t,z.s.size≤16:=by
 induction T using ST.rec (motive_2:=fun l=>∀ a∈l,∀ st t,pJ cs ds a st = .ok t→∀ z∈t,z.s.size≤16) with
 | word p s =>
   intro st t h;rw[pJ]at h;exact cOA h
 | list p l ih =>
   intro st t h;rw[pJ]at h
   cases l with
   | nil=>rw[iK]at h;cases h
   | cons a l =>
     rw[iK]at h
     split at h
     · cases h
     · split at h
       · exact mR _ _ _ _ _ _ _ (fun y hy=>ih y (List.mem_cons_of_mem _ hy)) (Nat.zero_le _) (fun z hz=>by cases hz) h
       · cases h
 | nil=>rename_i a ha st t h z hz;cases ha
 | cons a l iha ihl =>
   rename_i b hb st t h z hz;rcases List.mem_cons.1 hb with rfl | hb
   · exact iha st t h z hz
   · exact ihl b hb st t h z hz
def rJA(cs ds:List ByteArray)(T:ST):Say:=match pJ cs ds T [] with
 | .error x=>.error x
 | .ok t=>if vB t=0 then .ok t else .error (vB t,T.last.pos)
end Go.Lx
namespace Go.Lx
open Go.ChangeShapes Go.WideShapes Go.RowKit Go.Deep
section
variable {H : Type} {enc : TypeId × Value → H} {P : Program} {w : World} {spare : Nat → Bool} {held : Bool} {t e : TypeId} {fuel : Nat} {cs : List Value} {x : DataW H × List MemPlace}
theorem lNA(ht:P.underlying t=some (.slice e))(he:P.underlying e=some .string)(hC:P.cellsOf e=1)(h:DataW.trod enc P w 0 spare held fuel t cs=some x):∃ v l,cs=[v]∧TextsV w v l:=by
 obtain ⟨p, c, xs, rfl, hc, h0, rows, hr1, hr2, hr3⟩ := jJA (R := fun _ cs (a : ByteArray) => cs = [.string a]) ht hC (by decide) (fun fuel cs x hcl hx => by
   obtain⟨z3,e3,_,_⟩:=DataW.trod_string he (x:=x) hx;exact⟨z3,e3⟩) h
 refine⟨_,xs,rfl,p,c,rfl,hc,h0,?_⟩;have:∀(rows:List (List Value)) (xs:List ByteArray),Zip (fun cs a=>cs=[.string a]) rows xs→rows.flatten=xs.map .string:=by
  intro rows
  induction rows with
  | nil=>intro xs hz;obtain⟨e,_⟩:=hz;cases xs with | nil=>rfl | cons=>cases e
  | cons r l ih =>
    intro xs hz
    cases xs with
    | nil=>cases hz.1
    | cons y ys =>
      obtain rfl:=hz.2 0 r y rfl rfl;have ht:Zip (fun cs a=>cs=[.string a]) l ys:=⟨by have:=hz.1;simpa using this,fun i v x hv hx=>hz.2 (i+1) v x (by simpa using hv) (by simpa using hx)⟩;rw[List.flatten_cons,ih ys ht];rfl
 rw[← this rows xs hr3];exact hr1
end
end Go.Lx
namespace Go.Lx
open Go Go.Conc
variable {H : Type} {enc : TypeId × Value → H}
theorem aU {a : Assume} {C : Checked} {os : Os} {f : FuncId} {fn : Func} {s : ChangeSpec} {conds : List PathCond} {apart fresh handsOn again : Bool} {X : World → Array Value → Prop}
    (hX:∀(w w':World) (args:Array Value),w.heap=w'.heap→X w args→X w' args)
    (own:ownKnob C.prog.godebug=none) (started:os.Started) (hfn:C.prog.funcs[f]? = some fn)
    (witness : ∃ (w : World) (tape : Tape) (i : Input), w.os = os ∧ (w.forCall tape i).Shaped C.prog ∧ i.vars = [] ∧ Input.okWide C.prog (w.forCall tape i) .any w.heap.size f i ∧
      ((s.pre enc C.prog fn conds apart (w.forCall tape i).memory i.args∧X (w.forCall tape i).memory i.args)∧sizedMet enc C.prog fn (OpenSpec.ofChange s) apart (w.forCall tape i).memory i.args)∧a.holds C.prog (lone (Frame.enter C.prog f i.args .normal) [] (w.forCall tape i)))
    (runs : ∀ (W : World) (base : Nat) (args : Array Value) (ds gs : List (DataW H)) (before : List MemPlace),
      (∀(j:Nat) t v,fn.params[j]? = some t→args[j]? = some v→Value.okWide C.prog W .any base t v) →
      DataW.Whole enc C.prog fn.params.toList s.vars apart W args.toList ds gs before →
      conds.all (PathCond.test C.prog ⟨fn.params.toList,ds,s.plain.varTypes C.prog,gs⟩)=true →
      (DataW.weightsEach C.prog (fn.params.toList++s.plain.varTypes C.prog) (ds++gs)).all (· ≤ reachBytes)=true→X W args →
      a.holds C.prog (lone (Frame.enter C.prog f args .normal) [] W) →
      ∃ M last o w' t',runNT C.prog (M+1) (solo (G (Frame.enter C.prog f args .normal) []) W) #[]=(.ended o w',t')∧runN C.prog M (solo (G (Frame.enter C.prog f args .normal) []) W) = .next last ∧
       step C.prog last = .ended o w'∧Conc.Good C.prog (fun v W'=>s.post enc C.prog fn apart fresh handsOn again W args v W') last o w' t') :
    ReturnsInLeavingWide a C os f .any (fun w args=>(s.pre enc C.prog fn conds apart w args∧X w args)∧sizedMet enc C.prog fn (OpenSpec.ofChange s) apart w args) (s.post enc C.prog fn apart fresh handsOn again):=by
  refine returnsInLeavingWide_of_good own started witness ?_;intro w tape i _ _ _ hok hpre hholds;obtain⟨_,_,_,fn',hfn',_,_,_,_,hval⟩:=hok;have e:fn'=fn:=Option.some.inj (hfn'.symm.trans hfn);subst e;obtain⟨⟨⟨ds,gs,before,hw,hc⟩,hx⟩,hz⟩:=hpre;have hw':=DataW.Whole.of_heap (w':=w.forCall tape i) (by rfl) hw;obtain⟨M,last,o,w',t',h1,h2,h3,h4⟩:=runs (w.forCall tape i) w.heap.size i.args ds gs before hval hw' hc (hz.weights hw) (hX _ _ _ (by rfl) hx) hholds;exact⟨M,last,o,w',t',h1,h2,h3,h4.mono fun v hp=>ChangeSpec.post_blind hp⟩
end Go.Lx
namespace Go.Lx
open Go
theorem wT (Lk : Looks) {p : Pinned} {s : OpenSpec} {c : OpenClaim} (kinds : List LaidKind) (tests : Bool) (har : Bool × String) (lk goes : Bool)
    (hc:c.holds p s) (hw:c.wfByText s=true) (htie:c.laidByTextAt Lk p kinds tests)
    (hst:c.start = .entering) (hnb:c.noBlocks=false∧c.again=false) (hm:p.checked.prog.mainIs=some (har.1,har.2.toList)) (hn:(!har.1&&har.2.isEmpty && !lk)=false)
    (hl:∀ f fn,p.checked.prog.funcNamed c.func=some f→p.checked.prog.funcs[f]? = some fn→lk=p.checked.prog.looks []∧∀(j:Nat) t,fn.params[j]? = some t→p.checked.prog.wantsStandIn t=false)
    (hg:goes=c.goesBy p.checked.prog) :
    Claim7.holds p (.plain s) { stood:={ row:=c,standIns:=[],harness:=har,looks:=lk },kinds:=[],alts:=[],goes:=goes,laidByText:=true,laidKinds:=kinds,laidTests:=tests,laidLooks:=Lk }:=by
  have h6:∀ r:OpenClaim,Claim7.isSixth { stood:={ row:=r,standIns:=[],harness:=har,looks:=lk },kinds:=[] }=false:=fun r=>by simpa [Claim7.isSixth] using hn
  refine⟨Claim7.tied_new_at Lk kinds tests (Claim7.new_of_sixth hc har lk hst hnb hm (h6 c) hl) hw,fun D hD=>?_,htie,(fun h=>by cases h),hg⟩
  cases hD
end Go.Lx
namespace Go.Lx
open Go.RowKit Go.MapKept
abbrev vK:=List (Int×Value)
def nIA : vK → Int → Option Value
  | [],_=>none
  | (a,v)::r,k=>if k=a then some v else nIA r k
def MapIAt(w:World)(b:Nat)(ks:vK):Prop:=∃ es clock,w.heap[b]? = some (.map es clock)∧es.toList.map (fun e=>(e.key,e.val))=ks.map fun p=>(.int .i64 p.1,p.2)
theorem MapIAt.lt{w:World}{b:Nat}{ks:vK}(h:MapIAt w b ks):b < w.heap.size:=by
 obtain⟨es,clock,hb,_⟩:=h;exact(Array.getElem?_eq_some_iff.1 hb).1
theorem r1A(w:World):MapIAt (w.alloc (.map #[] 0)) w.heap.size []:=⟨#[],0,by simp[uC],rfl⟩
theorem MapIAt.same{w w':World}{b:Nat}{ks:vK}(h:MapIAt w b ks)(hs:w'.heap[b]? = w.heap[b]?):MapIAt w' b ks:=by
 obtain⟨es,clock,hb,he⟩:=h;exact⟨es,clock,hs.trans hb,he⟩
theorem MapAt.same{w w':World}{b:Nat}{ks:lD}(h:MapAt w b ks)(hs:w'.heap[b]? = w.heap[b]?):MapAt w' b ks:=by
 obtain⟨es,clock,hb,he⟩:=h;exact⟨es,clock,hs.trans hb,he⟩
def tV : vK → Int → Nat → Option (Nat × Value)
  | [],_,_=>none
  | (a,v)::r,k,i=>if k=a then some (i,v) else tV r k (i+1)
theorem rFA : ∀ (ks : vK) (k : Int) (i : Nat), (tV ks k i).map (·.2) = nIA ks k
  | [],_,_=>rfl
  | (a, v) :: r, k, i => by
    simp only[tV,nIA]
    split
    · rfl
    · exact rFA r k (i+1)
theorem qU : ∀ (es : List MapEntry) (ks : vK) (k : Int) (i : Nat), es.map (fun e => (e.key, e.val)) = ks.map (fun p => (Value.int .i64 p.1, p.2)) → Instr.findNow (.int .i64) (.int .i64 k) es i = some (tV ks k i)
  | [],[],_,_,_=>rfl
  | [],_::_,_,_,h=>by simp at h
  | _::_,[],_,_,h=>by simp at h
  | e :: es, (a, v) :: r, k, i, h => by
    simp only[List.map_cons,List.cons.injEq,Prod.mk.injEq]at h;obtain⟨⟨h1,h2⟩,h3⟩:=h;simp only[Instr.findNow,Instr.sameNow,h1,tV];by_cases hk:k=a
    · subst hk;simp[h2]
    · have : (k == a) = false := by simpa using hk
      rw[this,if_neg hk];exact qU es r k (i+1) h3
section
variable {P : Program} {w : World} {b : Nat} {t kt et : TypeId} {v : Value}
theorem jT(e:Bool)(hk:P.underlying kt=some (.int .i64))(k:Int):(Instr.checkKey e 10000 kt (.int .i64 k)).run P w = .ok () w:=by
 rw[show(10000:Nat)=9999+1 from rfl,Instr.checkKey];simp[run_underlying hk]
theorem MapIAt.insert{ks:vK}{k:Int}(h:MapIAt w b ks)(hn:tV ks k 0=none)(ht:P.underlying t=some (.map kt et))(hk:P.underlying kt=some (.int .i64)) :
 ∃ w',(Instr.mapUpdate t (.map (some b)) (.int .i64 k) v).run P w = .ok () w'∧MapIAt w' b (ks++[(k,v)])∧Turned (some b) w w':=by
 obtain⟨es,clock,hb,he⟩:=h;have hlt:=(Array.getElem?_eq_some_iff.1 hb).1;have hf:=run_findKey (P:=P) (w:=w) hk (qU es.toList ks k 0 he);rw[hn]at hf;refine⟨w.putObj b (.map (es.push { key:=.int .i64 k,val:=v,born:=clock }) (clock+1)),?_,⟨_,_,World.putObj_heap_same hlt,?_⟩,⟨rfl,rfl,by simp,fun j hj hr=>World.putObj_heap_other fun e=>hr (congrArg some e)⟩⟩
 · simp[Instr.mapUpdate,run_underlying ht,run_underlying hk,pI (P:=P) hb,jT (P:=P) (w:=w) _ hk,hf,setObj,Sem.run,hb,Result.andThen,World.putObj]
 · simp[he]
theorem MapIAt.lookup{ks:vK}{k:Int}(h:MapIAt w b ks)(ht:P.underlying t=some (.map kt et))(hk:P.underlying kt=some (.int .i64)){z:Value}(hz:(zeroValue et).run P w = .ok z w) :
 (Instr.lookup t (.map (some b)) (.int .i64 k) false).run P w = .ok ((nIA ks k).getD z) w:=by
 obtain⟨es,clock,hb,he⟩:=h;have hf:=run_findKey (P:=P) (w:=w) hk (qU es.toList ks k 0 he);have hg:=rFA ks k 0
 cases hm:tV ks k 0 with
 | none =>
   rw[hm]at hf hg;rw[← hg];simp[Instr.lookup,run_underlying ht,run_underlying hk,pI (P:=P) hb,jT (P:=P) (w:=w) _ hk,hf,hz,Result.andThen]
 | some r =>
   rw[hm]at hf hg;rw[← hg];simp[Instr.lookup,run_underlying ht,run_underlying hk,pI (P:=P) hb,jT (P:=P) (w:=w) _ hk,hf,Result.andThen]
theorem kY {ks : vK} {k : Int} {ops : Array Oper} {rest : List Oper} {o : Oper} {a : Act} {Q : Exit → Act → World → Prop} (hg : o.guard = none) (m x y : Operand) (hop : o.op = Op.insert t m x y)
    (ht:P.underlying t=some (.map kt et)) (hk:P.underlying kt=some (.int .i64)) (em:a.eval m = .map (some b)) (hm:MapIAt w b ks) (ex:a.eval x = .int .i64 k) (ey:a.eval y=v) (hn:tV ks k 0=none)
    (h:∀ w',MapIAt w' b (ks++[(k,v)])→Turned (some b) w w'→wpList P ops Q rest (a.put o.dst undef) w'):wpList P ops Q (o::rest) a w:=by
  refine wpList_plain hg fun K' hK'=>?_
  obtain⟨w',hrun,r1,r2⟩:=hm.insert (v:=v) (k:=k) hn ht hk;unfold Oper.wp;simp[execOp,hop,em,ex,ey,hrun,Result.andThen];exact hK' _ _ (h w' r1 r2)
theorem MapAt.delete{ks:lD}{k:ByteArray}{u:Value}(h:MapAt w b (ks++[(k,u)]))(hn:wK ks k 0=none)(ht:P.underlying t=some (.map kt et))(hk:P.underlying kt=some .string)(ty:TypeId)(kt':TypeId) :
 ∃ w',(Builtin.delete_ #[t,kt'] ty #[.map (some b),.string k]).run P w = .ok (.tuple #[]) w'∧MapAt w' b ks∧Turned (some b) w w':=by
 obtain⟨es,clock,hb,he⟩:=h;have hlt:=(Array.getElem?_eq_some_iff.1 hb).1;have hf:=run_findKey (P:=P) (w:=w) hk (vS es.toList _ k 0 he);have hfi:∀(l:lD) (i:Nat),wK l k i=none→wK (l++[(k,u)]) k i=some (i+l.length,u):=fun l=>by
  induction l with
  | nil=>intro i _;simp[wK]
  | cons p r ih =>
    intro i h;obtain⟨a,y⟩:=p;simp only[wK,List.cons_append]at h ⊢
    split at h
    · cases h
    · rename_i hk; rw [if_neg hk, ih _ h, List.length_cons]; congr 2
      omega
 rw[hfi ks 0 hn,Nat.zero_add]at hf;have hes:es.size=ks.length+1:=by
  have:=congrArg List.length he
  simpa using this
 refine⟨w.putObj b (.map (es.eraseIdxIfInBounds ks.length) clock),?_,⟨_,_,World.putObj_heap_same hlt,?_⟩,⟨rfl,rfl,by simp,fun j hj hr=>World.putObj_heap_other fun e=>hr (congrArg some e)⟩⟩
 · simp[Builtin.delete_,run_underlying ht,pI (P:=P) hb,dI (P:=P) (w:=w) _ hk,hf,setObj,Sem.run,hb,Result.andThen,World.putObj]
 · have e1 : (es.eraseIdxIfInBounds ks.length).toList = es.toList.take ks.length := by
     rw[Array.toList_eraseIdxIfInBounds];apply List.ext_getElem?;intro i;rw[List.getElem?_eraseIdx,List.getElem?_take]
     split
     · rfl
     · exact List.getElem?_eq_none (by simp;omega)
   rw[e1,List.map_take,he];simp
theorem o6 {ks : lD} {k : ByteArray} {u : Value} {ops : Array Oper} {rest : List Oper} {o : Oper} {a : Act} {Q : Exit → Act → World → Prop} (hg : o.guard = none) (m x : Operand) (kt' : TypeId) (hop : o.op = Op.call { callee := Callee.builtin Builtin.delete, args := #[m, x], argTypes := #[t, kt'] })
    (ht:P.underlying t=some (.map kt et)) (hk:P.underlying kt=some .string) (em:a.eval m = .map (some b)) (hm:MapAt w b (ks++[(k,u)])) (hn:wK ks k 0=none) (ex:a.eval x = .string k)
    (h:∀ w',MapAt w' b ks→Turned (some b) w w'→wpList P ops Q rest (a.put o.dst (.tuple #[])) w'):wpList P ops Q (o::rest) a w:=by
  refine wpList_plain hg fun K' hK'=>?_
  obtain⟨w',hrun,r1,r2⟩:=hm.delete (k:=k) hn ht hk o.type kt';unfold Oper.wp;simp[execOp,hop,em,ex,resolve,invoke,builtin,hrun,Result.andThen];exact hK' _ _ (h w' r1 r2)
end
end Go.Lx
namespace Go.Lx
def kJ : Nat → ByteArray
  | 2=>⟨#[84,121,112,101]⟩
  | 3=>⟨#[112,105]⟩
  | 4=>⟨#[108,97,109]⟩
  | 5=>⟨#[97,112,112]⟩
  | 6=>⟨#[115,105,103]⟩
  | 7=>⟨#[112,97,105,114]⟩
  | 8=>⟨#[102,115,116]⟩
  | 9=>⟨#[115,110,100]⟩
  | 10=>⟨#[78,97,116]⟩
  | 11=>⟨#[122,101,114,111]⟩
  | 12=>⟨#[115,117,99]⟩
  | 13=>⟨#[114,101,99]⟩
  | 14=>⟨#[69,109,112,116,121]⟩
  | 15=>⟨#[97,98,111,114,116]⟩
  | 16=>⟨#[85,110,105,116]⟩
  | 17=>⟨#[115,116,97,114]⟩
  | 18=>⟨#[101,113]⟩
  | 19=>⟨#[114,101,102,108]⟩
  | 20=>⟨#[99,97,115,116]⟩
  | 21=>⟨#[116,114,97,110,115,112]⟩
  | 22=>⟨#[113,117,111,116]⟩
  | 23=>⟨#[99,108,97,115,115]⟩
  | 24=>⟨#[113,101,108,105,109]⟩
  | 25=>⟨#[100,97,116,97]⟩
  | 26=>⟨#[99,111,110]⟩
  | 27=>⟨#[101,108,105,109]⟩
  | 28=>⟨#[112,114,102]⟩
  | 29=>⟨#[116,105,99,107]⟩
  | _=>⟨#[]⟩
def uD(x:Nd):ByteArray:=if(x.k=3∨x.k=6)∧0 < x.n then⟨(kJ x.k.toNat).data++(Lib.decDigits x.n.toNat).toArray⟩ else kJ x.k.toNat
end Go.Lx
