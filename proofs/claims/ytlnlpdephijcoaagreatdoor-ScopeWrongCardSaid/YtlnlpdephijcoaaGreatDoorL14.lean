/- Part 14 of what the proof rests on. -/
import Derived.OpenShut
import Derived.Deep.Slices
import Derived.Deep.Fields
import Derived.WideKeyArgs
import Derived.Conc.LeavingOf
import Derived.SevenTiedAt
import Derived.Test.YtlnlpdephijcoaaGreatDoorL01
import Derived.Test.YtlnlpdephijcoaaGreatDoorL02
import Derived.Test.YtlnlpdephijcoaaGreatDoorL13
set_option linter.unusedSimpArgs false
set_option linter.unusedVariables false
namespace Go.Lx
open Go.ChangeShapes Go.WideShapes Go.RowKit Go.Deep
def l7{H:Type}(l:List Nat):DataW H:=if l=[] then .nil else .slice (l.map fun(n:Nat)=>.lit (.int .i64 (n:Int))) []
def lNA{H:Type}(k:Nat):DataW H:=.agg [l7 (vJ k),.lit (.bool (fN k)),.lit (.bool (fM k)),.lit (.bool (fS k))]
theorem zX{w:World}{b j:Nat}{v:Value}(h:w.cell? ⟨b,j,none⟩=some v):b < w.heap.size:=by
 simp only[World.cell?]at h
 cases hb:w.heap[b]? with
 | none=>simp[hb]at h
 | some o=>exact(Array.getElem?_eq_some_iff.1 hb).1
section
variable {H : Type} {enc : TypeId × Value → H} {P : Program} {w : World} {base : Nat} {spare : Nat → Bool} {held : Bool} {t e : TypeId} {fuel : Nat} {cs : List Value} {q : List MemPlace}
theorem cWA{l:List Nat}(ht:P.underlying t=some (.slice e))(he:P.underlying e=some (.int .i64))(hC:P.cellsOf e=1)(h:DataW.trod enc P w base spare held fuel t cs=some (l7 l,q)) :
 ∃ p c,cs=[.slice p l.length c]∧l.length≤c∧RowArg w p (kL l):=by
 rcases open_slice ht h with⟨rfl,hx⟩ | ⟨a,len,cap,m,n,D,Pl,rfl,_,hl,hm,hmm,hx,hi⟩
 · have : l = [] := by
     unfold l7 at hx
     split at hx
     · assumption
     · simp at hx
   subst this;exact⟨none,0,rfl,Nat.le_refl _,RowArg.nil⟩
 · have hlm : len ≤ m := by rw [hmm]; split <;> omega
   rw[hC]at hi;have hne:l≠[]:=by
    intro e;subst e;simp[l7]at hx
   unfold l7 at hx;rw[if_neg hne]at hx;simp only[Prod.mk.injEq,DataW.slice.injEq]at hx;obtain⟨⟨hmap,_⟩,_⟩:=hx;have hlen:l.length=len:=by have:=congrArg List.length hmap;simpa using this
   have each:∀(i n':Nat),l[i]? = some n'→w.cell? (a.add (i * 1))=some (.int .i64 (n':Int)):=by
    intro i n' hn';have hil:=(List.getElem?_eq_some_iff.1 hn').1;obtain⟨cs',hc,ht'⟩:=hi i (by omega);obtain⟨_,hcl,hat⟩:=World.cells?_some hc;obtain⟨z,e1,e2,_⟩:=DataW.trod_int he ht';subst e1;have h0:=hat 0 (by decide);have hD:D i = .lit (.int .i64 (n':Int)):=by
     have:=congrArg (fun r=>r[i]?) hmap;simp only[List.getElem?_map,hn',Option.map_some,List.getElem?_range (show i < len by omega)]at this;exact(Option.some.inj this).symm
    have e3:D i = .lit (.int .i64 z):=congrArg Prod.fst e2;rw[hD]at e3
    cases e3
    simpa [Addr.add] using h0
   refine⟨some a,cap,by rw[hlen],by omega,fun _=>?_⟩;obtain⟨b,off,sp⟩:=a;have hp:0 < l.length:=List.length_pos_iff.2 hne;have c0:=each 0 l[0] (List.getElem?_eq_getElem hp);have hsp:sp=none:=by simpa [Addr.add] using World.cell?_spot c0
   subst hsp;refine⟨b,off,rfl,?_,fun j u hj=>?_⟩
   · rw[fP]at c0;exact zX c0
   · unfold kL at hj; rw [List.getElem?_map] at hj
     cases hq:l[j]? with
     | none=>rw[hq]at hj;cases hj
     | some n' =>
       rw[hq]at hj
       cases hj;have:=each j n' hq;rw[fP,Nat.mul_one]at this;exact this
theorem o7A{n size m':Nat}{ds:List (DataW H)}(ht:P.underlying t=some (.array n e))(hC:P.cellsOf e=size)(h:DataW.trod enc P w base spare held fuel t cs=some (.agg ds,q)){i:Nat}(hi:i < n) :
 ∃ d q' m,ds[i]? = some d∧DataW.trod enc P w base spare held m e ((cs.drop (i * size)).take size)=some (d,q'):=by
 obtain⟨xs,m,_,hx,_,hn,hel⟩:=DataW.trod_array ht h;simp only[Prod.mk.injEq,DataW.agg.injEq]at hx;have h1:=hel i hi;rw[hC]at h1;have hxi:xs[i]? = some xs[i]:=List.getElem?_eq_getElem (by omega);rw[hxi]at h1;exact⟨xs[i].1,xs[i].2,m,by rw[hx.1,List.getElem?_map,hxi];rfl,h1⟩
theorem iJA{cs:List Value}{i size j:Nat}{v:Value}(h:((cs.drop (i * size)).take size)[j]? = some v):cs[i * size+j]? = some v:=by
 rw[List.getElem?_take]at h
 split at h
 · rw[List.getElem?_drop]at h;exact h
 · cases h
theorem jLA {g : Nat} {s ti : TypeId} {f0 f1 f2 f3 : Field} (hcell : ∀ j, w.cell? ⟨g, j, none⟩ = cs[j]?) (ht : P.underlying t = some (.array 30 s)) (hC : P.cellsOf s = 4) (hs : P.underlying s = some (.struct #[f0, f1, f2, f3])) (hone : oneCellFields P #[f0, f1, f2, f3] = true)
    (u0:P.underlying f0.type=some (.slice ti)) (ui:P.underlying ti=some (.int .i64)) (ci:P.cellsOf ti=1) (u1:P.underlying f1.type=some .bool) (u2:P.underlying f2.type=some .bool) (u3:P.underlying f3.type=some .bool)
    (h:DataW.trod enc P w base spare held fuel t cs=some (.agg ((List.range 30).map lNA),q)):ShapesAt g w:=by
  have each:∀ k,k < 30→∃ p c,w.cell? ⟨g,k * 4,none⟩=some (.slice p (vJ k).length c)∧(vJ k).length≤c∧RowArg w p (kL (vJ k)) ∧
   w.cell? ⟨g,k * 4+1,none⟩=some (.bool (fN k))∧w.cell? ⟨g,k * 4+2,none⟩=some (.bool (fM k))∧w.cell? ⟨g,k * 4+3,none⟩=some (.bool (fS k)):=by
   intro k hk;obtain⟨d,q',m,hd,htr⟩:=o7A (m':=0) ht hC h hk;rw[List.getElem?_map,List.getElem?_range hk]at hd
   cases hd;obtain⟨ys,n',_,hx,hcl,hyl,hf⟩:=DataW.trod_struct hs htr;obtain⟨o0,k0⟩:=hone_of hone 0 f0 rfl;obtain⟨o1,k1⟩:=hone_of hone 1 f1 rfl;obtain⟨o2,k2⟩:=hone_of hone 2 f2 rfl;obtain⟨o3,k3⟩:=hone_of hone 3 f3 rfl;have g0:=hf 0 f0 rfl;have g1:=hf 1 f1 rfl;have g2:=hf 2 f2 rfl;have g3:=hf 3 f3 rfl;rw[o0,k0]at g0;rw[o1,k1]at g1;rw[o2,k2]at g2;rw[o3,k3]at g3;have hat:∀ j v,((cs.drop (k * 4)).take 4)[j]? = some v→w.cell? ⟨g,k * 4+j,none⟩=some v:=fun j v hj=>by rw[hcell];exact iJA hj
   rw[hC]at hcl;generalize (cs.drop (k * 4)).take 4=r at *
   match r,hcl with
   | [v0, v1, v2, v3], _ =>
     match ys,hyl with
     | [y0, y1, y2, y3], _ =>
       simp only[lNA,Prod.mk.injEq,DataW.agg.injEq,List.map_cons,List.map_nil,List.cons.injEq]at hx;obtain⟨⟨e0,e1,e2,e3,_⟩,_⟩:=hx;have g0':DataW.trod enc P w base spare held n' f0.type [v0]=some (l7 (vJ k),y0.2):=by rw[e0];exact g0
       obtain⟨p,c,hv0,hc,hr⟩:=cWA u0 ui ci g0';obtain⟨b1,hv1,hb1⟩:=DataW.trod_bool u1 (x:=y1) g1;obtain⟨b2,hv2,hb2⟩:=DataW.trod_bool u2 (x:=y2) g2;obtain⟨b3,hv3,hb3⟩:=DataW.trod_bool u3 (x:=y3) g3;rw[hb1]at e1;rw[hb2]at e2;rw[hb3]at e3
       cases e1;cases e2;cases e3
       cases hv0;cases hv1;cases hv2;cases hv3;exact⟨p,c,hat 0 _ rfl,hc,hr,hat 1 _ rfl,hat 2 _ rfl,hat 3 _ rfl⟩
  refine⟨?_,each⟩;obtain⟨_,_,c0,_⟩:=each 0 (by decide);exact zX c0
end
end Go.Lx
namespace Go.Lx
theorem kVA{cs:List ByteArray}{p:Int}{s:ByteArray}{st:List ByteArray}{t:List Nd}(h:yF cs p s st = .ok t):t.length=1:=by
 unfold yF at h
 split at h
 · cases h;rfl
 · split at h
   · split at h
     · split at h
       · cases h
       · cases h;rfl
     · split at h
       · cases h;rfl
       · cases h
   · cases h
theorem yY {cs ds : List ByteArray} : ∀ (ks : List PK) (ys : List ST) (x : Nd) (nms st : List ByteArray) (acc t : List Nd), (∀ y ∈ ys, ∀ st t, aG cs ds y st = .ok t → t.length ≤ (uA y).length) → goS cs ds ks ys x nms st acc = .ok t → t.length ≤ acc.length + (fA ys).length + 1
  | [], ys, x, nms, st, acc, t, _, h => by
    have:goS cs ds [] ys x nms st acc = .ok (acc++[x]):=by cases ys<;>simp[goS]
    rw[this]at h
    cases h;simp
  | k :: ks, [], x, nms, st, acc, t, _, h => by
    have:goS cs ds (k::ks) [] x nms st acc = .ok (acc++[x]):=by cases k<;>simp[goS]
    rw[this]at h
    cases h;simp
  | k :: ks, y :: ys, x, nms, st, acc, t, hy, h => by
    have hy':∀ z∈ys,∀ st t,aG cs ds z st = .ok t→t.length≤(uA z).length:=fun z hz=>hy z (List.mem_cons_of_mem _ hz)
    have hp:=zN y;rw[fA,List.length_append]
    cases k with
    | nm =>
      rw[goS]at h
      split at h
      · have:=yY ks ys _ _ _ _ _ hy' h;omega
      · cases h
    | nu =>
      rw[goS]at h
      split at h
      · split at h
        · have:=yY ks ys _ _ _ _ _ hy' h;omega
        · cases h
      · cases h
    | da =>
      rw[goS]at h
      split at h
      · split at h
        · have:=yY ks ys _ _ _ _ _ hy' h;omega
        · cases h
      · cases h
    | te w =>
      rw[goS]at h
      split at h
      · rename_i u hu;have h1:=hy y List.mem_cons_self _ _ hu;have:=yY ks ys _ _ _ _ _ hy' h;rw[List.length_append]at this;omega
      · cases h
theorem pM{cs ds:List ByteArray}(T:ST):∀ st t,aG cs ds T st = .ok t→t.length≤(uA T).length:=by
 induction T using ST.rec (motive_2:=fun l=>∀ a∈l,∀ st t,aG cs ds a st = .ok t→t.length≤(uA a).length) with
 | word p s =>
   intro st t h;rw[aG]at h;rw[kVA h,uA];simp
 | list p l ih =>
   intro st t h;rw[aG]at h
   cases l with
   | nil=>rw[uE]at h;cases h
   | cons a l =>
     rw[uE]at h
     split at h
     · cases h
     · split at h
       · have:=yY _ _ _ _ _ _ _ (fun y hy=>ih y (List.mem_cons_of_mem _ hy)) h;rw[uA,fA,List.length_append,List.length_append];simp only[List.length_nil,List.length_singleton]at this ⊢;omega
       · cases h
 | nil=>rename_i a ha st t h;cases ha
 | cons a l iha ihl =>
   rename_i b hb st t h;rcases List.mem_cons.1 hb with rfl | hb
   · exact iha st t h
   · exact ihl b hb st t h
theorem gEA{s:ByteArray}(h:mH s=true):s.size≤16:=by
 unfold mH jD at h;simp at h;omega
theorem bMA{cs:List ByteArray}{p:Int}{s:ByteArray}{st:List ByteArray}{t:List Nd}(h:yF cs p s st = .ok t):∀ x∈t,x.s.size≤16:=by
 unfold yF at h
 split at h
 · cases h;intro x hx;rw[List.mem_singleton.1 hx];exact Nat.zero_le _
 · split at h
   · rename_i hk
     split at h
     · split at h
       · cases h
       · cases h;intro x hx;rw[List.mem_singleton.1 hx];exact Nat.zero_le _
     · split at h
       · cases h;intro x hx;rw[List.mem_singleton.1 hx];exact gEA hk
       · cases h
   · cases h
theorem iQ {cs ds : List ByteArray} : ∀ (ks : List PK) (ys : List ST) (x : Nd) (nms st : List ByteArray) (acc t : List Nd), (∀ y ∈ ys, ∀ st t, aG cs ds y st = .ok t → ∀ z ∈ t, z.s.size ≤ 16) → x.s.size ≤ 16 → (∀ z ∈ acc, z.s.size ≤ 16) → goS cs ds ks ys x nms st acc = .ok t → ∀ z ∈ t, z.s.size ≤ 16
  | [], ys, x, nms, st, acc, t, _, hx, ha, h => by
    have:goS cs ds [] ys x nms st acc = .ok (acc++[x]):=by cases ys<;>simp[goS]
    rw[this]at h
    cases h;intro z hz;rcases List.mem_append.1 hz with hz | hz
    · exact ha z hz
    · rw[List.mem_singleton.1 hz];exact hx
  | k :: ks, [], x, nms, st, acc, t, _, hx, ha, h => by
    have:goS cs ds (k::ks) [] x nms st acc = .ok (acc++[x]):=by cases k<;>simp[goS]
    rw[this]at h
    cases h;intro z hz;rcases List.mem_append.1 hz with hz | hz
    · exact ha z hz
    · rw[List.mem_singleton.1 hz];exact hx
  | k :: ks, y :: ys, x, nms, st, acc, t, hy, hx, ha, h => by
    have hy':∀ z∈ys,∀ st t,aG cs ds z st = .ok t→∀ z∈t,z.s.size≤16:=fun z hz=>hy z (List.mem_cons_of_mem _ hz)
    cases k with
    | nm =>
      rw[goS]at h
      split at h
      · exact iQ ks ys _ _ _ _ _ hy' hx ha h
      · cases h
    | nu =>
      rw[goS]at h
      split at h
      · split at h
        · refine iQ ks ys _ _ _ _ _ hy' ?_ ha h;exact hx
        · cases h
      · cases h
    | da =>
      rw[goS]at h
      split at h
      · rename_i hk
        split at h
        · refine iQ ks ys _ _ _ _ _ hy' ?_ ha h;exact gEA hk
        · cases h
      · cases h
    | te w =>
      rw[goS]at h
      split at h
      · rename_i u hu; refine iQ ks ys _ _ _ _ _ hy' hx (fun z hz => ?_) h; rcases List.mem_append.1 hz with hz | hz
        · exact ha z hz
        · exact hy y List.mem_cons_self _ _ hu z hz
      · cases h
theorem lFA{cs ds:List ByteArray}(T:ST):∀ st t,aG cs ds T st = .ok t→∀ z∈t,z.s.size≤16:=by
 induction T using ST.rec (motive_2:=fun l=>∀ a∈l,∀ st t,aG cs ds a st = .ok t→∀ z∈t,z.s.size≤16) with
 | word p s =>
   intro st t h;rw[aG]at h;exact bMA h
 | list p l ih =>
   intro st t h;rw[aG]at h
   cases l with
   | nil=>rw[uE]at h;cases h
   | cons a l =>
     rw[uE]at h
     split at h
     · cases h
     · split at h
       · exact iQ _ _ _ _ _ _ _ (fun y hy=>ih y (List.mem_cons_of_mem _ hy)) (Nat.zero_le _) (fun z hz=>by cases hz) h
       · cases h
 | nil=>rename_i a ha st t h z hz;cases ha
 | cons a l iha ihl =>
   rename_i b hb st t h z hz;rcases List.mem_cons.1 hb with rfl | hb
   · exact iha st t h z hz
   · exact ihl b hb st t h z hz
def xH(cs ds:List ByteArray)(T:ST):Say:=match aG cs ds T [] with
 | .error x=>.error x
 | .ok t=>if qE t=0 then .ok t else .error (qE t,T.last.pos)
end Go.Lx
namespace Go.Lx
open Go.ChangeShapes Go.WideShapes Go.RowKit Go.Deep
section
variable {H : Type} {enc : TypeId × Value → H} {P : Program} {w : World} {spare : Nat → Bool} {held : Bool} {t e : TypeId} {fuel : Nat} {cs : List Value} {x : DataW H × List MemPlace}
theorem fLA(ht:P.underlying t=some (.slice e))(he:P.underlying e=some .string)(hC:P.cellsOf e=1)(h:DataW.trod enc P w 0 spare held fuel t cs=some x):∃ v l,cs=[v]∧TextsV w v l:=by
 obtain ⟨p, c, xs, rfl, hc, h0, rows, hr1, hr2, hr3⟩ := fWA (R := fun _ cs (a : ByteArray) => cs = [.string a]) ht hC (by decide) (fun fuel cs x hcl hx => by
   obtain⟨z3,e3,_,_⟩:=DataW.trod_string he (x:=x) hx;exact⟨z3,e3⟩) h
 refine⟨_,xs,rfl,p,c,rfl,hc,h0,?_⟩;have:∀(rows:List (List Value)) (xs:List ByteArray),Zip (fun cs a=>cs=[.string a]) rows xs→rows.flatten=xs.map .string:=by
  intro rows
  induction rows with
  | nil=>intro xs hz;obtain⟨e,_⟩:=hz;cases xs with | nil=>rfl | cons=>cases e
  | cons r l ih =>
    intro xs hz
    cases xs with
    | nil=>cases hz.1
    | cons y ys =>
      obtain rfl:=hz.2 0 r y rfl rfl;have ht:Zip (fun cs a=>cs=[.string a]) l ys:=⟨by have:=hz.1;simpa using this,fun i v x hv hx=>hz.2 (i+1) v x (by simpa using hv) (by simpa using hx)⟩;rw[List.flatten_cons,ih ys ht];rfl
 rw[← this rows xs hr3];exact hr1
end
theorem y7A {H : Type} {enc : TypeId × Value → H} {P : Program} {w : World} {spare : Nat → Bool} {held : Bool} {t e : TypeId} {f0 f1 f2 : Field} {fuel : Nat} {cs : List Value} {x : DataW H × List MemPlace}
    (ht:P.underlying t=some (.slice e)) (he:P.underlying e=some (.struct #[f0,f1,f2])) (hone:oneCellFields P #[f0,f1,f2]=true) (hC:P.cellsOf e=3)
    (u0:P.underlying f0.type=some (.int .i64)) (u1:P.underlying f1.type=some (.int .i64)) (u2:P.underlying f2.type=some .string) (h:DataW.trod enc P w 0 spare held fuel t cs=some x) :
    ∃(p:Option Addr) (cap:Nat) (l:List Sx),cs=[.slice p l.length cap]∧l.length≤cap∧l.length≤maxLen∧(p=none→cap=0)∧SxArg w p l:=by
  rcases open_slice ht h with⟨rfl,_⟩ | ⟨a,len,cap,m,n,D,Pl,rfl,_,hl,hm,hmm,_,hi⟩
  · exact⟨none,0,[],rfl,Nat.le_refl _,Nat.zero_le _,fun _=>rfl,fun h=>absurd rfl h⟩
  · have hlm : len ≤ m := by rw [hmm]; split <;> omega
    rw[hC]at hi;have each:∀ i,i < len→∃ t:Sx,w.cell? (a.add (i * 3))=some (.int .i64 t.many)∧w.cell? (a.add (i * 3+1))=some (.int .i64 t.pos)∧w.cell? (a.add (i * 3+2))=some (.string t.word):=by
     intro i hlt;obtain⟨cs',hc,ht'⟩:=hi i (by omega);obtain⟨ys,n',_,_,_,hyl,hf⟩:=DataW.trod_struct he ht';obtain⟨_,hcl,hat⟩:=World.cells?_some hc;obtain⟨o0,k0⟩:=hone_of hone 0 f0 rfl;obtain⟨o1,k1⟩:=hone_of hone 1 f1 rfl;obtain⟨o2,k2⟩:=hone_of hone 2 f2 rfl;have g0:=hf 0 f0 rfl;have g1:=hf 1 f1 rfl;have g2:=hf 2 f2 rfl;rw[o0,k0]at g0;rw[o1,k1]at g1;rw[o2,k2]at g2
     match cs',hcl with
     | [v0, v1, v2], _ =>
       match ys,hyl with
       | [y0, y1, y2], _ =>
         obtain⟨z0,e0,_,_⟩:=DataW.trod_int u0 (x:=y0) g0;obtain⟨z1,e1,_,_⟩:=DataW.trod_int u1 (x:=y1) g1;obtain⟨z2,e2,_,_⟩:=DataW.trod_string u2 (x:=y2) g2
         cases e0;cases e1;cases e2;have c0:=hat 0 (by decide);have c1:=hat 1 (by decide);have c2:=hat 2 (by decide);rw[Go.Deep.add_add]at c0 c1 c2;exact⟨⟨z0,z1,z2⟩,c0,c1,c2⟩
    obtain⟨l,rfl,hl2⟩:=cHA len each;refine⟨some a,cap,l,rfl,by omega,by omega,(fun h=>by cases h),fun hne=>?_⟩;obtain⟨b,off,sp⟩:=a;have hp:0 < l.length:=List.length_pos_iff.2 hne;obtain⟨c0,_,_⟩:=hl2 0 l[0] (List.getElem?_eq_getElem hp);have hsp:sp=none:=by simpa [Addr.add] using World.cell?_spot c0
    subst hsp;refine⟨b,off,rfl,?_,fun k t hk=>?_⟩
    · simp only [World.cell?, Addr.add] at c0
      cases hb:w.heap[b]? with
      | none=>simp[hb]at c0
      | some o=>exact(Array.getElem?_eq_some_iff.1 hb).1
    · obtain ⟨d0, d1, d2⟩ := hl2 k t hk; have ha : ∀ j, (⟨b, off, none⟩ : Addr).add j = ⟨b, off + j, none⟩ := by intro j; unfold Addr.add; split <;> simp_all
      rw[ha]at d0 d1 d2;exact⟨d0,d1,d2⟩
section
variable {H : Type} {enc : TypeId × Value → H} {P : Program} {w : World} {spare : Nat → Bool} {held : Bool} {t tS : TypeId} {fuel : Nat} {cs : List Value} {x : DataW H × List MemPlace}
theorem sPA {f0 f1 : Field} (he : P.underlying t = some (.struct #[f0, f1])) (hone : oneCellFields P #[f0, f1] = true) (o0 : f0.type = tS) (o1 : f1.type = tS)
    (hS:∀ {fuel:Nat} {cs:List Value} {x:DataW H×List MemPlace},DataW.trod enc P w 0 spare held fuel tS cs=some x→∃ v l,cs=[v]∧TextsV w v l) (hcl:cs.length=2) (h:DataW.trod enc P w 0 spare held fuel t cs=some x) :
    ∃ v l u m,cs=[v,u]∧TextsV w v l∧TextsV w u m:=by
  obtain⟨ys,n',_,_,_,hyl,hf⟩:=DataW.trod_struct he h;obtain⟨e0,k0⟩:=hone_of hone 0 f0 rfl;obtain⟨e1,k1⟩:=hone_of hone 1 f1 rfl;have g0:=hf 0 f0 rfl;have g1:=hf 1 f1 rfl;rw[e0,k0,o0]at g0;rw[e1,k1,o1]at g1
  match cs,hcl with
  | [v0, v1], _ =>
    match ys,hyl with
    | [y0, y1], _ =>
      obtain⟨a,l,e,ha⟩:=hS (x:=y0) g0;obtain⟨b,m,e',hb⟩:=hS (x:=y1) g1
      cases e;cases e';exact⟨_,l,_,m,rfl,ha,hb⟩
end
end Go.Lx
namespace Go.Lx
open Go Go.Conc
variable {H : Type} {enc : TypeId × Value → H}
theorem dS {a : Assume} {C : Checked} {os : Os} {f : FuncId} {fn : Func} {s : ChangeSpec} {conds : List PathCond} {apart fresh handsOn again : Bool} {X : World → Array Value → Prop}
    (hX:∀(w w':World) (args:Array Value),w.heap=w'.heap→X w args→X w' args)
    (own:ownKnob C.prog.godebug=none) (started:os.Started) (hfn:C.prog.funcs[f]? = some fn)
    (witness : ∃ (w : World) (tape : Tape) (i : Input), w.os = os ∧ (w.forCall tape i).Shaped C.prog ∧ i.vars = [] ∧ Input.okWide C.prog (w.forCall tape i) .any w.heap.size f i ∧
      ((s.pre enc C.prog fn conds apart (w.forCall tape i).memory i.args∧X (w.forCall tape i).memory i.args)∧sizedMet enc C.prog fn (OpenSpec.ofChange s) apart (w.forCall tape i).memory i.args)∧a.holds C.prog (lone (Frame.enter C.prog f i.args .normal) [] (w.forCall tape i)))
    (runs : ∀ (W : World) (base : Nat) (args : Array Value) (ds gs : List (DataW H)) (before : List MemPlace),
      (∀(j:Nat) t v,fn.params[j]? = some t→args[j]? = some v→Value.okWide C.prog W .any base t v) →
      DataW.Whole enc C.prog fn.params.toList s.vars apart W args.toList ds gs before →
      conds.all (PathCond.test C.prog ⟨fn.params.toList,ds,s.plain.varTypes C.prog,gs⟩)=true →
      (DataW.weightsEach C.prog (fn.params.toList++s.plain.varTypes C.prog) (ds++gs)).all (· ≤ reachBytes)=true→X W args →
      a.holds C.prog (lone (Frame.enter C.prog f args .normal) [] W) →
      ∃ M last o w' t',runNT C.prog (M+1) (solo (G (Frame.enter C.prog f args .normal) []) W) #[]=(.ended o w',t')∧runN C.prog M (solo (G (Frame.enter C.prog f args .normal) []) W) = .next last ∧
       step C.prog last = .ended o w'∧Conc.Good C.prog (fun v W'=>s.post enc C.prog fn apart fresh handsOn again W args v W') last o w' t') :
    ReturnsInLeavingWide a C os f .any (fun w args=>(s.pre enc C.prog fn conds apart w args∧X w args)∧sizedMet enc C.prog fn (OpenSpec.ofChange s) apart w args) (s.post enc C.prog fn apart fresh handsOn again):=by
  refine returnsInLeavingWide_of_good own started witness ?_;intro w tape i _ _ _ hok hpre hholds;obtain⟨_,_,_,fn',hfn',_,_,_,_,hval⟩:=hok;have e:fn'=fn:=Option.some.inj (hfn'.symm.trans hfn);subst e;obtain⟨⟨⟨ds,gs,before,hw,hc⟩,hx⟩,hz⟩:=hpre;have hw':=DataW.Whole.of_heap (w':=w.forCall tape i) (by rfl) hw;obtain⟨M,last,o,w',t',h1,h2,h3,h4⟩:=runs (w.forCall tape i) w.heap.size i.args ds gs before hval hw' hc (hz.weights hw) (hX _ _ _ (by rfl) hx) hholds;exact⟨M,last,o,w',t',h1,h2,h3,h4.mono fun v hp=>ChangeSpec.post_blind hp⟩
end Go.Lx
namespace Go.Lx
open Go
theorem kS (Lk : Looks) {p : Pinned} {s : OpenSpec} {c : OpenClaim} (kinds : List LaidKind) (tests : Bool) (har : Bool × String) (lk goes : Bool)
    (hc:c.holds p s) (hw:c.wfByText s=true) (htie:c.laidByTextAt Lk p kinds tests)
    (hst:c.start = .entering) (hnb:c.noBlocks=false∧c.again=false) (hm:p.checked.prog.mainIs=some (har.1,har.2.toList)) (hn:(!har.1&&har.2.isEmpty && !lk)=false)
    (hl:∀ f fn,p.checked.prog.funcNamed c.func=some f→p.checked.prog.funcs[f]? = some fn→lk=p.checked.prog.looks []∧∀(j:Nat) t,fn.params[j]? = some t→p.checked.prog.wantsStandIn t=false)
    (hg:goes=c.goesBy p.checked.prog) :
    Claim7.holds p (.plain s) { stood:={ row:=c,standIns:=[],harness:=har,looks:=lk },kinds:=[],alts:=[],goes:=goes,laidByText:=true,laidKinds:=kinds,laidTests:=tests,laidLooks:=Lk }:=by
  have h6:∀ r:OpenClaim,Claim7.isSixth { stood:={ row:=r,standIns:=[],harness:=har,looks:=lk },kinds:=[] }=false:=fun r=>by simpa [Claim7.isSixth] using hn
  refine⟨Claim7.tied_new_at Lk kinds tests (Claim7.new_of_sixth hc har lk hst hnb hm (h6 c) hl) hw,fun D hD=>?_,htie,(fun h=>by cases h),hg⟩
  cases hD
end Go.Lx
namespace Go.Lx
inductive SX where
 | w (s:ByteArray)
 | l (xs:List SX)
mutual
def iF : SX → List UInt8
  | .w s=>s.data.toList
  | .l xs=>40::(yM xs++[41])
def yM : List SX → List UInt8
  | []=>[]
  | a::l=>iF a++fH l
def fH : List SX → List UInt8
  | []=>[]
  | a::l=>32::(iF a++fH l)
end
mutual
def uG : Nat → SX → List PTok
  | k,.w s=>[⟨1,(k:Int),s⟩]
  | k,.l xs=>⟨2,(k:Int),⟨#[40]⟩⟩::(mO (k+1) xs++[⟨3,((k+1+(yM xs).length:Nat):Int),⟨#[41]⟩⟩])
def mO : Nat → List SX → List PTok
  | _,[]=>[]
  | k,a::l=>uG k a++wF (k+(iF a).length) l
def wF : Nat → List SX → List PTok
  | _,[]=>[]
  | k,a::l=>uG (k+1) a++wF (k+1+(iF a).length) l
end
mutual
def fV : Nat → SX → ST
  | k,.w s=>.word (k:Int) s
  | k,.l xs=>.list (k:Int) (xAA (k+1) xs)
def xAA : Nat → List SX → List ST
  | _,[]=>[]
  | k,a::l=>fV k a::mK (k+(iF a).length) l
def mK : Nat → List SX → List ST
  | _,[]=>[]
  | k,a::l=>fV (k+1) a::mK (k+1+(iF a).length) l
end
mutual
def vGA : SX → Nat
  | .w _=>0
  | .l xs=>pIA xs+1
def pIA : List SX → Nat
  | []=>0
  | a::l=>max (vGA a) (pIA l)
end
mutual
def okX (p : UInt8 → Bool) : SX → Prop
  | .w s=>s.size≠0∧∀ c∈s.data.toList,p c=true
  | .l xs=>zHA p xs
def zHA (p : UInt8 → Bool) : List SX → Prop
  | []=>True
  | a::l=>okX p a∧zHA p l
end
theorem gGA : ∀ (xs : List SX) (k : Nat), (mK k xs).length = xs.length
  | [],_=>rfl
  | a::l,k=>by simp[mK,gGA l]
theorem lUA(xs:List SX)(k:Nat):(xAA k xs).length=xs.length:=by
 cases xs with
 | nil=>rfl
 | cons a l=>simp[xAA,gGA]
theorem eSA{p:UInt8→Bool}(x:SX):okX p x→∀ k,okS (fV k x):=by
 induction x using SX.rec (motive_2:=fun l=>zHA p l→∀ k,nK (mK k l)) with
 | w s=>intro h k;exact h.1
 | l xs ih =>
   intro h k;unfold fV okS
   cases xs with
   | nil=>trivial
   | cons a l =>
     have:=ih h k;simp only[mK]at this;exact this
 | nil=>rename_i h k;trivial
 | cons a l iha ihl=>rename_i h k;exact⟨iha h.1 _,ihl h.2 _⟩
theorem jAA(x:SX):∀(k:Nat) (r:List PTok) (row st:List Sx) (t:Sx),st.length+vGA x≤60→vC (uG k x++r) row st t=vC r (row++uA (fV k x)) st ⟨t.many+1,t.pos,t.word⟩:=by
 induction x using SX.rec (motive_2:=fun l=>∀(k:Nat) (r:List PTok) (row st:List Sx) (t:Sx),st.length+pIA l≤60→vC (wF k l++r) row st t=vC r (row++fA (mK k l)) st ⟨t.many+l.length,t.pos,t.word⟩) with
 | w s =>
   intro k r row st t _;unfold uG fV uA;rw[List.singleton_append,vF,if_pos rfl]
 | l xs ih =>
   intro k r row st t hd;unfold vGA at hd;unfold uG fV;rw[uA,lUA,List.cons_append,vF,if_neg (show ¬(2:Int)=1 by decide),if_pos (show(2:Int)=2 from rfl),if_neg (by omega)];have key:vC ((mO (k+1) xs++[⟨3,((k+1+(yM xs).length:Nat):Int),⟨#[41]⟩⟩])++r) row (t::st) ⟨0,(k:Int),⟨#[]⟩⟩=vC (⟨3,((k+1+(yM xs).length:Nat):Int),⟨#[41]⟩⟩::r) (row++fA (xAA (k+1) xs)) (t::st) ⟨(xs.length:Int),(k:Int),⟨#[]⟩⟩:=by
    have h:=ih k (⟨3,((k+1+(yM xs).length:Nat):Int),⟨#[41]⟩⟩::r) row (t::st) ⟨0,(k:Int),⟨#[]⟩⟩ (by simp;omega);rw[List.append_assoc,List.singleton_append]
    cases xs with
    | nil=>simp[mO,xAA,fA]
    | cons a l =>
      simp only[wF,mK]at h;simp only[mO,xAA];rw[Int.zero_add]at h;exact h
   rw[key,vF,if_neg (show ¬(3:Int)=1 by decide),if_neg (show ¬(3:Int)=2 by decide)];simp only[List.append_assoc]
 | nil=>rename_i k r row st t _;simp[wF,mK,fA]
 | cons a l iha ihl =>
   rename_i k r row st t hd;unfold pIA at hd;unfold wF mK;rw[List.append_assoc,iha _ _ _ _ _ (by omega),ihl _ _ _ _ _ (by omega),fA,List.append_assoc,List.length_cons];have e:t.many+1+(l.length:Int)=t.many+((l.length+1:Nat):Int):=by omega
   simp only;rw[e]
theorem vOA(x:SX)(h:vGA x≤60)(k:Nat):vC (uG k x) [] [] ⟨0,0,⟨#[]⟩⟩ = .ok (uA (fV k x)):=by
 have:=jAA x k [] [] [] ⟨0,0,⟨#[]⟩⟩ (by simpa using h);rw[List.append_nil]at this;rw[this];rfl
theorem jGA : ∀ (l : List SX), (∀ a ∈ l, ∀ k, (uG k a).length ≤ (iF a).length) → ∀ k, (wF k l).length ≤ (fH l).length
  | [],_,k=>by simp[wF]
  | a :: l, h, k => by
    have h1:=h a List.mem_cons_self (k+1);have h2:=jGA l (fun b hb=>h b (List.mem_cons_of_mem _ hb)) (k+1+(iF a).length);simp only[wF,fH,List.length_append,List.length_cons];omega
theorem a0A{p:UInt8→Bool}(x:SX):okX p x→∀ k,(uG k x).length≤(iF x).length:=by
 induction x using SX.rec (motive_2:=fun l=>zHA p l→∀ a∈l,∀ k,(uG k a).length≤(iF a).length) with
 | w s =>
   intro h k;have:s.data.toList.length=s.size:=by rw[Array.length_toList];rfl
   have:=h.1;simp only[uG,iF,List.length_singleton];omega
 | l xs ih =>
   intro h k;have hX:=ih h
   cases xs with
   | nil=>simp[uG,iF,mO,yM]
   | cons a l =>
     have h1:=hX a List.mem_cons_self (k+1);have h2:=jGA l (fun b hb=>hX b (List.mem_cons_of_mem _ hb)) (k+1+(iF a).length);simp only[uG,iF,mO,yM,List.length_append,List.length_cons,List.length_nil];omega
 | nil=>rename_i h a ha k;cases ha
 | cons a l iha ihl =>
   rename_i h b hb k;rcases List.mem_cons.1 hb with rfl | hb
   · exact iha h.1 k
   · exact ihl h.2 b hb k
def nI:SX:=.w ⟨#[122,101,114,111]⟩
def nFA(w:ByteArray)(n:Nat):ST:=fV 0 (.l (.w w::List.replicate n nI))
def hCA(r:Say):Bool:=match r with
 | .ok _=>true
 | .error _=>false
def kR(w:List UInt8)(n:Nat):Bool :=
 (n==1&&(w==[115,117,99]||w==[102,115,116]||w==[115,110,100]||w==[112,114,102])) ||
 (n==2&&(w==[97,112,112]||w==[97,98,111,114,116]||w==[114,101,102,108]||w==[99,108,97,115,115])) ||
 (n==3&&(w==[112,97,105,114]||w==[101,113]))||(n==4&&w==[99,97,115,116])
theorem pLA:(formT.all fun t=>(List.range 8).all fun n=>hCA (xH [] [] (nFA ⟨t.1.toArray⟩ n))==kR t.1 n)=true:=by decide +kernel
theorem uQA:∀ w:List UInt8,kY w formT=none→∀ n,kR w n=false:=by
 intro w h n;have key:∀ x:List UInt8,(kY x formT).isSome=true→w≠x:=by
  rintro x hx rfl;rw[h]at hx
  cases hx
 unfold kR;have k1:=key [115,117,99] (by decide);have k2:=key [102,115,116] (by decide);have k3:=key [115,110,100] (by decide);have k4:=key [112,114,102] (by decide);have k5:=key [97,112,112] (by decide);have k6:=key [97,98,111,114,116] (by decide);have k7:=key [114,101,102,108] (by decide);have k8:=key [99,108,97,115,115] (by decide);have k9:=key [112,97,105,114] (by decide);have k10:=key [101,113] (by decide);have k11:=key [99,97,115,116] (by decide);simp[k1,k2,k3,k4,k5,k6,k7,k8,k9,k10,k11]
theorem dVA(w:ByteArray)(n:Nat)(hn:n < 8):hCA (xH [] [] (nFA w n))=kR w.data.toList n:=by
 cases hf:uM w with
 | none =>
   have h1:∃ p,xH [] [] (nFA w n) = .error p:=by
    unfold xH nFA fV xAA;rw[aG,uE];have:(fV (0+1) (.w w)).last.word=w:=rfl;rw[this,hf];exact⟨_,rfl⟩
   obtain⟨p,h1⟩:=h1;rw[h1];exact(uQA _ hf n).symm
 | some y =>
   obtain⟨k,m,parts⟩:=y;have hm:=q8 hf;have h1:=List.all_eq_true.1 pLA _ hm;have h2:=List.all_eq_true.1 h1 n (List.mem_range.2 hn);have e:(⟨w.data.toList.toArray⟩:ByteArray)=w:=by simp
   rw[e]at h2;exact eq_of_beq h2
end Go.Lx
