/- Part 5 of what the proof rests on. -/
import Derived.OrdersHeld
import Derived.Deep.RegionHeld
import Derived.Conc.CompanyMem
import Derived.Conc.WalkWords
import Derived.KernelRfl
import Derived.Lib.AtoiAllCases
import Derived.Lib.ItoaLen
import Derived.Deep.Slices
import Derived.Deep.Fields
import Derived.WideKeyArgs
import Derived.OpenShut
import Derived.Conc.LeavingOf
import Derived.SevenTiedAt
import Derived.SizedLaws
import Derived.Laws.AppendOwnNone
import Derived.Laws.ResultCell
import Derived.Tactics
import Derived.Lib.Hide
import Derived.Maps.AppendAt
import Derived.Test.YtpkaiodmbicjiaaGreatDoorM00
set_option linter.unusedSimpArgs false
set_option linter.unusedVariables false
namespace Go.Lx
open Go
variable {P : Program} {ops : Array Oper} {Q : Exit -> Act -> World -> Prop} {md : Region.Mode} {S : World -> Prop}
theorem lD(i:Nat){oi:Oper}{v:Value}{fuel:Nat}{listed:Array Bool}{a:Act}{w:World}(hi:ops[i]? = some oi)
    (hb:(Region.noSelect ops&&Region.free md ops listed i&&(Region.ready md ops listed).contains i)=true)
    (hQ:∀ c a w,Q (.panic c) (a.put oi.dst v) w->Q (.panic c) a w) (hy:YieldsIf P ops S oi v a) (hS:S w)
    (h:wpAnyH P md ops Q S fuel (listed.setIfInBounds i true) (a.put oi.dst v) w):wpAnyH P md ops Q S (fuel+1) listed a w:=by
  simp only[Bool.and_eq_true]at hb;exact wpAnyH_take hi hb.1.1 hb.1.2 hb.2 hQ hy hS h
theorem iPA(i:Nat){oi:Oper}{v:Value}{fuel:Nat}{listed:Array Bool}{a:Act}{w:World}(hi:ops[i]? = some oi)
    (hb:(Region.noSelect ops&&Region.free md ops listed i&&(Region.ready md ops listed).contains i)=true) (hw:Region.wanted oi (yielded ops a.tmps)=true)
    (hQ:∀ c a w,Q (.panic c) (a.put oi.dst v) w->Q (.panic c) a w) (hS:S w) (hy:∀ w,S w->(execOp a.eval oi).run P w = .ok (.value v) w)
    (h:wpAnyH P md ops Q S fuel (listed.setIfInBounds i true) (a.put oi.dst v) w):wpAnyH P md ops Q S (fuel+1) listed a w :=
  lD i hi hb hQ (.inl ⟨hw,hy⟩) hS h
theorem zWA(i:Nat){oi:Oper}{fuel:Nat}{listed:Array Bool}{a:Act}{w:World}(hi:ops[i]? = some oi)
    (hb:(Region.noSelect ops&&Region.free md ops listed i&&(Region.ready md ops listed).contains i)=true) (hw:Region.wanted oi (yielded ops a.tmps)=false)
    (hQ:∀ c a w,Q (.panic c) (a.put oi.dst undef) w->Q (.panic c) a w) (hS:S w)
    (h:wpAnyH P md ops Q S fuel (listed.setIfInBounds i true) (a.put oi.dst undef) w):wpAnyH P md ops Q S (fuel+1) listed a w :=
  lD i hi hb hQ (.inr ⟨hw,rfl⟩) hS h
theorem yA(i:Nat){o:Oper}{fuel:Nat}{listed:Array Bool}{a:Act}{w:World}(hr:Region.ready md ops listed=[i])(ho:ops[i]? = some o)
    (h:∀ K':Act->World->Prop,Go.Shut (∀ a w,S w->(S w->wpAnyH P md ops Q S fuel (listed.setIfInBounds i true) a w)->K' a w)->if Region.wanted o (yielded ops a.tmps)=true then Oper.wp P o a w K' Q else K' (a.put o.dst undef) w) :
    wpAnyH P md ops Q S (fuel+1) listed a w :=
  wpAnyH_ready hr (by simp) (AllReadyH.cons ho h AllReadyH.nil)
theorem kG(i j:Nat){o p:Oper}{fuel:Nat}{listed:Array Bool}{a:Act}{w:World}(hr:Region.ready md ops listed=[i,j])(ho:ops[i]? = some o)(hp:ops[j]? = some p)
    (h:∀ K':Act->World->Prop,Go.Shut (∀ a w,S w->(S w->wpAnyH P md ops Q S fuel (listed.setIfInBounds i true) a w)->K' a w)->if Region.wanted o (yielded ops a.tmps)=true then Oper.wp P o a w K' Q else K' (a.put o.dst undef) w)
    (g:∀ K':Act->World->Prop,Go.Shut (∀ a w,S w->(S w->wpAnyH P md ops Q S fuel (listed.setIfInBounds j true) a w)->K' a w)->if Region.wanted p (yielded ops a.tmps)=true then Oper.wp P p a w K' Q else K' (a.put p.dst undef) w) :
    wpAnyH P md ops Q S (fuel+1) listed a w :=
  wpAnyH_ready hr (by simp) (AllReadyH.cons ho h (AllReadyH.cons hp g AllReadyH.nil))
variable {P : Program} {ops : Array Oper} {Q : Exit -> Act -> World -> Prop} {md : Region.Mode} {S : World -> Prop}
theorem dA(i:Nat){oi:Oper}{v:Value}{fuel:Nat}{listed:Array Bool}{a:Act}{w:World}(hi:ops[i]? = some oi)
    (h:wpAnyH P md ops Q S fuel (listed.setIfInBounds i true) (a.put oi.dst v) w)
    (hb:(Region.noSelect ops&&Region.free md ops listed i&&(Region.ready md ops listed).contains i&&Region.wanted oi (yielded ops a.tmps))=true:=by kernel_rfl)
    (hQ:∀ c a w,Q (.panic c) (a.put oi.dst v) w->Q (.panic c) a w:=by exact λ_ _ _ h=>h) (hS:S w:=by assumption)
    (hy:∀ w,S w->(execOp a.eval oi).run P w = .ok (.value v) w:=by(intro w hSw;(try dsimp only at hSw);go_simp;try with_reducible rfl)):wpAnyH P md ops Q S (fuel+1) listed a w:=by
  simp only[Bool.and_eq_true]at hb;exact iPA i hi (by simp only[Bool.and_eq_true];exact hb.1) hb.2 hQ hS hy h
theorem uK(i:Nat){oi:Oper}{fuel:Nat}{listed:Array Bool}{a:Act}{w:World}(hi:ops[i]? = some oi)
    (h:wpAnyH P md ops Q S fuel (listed.setIfInBounds i true) (a.put oi.dst undef) w)
    (hb:(Region.noSelect ops&&Region.free md ops listed i&&(Region.ready md ops listed).contains i && !Region.wanted oi (yielded ops a.tmps))=true:=by kernel_rfl)
    (hQ:∀ c a w,Q (.panic c) (a.put oi.dst undef) w->Q (.panic c) a w:=by exact λ_ _ _ h=>h) (hS:S w:=by assumption):wpAnyH P md ops Q S (fuel+1) listed a w:=by
  simp only[Bool.and_eq_true,Bool.not_eq_true']at hb;exact zWA i hi (by simp only[Bool.and_eq_true];exact hb.1) hb.2 hQ hS h
end Go.Lx
namespace Go.Lx
def kW(s:ByteArray)(a b:Nat):Option Nat:=match mX s with|some n=>if a<=n/\n<=b then some n else none|none=>none
theorem j4{s:ByteArray}{n:Nat}(h:mX s=some n):n < 100/\s.data.toList=Lib.decDigits n:=by
 unfold mX at h;have h1:=List.find?_some h;have h2:=List.mem_of_find?_eq_some h;exact⟨List.mem_range.1 h2,by simpa using h1⟩
def tBA(n:Nat):List UInt8:=if n < 10 then [UInt8.ofNat (48+n)] else [UInt8.ofNat (48+n / 10),UInt8.ofNat (48+n % 10)]
theorem eCA{n:Nat}(h:n < 100):Lib.decDigits n=tBA n:=by
 unfold tBA;rw[Lib.decDigits]
 split
 . rfl
 . rw[Lib.decDigits,dif_pos (by omega)];rfl
theorem mSA:(List.range 100).all (λn=>Lib.atoiAll (tBA n) == .ok (n:Int))=true:=by decide +kernel
theorem xP:(List.range 100).all (λn=>Lib.atoiAll (Lib.decDigits n) == .ok (n:Int))=true:=by
 rw[List.all_eq_true];intro n hn;rw[eCA (List.mem_range.1 hn)];exact List.all_eq_true.1 mSA n hn
theorem rJA{s:ByteArray}{n:Nat}(hn:n < 100)(h:s.data.toList=Lib.decDigits n):mX s=some n:=by
 unfold mX
 cases hf:(List.range 100).find? λn=>s.data.toList==Lib.decDigits n with
 | none =>
   have:=List.find?_eq_none.1 hf n (List.mem_range.2 hn);simp[h]at this
 | some m =>
   have h1:=List.find?_some hf;have h2:=List.mem_range.1 (List.mem_of_find?_eq_some hf);simp only[beq_iff_eq]at h1;rw[h]at h1;have e1:=List.all_eq_true.1 xP n (List.mem_range.2 hn);have e2:=List.all_eq_true.1 xP m (List.mem_range.2 h2);simp only[beq_iff_eq]at e1 e2;rw[h1,e2]at e1
   injection e1 with e1
   have:m=n:=by omega
   rw[this]
theorem b1A{s:ByteArray}{v:Int}(h:Lib.atoiAll s.data.toList = .ok v){a b:Nat}(hb:b < 100) :
 kW s a b=if Lib.itoa v=s.data.toList/\(a:Int)<=v/\v<=(b:Int) then some v.toNat else none:=by
 unfold kW;by_cases hc:Lib.itoa v=s.data.toList/\(a:Int)<=v/\v<=(b:Int)
 . rw[if_pos hc];obtain⟨h1,h2,h3⟩:=hc;have h4:s.data.toList=Lib.decDigits v.toNat:=by
    rw[<- h1];unfold Lib.itoa;rw[if_neg (by omega)]
   rw[rJA (by omega) h4];simp only;rw[if_pos (by omega)]
 . rw[if_neg hc]
   cases hn:mX s with
   | none=>rfl
   | some n =>
     obtain⟨h1,h2⟩:=j4 hn;have e1:=List.all_eq_true.1 xP n (List.mem_range.2 h1);simp only[beq_iff_eq]at e1;rw[<- h2,h]at e1
     injection e1 with e1
     subst e1;simp only;rw[if_neg];rintro⟨h3,h4⟩;apply hc;refine⟨?_,by omega,by omega⟩;rw[h2];unfold Lib.itoa;rw[if_neg (by omega)];simp
theorem p6A{s:ByteArray}(h:∀ v,Lib.atoiAll s.data.toList≠.ok v)(a b:Nat):kW s a b=none:=by
 unfold kW
 cases hn:mX s with
 | none=>rfl
 | some n =>
   obtain⟨h1,h2⟩:=j4 hn;have e1:=List.all_eq_true.1 xP n (List.mem_range.2 h1);simp only[beq_iff_eq]at e1;rw[<- h2]at e1;exact absurd e1 (h _)
theorem rW(a b:List Nd):∀(k:Nat) (all op:List (Nat×Nat)),yD (a++b) k all op=(yD a k all op).bind λr=>yD b (k+a.length) r.1 r.2:=by
 induction a with
 | nil=>intro k all op;simp[yD]
 | cons x a ih =>
   intro k all op;simp only[List.cons_append,yD]
   split
   . rfl
   . rw[ih,Qk,show k+1+a.length=k+(a.length+1) by omega]
def CntIs(t:List Nd)(k c:Nat):Prop:=∃ all op,yD (t.take k) 0 [] []=some (all,op)/\op.length=c
theorem CntIs.zero(t:List Nd):CntIs t 0 0:=⟨[],[],by simp[yD],rfl⟩
theorem CntIs.pred{t:List Nd}{k c:Nat}{x:Nd}(hx:t[k]? = some x)(h:CntIs t (k+1) c):∃ c',CntIs t k c'/\jB x=true/\(binds x).length<=c'/\c=c' - (binds x).length+1:=by
 obtain⟨all,op,hm,hc⟩:=h;obtain⟨hk,hxe⟩:=Qo.1 hx;rw[Qj hk,rW,hxe]at hm
 cases hr:yD (t.take k) 0 [] [] with
 | none=>rw[hr]at hm;cases hm
 | some r =>
   rw[hr]at hm;obtain⟨a0,o0⟩:=r;simp only[Option.bind_some,yD]at hm
   split at hm
   . cases hm
   . rename_i hn;have hr1:jB x=true:=by cases h:jB x with
      | true=>rfl
      | false=>exact absurd (.inl h) hn
     have hr2:¬ o0.length < (binds x).length:=λh=>hn (.inr h)
     cases hm;refine⟨o0.length,⟨a0,o0,hr,rfl⟩,hr1,by omega,?_⟩;rw[<- hc,Qc,List.length_take,List.length_singleton];omega
theorem CntIs.pos{t:List Nd}{k c:Nat}(hk:k < t.length)(h:CntIs t (k+1) c):1<=c:=by
 obtain⟨c',_,_,_,rfl⟩:=h.pred (Qa hk);omega
structure Dc where
 kind:Int
 level:Int
 name:ByteArray
 type:List Nd
 body:List Nd
 cons:List (List (List Nd))
def DcV(w:World)(v:Value)(d:Dc):Prop:=∃ vt vb vc,v = .agg #[.int .i64 d.kind,.int .i64 d.level,.string d.name,vt,vb,vc]/\TermV w vt d.type/\TermV w vb d.body/\ConsV w vc d.cons
theorem ConsV.mono:lWA ConsV:=ListV.mono (ListV.mono TermV.mono)
theorem TermsV.mono:lWA TermsV:=ListV.mono TermV.mono
theorem DcV.mono:lWA DcV:=λw w' v d hU ⟨vt,vb,vc,h1,h2,h3,h4⟩=>⟨vt,vb,vc,h1,TermV.mono _ _ _ _ hU h2,TermV.mono _ _ _ _ hU h3,ConsV.mono _ _ _ _ hU h4⟩
def g6A(d:Dc):List (List Nd):=if d.kind=1 then [d.type,d.body] else if d.kind=2 then [d.type] else if d.kind=3 then d.cons.flatten else []
structure Small (d:Dc):Prop where
 name:d.name.size<=maxLen
 cons:d.cons.length<=5864062014634
 flat:d.cons.flatten.length<=5864062015658
 terms:∀ t∈g6A d,t.length<=2000000/\∀ x∈t,x.s.size<=maxLen
end Go.Lx
namespace Go.Lx
open Go.RowKit
def RowsV{α:Type}(size:Nat)(R:World->List Value->α->Prop)(w:World)(p:Option Addr)(xs:List α):Prop :=
 ∃ rows:List (List Value),RowArg w p rows.flatten/\(∀ r∈rows,r.length=size)/\Zip (R w) rows xs
def zZA{α:Type}(R:World->List Value->α->Prop):Prop:=∀ w w' cs x,Under w w'->R w cs x->R w' cs x
theorem RowsV.under{α:Type}{size:Nat}{R:World->List Value->α->Prop}(hR:zZA R){w w':World}{p:Option Addr}{xs:List α}(h:RowsV size R w p xs)(hU:Under w w'):RowsV size R w' p xs:=by
 obtain⟨rows,h1,h2,h3⟩:=h;exact⟨rows,h1.under hU,h2,h3.mono λv x=>hR _ _ _ _ hU⟩
theorem yK{rows:List (List Value)}{size:Nat}(h:∀ r∈rows,r.length=size):rows.flatten.length=rows.length * size:=by
 induction rows with
 | nil=>simp
 | cons r l ih =>
   rw[List.flatten_cons,Qc,h r (Qn ..),ih λx hx=>h x (Qh _ hx),Qk,Nat.add_mul,Nat.one_mul,Nat.add_comm]
theorem vR:∀ {rows:List (List Value)} {size k j:Nat} {r:List Value} {u:Value},(∀ r∈rows,r.length=size)->rows[k]? = some r->r[j]? = some u->rows.flatten[k * size+j]? = some u
  | x :: l, size, 0, j, r, u, h, hk, hj => by
    cases hk;rw[List.flatten_cons,Nat.zero_mul,Nat.zero_add,List.getElem?_append_left (Qo.1 hj).1];exact hj
  | x :: l, size, k + 1, j, r, u, h, hk, hj => by
    have h0:=h x (Qn ..);rw[List.flatten_cons,List.getElem?_append_right (by rw[h0,Nat.add_mul];omega),h0,show(k+1) * size+j - size=k * size+j by rw[Nat.add_mul];omega];exact vR (λx hx=>h x (Qh _ hx)) (by simpa using hk) hj
theorem RowsV.at{α:Type}{size:Nat}{R:World->List Value->α->Prop}{w:World}{p:Option Addr}{xs:List α}(h:RowsV size R w p xs){k:Nat}{x:α}(hk:xs[k]? = some x)(hs:0 < size) :
 ∃ b off r,p=some ⟨b,off,none⟩/\b < w.heap.size/\r.length=size/\R w r x/\∀ j u,r[j]? = some u->w.cell? ⟨b,off+(k * size+j),none⟩=some u:=by
 obtain⟨rows,h1,h2,h3⟩:=h;obtain⟨r,hr,hR⟩:=h3.at hk;have hrl:=h2 r (List.mem_of_getElem? hr);have hne:rows.flatten≠[]:=by
  intro e;have:=vR (j:=0) (u:=r[0]'(by omega)) h2 hr (Qa (by omega));rw[e]at this;cases this
 obtain⟨b,off,e,hb,hc⟩:=h1 hne;exact⟨b,off,r,e,hb,hrl,hR,λj u hj=>hc _ _ (vR h2 hr hj)⟩
theorem RowsV.nil{α:Type}{size:Nat}{R:World->List Value->α->Prop}{w:World}{p:Option Addr}:RowsV size R w p ([]:List α):=⟨[],RowArg.nil,λr h=>(List.not_mem_nil h).elim,Zip.nil _⟩
theorem RowsV.of_own{α:Type}{size:Nat}{R:World->List Value->α->Prop}{w:World}{base:Nat}{e:TypeId}{v:Value}{n:Nat}{xs:List α}{rows:List (List Value)}(h:w.ownsRow base e size v n rows.flatten)(h2:∀ r∈rows,r.length=size)(h3:Zip (R w) rows xs) :
 ∃ q c,v = .slice q n c/\n<=c/\RowsV size R w q xs:=by
 obtain⟨q,c,e,hc,hr⟩:=RowArg.of_own h;exact⟨q,c,e,hc,rows,hr,h2,h3⟩
def DcRow(w:World)(cs:List Value)(d:Dc):Prop:=∃ vt vb vc,cs=[.int .i64 d.kind,.int .i64 d.level,.string d.name,vt,vb,vc]/\TermV w vt d.type/\TermV w vb d.body/\ConsV w vc d.cons
theorem DcRow.mono:zZA DcRow:=λw w' cs d hU ⟨vt,vb,vc,h1,h2,h3,h4⟩=>⟨vt,vb,vc,h1,TermV.mono _ _ _ _ hU h2,TermV.mono _ _ _ _ hU h3,ConsV.mono _ _ _ _ hU h4⟩
theorem DcRow.val{w:World}{cs:List Value}{d:Dc}(h:DcRow w cs d):DcV w (.agg cs.toArray) d:=by
 obtain⟨vt,vb,vc,rfl,h1,h2,h3⟩:=h;exact⟨vt,vb,vc,rfl,h1,h2,h3⟩
theorem DcV.row{w:World}{v:Value}{d:Dc}(h:DcV w v d):∃ cs,v = .agg cs.toArray/\DcRow w cs d:=by
 obtain⟨vt,vb,vc,rfl,h1,h2,h3⟩:=h;exact⟨_,rfl,vt,vb,vc,rfl,h1,h2,h3⟩
def EntRow(w:World)(cs:List Value)(d:Dc):Prop:=∃ vt vb vc st q n c,cs=[.int .i64 d.kind,.int .i64 d.level,.string d.name,vt,vb,vc,.bool st,.slice q n c]/\TermV w vt d.type/\TermV w vb d.body/\ConsV w vc d.cons
theorem EntRow.mono:zZA EntRow:=λw w' cs d hU ⟨vt,vb,vc,st,q,n,c,h1,h2,h3,h4⟩=>⟨vt,vb,vc,st,q,n,c,h1,TermV.mono _ _ _ _ hU h2,TermV.mono _ _ _ _ hU h3,ConsV.mono _ _ _ _ hU h4⟩
end Go.Lx
namespace Go.Lx
open Go.ChangeShapes Go.WideShapes Go.RowKit Go.Deep
theorem iIA{α:Type}{Q:Nat->α->Prop}(n:Nat)(h:∀ i,i < n->∃ t,Q i t):∃ l:List α,l.length=n/\∀ i t,l[i]? = some t->Q i t:=by
 induction n with
 | zero=>exact⟨[],rfl,λi t h=>by simp at h⟩
 | succ n ih =>
   obtain⟨l,h1,h2⟩:=ih λi hi=>h i (by omega)
   obtain⟨t,ht⟩:=h n (by omega);refine⟨l++[t],by simp[h1],λi u hu=>?_⟩;rw[List.getElem?_append]at hu
   split at hu
   . exact h2 i u hu
   . rename_i hi;have h0:i - l.length=0:=by
      have:=(Qo.1 hu).1;simp at this;omega
     rw[h0]at hu
     cases hu;have:i=n:=by omega
     exact this▸ht
theorem zNA{rows:List (List Value)}{size:Nat}(hs:0 < size)(h:∀ r∈rows,r.length=size){j:Nat}{u:Value}(hj:rows.flatten[j]? = some u):∃ r,rows[j / size]? = some r/\r[j % size]? = some u:=by
 have hlen:=yK h;have hjl:=(Qo.1 hj).1;rw[hlen]at hjl;have hk:j / size < rows.length:=(Nat.div_lt_iff_lt_mul hs).2 hjl;have hm:j % size < size:=Nat.mod_lt _ hs;have hr:=Qa hk;have hrl:=h _ (Qr hk);refine⟨rows[j / size],hr,?_⟩;have:=vR (j:=j % size) (u:=rows[j / size][j % size]'(by omega)) h hr (Qa (by omega));rw[Nat.div_add_mod' j size]at this;rw[this]at hj
 cases hj;exact Qa _
section
variable {H : Type} {enc : TypeId × Value -> H} {P : Program} {w : World} {spare : Nat -> Bool} {held : Bool} {t e : TypeId} {fuel : Nat} {cs : List Value} {x : DataW H × List MemPlace}
theorem ListV.of_rows{α:Type}{R:World->Value->α->Prop}{p:Option Addr}{c:Nat}{xs:List α}(h:RowsV 1 (λw cs a=>∃ v,cs=[v]/\R w v a) w p xs)(hc:xs.length<=c)(h0:p=none->c=0):ListV R w (.slice p xs.length c) xs:=by
 obtain⟨rows,h1,h2,h3⟩:=h;have hz:∀(rows:List (List Value)) (xs:List α),Zip (λcs a=>∃ v,cs=[v]/\R w v a) rows xs->Zip (R w) rows.flatten xs:=by
  intro rows
  induction rows with
  | nil=>intro xs hz;obtain⟨e,_⟩:=hz;cases xs with|nil=>exact Zip.nil _|cons=>cases e
  | cons r l ih =>
    intro xs hz
    cases xs with
    | nil=>cases hz.1
    | cons y ys =>
      obtain⟨v,rfl,hv⟩:=hz.2 0 r y rfl rfl;have ht:Zip (λcs a=>∃ v,cs=[v]/\R w v a) l ys:=⟨by have:=hz.1;simpa using this,λi v x hv hx=>hz.2 (i+1) v x (by simpa using hv) (by simpa using hx)⟩;have:=(Zip.one hv).app (ih ys ht)
      simpa using this
 exact⟨p,c,rows.flatten,rfl,hc,h0,h1,hz rows xs h3⟩
end
def qAA{H:Type}(l:List Nat):DataW H:=if l=[] then .nil else .slice (l.map λ(n:Nat)=>.lit (.int .i64 (n:Int))) []
def nRA{H:Type}(k:Nat):DataW H:=.agg [qAA (vJ k),.lit (.bool (fN k)),.lit (.bool (fM k)),.lit (.bool (fS k))]
theorem jZ{w:World}{b j:Nat}{v:Value}(h:w.cell? ⟨b,j,none⟩=some v):b < w.heap.size:=by
 simp only[World.cell?]at h
 cases hb:w.heap[b]? with
 | none=>simp[hb]at h
 | some o=>exact(Qe.1 hb).1
section
variable {H : Type} {enc : TypeId × Value -> H} {P : Program} {w : World} {base : Nat} {spare : Nat -> Bool} {held : Bool} {t e : TypeId} {fuel : Nat} {cs : List Value} {q : List MemPlace}
theorem gWA{l:List Nat}(ht:P.underlying t=some (.slice e))(he:P.underlying e=some (.int .i64))(hC:P.cellsOf e=1)(h:DataW.trod enc P w base spare held fuel t cs=some (qAA l,q)) :
 ∃ p c,cs=[.slice p l.length c]/\l.length<=c/\RowArg w p (jN l):=by
 rcases open_slice ht h with⟨rfl,hx⟩|⟨a,len,cap,m,n,D,Pl,rfl,_,hl,hm,hmm,hx,hi⟩
 . have:l=[]:=by
     unfold qAA at hx
     split at hx
     . assumption
     . simp at hx
   subst this;exact⟨none,0,rfl,Qd _,RowArg.nil⟩
 . have hlm:len<=m:=by rw[hmm];split<;>omega
   rw[hC]at hi;have hne:l≠[]:=by
    intro e;subst e;simp[qAA]at hx
   unfold qAA at hx;rw[if_neg hne]at hx;simp only[Prod.mk.injEq,DataW.slice.injEq]at hx;obtain⟨⟨hmap,_⟩,_⟩:=hx;have hlen:l.length=len:=by have:=congrArg List.length hmap;simpa using this
   have each:∀(i n':Nat),l[i]? = some n'->w.cell? (a.add (i * 1))=some (.int .i64 (n':Int)):=by
    intro i n' hn';have hil:=(Qo.1 hn').1;obtain⟨cs',hc,ht'⟩:=hi i (by omega);obtain⟨_,hcl,hat⟩:=World.cells?_some hc;obtain⟨z,e1,e2,_⟩:=DataW.trod_int he ht';subst e1;have h0:=hat 0 (by decide);have hD:D i = .lit (.int .i64 (n':Int)):=by
     have:=congrArg (λr=>r[i]?) hmap;simp only[List.getElem?_map,hn',Option.map_some,List.getElem?_range (show i < len by omega)]at this;exact(Qt this).symm
    have e3:D i = .lit (.int .i64 z):=congrArg Prod.fst e2;rw[hD]at e3
    cases e3
    simpa [Addr.add] using h0
   refine⟨some a,cap,by rw[hlen],by omega,λ_=>?_⟩;obtain⟨b,off,sp⟩:=a;have hp:0 < l.length:=List.length_pos_iff.2 hne;have c0:=each 0 l[0] (Qa hp);have hsp:sp=none:=by simpa [Addr.add] using World.cell?_spot c0
   subst hsp;refine⟨b,off,rfl,?_,λj u hj=>?_⟩
   . rw[tN]at c0;exact jZ c0
   . unfold jN at hj;rw[List.getElem?_map]at hj
     cases hq:l[j]? with
     | none=>rw[hq]at hj;cases hj
     | some n' =>
       rw[hq]at hj
       cases hj;have:=each j n' hq;rw[tN,Nat.mul_one]at this;exact this
theorem e9A{n size m':Nat}{ds:List (DataW H)}(ht:P.underlying t=some (.array n e))(hC:P.cellsOf e=size)(h:DataW.trod enc P w base spare held fuel t cs=some (.agg ds,q)){i:Nat}(hi:i < n) :
 ∃ d q' m,ds[i]? = some d/\DataW.trod enc P w base spare held m e ((cs.drop (i * size)).take size)=some (d,q'):=by
 obtain⟨xs,m,_,hx,_,hn,hel⟩:=DataW.trod_array ht h;simp only[Prod.mk.injEq,DataW.agg.injEq]at hx;have h1:=hel i hi;rw[hC]at h1;have hxi:xs[i]? = some xs[i]:=Qa (by omega);rw[hxi]at h1;exact⟨xs[i].1,xs[i].2,m,by rw[hx.1,List.getElem?_map,hxi];rfl,h1⟩
theorem wIA{cs:List Value}{i size j:Nat}{v:Value}(h:((cs.drop (i * size)).take size)[j]? = some v):cs[i * size+j]? = some v:=by
 rw[List.getElem?_take]at h
 split at h
 . rw[List.getElem?_drop]at h;exact h
 . cases h
theorem sKA{g:Nat}{s ti:TypeId}{f0 f1 f2 f3:Field}(hcell:∀ j,w.cell? ⟨g,j,none⟩=cs[j]?)(ht:P.underlying t=some (.array 30 s))(hC:P.cellsOf s=4)(hs:P.underlying s=some (.struct #[f0,f1,f2,f3]))(hone:oneCellFields P #[f0,f1,f2,f3]=true)
    (u0:P.underlying f0.type=some (.slice ti)) (ui:P.underlying ti=some (.int .i64)) (ci:P.cellsOf ti=1) (u1:P.underlying f1.type=some .bool) (u2:P.underlying f2.type=some .bool) (u3:P.underlying f3.type=some .bool)
    (h:DataW.trod enc P w base spare held fuel t cs=some (.agg ((List.range 30).map nRA),q)):ShapesAt g w:=by
  have each:∀ k,k < 30->∃ p c,w.cell? ⟨g,k * 4,none⟩=some (.slice p (vJ k).length c)/\(vJ k).length<=c/\RowArg w p (jN (vJ k)) /\
   w.cell? ⟨g,k * 4+1,none⟩=some (.bool (fN k))/\w.cell? ⟨g,k * 4+2,none⟩=some (.bool (fM k))/\w.cell? ⟨g,k * 4+3,none⟩=some (.bool (fS k)):=by
   intro k hk;obtain⟨d,q',m,hd,htr⟩:=e9A (m':=0) ht hC h hk;rw[List.getElem?_map,List.getElem?_range hk]at hd
   cases hd;obtain⟨ys,n',_,hx,hcl,hyl,hf⟩:=DataW.trod_struct hs htr;obtain⟨o0,k0⟩:=hone_of hone 0 f0 rfl;obtain⟨o1,k1⟩:=hone_of hone 1 f1 rfl;obtain⟨o2,k2⟩:=hone_of hone 2 f2 rfl;obtain⟨o3,k3⟩:=hone_of hone 3 f3 rfl;have g0:=hf 0 f0 rfl;have g1:=hf 1 f1 rfl;have g2:=hf 2 f2 rfl;have g3:=hf 3 f3 rfl;rw[o0,k0]at g0;rw[o1,k1]at g1;rw[o2,k2]at g2;rw[o3,k3]at g3;have hat:∀ j v,((cs.drop (k * 4)).take 4)[j]? = some v->w.cell? ⟨g,k * 4+j,none⟩=some v:=λj v hj=>by rw[hcell];exact wIA hj
   rw[hC]at hcl;generalize (cs.drop (k * 4)).take 4=r at *
   match r,hcl with
   | [v0, v1, v2, v3], _ =>
     match ys,hyl with
     | [y0, y1, y2, y3], _ =>
       simp only[nRA,Prod.mk.injEq,DataW.agg.injEq,List.map_cons,List.map_nil,List.cons.injEq]at hx;obtain⟨⟨e0,e1,e2,e3,_⟩,_⟩:=hx;have g0':DataW.trod enc P w base spare held n' f0.type [v0]=some (qAA (vJ k),y0.2):=by rw[e0];exact g0
       obtain⟨p,c,hv0,hc,hr⟩:=gWA u0 ui ci g0';obtain⟨b1,hv1,hb1⟩:=DataW.trod_bool u1 (x:=y1) g1;obtain⟨b2,hv2,hb2⟩:=DataW.trod_bool u2 (x:=y2) g2;obtain⟨b3,hv3,hb3⟩:=DataW.trod_bool u3 (x:=y3) g3;rw[hb1]at e1;rw[hb2]at e2;rw[hb3]at e3
       cases e1;cases e2;cases e3
       cases hv0;cases hv1;cases hv2;cases hv3;exact⟨p,c,hat 0 _ rfl,hc,hr,hat 1 _ rfl,hat 2 _ rfl,hat 3 _ rfl⟩
  refine⟨?_,each⟩;obtain⟨_,_,c0,_⟩:=each 0 (by decide);exact jZ c0
end
end Go.Lx
namespace Go.Lx
theorem rUA{cs:List ByteArray}{p:Int}{s:ByteArray}{st:List ByteArray}{t:List Nd}(h:gG cs p s st = .ok t):t.length=1:=by
 unfold gG at h
 split at h
 . cases h;rfl
 . split at h
   . split at h
     . split at h
       . cases h
       . cases h;rfl
     . split at h
       . cases h;rfl
       . cases h
   . cases h
theorem zY{cs ds:List ByteArray}:∀(ks:List PK) (ys:List ST) (x:Nd) (nms st:List ByteArray) (acc t:List Nd),(∀ y∈ys,∀ st t,pG cs ds y st = .ok t->t.length<=(qA y).length)->goS cs ds ks ys x nms st acc = .ok t->t.length<=acc.length+(rA ys).length+1
  | [], ys, x, nms, st, acc, t, _, h => by
    have:goS cs ds [] ys x nms st acc = .ok (acc++[x]):=by cases ys<;>simp[goS]
    rw[this]at h
    cases h;simp
  | k :: ks, [], x, nms, st, acc, t, _, h => by
    have:goS cs ds (k::ks) [] x nms st acc = .ok (acc++[x]):=by cases k<;>simp[goS]
    rw[this]at h
    cases h;simp
  | k :: ks, y :: ys, x, nms, st, acc, t, hy, h => by
    have hy':∀ z∈ys,∀ st t,pG cs ds z st = .ok t->t.length<=(qA z).length:=λz hz=>hy z (Qh _ hz)
    have hp:=tL y;rw[rA,Qc]
    cases k with
    | nm =>
      rw[goS]at h
      split at h
      . have:=zY ks ys _ _ _ _ _ hy' h;omega
      . cases h
    | nu =>
      rw[goS]at h
      split at h
      . split at h
        . have:=zY ks ys _ _ _ _ _ hy' h;omega
        . cases h
      . cases h
    | da =>
      rw[goS]at h
      split at h
      . split at h
        . have:=zY ks ys _ _ _ _ _ hy' h;omega
        . cases h
      . cases h
    | te w =>
      rw[goS]at h
      split at h
      . rename_i u hu;have h1:=hy y Qn _ _ hu;have:=zY ks ys _ _ _ _ _ hy' h;rw[Qc]at this;omega
      . cases h
theorem aP{cs ds:List ByteArray}(T:ST):∀ st t,pG cs ds T st = .ok t->t.length<=(qA T).length:=by
 induction T using ST.rec (motive_2:=λl=>∀ a∈l,∀ st t,pG cs ds a st = .ok t->t.length<=(qA a).length) with
 | word p s =>
   intro st t h;rw[pG]at h;rw[rUA h,qA];simp
 | list p l ih =>
   intro st t h;rw[pG]at h
   cases l with
   | nil=>rw[jF]at h;cases h
   | cons a l =>
     rw[jF]at h
     split at h
     . cases h
     . split at h
       . have:=zY _ _ _ _ _ _ _ (λy hy=>ih y (Qh _ hy)) h;rw[qA,rA,Qc,Qc];simp only[List.length_nil,List.length_singleton]at this ⊢;omega
       . cases h
 | nil=>rename_i a ha st t h;cases ha
 | cons a l iha ihl =>
   rename_i b hb st t h;rcases List.mem_cons.1 hb with rfl|hb
   . exact iha st t h
   . exact ihl b hb st t h
theorem eDA{s:ByteArray}(h:nH s=true):s.size<=16:=by
 unfold nH fD at h;simp at h;omega
theorem xMA{cs:List ByteArray}{p:Int}{s:ByteArray}{st:List ByteArray}{t:List Nd}(h:gG cs p s st = .ok t):∀ x∈t,x.s.size<=16:=by
 unfold gG at h
 split at h
 . cases h;intro x hx;rw[List.mem_singleton.1 hx];exact Nat.zero_le _
 . split at h
   . rename_i hk
     split at h
     . split at h
       . cases h
       . cases h;intro x hx;rw[List.mem_singleton.1 hx];exact Nat.zero_le _
     . split at h
       . cases h;intro x hx;rw[List.mem_singleton.1 hx];exact eDA hk
       . cases h
   . cases h
theorem aR{cs ds:List ByteArray}:∀(ks:List PK) (ys:List ST) (x:Nd) (nms st:List ByteArray) (acc t:List Nd),(∀ y∈ys,∀ st t,pG cs ds y st = .ok t->∀ z∈t,z.s.size<=16)->x.s.size<=16->(∀ z∈acc,z.s.size<=16)->goS cs ds ks ys x nms st acc = .ok t->∀ z∈t,z.s.size<=16
  | [], ys, x, nms, st, acc, t, _, hx, ha, h => by
    have:goS cs ds [] ys x nms st acc = .ok (acc++[x]):=by cases ys<;>simp[goS]
    rw[this]at h
    cases h;intro z hz;rcases List.mem_append.1 hz with hz|hz
    . exact ha z hz
    . rw[List.mem_singleton.1 hz];exact hx
  | k :: ks, [], x, nms, st, acc, t, _, hx, ha, h => by
    have:goS cs ds (k::ks) [] x nms st acc = .ok (acc++[x]):=by cases k<;>simp[goS]
    rw[this]at h
    cases h;intro z hz;rcases List.mem_append.1 hz with hz|hz
    . exact ha z hz
    . rw[List.mem_singleton.1 hz];exact hx
  | k :: ks, y :: ys, x, nms, st, acc, t, hy, hx, ha, h => by
    have hy':∀ z∈ys,∀ st t,pG cs ds z st = .ok t->∀ z∈t,z.s.size<=16:=λz hz=>hy z (Qh _ hz)
    cases k with
    | nm =>
      rw[goS]at h
      split at h
      . exact aR ks ys _ _ _ _ _ hy' hx ha h
      . cases h
    | nu =>
      rw[goS]at h
      split at h
      . split at h
        . refine aR ks ys _ _ _ _ _ hy' ?_ ha h;exact hx
        . cases h
      . cases h
    | da =>
      rw[goS]at h
      split at h
      . rename_i hk
        split at h
        . refine aR ks ys _ _ _ _ _ hy' ?_ ha h;exact eDA hk
        . cases h
      . cases h
    | te w =>
      rw[goS]at h
      split at h
      . rename_i u hu;refine aR ks ys _ _ _ _ _ hy' hx (λz hz=>?_) h;rcases List.mem_append.1 hz with hz|hz
        . exact ha z hz
        . exact hy y Qn _ _ hu z hz
      . cases h
theorem wCA{cs ds:List ByteArray}(T:ST):∀ st t,pG cs ds T st = .ok t->∀ z∈t,z.s.size<=16:=by
 induction T using ST.rec (motive_2:=λl=>∀ a∈l,∀ st t,pG cs ds a st = .ok t->∀ z∈t,z.s.size<=16) with
 | word p s =>
   intro st t h;rw[pG]at h;exact xMA h
 | list p l ih =>
   intro st t h;rw[pG]at h
   cases l with
   | nil=>rw[jF]at h;cases h
   | cons a l =>
     rw[jF]at h
     split at h
     . cases h
     . split at h
       . exact aR _ _ _ _ _ _ _ (λy hy=>ih y (Qh _ hy)) (Nat.zero_le _) (λz hz=>by cases hz) h
       . cases h
 | nil=>rename_i a ha st t h z hz;cases ha
 | cons a l iha ihl =>
   rename_i b hb st t h z hz;rcases List.mem_cons.1 hb with rfl|hb
   . exact iha st t h z hz
   . exact ihl b hb st t h z hz
def oF(cs ds:List ByteArray)(T:ST):Say:=match pG cs ds T [] with
 | .error x=>.error x
 | .ok t=>if bF t=0 then .ok t else .error (bF t,T.last.pos)
end Go.Lx
namespace Go.Lx
open Go.RowKit
def OwnTm(e:TypeId)(w:World)(v:Value)(t:List Nd):Prop:=w.ownsRow 0 e 4 v t.length (dC t)
theorem OwnTm.val{e:TypeId}{w:World}{v:Value}{t:List Nd}(h:OwnTm e w v t):TermV w v t:=by
 have hc:∀ q n c,v = .slice q n c->q=none->c=0:=by
  intro q n c e hq;subst hq;rcases h.2 with⟨rfl,_⟩|⟨g,cap,cur,e',_⟩
  . cases e;rfl
  . rw[e']at e;cases e
 obtain⟨q,c,rfl,h1,h2⟩:=RowArg.of_own h;exact⟨q,c,rfl,h1,hc q _ c rfl,h2⟩
theorem OwnTm.under{e:TypeId}{w w':World}{v:Value}{t:List Nd}(h:OwnTm e w v t)(hU:Under w w'):OwnTm e w' v t:=uA h hU
theorem OwnTm.ch{e:TypeId}{w w':World}{v:Value}{t:List Nd}{C:Nat->Prop}(h:OwnTm e w v t)(k:Ch C w w')(hC:∀ b,C b->∃ T cs,BoxAt w b T cs/\e≠T):OwnTm e w' v t :=
 iE h k λg hg hc=>by
  obtain⟨T,cs,hb,hn⟩:=hC g hc;exact bC hb h hn hg
theorem OwnTm.grown{e:TypeId}{w w':World}{v:Value}{t:List Nd}{b s n:Nat}{e':TypeId}{u:Value}{xs:List Value}(h:OwnTm e w v t)(k:w.ownsRow b e' s u n xs)(hg:w.grownBy w' u.ownBlock)(he:e≠e'):OwnTm e w' v t:=rC h hg (own_ne h k he)
theorem o7(e:TypeId)(w:World)(x:Nd):OwnTm e (w.alloc (.cells #[.int .i64 x.k,.int .i64 x.n,.int .i64 x.m,.string x.s] e)) (.slice (some ⟨w.heap.size,0,none⟩) 1 1) [x] :=
 ⟨rfl,.inr ⟨w.heap.size,1,#[.int .i64 x.k,.int .i64 x.n,.int .i64 x.m,.string x.s],rfl,Nat.zero_le _,heap_alloc_new w _,Qd _,by decide,rfl,rfl⟩⟩
end Go.Lx
namespace Go.Lx
open Go.ChangeShapes Go.WideShapes Go.RowKit Go.Deep
theorem tAB{H:Type}{enc:TypeId×Value->H}{P:Program}{w:World}{spare:Nat->Bool}{held:Bool}{t e:TypeId}{f0 f1 f2:Field}{fuel:Nat}{cs:List Value}{x:DataW H×List MemPlace}
    (ht:P.underlying t=some (.slice e)) (he:P.underlying e=some (.struct #[f0,f1,f2])) (hone:oneCellFields P #[f0,f1,f2]=true) (hC:P.cellsOf e=3)
    (u0:P.underlying f0.type=some (.int .i64)) (u1:P.underlying f1.type=some (.int .i64)) (u2:P.underlying f2.type=some .string) (h:DataW.trod enc P w 0 spare held fuel t cs=some x) :
    ∃(p:Option Addr) (cap:Nat) (l:List Sx),cs=[.slice p l.length cap]/\l.length<=cap/\l.length<=maxLen/\(p=none->cap=0)/\SxArg w p l:=by
  rcases open_slice ht h with⟨rfl,_⟩|⟨a,len,cap,m,n,D,Pl,rfl,_,hl,hm,hmm,_,hi⟩
  . exact⟨none,0,[],rfl,Qd _,Nat.zero_le _,λ_=>rfl,λh=>absurd rfl h⟩
  . have hlm:len<=m:=by rw[hmm];split<;>omega
    rw[hC]at hi;have each:∀ i,i < len->∃ t:Sx,w.cell? (a.add (i * 3))=some (.int .i64 t.many)/\w.cell? (a.add (i * 3+1))=some (.int .i64 t.pos)/\w.cell? (a.add (i * 3+2))=some (.string t.word):=by
     intro i hlt;obtain⟨cs',hc,ht'⟩:=hi i (by omega);obtain⟨ys,n',_,_,_,hyl,hf⟩:=DataW.trod_struct he ht';obtain⟨_,hcl,hat⟩:=World.cells?_some hc;obtain⟨o0,k0⟩:=hone_of hone 0 f0 rfl;obtain⟨o1,k1⟩:=hone_of hone 1 f1 rfl;obtain⟨o2,k2⟩:=hone_of hone 2 f2 rfl;have g0:=hf 0 f0 rfl;have g1:=hf 1 f1 rfl;have g2:=hf 2 f2 rfl;rw[o0,k0]at g0;rw[o1,k1]at g1;rw[o2,k2]at g2
     match cs',hcl with
     | [v0, v1, v2], _ =>
       match ys,hyl with
       | [y0, y1, y2], _ =>
         obtain⟨z0,e0,_,_⟩:=DataW.trod_int u0 (x:=y0) g0;obtain⟨z1,e1,_,_⟩:=DataW.trod_int u1 (x:=y1) g1;obtain⟨z2,e2,_,_⟩:=DataW.trod_string u2 (x:=y2) g2
         cases e0;cases e1;cases e2;have c0:=hat 0 (by decide);have c1:=hat 1 (by decide);have c2:=hat 2 (by decide);rw[Go.Deep.add_add]at c0 c1 c2;exact⟨⟨z0,z1,z2⟩,c0,c1,c2⟩
    obtain⟨l,rfl,hl2⟩:=iIA len each;refine⟨some a,cap,l,rfl,by omega,by omega,(λh=>by cases h),λhne=>?_⟩;obtain⟨b,off,sp⟩:=a;have hp:0 < l.length:=List.length_pos_iff.2 hne;obtain⟨c0,_,_⟩:=hl2 0 l[0] (Qa hp);have hsp:sp=none:=by simpa [Addr.add] using World.cell?_spot c0
    subst hsp;refine⟨b,off,rfl,?_,λk t hk=>?_⟩
    . simp only[World.cell?,Addr.add]at c0
      cases hb:w.heap[b]? with
      | none=>simp[hb]at c0
      | some o=>exact(Qe.1 hb).1
    . obtain⟨d0,d1,d2⟩:=hl2 k t hk;have ha:∀ j,(⟨b,off,none⟩:Addr).add j=⟨b,off+j,none⟩:=by intro j;unfold Addr.add;split<;>simp_all
      rw[ha]at d0 d1 d2;exact⟨d0,d1,d2⟩
section
variable {H : Type} {enc : TypeId × Value -> H} {P : Program} {w : World} {spare : Nat -> Bool} {held : Bool} {t tS : TypeId} {fuel : Nat} {cs : List Value} {x : DataW H × List MemPlace}
end
end Go.Lx
namespace Go.Lx
open Go Go.Conc
variable {H : Type} {enc : TypeId × Value -> H}
theorem zBA{a:Assume}{C:Checked}{os:Os}{f:FuncId}{fn:Func}{s:ChangeSpec}{conds:List PathCond}{apart fresh handsOn again:Bool}{X:World->Array Value->Prop}
    (hX:∀(w w':World) (args:Array Value),w.heap=w'.heap->X w args->X w' args)
    (own:ownKnob C.prog.godebug=none) (started:os.Started) (hfn:C.prog.funcs[f]? = some fn)
    (witness:∃(w:World) (tape:Tape) (i:Input),w.os=os/\(w.forCall tape i).Shaped C.prog/\i.vars=[]/\Input.okWide C.prog (w.forCall tape i) .any w.heap.size f i /\
      ((s.pre enc C.prog fn conds apart (w.forCall tape i).memory i.args/\X (w.forCall tape i).memory i.args)/\sizedMet enc C.prog fn (OpenSpec.ofChange s) apart (w.forCall tape i).memory i.args)/\a.holds C.prog (lone (Frame.enter C.prog f i.args .normal) [] (w.forCall tape i)))
    (runs:∀(W:World) (base:Nat) (args:Array Value) (ds gs:List (DataW H)) (before:List MemPlace),
      (∀(j:Nat) t v,fn.params[j]? = some t->args[j]? = some v->Value.okWide C.prog W .any base t v) ->
      DataW.Whole enc C.prog fn.params.toList s.vars apart W args.toList ds gs before ->
      conds.all (PathCond.test C.prog ⟨fn.params.toList,ds,s.plain.varTypes C.prog,gs⟩)=true ->
      (DataW.weightsEach C.prog (fn.params.toList++s.plain.varTypes C.prog) (ds++gs)).all (· <= reachBytes)=true->X W args ->
      a.holds C.prog (lone (Frame.enter C.prog f args .normal) [] W) ->
      ∃ M last o w' t',runNT C.prog (M+1) (solo (G (Frame.enter C.prog f args .normal) []) W) #[]=(.ended o w',t')/\runN C.prog M (solo (G (Frame.enter C.prog f args .normal) []) W) = .next last /\
       step C.prog last = .ended o w'/\Conc.Good C.prog (λv W'=>s.post enc C.prog fn apart fresh handsOn again W args v W') last o w' t') :
    ReturnsInLeavingWide a C os f .any (λw args=>(s.pre enc C.prog fn conds apart w args/\X w args)/\sizedMet enc C.prog fn (OpenSpec.ofChange s) apart w args) (s.post enc C.prog fn apart fresh handsOn again):=by
  refine returnsInLeavingWide_of_good own started witness ?_;intro w tape i _ _ _ hok hpre hholds;obtain⟨_,_,_,fn',hfn',_,_,_,_,hval⟩:=hok;have e:fn'=fn:=Qt (hfn'.symm.trans hfn);subst e;obtain⟨⟨⟨ds,gs,before,hw,hc⟩,hx⟩,hz⟩:=hpre;have hw':=DataW.Whole.of_heap (w':=w.forCall tape i) (by rfl) hw;obtain⟨M,last,o,w',t',h1,h2,h3,h4⟩:=runs (w.forCall tape i) w.heap.size i.args ds gs before hval hw' hc (hz.weights hw) (hX _ _ _ (by rfl) hx) hholds;exact⟨M,last,o,w',t',h1,h2,h3,h4.mono λv hp=>ChangeSpec.post_blind hp⟩
end Go.Lx
namespace Go.Lx
open Go
theorem oBA(Lk:Looks){p:Pinned}{s:OpenSpec}{c:OpenClaim}(kinds:List LaidKind)(tests:Bool)(har:Bool×String)(lk goes:Bool)
    (hc:c.holds p s) (hw:c.wfByText s=true) (htie:c.laidByTextAt Lk p kinds tests)
    (hst:c.start = .entering) (hnb:c.noBlocks=false/\c.again=false) (hm:p.checked.prog.mainIs=some (har.1,har.2.toList)) (hn:(!har.1&&har.2.isEmpty && !lk)=false)
    (hl:∀ f fn,p.checked.prog.funcNamed c.func=some f->p.checked.prog.funcs[f]? = some fn->lk=p.checked.prog.looks []/\∀(j:Nat) t,fn.params[j]? = some t->p.checked.prog.wantsStandIn t=false)
    (hg:goes=c.goesBy p.checked.prog) :
    Claim7.holds p (.plain s) { stood:={ row:=c,standIns:=[],harness:=har,looks:=lk },kinds:=[],alts:=[],goes:=goes,laidByText:=true,laidKinds:=kinds,laidTests:=tests,laidLooks:=Lk }:=by
  have h6:∀ r:OpenClaim,Claim7.isSixth { stood:={ row:=r,standIns:=[],harness:=har,looks:=lk },kinds:=[] }=false:=λr=>by simpa [Claim7.isSixth] using hn
  refine⟨Claim7.tied_new_at Lk kinds tests (Claim7.new_of_sixth hc har lk hst hnb hm (h6 c) hl) hw,λD hD=>?_,htie,(λh=>by cases h),hg⟩
  cases hD
end Go.Lx
namespace Go.Lx
open Go.ChangeShapes Go.WideShapes Go.RowKit Go.Deep
theorem RowsV.split{α:Type}{size:Nat}{R:World->List Value->α->Prop}{G:α->Prop}{w:World}{p:Option Addr}{xs:List α}(h:RowsV size (λw cs a=>R w cs a/\G a) w p xs):RowsV size R w p xs/\∀ a∈xs,G a:=by
 obtain⟨rows,h1,h2,h3⟩:=h;refine⟨⟨rows,h1,h2,h3.mono λ_ _ h=>h.1⟩,λa ha=>?_⟩;obtain⟨i,hi⟩:=List.getElem?_of_mem ha;obtain⟨r,_,hr⟩:=h3.at hi;exact hr.2
theorem ListV.split{α:Type}{R:World->Value->α->Prop}{G:α->Prop}{w:World}{v:Value}{xs:List α}(h:ListV (λw v a=>R w v a/\G a) w v xs):ListV R w v xs/\∀ a∈xs,G a:=by
 obtain⟨p,c,vs,h1,h2,h3,h4,h5⟩:=h;refine⟨⟨p,c,vs,h1,h2,h3,h4,h5.mono λ_ _ h=>h.1⟩,λa ha=>?_⟩;obtain⟨i,hi⟩:=List.getElem?_of_mem ha;obtain⟨r,_,hr⟩:=h5.at hi;exact hr.2
def Reach{H:Type}(P:Program)(t:TypeId)(d:DataW H):Prop:=∀ n∈d.weights P t,n<=reachBytes
theorem yT{H:Type}{P:Program}{e:TypeId}:∀ {l:List (DataW H)} {d:DataW H},d∈l->∀ n∈d.weights P e,n∈DataW.weightsAll P e l
  | y :: l, d, h, n, hn => by
    unfold DataW.weightsAll;rcases List.mem_cons.1 h with rfl|h
    . exact List.mem_append_left _ hn
    . exact List.mem_append_right _ (yT h n hn)
section
variable {H : Type} {enc : TypeId × Value -> H} {P : Program} {w : World} {spare : Nat -> Bool} {held : Bool} {t e : TypeId} {fuel : Nat} {cs : List Value} {x : DataW H × List MemPlace}
theorem bMA{elems rest:List (DataW H)}(ht:P.underlying t=some (.slice e))(h:Reach P t (.slice elems rest)):(elems.length+rest.length) * P.bytesOf e<=reachBytes/\∀ d∈elems,Reach P e d:=by
 unfold Reach at h;simp only[DataW.weights,ht]at h;exact⟨h _ (Qn ..),λd hd n hn=>h n (Qh _ (List.mem_append_left _ (yT hd n hn)))⟩
theorem pW{ys:List (DataW H)}{fs:Array Field}{f:Field}{y:DataW H}{j:Nat}(ht:P.underlying t=some (.struct fs))(h:Reach P t (.agg ys))(hf:fs[j]? = some f)(hy:ys[j]? = some y):Reach P f.type y:=by
 unfold Reach at h;simp only[DataW.weights,ht]at h;exact λn hn=>h n (DataW.weights_mem_each (j:=j) (t:=f.type) (d:=y) (by simp[hf]) hy n hn)
theorem wS{α:Type}{R:World->List Value->α->Prop}{size:Nat}(ht:P.underlying t=some (.slice e))(hC:P.cellsOf e=size)(hs:0 < size)
    (hopen:∀ fuel cs x,cs.length=size->DataW.trod enc P w 0 spare held fuel e cs=some x->Reach P e x.1->∃ a,R w cs a) (h:DataW.trod enc P w 0 spare held fuel t cs=some x) (hz:Reach P t x.1) :
    ∃(p:Option Addr) (c:Nat) (xs:List α),cs=[.slice p xs.length c]/\xs.length<=c/\(p=none->c=0)/\RowsV size R w p xs/\xs.length * P.bytesOf e<=reachBytes:=by
  rcases open_slice ht h with⟨rfl,_⟩|⟨a,len,cap,m,n,D,Pl,rfl,_,hl,hm,hmm,rfl,hi⟩
  . exact⟨none,0,[],rfl,Qd _,λ_=>rfl,RowsV.nil,by simp⟩
  . have hlm:len<=m:=by rw[hmm];split<;>omega
    obtain⟨hz1,hz2⟩:=bMA ht hz;rw[hC]at hi;have each:∀ i,i < len->∃ q:List Value×α,q.1.length=size/\R w q.1 q.2/\∀ j u,q.1[j]? = some u->w.cell? ((a.add (i * size)).add j)=some u:=by
     intro i hlt;obtain⟨cs',hc,ht'⟩:=hi i (by omega);obtain⟨_,hcl,hat⟩:=World.cells?_some hc;obtain⟨b,hb⟩:=hopen _ _ _ hcl ht' (hz2 _ (List.mem_map.2 ⟨i,List.mem_range.2 hlt,rfl⟩));exact⟨(cs',b),hcl,hb,λj u hj=>by
       have hjl:=(Qo.1 hj).1;have hj':cs'[j]? = some u:=hj;rw[hat j (by have:(cs',b).1.length=cs'.length:=rfl;omega)];exact hj'⟩
    obtain⟨l,hll,hl2⟩:=iIA len each;refine⟨some a,cap,l.map (·.2),by simp[hll],by simpa [hll] using hl,(λh=>by cases h),⟨l.map (·.1),?_,?_,?_⟩,?_⟩
    . intro hne;obtain⟨b,off,sp⟩:=a;have hrows:∀ r∈l.map (·.1),r.length=size:=by
       intro r hr;obtain⟨q,hq,rfl⟩:=List.mem_map.1 hr;obtain⟨i,hi'⟩:=List.getElem?_of_mem hq;exact(hl2 i q hi').1
      obtain⟨u0,hu0⟩:∃ u,(l.map (·.1)).flatten[0]? = some u:=by
       cases hf:(l.map (·.1)).flatten with
       | nil=>exact absurd hf hne
       | cons y ys=>exact⟨y,rfl⟩
      have cellof:∀ j u,(l.map (·.1)).flatten[j]? = some u->w.cell? ((Addr.add ⟨b,off,sp⟩ (j / size * size)).add (j % size))=some u:=by
       intro j u hj;obtain⟨r,hr,hru⟩:=zNA hs hrows hj;rw[List.getElem?_map]at hr
       cases hq:l[j / size]? with
       | none=>rw[hq]at hr;cases hr
       | some q =>
         rw[hq]at hr
         cases hr;exact(hl2 _ q hq).2.2 _ u hru
      have c0:=cellof 0 u0 hu0;have hsp:sp=none:=by
       have:=World.cell?_spot c0
       simpa [Addr.add] using this
      subst hsp;refine⟨b,off,rfl,?_,λj u hj=>?_⟩
      . simp only[World.cell?,Addr.add]at c0;simp at c0
        cases hb:w.heap[b]? with
        | none=>simp[hb]at c0
        | some o=>exact(Qe.1 hb).1
      . have:=cellof j u hj;rw[tN,tN,Nat.add_assoc,Nat.div_add_mod' j size]at this;exact this
    . intro r hr;obtain⟨q,hq,rfl⟩:=List.mem_map.1 hr;obtain⟨i,hi'⟩:=List.getElem?_of_mem hq;exact(hl2 i q hi').1
    . refine⟨by simp,λi v y hv hy=>?_⟩;rw[List.getElem?_map]at hv hy
      cases hq:l[i]? with
      | none=>rw[hq]at hv;cases hv
      | some q =>
        rw[hq]at hv hy
        cases hv;cases hy;exact(hl2 i q hq).2.1
    . rw[List.length_map,List.length_range]at hz1;rw[List.length_map,hll];exact Ql (Nat.mul_le_mul_right _ (Nat.le_add_right _ _)) hz1
theorem lW{α:Type}{R:World->Value->α->Prop}(ht:P.underlying t=some (.slice e))(hC:P.cellsOf e=1)
    (hopen:∀ fuel cs x,DataW.trod enc P w 0 spare held fuel e cs=some x->Reach P e x.1->∃ v a,cs=[v]/\R w v a) (h:DataW.trod enc P w 0 spare held fuel t cs=some x) (hz:Reach P t x.1) :
    ∃ v xs,cs=[v]/\ListV R w v xs/\xs.length * P.bytesOf e<=reachBytes:=by
  obtain⟨p,c,xs,rfl,hc,h0,hr,hb⟩:=wS (R:=λw cs a=>∃ v,cs=[v]/\R w v a) ht hC (by decide) (λfuel cs x _ hx hz=>by
    obtain⟨v,a,rfl,hv⟩:=hopen fuel cs x hx hz;exact⟨a,v,rfl,hv⟩) h hz
  exact⟨_,xs,rfl,ListV.of_rows hr hc h0,hb⟩
def tQ(l:List Nd):Prop:=l.length<=maxLen/\∀ x∈l,x.s.size<=maxLen
theorem mGA{f0 f1 f2 f3:Field}(ht:P.underlying t=some (.slice e))(he:P.underlying e=some (.struct #[f0,f1,f2,f3]))(hone:oneCellFields P #[f0,f1,f2,f3]=true)(hC:P.cellsOf e=4)(hbp:0 < P.bytesOf e)
    (u0:P.underlying f0.type=some (.int .i64)) (u1:P.underlying f1.type=some (.int .i64)) (u2:P.underlying f2.type=some (.int .i64)) (u3:P.underlying f3.type=some .string) (h:DataW.trod enc P w 0 spare held fuel t cs=some x) (hz:Reach P t x.1) :
    ∃ v l,cs=[v]/\TermV w v l/\tQ l:=by
  obtain⟨p,c,xs,rfl,hc,h0,hrows,hlen⟩:=wS (R:=λ_ cs (a:Nd)=>cs=wRA a/\a.s.size<=maxLen) ht hC (by decide) (λfuel cs x hcl hx _=>by
    obtain⟨ys,n',_,_,_,hyl,hf⟩:=DataW.trod_struct he hx;obtain⟨o0,k0⟩:=hone_of hone 0 f0 rfl;obtain⟨o1,k1⟩:=hone_of hone 1 f1 rfl;obtain⟨o2,k2⟩:=hone_of hone 2 f2 rfl;obtain⟨o3,k3⟩:=hone_of hone 3 f3 rfl;have g0:=hf 0 f0 rfl;have g1:=hf 1 f1 rfl;have g2:=hf 2 f2 rfl;have g3:=hf 3 f3 rfl;rw[o0,k0]at g0;rw[o1,k1]at g1;rw[o2,k2]at g2;rw[o3,k3]at g3
    match cs,hcl with
    | [v0, v1, v2, v3], _ =>
      match ys,hyl with
      | [y0, y1, y2, y3], _ =>
        obtain⟨z0,e0,_,_⟩:=DataW.trod_int u0 (x:=y0) g0;obtain⟨z1,e1,_,_⟩:=DataW.trod_int u1 (x:=y1) g1;obtain⟨z2,e2,_,_⟩:=DataW.trod_int u2 (x:=y2) g2;obtain⟨z3,e3,_,hz3⟩:=DataW.trod_string u3 (x:=y3) g3
        cases e0;cases e1;cases e2;cases e3;exact⟨⟨z0,z1,z2,z3⟩,rfl,hz3⟩) h hz
  obtain⟨⟨rows,hr1,hr2,hr3⟩,hnm⟩:=RowsV.split hrows;refine⟨_,xs,rfl,⟨p,c,rfl,hc,h0,?_⟩,Ql (Nat.le_mul_of_pos_right _ hbp) (Ql hlen (by decide)),hnm⟩;have:∀(rows:List (List Value)) (xs:List Nd),Zip (λcs a=>cs=wRA a) rows xs->rows.flatten=dC xs:=by
   intro rows
   induction rows with
   | nil=>intro xs hz;obtain⟨e,_⟩:=hz;cases xs with|nil=>rfl|cons=>cases e
   | cons r l ih =>
     intro xs hz
     cases xs with
     | nil=>cases hz.1
     | cons y ys =>
       obtain rfl:=hz.2 0 r y rfl rfl;have ht:Zip (λcs a=>cs=wRA a) l ys:=⟨by have:=hz.1;simpa using this,λi v x hv hx=>hz.2 (i+1) v x (by simpa using hv) (by simpa using hx)⟩;rw[List.flatten_cons,ih ys ht];rfl
  rw[<- this rows xs hr3];exact hr1
structure SzD (d:Dc):Prop where
 name:d.name.size<=maxLen
 cons:d.cons.length<=5864062014634
 con:∀ c∈d.cons,c.length<=5864062014634
 type:tQ d.type
 body:tQ d.body
 terms:∀ c∈d.cons,∀ t∈c,tQ t
theorem jTA{n:Nat}(h:n * 24<=reachBytes):n<=5864062014634:=by unfold reachBytes at h;omega
theorem jGA{e2 e3:TypeId}(ht:P.underlying t=some (.slice e))(hC:P.cellsOf e=1)(hb:P.bytesOf e=24)(ht2:P.underlying e=some (.slice e2))(hC2:P.cellsOf e2=1)(hb2:P.bytesOf e2=24)
    (hopen:∀ fuel cs x,DataW.trod enc P w 0 spare held fuel e2 cs=some x->Reach P e2 x.1->∃ v l,cs=[v]/\TermV w v l/\tQ l) (h:DataW.trod enc P w 0 spare held fuel t cs=some x) (hz:Reach P t x.1) :
    ∃ v l,cs=[v]/\ConsV w v l/\l.length<=5864062014634/\∀ c∈l,c.length<=5864062014634/\∀ t∈c,tQ t:=by
  obtain⟨v,l,rfl,hl,hn⟩:=lW (R:=λw v (a:List (List Nd))=>TermsV w v a/\(a.length<=5864062014634/\∀ t∈a,tQ t)) ht hC (λfuel cs x hx hz=>by
    obtain⟨v,a,rfl,ha,hn⟩:=lW (R:=λw v (a:List Nd)=>TermV w v a/\tQ a) ht2 hC2 (λfuel cs x hx hz=>by
      obtain⟨v,l,h1,h2⟩:=hopen fuel cs x hx hz;exact⟨v,l,h1,h2⟩) hx hz
    obtain⟨h1,h2⟩:=ListV.split ha;exact⟨v,a,rfl,h1,jTA (hb2▸hn),h2⟩) h hz
  obtain⟨h1,h2⟩:=ListV.split hl;exact⟨v,l,rfl,h1,jTA (hb▸hn),h2⟩
theorem xGA{s:TypeId}{f0 f1 f2 f3 f4 f5:Field}(he:P.underlying s=some (.struct #[f0,f1,f2,f3,f4,f5]))(hone:oneCellFields P #[f0,f1,f2,f3,f4,f5]=true)
    (u0:P.underlying f0.type=some (.int .i64)) (u1:P.underlying f1.type=some (.int .i64)) (u2:P.underlying f2.type=some .string)
    (h3:∀ fuel cs x,DataW.trod enc P w 0 spare held fuel f3.type cs=some x->Reach P f3.type x.1->∃ v l,cs=[v]/\TermV w v l/\tQ l) (h4:∀ fuel cs x,DataW.trod enc P w 0 spare held fuel f4.type cs=some x->Reach P f4.type x.1->∃ v l,cs=[v]/\TermV w v l/\tQ l)
    (h5:∀ fuel cs x,DataW.trod enc P w 0 spare held fuel f5.type cs=some x->Reach P f5.type x.1->∃ v l,cs=[v]/\ConsV w v l/\l.length<=5864062014634/\∀ c∈l,c.length<=5864062014634/\∀ t∈c,tQ t)
    (hcl:cs.length=6) (hx:DataW.trod enc P w 0 spare held fuel s cs=some x) (hz:Reach P s x.1):∃ d,DcRow w cs d/\SzD d:=by
  obtain⟨ys,n',_,hxe,_,hyl,hf⟩:=DataW.trod_struct he hx;obtain⟨o0,k0⟩:=hone_of hone 0 f0 rfl;obtain⟨o1,k1⟩:=hone_of hone 1 f1 rfl;obtain⟨o2,k2⟩:=hone_of hone 2 f2 rfl;obtain⟨o3,k3⟩:=hone_of hone 3 f3 rfl;obtain⟨o4,k4⟩:=hone_of hone 4 f4 rfl;obtain⟨o5,k5⟩:=hone_of hone 5 f5 rfl;have g0:=hf 0 f0 rfl;have g1:=hf 1 f1 rfl;have g2:=hf 2 f2 rfl;have g3:=hf 3 f3 rfl;have g4:=hf 4 f4 rfl;have g5:=hf 5 f5 rfl;rw[o0,k0]at g0;rw[o1,k1]at g1;rw[o2,k2]at g2;rw[o3,k3]at g3;rw[o4,k4]at g4;rw[o5,k5]at g5
  match cs,hcl with
  | [v0, v1, v2, v3, v4, v5], _ =>
    match ys,hyl with
    | [y0, y1, y2, y3, y4, y5], _ =>
      obtain⟨z0,e0,_,_⟩:=DataW.trod_int u0 (x:=y0) g0;obtain⟨z1,e1,_,_⟩:=DataW.trod_int u1 (x:=y1) g1;obtain⟨z2,e2,_,hz2⟩:=DataW.trod_string u2 (x:=y2) g2;subst hxe;obtain⟨q3,l3,e3,r3,n3⟩:=h3 _ _ y3 g3 (pW he hz (j:=3) rfl rfl);obtain⟨q4,l4,e4,r4,n4⟩:=h4 _ _ y4 g4 (pW he hz (j:=4) rfl rfl);obtain⟨q5,l5,e5,r5,n5,m5⟩:=h5 _ _ y5 g5 (pW he hz (j:=5) rfl rfl)
      cases e0;cases e1;cases e2;cases e3;cases e4;cases e5;exact⟨⟨z0,z1,z2,l3,l4,l5⟩,⟨_,_,_,rfl,r3,r4,r5⟩,hz2,n5,λc hc=>(m5 c hc).1,n3,n4,λc hc=>(m5 c hc).2⟩
end
end Go.Lx
namespace Go.Lx
open Go.RowKit
section
variable {P : Program} {w : World} {ops : Array Oper} {rest : List Oper} {o : Oper} {a : Act} {Q : Exit -> Act -> World -> Prop}
theorem zC(hgd:o.guard=none)(s x:Operand)(t:TypeId)
    (ho:o.op = .call { callee:=.builtin .append,args:=#[s,x],argTypes:=#[t,t] })
    (base:Nat) (e:TypeId) (i:TypeInfo) (z:Value) (size bytes:Nat) (ht:P.underlying t=some (.slice e)) (hi:P.info? e=some i) (hz:i.zero=some z)
    (hsize:i.size=size) (hby:i.bytes=bytes) (hzs:z.cells.size=size) (hsz:0 < size)
    (v:Value) (n:Nat) (xs:List Value) (hs:a.eval s=v) (hown:w.ownsRow base e size v n xs)
    (p:Option Addr) (m c:Nat) (news:List Value) (hx:a.eval x = .slice p m c) (hl:news.length=m * size) (hc:m<=c) (h0:p=none->c=0) (hp:RowArg w p news) (h1:∀ u∈news,u.oneCell'=true)
    (h63:n+m<=maxLen) (hbytes:(n+m) * bytes<=140737488355328) (hbase:base<=w.heap.size)
    (h:∀ v' w',w'.ownsRow base e size v' (n+m) (xs++news)->w.grownBy w' v.ownBlock->wpList P ops Q rest (a.put o.dst v') w') :
    wpList P ops Q (o::rest) a w:=by
  cases p with
  | none =>
    have hc0:=h0 rfl;have hm0:m=0:=by omega
    subst hc0 hm0;have hn:news=[]:=List.eq_nil_of_length_eq_zero (by omega);subst hn;exact wpList_append_own_none hgd s x t ho base e i size ht hi v n xs hs hown hx (h v w (by simpa using hown) ⟨rfl,rfl,rfl,Qd _,λ_ _ _=>rfl⟩)
  | some ad =>
    refine wpList_append_own_at _ hgd s x t ho base e i z size bytes ht hi hz hsize hby hzs hsz v n xs hs hown ad m c news hx hl ?_ h1 h63 hbytes hbase (λv' w' h1 h2 _ _=>h v' w' h1 h2);intro j u hj;obtain⟨b,off,e,hb,ht⟩:=hp (λe=>by rw[e]at hj;cases hj)
    cases e;rw[tN];exact ht j u hj
end
end Go.Lx
namespace Go.Lx
theorem kC{fn:Func}{u p:Tmp}{ty:TypeId}(h:fn.results=#[.tmp u,.cell p ty])(tmps:Array Value)(P:Program)(w:World) :
 (results fn tmps).run P w =
   ((asAddr (tmps.getD p undef)).run P w).andThen λa w₁=>((loadVar ty a).run P w₁).andThen λv w₂=>.ok (.tuple #[tmps.getD u undef,v]) w₂:=by
 simp only[results,h];simp[Sem.run_bind,Result.andThen]
theorem bQ{fn:Func}{p:Tmp}{ty:TypeId}(h:fn.results=#[.cell p ty])(tmps:Array Value)(P:Program)(w:World) :
 (results fn tmps).run P w=((asAddr (tmps.getD p undef)).run P w).andThen λa w₁=>(loadVar ty a).run P w₁:=by
 simp only[results,h];simp[Sem.run_bind,Result.andThen]
theorem tSA{cs:List ByteArray}{p:Int}{s:ByteArray}{st:List ByteArray}{c q:Int}(h:gG cs p s st = .error (c,q)):c≠0:=by
 unfold gG at h
 split at h
 . cases h
 . split at h
   . split at h
     . split at h
       . cases h;decide
       . cases h
     . split at h
       . cases h
       . cases h;decide
   . cases h;decide
theorem rT{cs ds:List ByteArray}:∀(ks:List PK) (ys:List ST) (x:Nd) (nms st:List ByteArray) (acc:List Nd) (c q:Int),(∀ y∈ys,∀ st c q,pG cs ds y st = .error (c,q)->c≠0)->goS cs ds ks ys x nms st acc = .error (c,q)->c≠0
  | [], ys, x, nms, st, acc, c, q, _, h => by
    have:goS cs ds [] ys x nms st acc = .ok (acc++[x]):=by cases ys<;>simp[goS]
    rw[this]at h
    cases h
  | k :: ks, [], x, nms, st, acc, c, q, _, h => by
    have:goS cs ds (k::ks) [] x nms st acc = .ok (acc++[x]):=by cases k<;>simp[goS]
    rw[this]at h
    cases h
  | k :: ks, y :: ys, x, nms, st, acc, c, q, hy, h => by
    have hy':∀ z∈ys,∀ st c q,pG cs ds z st = .error (c,q)->c≠0:=λz hz=>hy z (Qh _ hz)
    cases k with
    | nm =>
      rw[goS]at h
      split at h
      . exact rT ks ys _ _ _ _ _ _ hy' h
      . cases h;decide
    | nu =>
      rw[goS]at h
      split at h
      . split at h
        . exact rT ks ys _ _ _ _ _ _ hy' h
        . cases h;decide
      . cases h;decide
    | da =>
      rw[goS]at h
      split at h
      . split at h
        . exact rT ks ys _ _ _ _ _ _ hy' h
        . cases h;decide
      . cases h;decide
    | te w =>
      rw[goS]at h
      split at h
      . exact rT ks ys _ _ _ _ _ _ hy' h
      . rename_i e he
        cases h;exact hy y Qn _ _ _ he
theorem nV{cs ds:List ByteArray}(T:ST):∀ st c q,pG cs ds T st = .error (c,q)->c≠0:=by
 induction T using ST.rec (motive_2:=λl=>∀ a∈l,∀ st c q,pG cs ds a st = .error (c,q)->c≠0) with
 | word p s =>
   intro st c q h;rw[pG]at h;exact tSA h
 | list p l ih =>
   intro st c q h;rw[pG]at h
   cases l with
   | nil=>rw[jF]at h;cases h;decide
   | cons a l =>
     rw[jF]at h
     split at h
     . cases h;decide
     . split at h
       . exact rT _ _ _ _ _ _ _ _ (λy hy=>ih y (Qh _ hy)) h
       . cases h;decide
 | nil=>rename_i a ha st c q h;cases ha
 | cons a l iha ihl =>
   rename_i b hb st c q h;rcases List.mem_cons.1 hb with rfl|hb
   . exact iha st c q h
   . exact ihl b hb st c q h
end Go.Lx
namespace Go.Lx
open Go Go.RowKit
theorem uZ{fn:Func}{p u v:Tmp}{ty:TypeId}(h:fn.results=#[.cell p ty,.tmp u,.tmp v])(tmps:Array Value)(P:Program)(w:World) :
 (results fn tmps).run P w =
   ((asAddr (tmps.getD p undef)).run P w).andThen λa w₁=>((loadVar ty a).run P w₁).andThen λx w₂=>.ok (.tuple #[x,tmps.getD u undef,tmps.getD v undef]) w₂:=by
 simp only[results,h];simp[Sem.run_bind,Result.andThen]
theorem hUA{P:Program}{fn:Func}{T:TypeId}{R:Ending->World->Prop}{A:Array Value}{wf:World}{b:Nat}{v0 v1 v2 v3 v4 v5 x y:Value}
    (hl:∀ w':World,BoxAt w' b T #[v0,v1,v2,v3,v4,v5]->(loadVar T ⟨b,0,none⟩).run P w' = .ok (.agg #[v0,v1,v2,v3,v4,v5]) w')
    (hr:fn.results=#[.cell 4 T,.tmp 5,.tmp 6]) (h2:A.getD 4 undef = .pointer (some ⟨b,0,none⟩)) (h3:A.getD 5 undef=x) (h4:A.getD 6 undef=y) (hB:BoxAt wf b T #[v0,v1,v2,v3,v4,v5])
    (hR:R (.returned (.tuple #[.agg #[v0,v1,v2,v3,v4,v5],x,y])) wf) :
    bodyPost P fn R .ret ⟨A,[]⟩ wf:=by
  refine bodyPost_ret (v:=.tuple #[.agg #[v0,v1,v2,v3,v4,v5],x,y]) ((uZ hr _ _ _).trans ?_) rfl hR;have:=hl _ hB;rw[h2,h3,h4];simp only[asAddr,Sem.run_pure,Result.andThen];rw[this]
theorem wD{w:World}{b:Nat}{T:TypeId}{a0 a1 a2 a3 a4 a5:Value}(h:BoxAt w b T #[a0,a1,a2,a3,a4,a5])(v0 v1 v2 v3 v4 v5:Value) :
 BoxAt ((((((w.setCell ⟨b,0,none⟩ v0).setCell ⟨b,1,none⟩ v1).setCell ⟨b,2,none⟩ v2).setCell ⟨b,3,none⟩ v3).setCell ⟨b,4,none⟩ v4).setCell ⟨b,5,none⟩ v5) b T #[v0,v1,v2,v3,v4,v5]:=(((((h.set 0 v0).set 1 v1).set 2 v2).set 3 v3).set 4 v4).set 5 v5
theorem jE(w:World)(b:Nat)(v0 v1 v2 v3 v4 v5:Value) :
 Ch (λg=>g=b) w ((((((w.setCell ⟨b,0,none⟩ v0).setCell ⟨b,1,none⟩ v1).setCell ⟨b,2,none⟩ v2).setCell ⟨b,3,none⟩ v3).setCell ⟨b,4,none⟩ v4).setCell ⟨b,5,none⟩ v5):=(((((Ch.refl (C:=λg=>g=b) w).set (λ_=>rfl) 0 v0).set (λ_=>rfl) 1 v1).set (λ_=>rfl) 2 v2).set (λ_=>rfl) 3 v3).set (λ_=>rfl) 4 v4 |>.set (λ_=>rfl) 5 v5
theorem zXA{w:World}{b g:Nat}{T:TypeId}{cs:Array Value}(h:BoxAt w b T cs)(hne:b≠g)(v0 v1 v2 v3 v4 v5:Value) :
 BoxAt ((((((w.setCell ⟨g,0,none⟩ v0).setCell ⟨g,1,none⟩ v1).setCell ⟨g,2,none⟩ v2).setCell ⟨g,3,none⟩ v3).setCell ⟨g,4,none⟩ v4).setCell ⟨g,5,none⟩ v5) b T cs:=(((((h.other hne 0 v0).other hne 1 v1).other hne 2 v2).other hne 3 v3).other hne 4 v4).other hne 5 v5
theorem qNA{w:World}{b:Nat}{t:TypeId}{cs:Array Value}(h:BoxAt w b t cs):BoxAt w.drew b t cs:=h
theorem l0A{C:Nat->Prop}{a w:World}(h:Ch C a w):Ch C a w.drew:=⟨h.os,h.output,h.size,h.block⟩
end Go.Lx
namespace Go.Lx
open Go.RowKit
section
variable {P : Program}
theorem xFA(m:Nat):(Builtin.zeroCells #[Value.int .i64 0] m).toList=List.replicate m (Value.int .i64 0):=by
 apply List.ext_getElem
 . simp[Builtin.zeroCells]
 . intro j h1 h2;simp[Builtin.zeroCells,Nat.mod_one]
theorem gU(w:World)(base:Nat)(t u ty e:TypeId)(i:TypeInfo)(ht:P.underlying t=some (.slice e))(hu:P.underlying u=some (.int .i64))(hi:P.info? e=some i)(hz:i.zero=some (.int .i64 0))(hs:i.size=1)(hby:i.bytes=8)
    (v:Value) (n:Nat) (xs:List Value) (hown:w.ownsRow base e 1 v n xs) (hn0:0 < n) (m:Nat) (h1:1<=m) (h8:n+m<=100) (hbase:base<=w.heap.size) :
    ∃ v' w',(Builtin.append_ #[t,u] ty #[v,.int .i64 (m:Int)]).run P w = .ok v' w'/\w'.ownsRow base e 1 v' (n+m) (xs++List.replicate m (.int .i64 0))/\w.grownBy w' v.ownBlock:=by
  have hw:IntKind.i64.wrap (m:Int)=m:=by rw[IntKind.wrap_i64];omega
  have hneg:¬((m:Int) < 0):=by omega
  have hbig:¬((281474976710656:Int) < (m:Int) * 8):=by omega
  have hm0:¬ m=0:=by omega
  have h63':¬(9223372036854775807 < ((n:Int)+(m:Int))):=by omega
  have hlen:(xs++List.replicate m (Value.int .i64 0)).length=(n+m) * 1:=by rw[Qc,hown.1,List.length_replicate];omega
  rcases hown.2 with⟨rfl,rfl⟩|⟨g,cap,cur,rfl,hbg,hg,hnc,hcm,hcs,htake⟩
  . omega
  . by_cases hroom : n + m <= cap
    . have hfit:n+(List.replicate m (Value.int .i64 0)).length<=cur.size:=by rw[hcs,List.length_replicate];omega
      have hzl:(Builtin.zeroCells (Value.int .i64 0).cells m).toList=List.replicate m (Value.int .i64 0):=xFA m;have hst:=run_storeCells_at P g n e (List.replicate m (Value.int .i64 0)) 0 cur w hg (by simpa using hfit) (λu hu=>by rw[List.eq_of_mem_replicate hu];rfl);simp only[Nat.add_zero]at hst;refine⟨.slice (some ⟨g,0,none⟩) (n+m) cap,_,?_,⟨hlen,.inr ⟨g,cap,_,rfl,hbg,setRow_heap w g cur (cur.toList.take n++List.replicate m (Value.int .i64 0)++cur.toList.drop (n+(List.replicate m (Value.int .i64 0)).length)).toArray e _ hg,hroom,hcm,?_,?_⟩⟩,⟨rfl,rfl,rfl,by simp,λk _ hk=>setRow_other w g k _ (λe=>hk (by simp[Value.ownBlock,e]))⟩⟩
      . simp[Builtin.append_,run_underlying ht,run_underlying hu,sizeOf,typeInfo,zeroValue,hi,hz,hs,hby,Builtin.lenOf,hroom,asInt,asIntOf,hw,hneg,hbig,hm0,hzl,Addr.add_lit,hst,Result.andThen]
      . simp only[List.size_toArray,Qc,List.length_take,List.length_drop,Array.length_toList];omega
      . have ht':cur.toList.take n=xs:=by simpa using htake
        simp only;rw[ht',<- hlen];exact List.take_left
    . have holds:∀ j u,xs[j]? = some u->w.drew.cell? ((⟨g,0,none⟩:Addr).add j)=some u:=hown.cells (g:=g) rfl;have hfo:=run_firstCells_some (P:=P) w.drew 1 n ⟨g,0,none⟩ n cap xs (by have:=hown.1;omega) holds;have h48':¬(281474976710656 < Builtin.nextslicecap (n+m) cap * 8):=by
       unfold Builtin.nextslicecap
       split
       . omega
       . split
         . omega
         . omega
      refine⟨.slice (some ⟨w.heap.size,0,none⟩) (n+m) (grownCap w (n+m) cap e),w.drew.alloc (.cells (xs.toArray++Builtin.zeroCells #[.int .i64 0] m++Builtin.zeroCells #[.int .i64 0] (grownCap w (n+m) cap e - (n+m))) e),?_,?_,?_⟩
      . simp[Builtin.append_,run_underlying ht,run_underlying hu,sizeOf,typeInfo,zeroValue,hi,hz,hs,hby,Builtin.lenOf,hroom,hm0,h63',h48',Question.forced,hfo,newRow,grownCap,asInt,asIntOf,hw,hneg,hbig];rfl
      . have hge:=grownCap_ge w (n+m) cap e;have hcm:grownCap w (n+m) cap e<=maxLen:=grownCap_le_maxLen w (n+m) cap e (by simp only[maxLen];omega);refine⟨hlen,.inr ⟨w.heap.size,_,_,rfl,hbase,zA w.drew _ _,hge,hcm,?_,?_⟩⟩
        . have:=hown.1;simp only[Array.size_append,List.size_toArray,size_zeroCells];simp;omega
        . simp only[Array.toList_append,xFA];rw[<- hlen];exact List.take_left
      . exact⟨rfl,rfl,rfl,by simp,λk hk _=>by
          show(w.heap.push _)[k]? = _
          rw[Array.getElem?_push_lt hk,<- Array.getElem?_eq_getElem]⟩
theorem qQ{w:World}{ops:Array Oper}{rest:List Oper}{o:Oper}{a:Act}{Q:Exit->Act->World->Prop}(hgd:o.guard=none)(s x:Operand)(base:Nat)(t u e:TypeId)
    (ho:o.op = .call { callee:=.builtin .append,args:=#[s,x],argTypes:=#[t,u] }) (i:TypeInfo) (ht:P.underlying t=some (.slice e)) (hu:P.underlying u=some (.int .i64)) (hi:P.info? e=some i) (hz:i.zero=some (.int .i64 0)) (hs:i.size=1) (hby:i.bytes=8)
    (v:Value) (n:Nat) (xs:List Value) (m:Nat) (es:a.eval s=v) (ex:a.eval x = .int .i64 (m:Int)) (hown:w.ownsRow base e 1 v n xs) (hn0:0 < n) (h1:1<=m) (h8:n+m<=100) (hbase:base<=w.heap.size)
    (h:∀ v' w',w'.ownsRow base e 1 v' (n+m) (xs++List.replicate m (.int .i64 0))->w.grownBy w' v.ownBlock->wpList P ops Q rest (a.put o.dst v') w') :
    wpList P ops Q (o::rest) a w:=by
  refine wpList_plain hgd λK hK'=>?_
  obtain⟨v',w',hrun,r1,r2⟩:=gU (P:=P) w base t u o.type e i ht hu hi hz hs hby v n xs hown hn0 m h1 h8 hbase;unfold Oper.wp;simp[execOp,ho,resolve,invoke,builtin,es,ex,hrun,Result.andThen];exact hK' _ _ (h v' w' r1 r2)
end
end Go.Lx
namespace Go.Lx
inductive Tm where
 | mk (x:Nd) (args:List Tm)
def Tm.root:Tm->Nd
  | .mk x _=>x
def Tm.args:Tm->List Tm
  | .mk _ l=>l
mutual
def flat:Tm->List Nd
  | .mk x l=>kE l++[x]
def kE:List Tm->List Nd
  | []=>[]
  | a::l=>flat a++kE l
end
mutual
def okT:Tm->Prop
  | .mk x l=>jB x=true/\l.length=(binds x).length/\oAA l
def oAA:List Tm->Prop
  | []=>True
  | a::l=>okT a/\oAA l
end
mutual
def lG:Tm->Nat
  | .mk x l=>sW 1 l
def sW:Nat->List Tm->Nat
  | d,[]=>d
  | d,a::l=>sW (max d (lG a+1)) l
end
theorem sAA(a b:List Tm):kE (a++b)=kE a++kE b:=by
 induction a with
 | nil=>rfl
 | cons x l ih=>simp[kE,ih]
theorem hNA{a b:List Tm}:oAA (a++b)↔oAA a/\oAA b:=by
 induction a with
 | nil=>simp[oAA]
 | cons x l ih=>simp[oAA,ih,and_assoc]
def tF:Nat->List Tm->List (Nat×Nat)
  | _,[]=>[]
  | i,a::l=>(i,lG a)::tF (i+(flat a).length) l
theorem mR(i:Nat)(l:List Tm):(tF i l).length=l.length:=by
 induction l generalizing i with
 | nil=>rfl
 | cons x l ih=>simp[tF,ih]
theorem dAA(i:Nat)(a b:List Tm):tF i (a++b)=tF i a++tF (i+(kE a).length) b:=by
 induction a generalizing i with
 | nil=>simp[tF,kE]
 | cons x l ih=>simp[tF,ih,kE,Nat.add_assoc]
theorem qCA(i k:Nat)(l:List Tm):(tF i l).take k=tF i (l.take k):=by
 induction l generalizing i k with
 | nil=>simp[tF]
 | cons x l ih => cases k with
   | zero=>simp[tF]
   | succ k=>simp[tF,ih]
theorem xEA(i k:Nat)(l:List Tm)(hk:k<=l.length):(tF i l).drop k=tF (i+(kE (l.take k)).length) (l.drop k):=by
 have h:=dAA i (l.take k) (l.drop k);rw[List.take_append_drop]at h;rw[h,List.drop_append_of_le_length (by rw[mR,List.length_take];omega)];have:(tF i (l.take k)).length=k:=by rw[mR,List.length_take];omega
 rw[List.drop_of_length_le (by omega)];rfl
theorem cYA(i d:Nat)(l:List Tm):(tF i l).foldl (λd (x:Nat×Nat)=>max d (x.2+1)) d=sW d l:=by
 induction l generalizing i d with
 | nil=>rfl
 | cons x l ih=>simp only[tF,List.foldl_cons,sW];exact ih _ _
theorem aTA(x:Nd)(i:Nat)(l:List Tm):meas (i+(kE l).length) (tF i l)=(i,lG (.mk x l)):=by
 unfold meas;rw[cYA]
 cases l with
 | nil=>simp[tF,kE,lG]
 | cons a l=>simp[tF,lG]
theorem mW:∀(t:List Nd) (all:List (Nat×Nat)) (Fs:List Tm) {r:List (Nat×Nat)×List (Nat×Nat)},oAA Fs->yD t (kE Fs).length all (tF 0 Fs)=some r ->
 ∃ Gs,oAA Gs/\kE Gs=kE Fs++t/\r.2=tF 0 Gs
 | [],all,Fs,r,hF,h=>by cases h;exact⟨Fs,hF,by simp,rfl⟩
 | x :: t, all, Fs, r, hF, h => by
   unfold yD at h
   split at h
   . cases h
   . rename_i hc;rw[mR]at hc h;have hx:jB x=true:=by
      cases hr:jB x
      . exact absurd (.inl hr) hc
      . rfl
     have hl:(binds x).length<=Fs.length:=by
      apply Nat.le_of_not_lt;exact λh=>hc (.inr h)
     have hk:Fs.length - (binds x).length<=Fs.length:=by omega
     generalize hkk:Fs.length - (binds x).length=k at *;have hsplit:kE Fs=kE (Fs.take k)++kE (Fs.drop k):=by rw[<- sAA,List.take_append_drop]
     have hm:meas (kE Fs).length ((tF 0 Fs).drop k)=((kE (Fs.take k)).length,lG (.mk x (Fs.drop k))):=by
      rw[xEA 0 k Fs hk,hsplit,Qc,Nat.zero_add];exact aTA x _ _
     simp only at h;rw[hm,qCA]at h;have hnew:tF 0 (Fs.take k++[.mk x (Fs.drop k)])=tF 0 (Fs.take k)++[((kE (Fs.take k)).length,lG (.mk x (Fs.drop k)))]:=by rw[dAA,Nat.zero_add];rfl
     have hfl:kE (Fs.take k++[.mk x (Fs.drop k)])=kE Fs++[x]:=by rw[sAA,hsplit];simp[kE,flat]
     rw[<- hnew]at h;have hlen:(kE Fs).length+1=(kE (Fs.take k++[.mk x (Fs.drop k)])).length:=by rw[hfl];simp
     rw[hlen]at h;have hok:oAA (Fs.take k++[.mk x (Fs.drop k)]):=by
      have h0:=hF;rw[<- List.take_append_drop k Fs]at h0;obtain⟨h1,h2⟩:=hNA.1 h0;exact hNA.2 ⟨h1,⟨hx,by rw[List.length_drop];omega,h2⟩,trivial⟩
     obtain⟨Gs,g1,g2,g3⟩:=mW t _ _ hok h;exact⟨Gs,g1,by rw[g2,hfl];simp,g3⟩
theorem eMA:∀(T:Tm),okT T->∀(all:List (Nat×Nat)) (Fs:List Tm),∃ all',yD (flat T) (kE Fs).length all (tF 0 Fs)=some (all++all',tF 0 (Fs++[T]))/\all'.length=(flat T).length/\all'.getLast? = some ((kE Fs).length,lG T):=by
 intro T
 induction T using Tm.rec (motive_2:=λl=>oAA l->∀(all:List (Nat×Nat)) (Fs:List Tm),∃ all',yD (kE l) (kE Fs).length all (tF 0 Fs)=some (all++all',tF 0 (Fs++l))/\all'.length=(kE l).length) with
 | mk x l ih =>
   rintro⟨hx,hl,hls⟩ all Fs;obtain⟨a1,h1,h2⟩:=ih hls all Fs;refine⟨a1++[((kE Fs).length,lG (.mk x l))],?_,by simp[flat,h2],by simp⟩;rw[flat,rW,h1];simp only[Option.bind_some];unfold yD;rw[mR,Qc,if_neg (by rw[hx];simp;omega)];have hk:Fs.length+l.length - (binds x).length=Fs.length:=by omega
   simp only[hk];have hd:(tF 0 (Fs++l)).drop Fs.length=tF (kE Fs).length l:=by
    rw[xEA 0 _ _ (by simp),List.drop_left,List.take_left,Nat.zero_add]
   have ht:(tF 0 (Fs++l)).take Fs.length=tF 0 Fs:=by rw[qCA,List.take_left]
   rw[hd,ht,aTA];unfold yD;rw[dAA 0 Fs [.mk x l],Nat.zero_add,List.append_assoc];rfl
 | nil=>rename_i hh all Fs;exact⟨[],by simp[kE,yD],rfl⟩
 | cons a l iha ihl =>
   rename_i hh all Fs;obtain⟨ha,hl⟩:=hh;obtain⟨a1,h1,h2,_⟩:=iha ha all Fs;obtain⟨a2,h3,h4⟩:=ihl hl (all++a1) (Fs++[a]);refine⟨a1++a2,?_,by simp[kE,h2,h4]⟩;rw[kE,rW,h1];simp only[Option.bind_some];have:(kE Fs).length+(flat a).length=(kE (Fs++[a])).length:=by rw[sAA];simp[kE]
   rw[this,h3,List.append_assoc,List.append_assoc];rfl
def fAA(c:UInt8):Bool:=decide (48<=c.toNat)&&decide (c.toNat<=57)
def vIA(l:List UInt8):Nat:=l.foldl (λn c=>n * 10+(c.toNat - 48)) 0
theorem aIA(l:List UInt8)(c:UInt8):vIA (l++[c])=vIA l * 10+(c.toNat - 48):=by simp[vIA]
def iQ(s:ByteArray):Int:=match mX s with|some n=>(n:Int)|none => -1
theorem ofNat_toNat(c:UInt8)(n:Nat)(h:c.toNat=n):UInt8.ofNat n=c:=by rw[<- h];simp
theorem vAA{s:ByteArray}(h:∀ n,n < 100->s.data.toList≠tBA n):mX s=none:=by
 cases hn:mX s with
 | none=>rfl
 | some n =>
   obtain⟨h1,h2⟩:=j4 hn;rw[eCA h1]at h2;exact absurd h2 (h n h1)
theorem o3A(n:Nat):(tBA n).length=1∨(tBA n).length=2:=by
 unfold tBA;split
 . exact .inl rfl
 . exact .inr rfl
theorem nKA:(List.range 100).all (λn=>(tBA n).all fAA&&(decide ((tBA n).length=1) || !((tBA n).head? == some 48)))=true:=by decide +kernel
theorem yGA{s:ByteArray}(h:s.size < 1∨2 < s.size):iQ s = -1:=by
 unfold iQ;rw[vAA λn hn e=>by
   have:=congrArg List.length e;have hs:s.data.toList.length=s.size:=by rw[Array.length_toList];rfl
   rcases o3A n with h'|h'<;>omega]
theorem pY{s:ByteArray}{c:UInt8}(hc:c∈s.data.toList)(h:fAA c=false):iQ s = -1:=by
 unfold iQ;rw[vAA λn hn e=>by
   have:=List.all_eq_true.1 nKA n (List.mem_range.2 hn);simp only[Bool.and_eq_true]at this;rw[e]at hc;have:=List.all_eq_true.1 this.1 c hc;rw[h]at this;cases this]
theorem xXA{s:ByteArray}{d:UInt8}(h:s.data.toList=[48,d]):iQ s = -1:=by
 unfold iQ;rw[vAA λn hn e=>by
   have:=List.all_eq_true.1 nKA n (List.mem_range.2 hn);rw[<- e,h]at this;simp at this]
theorem d4A{s:ByteArray}{c:UInt8}(h:s.data.toList=[c])(hd:fAA c=true):iQ s=(vIA [c]:Int):=by
 unfold fAA at hd;simp only[Bool.and_eq_true,decide_eq_true_eq]at hd;have:mX s=some (c.toNat - 48):=rJA (by omega) (by
   rw[eCA (by omega),h];unfold tBA;rw[if_pos (by omega),ofNat_toNat c _ (by omega)])
 unfold iQ;rw[this];simp[vIA]
theorem o2A{s:ByteArray}{c d:UInt8}(h:s.data.toList=[c,d])(h0:c≠48)(hc:fAA c=true)(hd:fAA d=true):iQ s=(vIA [c,d]:Int):=by
 unfold fAA at hc hd;simp only[Bool.and_eq_true,decide_eq_true_eq]at hc hd;have h48:c.toNat≠48:=λe=>h0 (UInt8.toNat_inj.1 e)
 have:mX s=some ((c.toNat - 48) * 10+(d.toNat - 48)):=rJA (by omega) (by
   rw[eCA (by omega),h];unfold tBA;rw[if_neg (by omega),ofNat_toNat c _ (by omega),ofNat_toNat d _ (by omega)])
 unfold iQ;rw[this];simp[vIA]
inductive SX where
 | w (s:ByteArray)
 | l (xs:List SX)
mutual
def bG:SX->List UInt8
  | .w s=>s.data.toList
  | .l xs=>40::(yM xs++[41])
def yM:List SX->List UInt8
  | []=>[]
  | a::l=>bG a++wQ l
def wQ:List SX->List UInt8
  | []=>[]
  | a::l=>32::(bG a++wQ l)
end
mutual
def kH:Nat->SX->List PTok
  | k,.w s=>[⟨1,(k:Int),s⟩]
  | k,.l xs=>⟨2,(k:Int),⟨#[40]⟩⟩::(sO (k+1) xs++[⟨3,((k+1+(yM xs).length:Nat):Int),⟨#[41]⟩⟩])
def sO:Nat->List SX->List PTok
  | _,[]=>[]
  | k,a::l=>kH k a++fK (k+(bG a).length) l
def fK:Nat->List SX->List PTok
  | _,[]=>[]
  | k,a::l=>kH (k+1) a++fK (k+1+(bG a).length) l
end
mutual
def cNA:Nat->SX->ST
  | k,.w s=>.word (k:Int) s
  | k,.l xs=>.list (k:Int) (jIA (k+1) xs)
def jIA:Nat->List SX->List ST
  | _,[]=>[]
  | k,a::l=>cNA k a::zAA (k+(bG a).length) l
def zAA:Nat->List SX->List ST
  | _,[]=>[]
  | k,a::l=>cNA (k+1) a::zAA (k+1+(bG a).length) l
end
mutual
def tKA:SX->Nat
  | .w _=>0
  | .l xs=>iKA xs+1
def iKA:List SX->Nat
  | []=>0
  | a::l=>max (tKA a) (iKA l)
end
mutual
def okX(p:UInt8->Bool):SX->Prop
  | .w s=>s.size≠0/\∀ c∈s.data.toList,p c=true
  | .l xs=>kVA p xs
def kVA(p:UInt8->Bool):List SX->Prop
  | []=>True
  | a::l=>okX p a/\kVA p l
end
theorem kIA:∀(xs:List SX) (k:Nat),(zAA k xs).length=xs.length
  | [],_=>rfl
  | a::l,k=>by simp[zAA,kIA l]
theorem wUA(xs:List SX)(k:Nat):(jIA k xs).length=xs.length:=by
 cases xs with
 | nil=>rfl
 | cons a l=>simp[jIA,kIA]
theorem bLA(x:SX):∀(k:Nat) (r:List PTok) (row st:List Sx) (t:Sx),st.length+tKA x<=60->mF (kH k x++r) row st t=mF r (row++qA (cNA k x)) st ⟨t.many+1,t.pos,t.word⟩:=by
 induction x using SX.rec (motive_2:=λl=>∀(k:Nat) (r:List PTok) (row st:List Sx) (t:Sx),st.length+iKA l<=60->mF (fK k l++r) row st t=mF r (row++rA (zAA k l)) st ⟨t.many+l.length,t.pos,t.word⟩) with
 | w s =>
   intro k r row st t _;unfold kH cNA qA;rw[List.singleton_append,lN,if_pos rfl]
 | l xs ih =>
   intro k r row st t hd;unfold tKA at hd;unfold kH cNA;rw[qA,wUA,List.cons_append,lN,if_neg (show ¬(2:Int)=1 by decide),if_pos (show(2:Int)=2 from rfl),if_neg (by omega)];have key:mF ((sO (k+1) xs++[⟨3,((k+1+(yM xs).length:Nat):Int),⟨#[41]⟩⟩])++r) row (t::st) ⟨0,(k:Int),⟨#[]⟩⟩=mF (⟨3,((k+1+(yM xs).length:Nat):Int),⟨#[41]⟩⟩::r) (row++rA (jIA (k+1) xs)) (t::st) ⟨(xs.length:Int),(k:Int),⟨#[]⟩⟩:=by
    have h:=ih k (⟨3,((k+1+(yM xs).length:Nat):Int),⟨#[41]⟩⟩::r) row (t::st) ⟨0,(k:Int),⟨#[]⟩⟩ (by simp;omega);rw[List.append_assoc,List.singleton_append]
    cases xs with
    | nil=>simp[sO,jIA,rA]
    | cons a l =>
      simp only[fK,zAA]at h;simp only[sO,jIA];rw[Int.zero_add]at h;exact h
   rw[key,lN,if_neg (show ¬(3:Int)=1 by decide),if_neg (show ¬(3:Int)=2 by decide)];simp only[List.append_assoc]
 | nil=>rename_i k r row st t _;simp[fK,zAA,rA]
 | cons a l iha ihl =>
   rename_i k r row st t hd;unfold iKA at hd;unfold fK zAA;rw[List.append_assoc,iha _ _ _ _ _ (by omega),ihl _ _ _ _ _ (by omega),rA,List.append_assoc,Qk];have e:t.many+1+(l.length:Int)=t.many+((l.length+1:Nat):Int):=by omega
   simp only;rw[e]
theorem nPA(x:SX)(h:tKA x<=60)(k:Nat):mF (kH k x) [] [] ⟨0,0,⟨#[]⟩⟩ = .ok (qA (cNA k x)):=by
 have:=bLA x k [] [] [] ⟨0,0,⟨#[]⟩⟩ (by simpa using h);rw[List.append_nil]at this;rw[this];rfl
theorem xHA:∀(l:List SX),(∀ a∈l,∀ k,(kH k a).length<=(bG a).length)->∀ k,(fK k l).length<=(wQ l).length
  | [],_,k=>by simp[fK]
  | a :: l, h, k => by
    have h1:=h a Qn (k+1);have h2:=xHA l (λb hb=>h b (Qh _ hb)) (k+1+(bG a).length);simp only[fK,wQ,Qc,Qk];omega
theorem m2A{p:UInt8->Bool}(x:SX):okX p x->∀ k,(kH k x).length<=(bG x).length:=by
 induction x using SX.rec (motive_2:=λl=>kVA p l->∀ a∈l,∀ k,(kH k a).length<=(bG a).length) with
 | w s =>
   intro h k;have:s.data.toList.length=s.size:=by rw[Array.length_toList];rfl
   have:=h.1;simp only[kH,bG,List.length_singleton];omega
 | l xs ih =>
   intro h k;have hX:=ih h
   cases xs with
   | nil=>simp[kH,bG,sO,yM]
   | cons a l =>
     have h1:=hX a Qn (k+1);have h2:=xHA l (λb hb=>hX b (Qh _ hb)) (k+1+(bG a).length);simp only[kH,bG,sO,yM,Qc,Qk,List.length_nil];omega
 | nil=>rename_i h a ha k;cases ha
 | cons a l iha ihl =>
   rename_i h b hb k;rcases List.mem_cons.1 hb with rfl|hb
   . exact iha h.1 k
   . exact ihl h.2 b hb k
end Go.Lx
