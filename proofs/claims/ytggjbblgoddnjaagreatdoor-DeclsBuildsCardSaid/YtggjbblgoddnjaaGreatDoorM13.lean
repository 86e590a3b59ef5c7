/- Part 13 of what the proof rests on. -/
import Derived.OpenShut
import Derived.Conc.LeavingOf
import Derived.SevenTiedAt
import Derived.SizedLaws
import Derived.Test.YtggjbblgoddnjaaGreatDoorM00
import Derived.Test.YtggjbblgoddnjaaGreatDoorM01
import Derived.Test.YtggjbblgoddnjaaGreatDoorM12
set_option linter.unusedSimpArgs false
set_option linter.unusedVariables false
namespace Go.Lx
open Go.ChangeShapes Go.WideShapes Go.RowKit Go.Deep
def nX{H:Type}(l:List Nat):DataW H:=if l=[] then .nil else .slice (l.map fun(n:Nat)=>.lit (.int .i64 (n:Int))) []
def gNA{H:Type}(k:Nat):DataW H:=.agg [nX (gG k),.lit (.bool (fN k)),.lit (.bool (fM k)),.lit (.bool (fS k))]
theorem xS{w:World}{b j:Nat}{v:Value}(h:w.cell? ⟨b,j,none⟩=some v):b < w.heap.size:=by
 simp only[World.cell?]at h
 cases hb:w.heap[b]? with
 | none=>simp[hb]at h
 | some o=>exact(Array.getElem?_eq_some_iff.1 hb).1
section
variable {H : Type} {enc : TypeId × Value → H} {P : Program} {w : World} {base : Nat} {spare : Nat → Bool} {held : Bool} {t e : TypeId} {fuel : Nat} {cs : List Value} {q : List MemPlace}
theorem nRA{l:List Nat}(ht:P.underlying t=some (.slice e))(he:P.underlying e=some (.int .i64))(hC:P.cellsOf e=1)(h:DataW.trod enc P w base spare held fuel t cs=some (nX l,q)) :
 ∃ p c,cs=[.slice p l.length c]∧l.length≤c∧RowArg w p (bE l):=by
 rcases open_slice ht h with⟨rfl,hx⟩ | ⟨a,len,cap,m,n,D,Pl,rfl,_,hl,hm,hmm,hx,hi⟩
 · have : l = [] := by
     unfold nX at hx
     split at hx
     · assumption
     · simp at hx
   subst this;exact⟨none,0,rfl,Nat.le_refl _,RowArg.nil⟩
 · have hlm : len ≤ m := by rw [hmm]; split <;> omega
   rw[hC]at hi;have hne:l≠[]:=by
    intro e;subst e;simp[nX]at hx
   unfold nX at hx;rw[if_neg hne]at hx;simp only[Prod.mk.injEq,DataW.slice.injEq]at hx;obtain⟨⟨hmap,_⟩,_⟩:=hx;have hlen:l.length=len:=by have:=congrArg List.length hmap;simpa using this
   have each:∀(i n':Nat),l[i]? = some n'→w.cell? (a.add (i * 1))=some (.int .i64 (n':Int)):=by
    intro i n' hn';have hil:=(List.getElem?_eq_some_iff.1 hn').1;obtain⟨cs',hc,ht'⟩:=hi i (by omega);obtain⟨_,hcl,hat⟩:=World.cells?_some hc;obtain⟨z,e1,e2,_⟩:=DataW.trod_int he ht';subst e1;have h0:=hat 0 (by decide);have hD:D i = .lit (.int .i64 (n':Int)):=by
     have:=congrArg (fun r=>r[i]?) hmap;simp only[List.getElem?_map,hn',Option.map_some,List.getElem?_range (show i < len by omega)]at this;exact(Option.some.inj this).symm
    have e3:D i = .lit (.int .i64 z):=congrArg Prod.fst e2;rw[hD]at e3
    cases e3
    simpa [Addr.add] using h0
   refine⟨some a,cap,by rw[hlen],by omega,fun _=>?_⟩;obtain⟨b,off,sp⟩:=a;have hp:0 < l.length:=List.length_pos_iff.2 hne;have c0:=each 0 l[0] (List.getElem?_eq_getElem hp);have hsp:sp=none:=by simpa [Addr.add] using World.cell?_spot c0
   subst hsp;refine⟨b,off,rfl,?_,fun j u hj=>?_⟩
   · rw[jJ]at c0;exact xS c0
   · unfold bE at hj; rw [List.getElem?_map] at hj
     cases hq:l[j]? with
     | none=>rw[hq]at hj;cases hj
     | some n' =>
       rw[hq]at hj
       cases hj;have:=each j n' hq;rw[jJ,Nat.mul_one]at this;exact this
theorem t1A{n size m':Nat}{ds:List (DataW H)}(ht:P.underlying t=some (.array n e))(hC:P.cellsOf e=size)(h:DataW.trod enc P w base spare held fuel t cs=some (.agg ds,q)){i:Nat}(hi:i < n) :
 ∃ d q' m,ds[i]? = some d∧DataW.trod enc P w base spare held m e ((cs.drop (i * size)).take size)=some (d,q'):=by
 obtain⟨xs,m,_,hx,_,hn,hel⟩:=DataW.trod_array ht h;simp only[Prod.mk.injEq,DataW.agg.injEq]at hx;have h1:=hel i hi;rw[hC]at h1;have hxi:xs[i]? = some xs[i]:=List.getElem?_eq_getElem (by omega);rw[hxi]at h1;exact⟨xs[i].1,xs[i].2,m,by rw[hx.1,List.getElem?_map,hxi];rfl,h1⟩
theorem jGA{cs:List Value}{i size j:Nat}{v:Value}(h:((cs.drop (i * size)).take size)[j]? = some v):cs[i * size+j]? = some v:=by
 rw[List.getElem?_take]at h
 split at h
 · rw[List.getElem?_drop]at h;exact h
 · cases h
theorem zIA {g : Nat} {s ti : TypeId} {f0 f1 f2 f3 : Field} (hcell : ∀ j, w.cell? ⟨g, j, none⟩ = cs[j]?) (ht : P.underlying t = some (.array 30 s)) (hC : P.cellsOf s = 4) (hs : P.underlying s = some (.struct #[f0, f1, f2, f3])) (hone : oneCellFields P #[f0, f1, f2, f3] = true)
    (u0:P.underlying f0.type=some (.slice ti)) (ui:P.underlying ti=some (.int .i64)) (ci:P.cellsOf ti=1) (u1:P.underlying f1.type=some .bool) (u2:P.underlying f2.type=some .bool) (u3:P.underlying f3.type=some .bool)
    (h:DataW.trod enc P w base spare held fuel t cs=some (.agg ((List.range 30).map gNA),q)):ShapesAt g w:=by
  have each:∀ k,k < 30→∃ p c,w.cell? ⟨g,k * 4,none⟩=some (.slice p (gG k).length c)∧(gG k).length≤c∧RowArg w p (bE (gG k)) ∧
   w.cell? ⟨g,k * 4+1,none⟩=some (.bool (fN k))∧w.cell? ⟨g,k * 4+2,none⟩=some (.bool (fM k))∧w.cell? ⟨g,k * 4+3,none⟩=some (.bool (fS k)):=by
   intro k hk;obtain⟨d,q',m,hd,htr⟩:=t1A (m':=0) ht hC h hk;rw[List.getElem?_map,List.getElem?_range hk]at hd
   cases hd;obtain⟨ys,n',_,hx,hcl,hyl,hf⟩:=DataW.trod_struct hs htr;obtain⟨o0,k0⟩:=hone_of hone 0 f0 rfl;obtain⟨o1,k1⟩:=hone_of hone 1 f1 rfl;obtain⟨o2,k2⟩:=hone_of hone 2 f2 rfl;obtain⟨o3,k3⟩:=hone_of hone 3 f3 rfl;have g0:=hf 0 f0 rfl;have g1:=hf 1 f1 rfl;have g2:=hf 2 f2 rfl;have g3:=hf 3 f3 rfl;rw[o0,k0]at g0;rw[o1,k1]at g1;rw[o2,k2]at g2;rw[o3,k3]at g3;have hat:∀ j v,((cs.drop (k * 4)).take 4)[j]? = some v→w.cell? ⟨g,k * 4+j,none⟩=some v:=fun j v hj=>by rw[hcell];exact jGA hj
   rw[hC]at hcl;generalize (cs.drop (k * 4)).take 4=r at *
   match r,hcl with
   | [v0, v1, v2, v3], _ =>
     match ys,hyl with
     | [y0, y1, y2, y3], _ =>
       simp only[gNA,Prod.mk.injEq,DataW.agg.injEq,List.map_cons,List.map_nil,List.cons.injEq]at hx;obtain⟨⟨e0,e1,e2,e3,_⟩,_⟩:=hx;have g0':DataW.trod enc P w base spare held n' f0.type [v0]=some (nX (gG k),y0.2):=by rw[e0];exact g0
       obtain⟨p,c,hv0,hc,hr⟩:=nRA u0 ui ci g0';obtain⟨b1,hv1,hb1⟩:=DataW.trod_bool u1 (x:=y1) g1;obtain⟨b2,hv2,hb2⟩:=DataW.trod_bool u2 (x:=y2) g2;obtain⟨b3,hv3,hb3⟩:=DataW.trod_bool u3 (x:=y3) g3;rw[hb1]at e1;rw[hb2]at e2;rw[hb3]at e3
       cases e1;cases e2;cases e3
       cases hv0;cases hv1;cases hv2;cases hv3;exact⟨p,c,hat 0 _ rfl,hc,hr,hat 1 _ rfl,hat 2 _ rfl,hat 3 _ rfl⟩
  refine⟨?_,each⟩;obtain⟨_,_,c0,_⟩:=each 0 (by decide);exact xS c0
end
end Go.Lx
namespace Go.Lx
theorem aTA{cs:List ByteArray}{p:Int}{s:ByteArray}{st:List ByteArray}{t:List Nd}(h:tJ cs p s st = .ok t):t.length=1:=by
 unfold tJ at h
 split at h
 · cases h;rfl
 · split at h
   · split at h
     · split at h
       · cases h
       · cases h;rfl
     · split at h
       · cases h;rfl
       · cases h
   · cases h
theorem vW {cs ds : List ByteArray} : ∀ (ks : List PK) (ys : List ST) (x : Nd) (nms st : List ByteArray) (acc t : List Nd), (∀ y ∈ ys, ∀ st t, mQ cs ds y st = .ok t → t.length ≤ (xB y).length) → goS cs ds ks ys x nms st acc = .ok t → t.length ≤ acc.length + (fC ys).length + 1
  | [], ys, x, nms, st, acc, t, _, h => by
    have:goS cs ds [] ys x nms st acc = .ok (acc++[x]):=by cases ys<;>simp[goS]
    rw[this]at h
    cases h;simp
  | k :: ks, [], x, nms, st, acc, t, _, h => by
    have:goS cs ds (k::ks) [] x nms st acc = .ok (acc++[x]):=by cases k<;>simp[goS]
    rw[this]at h
    cases h;simp
  | k :: ks, y :: ys, x, nms, st, acc, t, hy, h => by
    have hy':∀ z∈ys,∀ st t,mQ cs ds z st = .ok t→t.length≤(xB z).length:=fun z hz=>hy z (List.mem_cons_of_mem _ hz)
    have hp:=uX y;rw[fC,List.length_append]
    cases k with
    | nm =>
      rw[goS]at h
      split at h
      · have:=vW ks ys _ _ _ _ _ hy' h;omega
      · cases h
    | nu =>
      rw[goS]at h
      split at h
      · split at h
        · have:=vW ks ys _ _ _ _ _ hy' h;omega
        · cases h
      · cases h
    | da =>
      rw[goS]at h
      split at h
      · split at h
        · have:=vW ks ys _ _ _ _ _ hy' h;omega
        · cases h
      · cases h
    | te w =>
      rw[goS]at h
      split at h
      · rename_i u hu;have h1:=hy y List.mem_cons_self _ _ hu;have:=vW ks ys _ _ _ _ _ hy' h;rw[List.length_append]at this;omega
      · cases h
theorem fWA{cs ds:List ByteArray}(T:ST):∀ st t,mQ cs ds T st = .ok t→t.length≤(xB T).length:=by
 induction T using ST.rec (motive_2:=fun l=>∀ a∈l,∀ st t,mQ cs ds a st = .ok t→t.length≤(xB a).length) with
 | word p s =>
   intro st t h;rw[mQ]at h;rw[aTA h,xB];simp
 | list p l ih =>
   intro st t h;rw[mQ]at h
   cases l with
   | nil=>rw[uKA]at h;cases h
   | cons a l =>
     rw[uKA]at h
     split at h
     · cases h
     · split at h
       · have:=vW _ _ _ _ _ _ _ (fun y hy=>ih y (List.mem_cons_of_mem _ hy)) h;rw[xB,fC,List.length_append,List.length_append];simp only[List.length_nil,List.length_singleton]at this ⊢;omega
       · cases h
 | nil=>rename_i a ha st t h;cases ha
 | cons a l iha ihl =>
   rename_i b hb st t h;rcases List.mem_cons.1 hb with rfl | hb
   · exact iha st t h
   · exact ihl b hb st t h
theorem hDA{s:ByteArray}(h:aU s=true):s.size≤16:=by
 unfold aU rD at h;simp at h;omega
theorem iLA{cs:List ByteArray}{p:Int}{s:ByteArray}{st:List ByteArray}{t:List Nd}(h:tJ cs p s st = .ok t):∀ x∈t,x.s.size≤16:=by
 unfold tJ at h
 split at h
 · cases h;intro x hx;rw[List.mem_singleton.1 hx];exact Nat.zero_le _
 · split at h
   · rename_i hk
     split at h
     · split at h
       · cases h
       · cases h;intro x hx;rw[List.mem_singleton.1 hx];exact Nat.zero_le _
     · split at h
       · cases h;intro x hx;rw[List.mem_singleton.1 hx];exact hDA hk
       · cases h
   · cases h
theorem uO {cs ds : List ByteArray} : ∀ (ks : List PK) (ys : List ST) (x : Nd) (nms st : List ByteArray) (acc t : List Nd), (∀ y ∈ ys, ∀ st t, mQ cs ds y st = .ok t → ∀ z ∈ t, z.s.size ≤ 16) → x.s.size ≤ 16 → (∀ z ∈ acc, z.s.size ≤ 16) → goS cs ds ks ys x nms st acc = .ok t → ∀ z ∈ t, z.s.size ≤ 16
  | [], ys, x, nms, st, acc, t, _, hx, ha, h => by
    have:goS cs ds [] ys x nms st acc = .ok (acc++[x]):=by cases ys<;>simp[goS]
    rw[this]at h
    cases h;intro z hz;rcases List.mem_append.1 hz with hz | hz
    · exact ha z hz
    · rw[List.mem_singleton.1 hz];exact hx
  | k :: ks, [], x, nms, st, acc, t, _, hx, ha, h => by
    have:goS cs ds (k::ks) [] x nms st acc = .ok (acc++[x]):=by cases k<;>simp[goS]
    rw[this]at h
    cases h;intro z hz;rcases List.mem_append.1 hz with hz | hz
    · exact ha z hz
    · rw[List.mem_singleton.1 hz];exact hx
  | k :: ks, y :: ys, x, nms, st, acc, t, hy, hx, ha, h => by
    have hy':∀ z∈ys,∀ st t,mQ cs ds z st = .ok t→∀ z∈t,z.s.size≤16:=fun z hz=>hy z (List.mem_cons_of_mem _ hz)
    cases k with
    | nm =>
      rw[goS]at h
      split at h
      · exact uO ks ys _ _ _ _ _ hy' hx ha h
      · cases h
    | nu =>
      rw[goS]at h
      split at h
      · split at h
        · refine uO ks ys _ _ _ _ _ hy' ?_ ha h;exact hx
        · cases h
      · cases h
    | da =>
      rw[goS]at h
      split at h
      · rename_i hk
        split at h
        · refine uO ks ys _ _ _ _ _ hy' ?_ ha h;exact hDA hk
        · cases h
      · cases h
    | te w =>
      rw[goS]at h
      split at h
      · rename_i u hu; refine uO ks ys _ _ _ _ _ hy' hx (fun z hz => ?_) h; rcases List.mem_append.1 hz with hz | hz
        · exact ha z hz
        · exact hy y List.mem_cons_self _ _ hu z hz
      · cases h
theorem aMA{cs ds:List ByteArray}(T:ST):∀ st t,mQ cs ds T st = .ok t→∀ z∈t,z.s.size≤16:=by
 induction T using ST.rec (motive_2:=fun l=>∀ a∈l,∀ st t,mQ cs ds a st = .ok t→∀ z∈t,z.s.size≤16) with
 | word p s =>
   intro st t h;rw[mQ]at h;exact iLA h
 | list p l ih =>
   intro st t h;rw[mQ]at h
   cases l with
   | nil=>rw[uKA]at h;cases h
   | cons a l =>
     rw[uKA]at h
     split at h
     · cases h
     · split at h
       · exact uO _ _ _ _ _ _ _ (fun y hy=>ih y (List.mem_cons_of_mem _ hy)) (Nat.zero_le _) (fun z hz=>by cases hz) h
       · cases h
 | nil=>rename_i a ha st t h z hz;cases ha
 | cons a l iha ihl =>
   rename_i b hb st t h z hz;rcases List.mem_cons.1 hb with rfl | hb
   · exact iha st t h z hz
   · exact ihl b hb st t h z hz
def sVA(cs ds:List ByteArray)(T:ST):Say:=match mQ cs ds T [] with
 | .error x=>.error x
 | .ok t=>if bC t=0 then .ok t else .error (bC t,T.last.pos)
end Go.Lx
namespace Go.Lx
open Go Go.Conc
variable {H : Type} {enc : TypeId × Value → H}
theorem rQ {a : Assume} {C : Checked} {os : Os} {f : FuncId} {fn : Func} {s : ChangeSpec} {conds : List PathCond} {apart fresh handsOn again : Bool} {X : World → Array Value → Prop}
    (hX:∀(w w':World) (args:Array Value),w.heap=w'.heap→X w args→X w' args)
    (own:ownKnob C.prog.godebug=none) (started:os.Started) (hfn:C.prog.funcs[f]? = some fn)
    (witness : ∃ (w : World) (tape : Tape) (i : Input), w.os = os ∧ (w.forCall tape i).Shaped C.prog ∧ i.vars = [] ∧ Input.okWide C.prog (w.forCall tape i) .any w.heap.size f i ∧
      ((s.pre enc C.prog fn conds apart (w.forCall tape i).memory i.args∧X (w.forCall tape i).memory i.args)∧sizedMet enc C.prog fn (OpenSpec.ofChange s) apart (w.forCall tape i).memory i.args)∧a.holds C.prog (lone (Frame.enter C.prog f i.args .normal) [] (w.forCall tape i)))
    (runs : ∀ (W : World) (base : Nat) (args : Array Value) (ds gs : List (DataW H)) (before : List MemPlace),
      (∀(j:Nat) t v,fn.params[j]? = some t→args[j]? = some v→Value.okWide C.prog W .any base t v) →
      DataW.Whole enc C.prog fn.params.toList s.vars apart W args.toList ds gs before →
      conds.all (PathCond.test C.prog ⟨fn.params.toList,ds,s.plain.varTypes C.prog,gs⟩)=true →
      (DataW.weightsEach C.prog (fn.params.toList++s.plain.varTypes C.prog) (ds++gs)).all (· ≤ reachBytes)=true→X W args →
      a.holds C.prog (lone (Frame.enter C.prog f args .normal) [] W) →
      ∃ M last o w' t',runNT C.prog (M+1) (solo (G (Frame.enter C.prog f args .normal) []) W) #[]=(.ended o w',t')∧runN C.prog M (solo (G (Frame.enter C.prog f args .normal) []) W) = .next last ∧
       step C.prog last = .ended o w'∧Conc.Good C.prog (fun v W'=>s.post enc C.prog fn apart fresh handsOn again W args v W') last o w' t') :
    ReturnsInLeavingWide a C os f .any (fun w args=>(s.pre enc C.prog fn conds apart w args∧X w args)∧sizedMet enc C.prog fn (OpenSpec.ofChange s) apart w args) (s.post enc C.prog fn apart fresh handsOn again):=by
  refine returnsInLeavingWide_of_good own started witness ?_;intro w tape i _ _ _ hok hpre hholds;obtain⟨_,_,_,fn',hfn',_,_,_,_,hval⟩:=hok;have e:fn'=fn:=Option.some.inj (hfn'.symm.trans hfn);subst e;obtain⟨⟨⟨ds,gs,before,hw,hc⟩,hx⟩,hz⟩:=hpre;have hw':=DataW.Whole.of_heap (w':=w.forCall tape i) (by rfl) hw;obtain⟨M,last,o,w',t',h1,h2,h3,h4⟩:=runs (w.forCall tape i) w.heap.size i.args ds gs before hval hw' hc (hz.weights hw) (hX _ _ _ (by rfl) hx) hholds;exact⟨M,last,o,w',t',h1,h2,h3,h4.mono fun v hp=>ChangeSpec.post_blind hp⟩
end Go.Lx
namespace Go.Lx
open Go
theorem tQ (Lk : Looks) {p : Pinned} {s : OpenSpec} {c : OpenClaim} (kinds : List LaidKind) (tests : Bool) (har : Bool × String) (lk goes : Bool)
    (hc:c.holds p s) (hw:c.wfByText s=true) (htie:c.laidByTextAt Lk p kinds tests)
    (hst:c.start = .entering) (hnb:c.noBlocks=false∧c.again=false) (hm:p.checked.prog.mainIs=some (har.1,har.2.toList)) (hn:(!har.1&&har.2.isEmpty && !lk)=false)
    (hl:∀ f fn,p.checked.prog.funcNamed c.func=some f→p.checked.prog.funcs[f]? = some fn→lk=p.checked.prog.looks []∧∀(j:Nat) t,fn.params[j]? = some t→p.checked.prog.wantsStandIn t=false)
    (hg:goes=c.goesBy p.checked.prog) :
    Claim7.holds p (.plain s) { stood:={ row:=c,standIns:=[],harness:=har,looks:=lk },kinds:=[],alts:=[],goes:=goes,laidByText:=true,laidKinds:=kinds,laidTests:=tests,laidLooks:=Lk }:=by
  have h6:∀ r:OpenClaim,Claim7.isSixth { stood:={ row:=r,standIns:=[],harness:=har,looks:=lk },kinds:=[] }=false:=fun r=>by simpa [Claim7.isSixth] using hn
  refine⟨Claim7.tied_new_at Lk kinds tests (Claim7.new_of_sixth hc har lk hst hnb hm (h6 c) hl) hw,fun D hD=>?_,htie,(fun h=>by cases h),hg⟩
  cases hD
end Go.Lx
namespace Go.Lx
open Go.ChangeShapes Go.WideShapes Go.RowKit Go.Deep
theorem RowsV.split{α:Type}{size:Nat}{R:World→List Value→α→Prop}{G:α→Prop}{w:World}{p:Option Addr}{xs:List α}(h:RowsV size (fun w cs a=>R w cs a∧G a) w p xs):RowsV size R w p xs∧∀ a∈xs,G a:=by
 obtain⟨rows,h1,h2,h3⟩:=h;refine⟨⟨rows,h1,h2,h3.mono fun _ _ h=>h.1⟩,fun a ha=>?_⟩;obtain⟨i,hi⟩:=List.getElem?_of_mem ha;obtain⟨r,_,hr⟩:=h3.at hi;exact hr.2
theorem ListV.split{α:Type}{R:World→Value→α→Prop}{G:α→Prop}{w:World}{v:Value}{xs:List α}(h:ListV (fun w v a=>R w v a∧G a) w v xs):ListV R w v xs∧∀ a∈xs,G a:=by
 obtain⟨p,c,vs,h1,h2,h3,h4,h5⟩:=h;refine⟨⟨p,c,vs,h1,h2,h3,h4,h5.mono fun _ _ h=>h.1⟩,fun a ha=>?_⟩;obtain⟨i,hi⟩:=List.getElem?_of_mem ha;obtain⟨r,_,hr⟩:=h5.at hi;exact hr.2
def Reach{H:Type}(P:Program)(t:TypeId)(d:DataW H):Prop:=∀ n∈d.weights P t,n≤reachBytes
theorem zR {H : Type} {P : Program} {e : TypeId} : ∀ {l : List (DataW H)} {d : DataW H}, d ∈ l → ∀ n ∈ d.weights P e, n ∈ DataW.weightsAll P e l
  | y :: l, d, h, n, hn => by
    unfold DataW.weightsAll;rcases List.mem_cons.1 h with rfl | h
    · exact List.mem_append_left _ hn
    · exact List.mem_append_right _ (zR h n hn)
section
variable {H : Type} {enc : TypeId × Value → H} {P : Program} {w : World} {spare : Nat → Bool} {held : Bool} {t e : TypeId} {fuel : Nat} {cs : List Value} {x : DataW H × List MemPlace}
theorem eIA{elems rest:List (DataW H)}(ht:P.underlying t=some (.slice e))(h:Reach P t (.slice elems rest)):(elems.length+rest.length) * P.bytesOf e≤reachBytes∧∀ d∈elems,Reach P e d:=by
 unfold Reach at h;simp only[DataW.weights,ht]at h;exact⟨h _ (List.mem_cons_self ..),fun d hd n hn=>h n (List.mem_cons_of_mem _ (List.mem_append_left _ (zR hd n hn)))⟩
theorem kV{ys:List (DataW H)}{fs:Array Field}{f:Field}{y:DataW H}{j:Nat}(ht:P.underlying t=some (.struct fs))(h:Reach P t (.agg ys))(hf:fs[j]? = some f)(hy:ys[j]? = some y):Reach P f.type y:=by
 unfold Reach at h;simp only[DataW.weights,ht]at h;exact fun n hn=>h n (DataW.weights_mem_each (j:=j) (t:=f.type) (d:=y) (by simp[hf]) hy n hn)
theorem zP {α : Type} {R : World → List Value → α → Prop} {size : Nat} (ht : P.underlying t = some (.slice e)) (hC : P.cellsOf e = size) (hs : 0 < size)
    (hopen:∀ fuel cs x,cs.length=size→DataW.trod enc P w 0 spare held fuel e cs=some x→Reach P e x.1→∃ a,R w cs a) (h:DataW.trod enc P w 0 spare held fuel t cs=some x) (hz:Reach P t x.1) :
    ∃(p:Option Addr) (c:Nat) (xs:List α),cs=[.slice p xs.length c]∧xs.length≤c∧(p=none→c=0)∧RowsV size R w p xs∧xs.length * P.bytesOf e≤reachBytes:=by
  rcases open_slice ht h with⟨rfl,_⟩ | ⟨a,len,cap,m,n,D,Pl,rfl,_,hl,hm,hmm,rfl,hi⟩
  · exact⟨none,0,[],rfl,Nat.le_refl _,fun _=>rfl,RowsV.nil,by simp⟩
  · have hlm : len ≤ m := by rw [hmm]; split <;> omega
    obtain⟨hz1,hz2⟩:=eIA ht hz;rw[hC]at hi;have each:∀ i,i < len→∃ q:List Value×α,q.1.length=size∧R w q.1 q.2∧∀ j u,q.1[j]? = some u→w.cell? ((a.add (i * size)).add j)=some u:=by
     intro i hlt; obtain ⟨cs', hc, ht'⟩ := hi i (by omega); obtain ⟨_, hcl, hat⟩ := World.cells?_some hc; obtain ⟨b, hb⟩ := hopen _ _ _ hcl ht' (hz2 _ (List.mem_map.2 ⟨i, List.mem_range.2 hlt, rfl⟩)); exact ⟨(cs', b), hcl, hb, fun j u hj => by
       have hjl:=(List.getElem?_eq_some_iff.1 hj).1;have hj':cs'[j]? = some u:=hj;rw[hat j (by have:(cs',b).1.length=cs'.length:=rfl;omega)];exact hj'⟩
    obtain⟨l,hll,hl2⟩:=iTA len each;refine⟨some a,cap,l.map (·.2),by simp[hll],by simpa [hll] using hl,(fun h=>by cases h),⟨l.map (·.1),?_,?_,?_⟩,?_⟩
    · intro hne; obtain ⟨b, off, sp⟩ := a; have hrows : ∀ r ∈ l.map (·.1), r.length = size := by
       intro r hr;obtain⟨q,hq,rfl⟩:=List.mem_map.1 hr;obtain⟨i,hi'⟩:=List.getElem?_of_mem hq;exact(hl2 i q hi').1
      obtain⟨u0,hu0⟩:∃ u,(l.map (·.1)).flatten[0]? = some u:=by
       cases hf:(l.map (·.1)).flatten with
       | nil=>exact absurd hf hne
       | cons y ys=>exact⟨y,rfl⟩
      have cellof:∀ j u,(l.map (·.1)).flatten[j]? = some u→w.cell? ((Addr.add ⟨b,off,sp⟩ (j / size * size)).add (j % size))=some u:=by
       intro j u hj;obtain⟨r,hr,hru⟩:=nJA hs hrows hj;rw[List.getElem?_map]at hr
       cases hq:l[j / size]? with
       | none=>rw[hq]at hr;cases hr
       | some q =>
         rw[hq]at hr
         cases hr;exact(hl2 _ q hq).2.2 _ u hru
      have c0:=cellof 0 u0 hu0;have hsp:sp=none:=by
       have:=World.cell?_spot c0
       simpa [Addr.add] using this
      subst hsp;refine⟨b,off,rfl,?_,fun j u hj=>?_⟩
      · simp only [World.cell?, Addr.add] at c0; simp at c0
        cases hb:w.heap[b]? with
        | none=>simp[hb]at c0
        | some o=>exact(Array.getElem?_eq_some_iff.1 hb).1
      · have:=cellof j u hj;rw[jJ,jJ,Nat.add_assoc,Nat.div_add_mod' j size]at this;exact this
    · intro r hr;obtain⟨q,hq,rfl⟩:=List.mem_map.1 hr;obtain⟨i,hi'⟩:=List.getElem?_of_mem hq;exact(hl2 i q hi').1
    · refine ⟨by simp, fun i v y hv hy => ?_⟩; rw [List.getElem?_map] at hv hy
      cases hq:l[i]? with
      | none=>rw[hq]at hv;cases hv
      | some q =>
        rw[hq]at hv hy
        cases hv;cases hy;exact(hl2 i q hq).2.1
    · rw[List.length_map,List.length_range]at hz1;rw[List.length_map,hll];exact Nat.le_trans (Nat.mul_le_mul_right _ (Nat.le_add_right _ _)) hz1
theorem dU {α : Type} {R : World → Value → α → Prop} (ht : P.underlying t = some (.slice e)) (hC : P.cellsOf e = 1)
    (hopen:∀ fuel cs x,DataW.trod enc P w 0 spare held fuel e cs=some x→Reach P e x.1→∃ v a,cs=[v]∧R w v a) (h:DataW.trod enc P w 0 spare held fuel t cs=some x) (hz:Reach P t x.1) :
    ∃ v xs,cs=[v]∧ListV R w v xs∧xs.length * P.bytesOf e≤reachBytes:=by
  obtain ⟨p, c, xs, rfl, hc, h0, hr, hb⟩ := zP (R := fun w cs a => ∃ v, cs = [v] ∧ R w v a) ht hC (by decide) (fun fuel cs x _ hx hz => by
    obtain⟨v,a,rfl,hv⟩:=hopen fuel cs x hx hz;exact⟨a,v,rfl,hv⟩) h hz
  exact⟨_,xs,rfl,ListV.of_rows hr hc h0,hb⟩
def oN(l:List Nd):Prop:=l.length≤maxLen∧∀ x∈l,x.s.size≤maxLen
theorem kEA {f0 f1 f2 f3 : Field} (ht : P.underlying t = some (.slice e)) (he : P.underlying e = some (.struct #[f0, f1, f2, f3])) (hone : oneCellFields P #[f0, f1, f2, f3] = true) (hC : P.cellsOf e = 4) (hbp : 0 < P.bytesOf e)
    (u0:P.underlying f0.type=some (.int .i64)) (u1:P.underlying f1.type=some (.int .i64)) (u2:P.underlying f2.type=some (.int .i64)) (u3:P.underlying f3.type=some .string) (h:DataW.trod enc P w 0 spare held fuel t cs=some x) (hz:Reach P t x.1) :
    ∃ v l,cs=[v]∧TermV w v l∧oN l:=by
  obtain ⟨p, c, xs, rfl, hc, h0, hrows, hlen⟩ := zP (R := fun _ cs (a : Nd) => cs = lLA a ∧ a.s.size ≤ maxLen) ht hC (by decide) (fun fuel cs x hcl hx _ => by
    obtain⟨ys,n',_,_,_,hyl,hf⟩:=DataW.trod_struct he hx;obtain⟨o0,k0⟩:=hone_of hone 0 f0 rfl;obtain⟨o1,k1⟩:=hone_of hone 1 f1 rfl;obtain⟨o2,k2⟩:=hone_of hone 2 f2 rfl;obtain⟨o3,k3⟩:=hone_of hone 3 f3 rfl;have g0:=hf 0 f0 rfl;have g1:=hf 1 f1 rfl;have g2:=hf 2 f2 rfl;have g3:=hf 3 f3 rfl;rw[o0,k0]at g0;rw[o1,k1]at g1;rw[o2,k2]at g2;rw[o3,k3]at g3
    match cs,hcl with
    | [v0, v1, v2, v3], _ =>
      match ys,hyl with
      | [y0, y1, y2, y3], _ =>
        obtain⟨z0,e0,_,_⟩:=DataW.trod_int u0 (x:=y0) g0;obtain⟨z1,e1,_,_⟩:=DataW.trod_int u1 (x:=y1) g1;obtain⟨z2,e2,_,_⟩:=DataW.trod_int u2 (x:=y2) g2;obtain⟨z3,e3,_,hz3⟩:=DataW.trod_string u3 (x:=y3) g3
        cases e0;cases e1;cases e2;cases e3;exact⟨⟨z0,z1,z2,z3⟩,rfl,hz3⟩) h hz
  obtain⟨⟨rows,hr1,hr2,hr3⟩,hnm⟩:=RowsV.split hrows;refine⟨_,xs,rfl,⟨p,c,rfl,hc,h0,?_⟩,Nat.le_trans (Nat.le_mul_of_pos_right _ hbp) (Nat.le_trans hlen (by decide)),hnm⟩;have:∀(rows:List (List Value)) (xs:List Nd),Zip (fun cs a=>cs=lLA a) rows xs→rows.flatten=aC xs:=by
   intro rows
   induction rows with
   | nil=>intro xs hz;obtain⟨e,_⟩:=hz;cases xs with | nil=>rfl | cons=>cases e
   | cons r l ih =>
     intro xs hz
     cases xs with
     | nil=>cases hz.1
     | cons y ys =>
       obtain rfl:=hz.2 0 r y rfl rfl;have ht:Zip (fun cs a=>cs=lLA a) l ys:=⟨by have:=hz.1;simpa using this,fun i v x hv hx=>hz.2 (i+1) v x (by simpa using hv) (by simpa using hx)⟩;rw[List.flatten_cons,ih ys ht];rfl
  rw[← this rows xs hr3];exact hr1
structure SzD (d:Dc):Prop where
 name:d.name.size≤maxLen
 cons:d.cons.length≤5864062014634
 con:∀ c∈d.cons,c.length≤5864062014634
 type:oN d.type
 body:oN d.body
 terms:∀ c∈d.cons,∀ t∈c,oN t
theorem zPA{n:Nat}(h:n * 24≤reachBytes):n≤5864062014634:=by unfold reachBytes at h;omega
theorem mEA {e2 e3 : TypeId} (ht : P.underlying t = some (.slice e)) (hC : P.cellsOf e = 1) (hb : P.bytesOf e = 24) (ht2 : P.underlying e = some (.slice e2)) (hC2 : P.cellsOf e2 = 1) (hb2 : P.bytesOf e2 = 24)
    (hopen:∀ fuel cs x,DataW.trod enc P w 0 spare held fuel e2 cs=some x→Reach P e2 x.1→∃ v l,cs=[v]∧TermV w v l∧oN l) (h:DataW.trod enc P w 0 spare held fuel t cs=some x) (hz:Reach P t x.1) :
    ∃ v l,cs=[v]∧ConsV w v l∧l.length≤5864062014634∧∀ c∈l,c.length≤5864062014634∧∀ t∈c,oN t:=by
  obtain ⟨v, l, rfl, hl, hn⟩ := dU (R := fun w v (a : List (List Nd)) => TermsV w v a ∧ (a.length ≤ 5864062014634 ∧ ∀ t ∈ a, oN t)) ht hC (fun fuel cs x hx hz => by
    obtain ⟨v, a, rfl, ha, hn⟩ := dU (R := fun w v (a : List Nd) => TermV w v a ∧ oN a) ht2 hC2 (fun fuel cs x hx hz => by
      obtain⟨v,l,h1,h2⟩:=hopen fuel cs x hx hz;exact⟨v,l,h1,h2⟩) hx hz
    obtain⟨h1,h2⟩:=ListV.split ha;exact⟨v,a,rfl,h1,zPA (hb2▸hn),h2⟩) h hz
  obtain⟨h1,h2⟩:=ListV.split hl;exact⟨v,l,rfl,h1,zPA (hb▸hn),h2⟩
theorem fEA {s : TypeId} {f0 f1 f2 f3 f4 f5 : Field} (he : P.underlying s = some (.struct #[f0, f1, f2, f3, f4, f5])) (hone : oneCellFields P #[f0, f1, f2, f3, f4, f5] = true)
    (u0:P.underlying f0.type=some (.int .i64)) (u1:P.underlying f1.type=some (.int .i64)) (u2:P.underlying f2.type=some .string)
    (h3:∀ fuel cs x,DataW.trod enc P w 0 spare held fuel f3.type cs=some x→Reach P f3.type x.1→∃ v l,cs=[v]∧TermV w v l∧oN l) (h4:∀ fuel cs x,DataW.trod enc P w 0 spare held fuel f4.type cs=some x→Reach P f4.type x.1→∃ v l,cs=[v]∧TermV w v l∧oN l)
    (h5:∀ fuel cs x,DataW.trod enc P w 0 spare held fuel f5.type cs=some x→Reach P f5.type x.1→∃ v l,cs=[v]∧ConsV w v l∧l.length≤5864062014634∧∀ c∈l,c.length≤5864062014634∧∀ t∈c,oN t)
    (hcl:cs.length=6) (hx:DataW.trod enc P w 0 spare held fuel s cs=some x) (hz:Reach P s x.1):∃ d,DcRow w cs d∧SzD d:=by
  obtain⟨ys,n',_,hxe,_,hyl,hf⟩:=DataW.trod_struct he hx;obtain⟨o0,k0⟩:=hone_of hone 0 f0 rfl;obtain⟨o1,k1⟩:=hone_of hone 1 f1 rfl;obtain⟨o2,k2⟩:=hone_of hone 2 f2 rfl;obtain⟨o3,k3⟩:=hone_of hone 3 f3 rfl;obtain⟨o4,k4⟩:=hone_of hone 4 f4 rfl;obtain⟨o5,k5⟩:=hone_of hone 5 f5 rfl;have g0:=hf 0 f0 rfl;have g1:=hf 1 f1 rfl;have g2:=hf 2 f2 rfl;have g3:=hf 3 f3 rfl;have g4:=hf 4 f4 rfl;have g5:=hf 5 f5 rfl;rw[o0,k0]at g0;rw[o1,k1]at g1;rw[o2,k2]at g2;rw[o3,k3]at g3;rw[o4,k4]at g4;rw[o5,k5]at g5
  match cs,hcl with
  | [v0, v1, v2, v3, v4, v5], _ =>
    match ys,hyl with
    | [y0, y1, y2, y3, y4, y5], _ =>
      obtain⟨z0,e0,_,_⟩:=DataW.trod_int u0 (x:=y0) g0;obtain⟨z1,e1,_,_⟩:=DataW.trod_int u1 (x:=y1) g1;obtain⟨z2,e2,_,hz2⟩:=DataW.trod_string u2 (x:=y2) g2;subst hxe;obtain⟨q3,l3,e3,r3,n3⟩:=h3 _ _ y3 g3 (kV he hz (j:=3) rfl rfl);obtain⟨q4,l4,e4,r4,n4⟩:=h4 _ _ y4 g4 (kV he hz (j:=4) rfl rfl);obtain⟨q5,l5,e5,r5,n5,m5⟩:=h5 _ _ y5 g5 (kV he hz (j:=5) rfl rfl)
      cases e0;cases e1;cases e2;cases e3;cases e4;cases e5;exact⟨⟨z0,z1,z2,l3,l4,l5⟩,⟨_,_,_,rfl,r3,r4,r5⟩,hz2,n5,fun c hc=>(m5 c hc).1,n3,n4,fun c hc=>(m5 c hc).2⟩
end
end Go.Lx
namespace Go.Lx
open Go.RowKit
section
variable {P : Program}
theorem nY (w : World) (base : Nat) (t u ty e : TypeId) (i : TypeInfo) (ht : P.underlying t = some (.slice e)) (hu : P.underlying u = some (.int .i64)) (hi : P.info? e = some i) (hz : i.zero = some (.int .i64 0)) (hs : i.size = 1) (hby : i.bytes = 8)
    (b:Addr) (y:Value) (hb:w.cell? b=some y) (n:Nat) (h1:1≤n) (h8:n≤8) (hbase:base≤w.heap.size) :
    ∃ v w',(Builtin.append_ #[t,u] ty #[.slice (some b) 1 1,.int .i64 (n:Int)]).run P w = .ok v w'∧w'.ownsRow base e 1 v (1+n) (y::List.replicate n (.int .i64 0))∧w.grownBy w' none:=by
  have hw:IntKind.i64.wrap (n:Int)=n:=by rw[IntKind.wrap_i64];omega
  have hn:¬(1+n≤1):=by omega
  have h63':¬(9223372036854775807 < ((1:Int)+(n:Int))):=by omega
  have h48':¬(281474976710656 < Builtin.nextslicecap (1+n) 1 * 8):=by
   unfold Builtin.nextslicecap
   split
   · omega
   · simp
  have hneg:¬((n:Int) < 0):=by omega
  have hbig:¬((281474976710656:Int) < (n:Int) * 8):=by omega
  have hn0:¬ n=0:=by omega
  have hfo := run_firstCells_some (P := P) w.drew 1 1 b 1 1 [y] rfl (by
    intro j v hj
    match j,hj with
    | 0,hj=>cases hj;simpa [Addr.add] using hb)
  refine⟨.slice (some ⟨w.heap.size,0,none⟩) (1+n) (grownCap w (1+n) 1 e),w.drew.alloc (.cells (#[y]++Builtin.zeroCells #[.int .i64 0] n++Builtin.zeroCells #[.int .i64 0] (grownCap w (1+n) 1 e - (1+n))) e),?_,?_,?_⟩
  · simp[Builtin.append_,run_underlying ht,run_underlying hu,sizeOf,typeInfo,zeroValue,hi,hz,hs,hby,Builtin.lenOf,hn,hn0,h63',h48',Question.forced,hfo,newRow,grownCap,asInt,asIntOf,hw,hneg,hbig];rfl
  · have hge := grownCap_ge w (1 + n) 1 e; have hcm : grownCap w (1 + n) 1 e ≤ maxLen := grownCap_le_maxLen w (1 + n) 1 e (by simp only [maxLen]; omega); refine ⟨by simp; omega, .inr ⟨w.heap.size, _, _, rfl, hbase, qA w.drew _ _, hge, hcm, ?_, ?_⟩⟩
    · simp only[Array.size_append,List.size_toArray,size_zeroCells];simp;omega
    · have hzc : (Builtin.zeroCells #[Value.int .i64 0] n).toList = List.replicate n (Value.int .i64 0) := by
        apply List.ext_getElem
        · simp[Builtin.zeroCells]
        · intro j h1 h2;simp[Builtin.zeroCells,Nat.mod_one]
      simp only[Array.toList_append,hzc,Nat.mul_one];rw[List.take_left' (by simp;omega)];rfl
  · exact ⟨rfl, rfl, rfl, by simp, fun k hk _ => by
      show(w.heap.push _)[k]? = _
      rw[Array.getElem?_push_lt hk,← Array.getElem?_eq_getElem]⟩
theorem gT {w : World} {ops : Array Oper} {rest : List Oper} {o : Oper} {a : Act} {Q : Exit → Act → World → Prop} (hgd : o.guard = none) (s x : Operand) (base : Nat) (t u e : TypeId)
    (ho:o.op = .call { callee:=.builtin .append,args:=#[s,x],argTypes:=#[t,u] }) (i:TypeInfo) (ht:P.underlying t=some (.slice e)) (hu:P.underlying u=some (.int .i64)) (hi:P.info? e=some i) (hz:i.zero=some (.int .i64 0)) (hs:i.size=1) (hby:i.bytes=8)
    (b:Addr) (y:Value) (n:Nat) (es:a.eval s = .slice (some b) 1 1) (ex:a.eval x = .int .i64 (n:Int)) (hb:w.cell? b=some y) (h1:1≤n) (h8:n≤8) (hbase:base≤w.heap.size)
    (h:∀ v w',w'.ownsRow base e 1 v (1+n) (y::List.replicate n (.int .i64 0))→w.grownBy w' none→wpList P ops Q rest (a.put o.dst v) w') :
    wpList P ops Q (o::rest) a w:=by
  refine wpList_plain hgd fun K hK'=>?_
  obtain⟨v,w',hrun,r1,r2⟩:=nY (P:=P) w base t u o.type e i ht hu hi hz hs hby b y hb n h1 h8 hbase;unfold Oper.wp;simp[execOp,ho,resolve,invoke,builtin,es,ex,hrun,Result.andThen];exact hK' _ _ (h v w' r1 r2)
end
end Go.Lx
