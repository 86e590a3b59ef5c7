/- Part 24 of what the proof rests on. -/
import Derived.Deep.AppendLies
import Derived.Deep.RegionHeld3
import Derived.Lib.SliceRun
import Derived.Lib.SlBytesRow
import Derived.Lib.BufferRead
import Derived.Laws.AppendOwnNone
import Derived.Scope
import Derived.WalkMore
import Derived.Deep.LoopGhost
import Derived.Test.YtggjbblgoddnjaaGreatDoorM00
import Derived.Test.YtggjbblgoddnjaaGreatDoorM01
import Derived.Test.YtggjbblgoddnjaaGreatDoorM13
import Derived.Test.YtggjbblgoddnjaaGreatDoorM15
import Derived.Test.YtggjbblgoddnjaaGreatDoorM22
import Derived.Test.YtggjbblgoddnjaaGreatDoorM23
set_option linter.unusedSimpArgs false
set_option linter.unusedVariables false
set_option maxRecDepth 100000
set_option maxHeartbeats 4000000
namespace Go.Proofs.YtggjbblgoddnjaaGreatDoor
open Go.Conc Go.Lx Go.RowKit
section
variable {w0 : World} {b off n cap k : Nat}
theorem zW:∀(row:List Sx) (j:Nat) (u:Value),(nD row)[j]? = some u→∃ k x,row[k]? = some x∧((j=k * 3∧u = .int .i64 x.many)∨(j=k * 3+1∧u = .int .i64 x.pos)∨(j=k * 3+2∧u = .string x.word)):=by
 intro row
 induction row with
 | nil=>intro j u h;simp[nD]at h
 | cons x row ih =>
   intro j u h
   match j,h with
   | 0,h=>cases h;exact⟨0,x,rfl,.inl ⟨rfl,rfl⟩⟩
   | 1,h=>cases h;exact⟨0,x,rfl,.inr (.inl ⟨rfl,rfl⟩)⟩
   | 2,h=>cases h;exact⟨0,x,rfl,.inr (.inr ⟨rfl,rfl⟩)⟩
   | j + 3, h =>
     obtain⟨k,y,h1,h2⟩:=ih j u h;refine⟨k+1,y,h1,?_⟩;rcases h2 with⟨rfl,rfl⟩ | ⟨rfl,rfl⟩ | ⟨rfl,rfl⟩
     · exact .inl ⟨by omega,rfl⟩
     · exact .inr (.inl ⟨by omega,rfl⟩)
     · exact .inr (.inr ⟨by omega,rfl⟩)
theorem gZA{row:List Sx}(h:cNA w0 b off row){j:Nat}{u:Value}(hj:(nD row)[j]? = some u):w0.cell? ⟨b,off+j,none⟩=some u:=by
 obtain⟨k,x,h1,h2⟩:=zW row j u hj;obtain⟨c0,c1,c2⟩:=h k x h1;rcases h2 with⟨rfl,rfl⟩ | ⟨rfl,rfl⟩ | ⟨rfl,rfl⟩
 · exact c0
 · exact c1
 · exact c2
theorem f2A{row:List Sx}{u:Value}(h:u∈nD row):u.oneCell'=true:=by
 obtain⟨j,hj⟩:=List.getElem?_of_mem h;obtain⟨k,x,_,h2⟩:=zW row j u hj;rcases h2 with⟨_,rfl⟩ | ⟨_,rfl⟩ | ⟨_,rfl⟩<;>rfl
theorem fRA(row:List Sx)(hne:row≠[])(hn:row.length≤1000000)(hb0:b < w0.heap.size)(ht:cNA w0 b off row) :
 Calls Tryz.prog 67 #[.slice (some ⟨b,off,none⟩) row.length cap] w0 fun e w'=>∃ v,e = .returned v∧w'.ownsRow w0.heap.size 28 3 v row.length (nD row)∧Under w0 w':=by
 obtain⟨i0,hi,hz0,hz1,hz2⟩:=info_parts Tryz.info28;have hmx:0+row.length≤maxLen:=by simp only[maxLen];omega
 have hby:(0+row.length) * 32≤140737488355328:=by omega
 have HT:=Lib.hid ht;clear ht;have eqn:=Lib.run_eql_slice_nil (P:=Tryz.prog) w0 23 28 (some ⟨b,off,none⟩) row.length cap 0 0 Tryz.underlying23;go_enter Tryz.func67,Tryz.ntmps67;go_wp2_with (at_builtin;refine wpList_append_own_at _ rfl _ _ 23 rfl w0.heap.size 28 i0 _ 3 32 Tryz.underlying23 hi hz0 hz1 hz2 rfl (by decide) _ _ _ rfl (nXA w0 _ _ _ (Nat.le_refl _)) ⟨b,off,none⟩ row.length cap (nD row) rfl (yG row) ?c1 (fun u hu=>f2A hu) hmx hby ?c5 ?_)
 case c1 =>
   intro j u hj;rw[jJ];exact(dA (W:=w0) (aA ⟨rfl,rfl,Nat.le_refl _,fun _ _=>rfl⟩ _) hb0 _).trans (gZA HT.out hj)
 case c5=>simp
 intro v' w1 hown hgrow hnil hat;have HW:=Lib.hid hown;have HU2:=Lib.hid (rA (W:=w0) (aA ⟨rfl,rfl,Nat.le_refl _,fun _ _=>rfl⟩ _) hgrow fun g e=>by cases e;exact Nat.le_refl _);clear hown hgrow hnil hat;go_wp2;go_ret;exact⟨v',rfl,HW.out,HU2.out⟩
def SxOwns (w : World) (base : Nat) : List Value → List (List Sx) → Prop
  | [],[]=>True
  | v::vs,l::ls=>w.ownsRow base 28 3 v l.length (nD l)∧SxOwns w base vs ls
  | _,_=>False
theorem SxOwns.app {w : World} {base : Nat} : ∀ {vs : List Value} {ls : List (List Sx)} {v : Value} {l : List Sx}, SxOwns w base vs ls → w.ownsRow base 28 3 v l.length (nD l) → SxOwns w base (vs ++ [v]) (ls ++ [l])
  | [],[],_,_,_,h=>⟨h,trivial⟩
  | _::_,_::_,_,_,h,h'=>⟨h.1,SxOwns.app h.2 h'⟩
  | [],_::_,_,_,h,_=>h.elim
  | _::_,[],_,_,h,_=>h.elim
theorem SxOwns.map {w w' : World} {base base' : Nat} : ∀ {vs : List Value} {ls : List (List Sx)}, SxOwns w base vs ls → (∀ v n xs, w.ownsRow base 28 3 v n xs → w'.ownsRow base' 28 3 v n xs) → SxOwns w' base' vs ls
  | [],[],_,_=>trivial
  | _::_,_::_,h,h'=>⟨h' _ _ _ h.1,SxOwns.map h.2 h'⟩
  | [],_::_,h,_=>h.elim
  | _::_,[],h,_=>h.elim
theorem SxOwns.at {w : World} {base : Nat} : ∀ {vs : List Value} {ls : List (List Sx)}, SxOwns w base vs ls → ∀ {i : Nat} {l : List Sx}, ls[i]? = some l → ∃ v, vs[i]? = some v ∧ w.ownsRow base 28 3 v l.length (nD l)
  | [],[],_,_,_,hi=>by simp at hi
  | v::_,_::_,h,0,_,hi=>by cases hi;exact⟨v,rfl,h.1⟩
  | _ :: _, _ :: _, h, i + 1, _, hi => by
    obtain⟨v,h1,h2⟩:=SxOwns.at h.2 (i:=i) hi;exact⟨v,h1,h2⟩
  | [],_::_,h,_,_,_=>h.elim
  | _::_,[],h,_,_,_=>h.elim
structure IH (w0:World) (va:Value) (bs:List Nat) (vo:Value) (ls:List (List Sx)) (w:World):Prop where
 at_:w.ownsRow w0.heap.size 3 1 va bs.length (iH bs)
 out:∃ vs,w.ownsRow w0.heap.size 23 1 vo ls.length vs∧SxOwns w w0.heap.size vs ls
 low:Under w0 w
theorem Tryz.info23:(Tryz.prog.info? 23).map (fun i=>(i.zero,i.size,i.bytes))=some (some (.slice none 0 0),1,24):=by kernel_rfl
noncomputable def lMA:Code:=Tryz.f34.body.getD .skip
noncomputable def lNA:Code:=xA (jA (jA (jA (jA lMA))))
noncomputable def itRound:Code:=aD (aD (jA lNA))
def iK(l va:Value)(m k:Nat)(vo:Value)(J:Nat→Value):Array Value :=
 #[l, J 1, J 2, J 3, va, J 5, vo, J 7, J 8, J 9, J 10, J 11, J 12, J 13, J 14, J 15, J 16, .int .i64 (m : Int), .int .i64 (k : Int), J 19, J 20, J 21, J 22, J 23, J 24, J 25, J 26, J 27, J 28, J 29, J 30, J 31, J 32, J 33, J 34, J 35, J 36, J 37]
def lVA(w0:World)(l va:Value)(m k:Nat)(bs:List Nat)(ls:List (List Sx))(a':Act)(w':World):Prop :=
 ∃ vo J,a'=⟨iK l va m k vo J,[]⟩∧IH w0 va bs vo ls w'
def i4A(l va:Value)(m:Nat)(vo:Value)(w:World)(e:Exit)(a':Act)(w':World):Prop:=e = .exit 0∧∃ J,a'=⟨iK l va m m vo J,[]⟩∧w'=w
theorem uYA{l va vo:Value}{m:Nat}(J:Nat→Value)(w:World) :
 itRound.wp Tryz.prog (Exit.then (fun _ _=>False) (i4A l va m vo w)) ⟨iK l va m m vo J,[]⟩ w:=by
 unfold itRound lNA lMA;simp only[Tryz.f34,Option.getD_some,xA,jA,aD];unfold iK;go_wp2;exact⟨rfl,bB (F:=iK l va m m vo) (by rfl) rfl⟩
theorem eFA(row:List Sx){a c:Nat}(hc:c≤row.length):(piece row a c).length=c - a:=by
 unfold piece;rw[List.length_take,List.length_drop];omega
theorem dYA{row:List Sx}{a c:Nat}(h:cNA w0 b off row):cNA w0 b (off+a * 3) (piece row a c):=by
 intro k x hk;unfold piece at hk;have:row[a+k]? = some x:=by
  rw[List.getElem?_take]at hk
  split at hk
  · rw[List.getElem?_drop]at hk;exact hk
  · cases hk
 have:=h (a+k) x this;rw[Nat.add_mul]at this
 simpa [Nat.add_assoc] using this
theorem b3A {row : List Sx} {bs : List Nat} {va vo : Value} {ls : List (List Sx)} {a c : Nat} (hk : k + 1 < bs.length) (hbs : bs.length ≤ 1000001) (ha : bs[k]? = some a) (hc : bs[k + 1]? = some c) (hac : a < c) (hcn : c ≤ row.length) (hn : row.length ≤ 1000000) (hcap : row.length ≤ cap) (hls : ls.length = k) (J : Nat → Value) (w : World) (hP : IH w0 va bs vo ls w)
    (hb0:b < w0.heap.size) (ht:cNA w0 b off row) :
    itRound.wp Tryz.prog (Exit.then (lVA w0 (.slice (some ⟨b,off,none⟩) row.length cap) va (bs.length - 1) (k+1) bs (ls++[piece row a c])) (fun _ _ _=>False)) ⟨iK (.slice (some ⟨b,off,none⟩) row.length cap) va (bs.length - 1) k vo J,[]⟩ w:=by
  have hb:=Nat.lt_of_lt_of_le hb0 hP.low.size;obtain⟨i0,hi,hz0,hz1,hz2⟩:=info_parts Tryz.info23;obtain⟨m,hm⟩:∃ m,bs.length=m+1:=⟨bs.length - 1,by omega⟩;obtain⟨vs,ho,hel⟩:=hP.out;obtain⟨ga,gac,hva,hga,hgab,hgal,_,_⟩:=kE hP.at_ (by omega);have hne:=own_ne ho hP.at_ (by decide);rw[hm]at hva;subst hva;have ca:=yD hP.at_ hga (tK ha);have cc:=yD hP.at_ hga (tK hc);have hat0:=hP.at_;have hU:=hP.low;rw[hm]at hk hbs ⊢;rw[Nat.add_sub_cancel];clear hP;have hin:(k:Int) < m:=by omega
  have hk0:(0:Int)≤k:=Int.natCast_nonneg _;have ix1:(k:Int) < (m:Int)+1:=by omega
  have ix2:(k:Int)+1 < (m:Int)+1:=by omega
  have ix3:(0:Int)≤(k:Int)+1:=by omega
  have wr:IntKind.i64.wrap ((k:Int)+1)=(k:Int)+1:=by rw[IntKind.wrap_i64];omega
  have a0:(0:Int)≤a:=Int.natCast_nonneg _;have a1:(a:Int)≤c:=by omega
  have a2:(c:Int)≤cap:=by omega
  have hmx:k+1≤maxLen:=by simp only[maxLen];omega
  have hby:(k+1) * 24≤140737488355328:=by omega
  have HO:=Lib.hid ho;have HE:=Lib.hid hel;have HA:=Lib.hid hat0;have HU:=Lib.hid hU;have HT:=Lib.hid ht;clear ho hel hat0 hU ht;have hca:¬ cap=a:=by omega
  have hpl:(piece row a c).length=c - a:=eFA row hcn;have HC0:Calls Tryz.prog 67 #[.slice (some ⟨b,off+a * 3,none⟩) (c - a) (cap - a)] w.drew fun e w1=>∃ g1 c1,e = .returned (.slice (some ⟨g1,0,none⟩) (c - a) c1)∧w1.ownsRow w0.heap.size 28 3 (.slice (some ⟨g1,0,none⟩) (c - a) c1) (c - a) (nD (piece row a c))∧Under w w1:=by
   have := fRA (w0 := w.drew) (b := b) (off := off + a * 3) (cap := cap - a) (piece row a c) (fun e => by rw [e] at hpl; simp at hpl; omega) (by omega) hb (dYA fun k x hk => by
     have:=HT.out k x hk;rw[← dA HU.out hb0,← dA HU.out hb0,← dA HU.out hb0]at this;exact this)
   rw[hpl]at this;refine this.mono ?_;rintro e w1 ⟨v,rfl,h1,h2⟩;obtain⟨g1,c1,rfl,_⟩:=kE h1 (by omega);exact⟨g1,c1,rfl,oD h1 HU.out.size,⟨h2.os,h2.output,h2.size,h2.low⟩⟩
  have HC:=Lib.hid HC0;clear HC0;have hnx:some ga≠vo.ownBlock:=by
   rcases hne with e | e
   · rw[e];simp
   · exact fun e'=>e (e'.symm)
  subst hls; clear hpl hne ca cc; unfold itRound lNA lMA; simp only [Tryz.f34, Option.getD_some, xA, jA, aD]; unfold iK; have ca := yD HA.out hga (tK ha); have cc := yD HA.out hga (tK hc); go_wp2_with fail; go_region_held3 (fun w' => w'.cell? ⟨ga, ls.length, none⟩ = some (.int .i64 (a : Int)) ∧ w'.cell? ⟨ga, ls.length + 1, none⟩ = some (.int .i64 (c : Int)))
    (first
      | go_keep
      | (go_split_ands
         refine⟨?_,?_⟩
         · (rw[hgrow.cell_far _ (by have:=hU1.size;simp;omega) hnx];assumption)
         · (rw[hgrow.cell_far _ (by have:=hU1.size;simp;omega) hnx];assumption))
      | (refine ⟨?_, ?_⟩
         · (rw[dA hU1 hgal];assumption)
         · (rw[dA hU1 hgal];assumption)))
    (first
      | (go_simp;go_at_call 67;refine HC.out.mono ?_;rintro e w1 ⟨g1,c1,rfl,hown1,hU1⟩;have HU1:=Lib.hid hU1;have HW1:=Lib.hid hown1)
      | (refine step_append_lies _ (by rfl) _ _ _ (by rfl) w0.heap.size 23 i0 _ 1 24 Tryz.underlying82 hi hz0 hz1 hz2 rfl (by omega) vo ls.length vs (by rfl) ((dC HO.out hU1).alloc _) ⟨w1.heap.size,0,none⟩ 1 1 [.slice (some ⟨g1,0,none⟩) (c - a) c1] (by rfl) (by rfl) (World.news_of_block (cs:=#[.slice (some ⟨g1,0,none⟩) (c - a) c1]) (t:=23) (fr:=(0,0)) (heap_alloc_new w1 _)) (by simp[Value.oneCell']) (by omega) hmx hby (by have:=HU1.out.size;have:=HU.out.size;simp;omega) (w1.heap.size+1) (by simp) ?_;intro gg cc' w2 hown2 hgrow hat2 hlt2))
  have hpl:(piece row a c).length=c - a:=eFA row hcn;have HP2:IH w0 (.slice (some ⟨ga,0,none⟩) (m+1) gac) bs (.slice (some ⟨gg,0,none⟩) (ls.length+1) cc') (ls++[piece row a c]) w2:=by
   refine⟨oC ((dC HA.out hU1).alloc _) hgrow (.inr (by rw[hga];exact hnx)),⟨_,by rw[List.length_append];exact hown2,?_⟩,rA (aA (HU.out.trans hU1) _) hgrow fun g e=>(vB HO.out e).1⟩;refine SxOwns.app (HE.out.map fun v n xs h=>oC ((dC h hU1).alloc _) hgrow (own_ne h HO.out (by decide))) ?_;rw[hpl];exact oC (hown1.alloc _) hgrow (own_ne hown1 (dC HO.out hU1) (by decide))
  have HP3:=Lib.hid HP2;clear hown2 hgrow hat2 hlt2 hown1 hU1 HP2 hpl;go_wp2;exact⟨_,bB (F:=iK _ _ m (ls.length+1) _) (by rfl) HP3.out⟩
end
section
variable {w0 : World} {b off n cap k : Nat}
theorem lSA(row:List Sx)(st:List Nat)(n:Nat){k:Nat}(hk:k < st.length){a c:Nat}(ha:(st++[n])[k]? = some a)(hc:(st++[n])[k+1]? = some c):(pieces row st n)[k]? = some (piece row a c):=by
 unfold pieces;rw[List.getElem?_map,List.getElem?_range hk];simp only[Option.map_some,List.getD_eq_getElem?_getD,ha,hc,Option.getD_some]
theorem q1A{st:List Nat}{n:Nat}(h:Inc st n){k a c:Nat}(ha:(st++[n])[k]? = some a)(hc:(st++[n])[k+1]? = some c):a < c∧c≤n:=by
 unfold Inc at h;obtain⟨h1,e1⟩:=List.getElem?_eq_some_iff.1 ha;obtain⟨h2,e2⟩:=List.getElem?_eq_some_iff.1 hc;refine⟨by rw[← e1,← e2];exact List.pairwise_iff_getElem.1 h k (k+1) h1 h2 (by omega),?_⟩;have hl:(st++[n]).length=st.length+1:=by simp
 by_cases hk:k+1=st.length
 · rw [← e2]; have : (st ++ [n])[k + 1] = n := by simp [hk]
   omega
 · have := List.pairwise_iff_getElem.1 h (k + 1) st.length h2 (by omega) (by omega); have e3 : (st ++ [n])[st.length]'(by omega) = n := by simp
   rw[e3]at this;omega
def II(w0:World)(l va:Value)(row:List Sx)(st:List Nat)(m:Nat)(a:Act)(w:World):Prop :=
 ∃ k,m+k=st.length∧lVA w0 l va st.length k (st++[row.length]) ((pieces row st row.length).take k) a w
def d6A(w0:World)(l va:Value)(row:List Sx)(st:List Nat)(e:Exit)(a:Act)(w:World):Prop :=
 e = .exit 0∧lVA w0 l va st.length st.length (st++[row.length]) (pieces row st row.length) a w
theorem xSA (row : List Sx) (st : List Nat) {p : Option Addr} {va : Value} (hn : row.length ≤ 1000000) (hcap : row.length ≤ cap) (hp : SxArg w0 p row) (hst : st.length ≤ row.length) (hinc : Inc st row.length) (m : Nat) (a : Act) (w : World)
    (h0:II w0 (.slice p row.length cap) va row st m a w) :
    (Code.loop itRound).wp Tryz.prog (d6A w0 (.slice p row.length cap) va row st) a w:=by
  refine wp_loop_ghost _ m h0 ?_;clear h0;rintro m a w ⟨k,hmk,vo,J,rfl,hi⟩;by_cases hkn:k=st.length
  · subst hkn; refine wp_mono (uYA J w) ?_; rintro e a' w' h
    cases e with
    | normal=>exact h.elim
    | _ =>
      obtain⟨h1,J',rfl,rfl⟩:=h;rw[List.take_of_length_le (by rw[qU];exact Nat.le_refl _)]at hi;exact⟨h1,vo,J',rfl,hi⟩
  have hlt:k < st.length:=by omega
  obtain⟨b,off,rfl,hb0,ht⟩:=hp (fun e=>by rw[e,List.length_nil]at hst;omega);have hbl:(st++[row.length]).length=st.length+1:=by simp
  obtain⟨x,hx⟩:∃ x,(st++[row.length])[k]? = some x:=⟨_,List.getElem?_eq_getElem (by omega)⟩;obtain⟨y,hy⟩:∃ y,(st++[row.length])[k+1]? = some y:=⟨_,List.getElem?_eq_getElem (by omega)⟩;obtain⟨h1,h2⟩:=q1A hinc hx hy;have:=b3A (cap:=cap) (w0:=w0) (row:=row) (va:=va) (vo:=vo) (ls:=(pieces row st row.length).take k) (by omega) (by omega) hx hy h1 h2 hn hcap (by rw[List.length_take,qU];omega) J w hi hb0 ht;rw[hbl,Nat.add_sub_cancel]at this;refine wp_mono this ?_;rintro e a' w' h
  cases e with
  | normal =>
    refine⟨m - 1,by omega,k+1,by omega,?_⟩;have hpl:k < (pieces row st row.length).length:=by rw[qU];exact hlt
    have hpk:=lSA row st row.length hlt hx hy;rw[List.getElem?_eq_getElem hpl]at hpk;rw[List.take_succ_eq_append_getElem hpl,Option.some.inj hpk];exact h
  | _=>exact h.elim
def gQA(w0:World)(R:Option (List (List Sx)))(e:Ending)(w':World):Prop :=
 Under w0 w'∧match R with
  | some ls=>∃ vo vs,e = .returned (.tuple #[vo,.bool true])∧w'.ownsRow w0.heap.size 23 1 vo ls.length vs∧SxOwns w' w0.heap.size vs ls
  | none=>e = .returned (.tuple #[.slice none 0 0,.bool false])
theorem rLA:∀(l:List Sx) (i:Nat) (st s:List Nat),kC l i st=some s→s.length≤st.length+l.length:=by
 intro l
 induction l with
 | nil=>intro i st s h;cases h;simp
 | cons x l ih =>
   intro i st s h;simp only[kC]at h
   split at h
   · have := ih _ _ _ h; have e : (gL x i st).length ≤ st.length + 1 := by unfold gL; simp
     simp only[List.length_cons];omega
   · cases h
theorem yX(row:List Sx){p:Option Addr}(hn:row.length≤1000000)(hcap:row.length≤cap)(hp:SxArg w0 p row) :
 Calls Tryz.prog 34 #[.slice p row.length cap] w0 (gQA w0 (sJ row)):=by
 have C1:=Lib.hid (zU (w0:=w0) (cap:=cap) row hn hp);have HL:=Lib.hid (fun st va hst hinc m a w h=>xSA (w0:=w0) (cap:=cap) (va:=va) row st hn hcap hp hst hinc m a w h);have HI:=Lib.hid (fun st h=>o2A row 0 [] st (kZA 0) h);have HN:=Lib.hid (fun st h=>rLA row 0 [] st h);unfold sJ;generalize kC row 0 []=R at *;clear hp;go_enter Tryz.func34,Tryz.ntmps34;go_wp2_with fail;refine C1.out.mono ?_;rintro e w1 ⟨hU1,hR1⟩
 cases R with
 | none =>
   subst hR1;have HU1:=Lib.hid hU1;clear hU1;go_wp2;go_ret2;exact⟨HU1.out,rfl⟩
 | some st =>
   obtain⟨va,rfl,hown⟩:=hR1;have hst:=HN.out st rfl;simp only[List.length_nil,Nat.zero_add]at hst;have hinc:=HI.out st rfl;rw[Nat.zero_add]at hinc;obtain⟨g,gc,rfl,hg,hgb,hgl,_,_⟩:=kE hown (by omega);have HL2:=Lib.hid (HL.out st (.slice (some ⟨g,0,none⟩) (st.length+1) gc) hst hinc);have HO:=Lib.hid hown;have HU1:=Lib.hid hU1;clear hU1 hown hinc HL HI HN C1;go_wp2;rename_i K hK;refine wp_mono (HL2.out st.length _ _ ⟨0,rfl,.slice none 0 0,_,zB (F:=iK _ _ _ 0 _) (by rfl),⟨by simpa using HO.out,⟨[],kX _ _ _ _,trivial⟩,HU1.out⟩⟩) ?_;rintro e a' w' ⟨rfl,vo,J,rfl,hi⟩;simp only[Exit.inBlock,if_pos,Exit.then];refine hK _ _ ?_;have HH:=Lib.hid hi;clear hi;unfold iK;go_wp2;go_ret2;obtain⟨vs,h1,h2⟩:=HH.out.out;exact⟨HH.out.low,vo,vs,rfl,h1,h2⟩
def RowsArg(w:World)(p:Option Addr)(ls:List (List Sx)):Prop:=ls≠[]→∃ b off,p=some ⟨b,off,none⟩∧b < w.heap.size∧∀ i l,ls[i]? = some l→∃ q c,w.cell? ⟨b,off+i,none⟩=some (.slice q l.length c)∧l.length≤c∧SxArg w q l
theorem RowsArg.under{a b:World}{p:Option Addr}{l:List (List Sx)}(h:RowsArg a p l)(hU:Under a b):RowsArg b p l:=by
 intro hne;obtain⟨bl,off,rfl,hb,ht⟩:=h hne;refine⟨bl,off,rfl,Nat.lt_of_lt_of_le hb hU.size,fun k t hk=>?_⟩;obtain⟨q,c,h1,h2,h3⟩:=ht k t hk;exact⟨q,c,by rw[dA hU hb];exact h1,h2,h3.under hU⟩
theorem oQA{w:World}{base:Nat}{e:TypeId}{l:Value}{row:List Sx}(h:w.ownsRow base e 3 l row.length (nD row)):∃ p cap,l = .slice p row.length cap∧row.length≤cap∧SxArg w p row:=by
 obtain⟨p,cap,rfl,h1⟩:=k2A h;refine⟨p,cap,rfl,?_,h1⟩;rcases h.2 with⟨e,h0⟩ | ⟨g,c,cur,e,_,_,h2,_⟩
 · rw[h0];exact Nat.zero_le _
 · cases e;exact h2
theorem fIA{w:World}{base:Nat}{e:TypeId}{vo:Value}{vs:List Value}{ls:List (List Sx)}(h:w.ownsRow base e 1 vo ls.length vs)(h':SxOwns w base vs ls):∃ p cap,vo = .slice p ls.length cap∧RowsArg w p ls:=by
 rcases h.2 with⟨rfl,h0⟩ | ⟨g,cap,cur,rfl,hb,hg,rest⟩
 · refine⟨none,0,by rw[h0],fun hne=>?_⟩;exact absurd (List.length_eq_zero_iff.1 h0) hne
 · refine⟨_,cap,rfl,fun _=>⟨g,0,rfl,(Array.getElem?_eq_some_iff.1 hg).1,fun k t ht=>?_⟩⟩;obtain⟨v,h1,h2⟩:=h'.at ht;obtain⟨q,c,rfl,h3,h4⟩:=oQA h2;rw[Nat.zero_add];exact⟨q,c,yD h rfl h1,h3,h4⟩
end
section
variable {w0 : World} {b off n cap k : Nat}
theorem mNA(init:List Sx)(x:Sx)(hn:init.length+1≤1000000)(hcap:init.length+1≤cap)(hb0:b < w0.heap.size)(ht:cNA w0 b off (init++[x])) :
 Calls Tryz.prog 69 #[.slice (some ⟨b,off,none⟩) (init.length+1) cap] w0 (gQA w0 (mK (init++[x]))):=by
 have hl:(init++[x]).length=init.length+1:=by simp
 have C1:=zU (w0:=w0) (cap:=cap) (p:=some ⟨b,off,none⟩) (init++[x]) (by omega) (fun _=>⟨b,off,rfl,hb0,ht⟩);rw[hl]at C1;have C1:=Lib.hid C1;have C2:=Lib.hid (fun w1 (hU1:Under w0 w1)=>yX (w0:=w1) (cap:=cap) (p:=some ⟨b,off,none⟩) init (by omega) (by omega) (SxArg.under (a:=w0) (fun _=>⟨b,off,rfl,hb0,fun k y hk=>ht k y (by rw[List.getElem?_append_left (List.getElem?_eq_some_iff.1 hk).1];exact hk)⟩) hU1));have c2:=(ht init.length x (by simp)).2.2;have N0:kC (init++[x]) 0 []=none→mK (init++[x])=none:=by
  intro h;rw[kL,h]
 have N1:∀ st,kC (init++[x]) 0 []=some st→st.length≠1→mK (init++[x])=none:=by
  intro st h hs;rw[kL,h]
  match st,hs with
  | [],_=>rfl
  | [_],h=>exact absurd rfl h
  | _::_::_,_=>rfl
 have N2:∀ st,kC (init++[x]) 0 []=some st→st.length=1→mK (init++[x])=if x.word.size=0 then sJ init else none:=by
  intro st h hs;rw[kL,h]
  match st,hs with
  | [_],_=>rfl
 have N0:=Lib.hid N0;have N1:=Lib.hid N1;have N2:=Lib.hid N2;clear ht hl;generalize mK (init++[x])=PR at *;generalize kC (init++[x]) 0 []=R at *;have a1:(init.length:Int)≤cap:=by omega
 have a2:(init.length:Int) < (init.length:Int)+1:=by omega
 have a3:(0:Int)≤init.length:=by omega
 have a4:(init.length:Int)+1≤1000000:=by omega
 obtain⟨xm,xp,xw⟩:=x;simp only at c2 N2;go_enter Tryz.func69,Tryz.ntmps69;go_wp2_with fail;refine C1.out.mono ?_;rintro e w1 ⟨hU1,hR1⟩;rw[← dA hU1 hb0]at c2
 cases R with
 | none =>
   subst hR1;have HU1:=Lib.hid hU1;have N0':=Lib.hid (N0.out rfl);clear hU1 N0 N1 N2;go_wp2;go_ret2;rw[N0'.out];exact⟨HU1.out,rfl⟩
 | some st =>
   obtain⟨va,rfl,hown⟩:=hR1;obtain⟨g,gc,rfl,hg,hgb,hgl,_,_⟩:=kE hown (by omega);have HU1:=Lib.hid hU1;clear hU1 hown hg hgb hgl;by_cases hs:st.length=1
   · have N2' := Lib.hid (N2.out st rfl hs); clear N0 N1 N2 C1; rw [hs]; clear hs; by_cases hB : xw.size = 0
     · have e0 : xw = ⟨#[]⟩ := ByteArray.ext (Array.eq_empty_of_size_eq_zero hB); subst e0; clear hB; go_wp2_with fail; refine (C2.out w1 HU1.out).mono ?_; rintro e w2 ⟨hU2, hR2⟩; have hPR := N2'.out; simp only [show (⟨#[]⟩ : ByteArray).size = 0 from rfl, if_true] at hPR; subst hPR; generalize sJ init = R2 at *
       cases R2 with
       | none =>
         subst hR2;have HU2:=Lib.hid hU2;clear hU2;go_wp2;go_ret2;exact⟨HU1.out.trans HU2.out,rfl⟩
       | some ls =>
         obtain⟨vo,vs,rfl,h1,h2⟩:=hR2;have HU2:=Lib.hid hU2;have H1:=Lib.hid h1;have H2:=Lib.hid h2;clear hU2 h1 h2;go_wp2;go_ret2;exact⟨HU1.out.trans HU2.out,vo,vs,rfl,oD H1.out HU1.out.size,H2.out.map fun v n xs h=>oD h HU1.out.size⟩
     · obtain⟨e1,e2⟩:=uL hB;have hPR:=N2'.out;rw[if_neg hB]at hPR;subst hPR;clear hB N2';go_wp2;go_ret2;exact⟨HU1.out,rfl⟩
   · have e1 : ((st.length : Int) + 1 != 2) = true := by simp; omega
     have N1':=Lib.hid (N1.out st rfl hs);clear N0 N1 N2 C1 C2 hs;go_wp2;go_ret2;rw[N1'.out];exact⟨HU1.out,rfl⟩
theorem kRA{p:Option Addr}:Calls Tryz.prog 69 #[.slice p 0 cap] w0 (gQA w0 none):=by
 have C1:=Lib.hid (zU (w0:=w0) (cap:=cap) (p:=p) [] (by simp) (fun h=>absurd rfl h));have z:(([]:List Sx).length:Nat)=0:=rfl;go_enter Tryz.func69,Tryz.ntmps69;go_wp2_with fail;refine C1.out.mono ?_;rintro e w1 ⟨hU1,va,rfl,hown⟩;obtain⟨g,gc,rfl,hg,hgb,hgl,_,_⟩:=kE hown (by simp);have HU1:=Lib.hid hU1;clear hU1 hown hg hgb hgl;go_wp2;go_ret2;exact⟨HU1.out,rfl⟩
theorem aSA(row:List Sx){p:Option Addr}(hn:row.length≤1000000)(hcap:row.length≤cap)(hp:SxArg w0 p row) :
 Calls Tryz.prog 69 #[.slice p row.length cap] w0 (gQA w0 (mK row)):=by
 by_cases hne:row=[]
 · subst hne;exact kRA
 obtain⟨init,x,rfl⟩:∃ init x,row=init++[x]:=⟨row.dropLast,row.getLast hne,(List.dropLast_concat_getLast hne).symm⟩;obtain⟨b,off,rfl,hb0,ht⟩:=hp hne;rw[List.length_append]at hn hcap ⊢;exact mNA init x hn hcap hb0 ht
end
end Go.Proofs.YtggjbblgoddnjaaGreatDoor
namespace Go.Proofs.YtggjbblgoddnjaaGreatDoor
open Go.Lx Go.RowKit
theorem p9{C:Nat→Prop}{w w':World}(h:Ch C w w'){b:Nat}(hb:b < w.heap.size)(hc:¬ C b)(j:Nat):w'.cell? ⟨b,j,none⟩=w.cell? ⟨b,j,none⟩:=by simp only[World.cell?,h.block b hb hc]
def jQA(C:Nat→Prop)(q:Option Addr):Prop:=∀ b off x,q=some ⟨b,off,x⟩→¬ C b
theorem oXA{C:Nat→Prop}{w w':World}{q:Option Addr}{row:List Sx}(h:SxArg w q row)(hC:Ch C w w')(ha:jQA C q):SxArg w' q row:=fun hne=>by
 obtain⟨b,off,rfl,hb,hc⟩:=h hne;refine⟨b,off,rfl,Nat.lt_of_lt_of_le hb hC.size,fun k x hk=>?_⟩;rw[p9 hC hb (ha b off none rfl),p9 hC hb (ha b off none rfl),p9 hC hb (ha b off none rfl)];exact hc k x hk
def j1A(C:Nat→Prop)(v:Value):Prop:=∀ q n c,v = .slice q n c→n≠0→jQA C q
def TsArg(C:Nat→Prop)(w:World)(q:Option Addr)(ts:List ST):Prop:=ts≠[]→∃ b off,q=some ⟨b,off,none⟩∧b < w.heap.size∧¬ C b ∧
 ∀ i T,ts[i]? = some T→∃ qi ci,w.cell? ⟨b,off+i,none⟩=some (.slice qi (xB T).length ci)∧(xB T).length≤ci∧SxArg w qi (xB T)∧jQA C qi
theorem TsArg.ch{C D:Nat→Prop}{w w':World}{q:Option Addr}{ts:List ST}(h:TsArg C w q ts)(hC:Ch C w w'):TsArg C w' q ts:=fun hne=>by
 obtain⟨b,off,rfl,hb,hn,hc⟩:=h hne;refine⟨b,off,rfl,Nat.lt_of_lt_of_le hb hC.size,hn,fun i T hi=>?_⟩;obtain⟨qi,ci,h1,h2,h3,h4⟩:=hc i T hi;exact⟨qi,ci,(p9 hC hb hn _).trans h1,h2,oXA h3 hC h4,h4⟩
def TgC(rb:Nat)(ov:Value)(nb:Nat)(b:Nat):Prop:=xR rb ov b∨b=nb
def p3A(T:ST):Prop:=∀(W0 w:World) (rb m1 m2:Nat) (cv dv ov:Value) (acc:List Nd) (p e:Int) (q:Option Addr) (cap:Nat) (bv:Value) (st cs ds:List ByteArray),
 okS T→(xB T).length≤20000→(xB T).length≤cap→(∀ x∈xB T,x.word.size≤1000000)→StrcAt W0→TextsV W0 cv cs→TextsV W0 dv ds→cs.length≤1000000→ds.length≤1000000→ReS W0 rb m1 m2 cv dv ov acc p e w →
 SxArg w q (xB T)→jQA (xR rb ov) q→TextsV w bv st→j1A (xR rb ov) bv→st.length+(xB T).length≤50000→acc.length+(xB T).length≤900000 →
 Calls Tryz.prog 126 #[.pointer (some ⟨rb,0,none⟩),.slice q (xB T).length cap,bv] w (ReOut W0 rb m1 m2 cv dv ov acc w (mQ cs ds T st))
structure TgFix where
 (W0 wl:World) (rb m1 m2 nb:Nat) (cv dv ov bv:Value) (acc:List Nd) (st cs ds:List ByteArray) (ts:List ST) (parts:List UInt8) (q2:Option Addr) (c2:Nat) (R:Say)
structure TgS (F:TgFix) (k:Nat) (nms:List ByteArray) (wt:Bool) (x:Nd) (t:List Nd) (ov1:Value) (p1 e1:Int) (nv:Value) (w:World):Prop where
 re:ReS F.W0 F.rb F.m1 F.m2 F.cv F.dv ov1 (F.acc++t) p1 e1 w
 ch:Ch (TgC F.rb F.ov F.nb) F.wl w
 own:∀ b,b < F.wl.heap.size→ov1.ownBlock=some b→F.ov.ownBlock=some b
 nd:BoxAt w F.nb 112 (uGA x)
 row:w.ownsRow F.wl.heap.size 9 1 nv nms.length (nms.map .string)
 say:F.R=goS F.cs F.ds (kR wt (F.parts.drop k)) (F.ts.drop k) x nms F.st t
 nlen:nms.length≤k
 tlen:t.length≤(fC (F.ts.take k)).length
structure TgOk (F:TgFix):Prop where
 nlt:F.nb < F.wl.heap.size
 rlt:F.rb < F.wl.heap.size
 m1lt:F.m1 < F.wl.heap.size
 m2lt:F.m2 < F.wl.heap.size
 wlt:F.W0.heap.size≤F.wl.heap.size
 nrc:¬ xR F.rb F.ov F.nb
 lw:F.W0.heap.size≤F.nb
 arg:TsArg (TgC F.rb F.ov F.nb) F.wl F.q2 F.ts
 bound:TextsV F.wl F.bv F.st
 away:j1A (TgC F.rb F.ov F.nb) F.bv
 ok:gHA F.ts
 len:(fC F.ts).length≤20000
 stl:F.st.length+(fC F.ts).length≤50000
 accl:F.acc.length+(fC F.ts).length≤900000
 words:∀ x∈fC F.ts,x.word.size≤1000000
 csT:TextsV F.W0 F.cv F.cs
 dsT:TextsV F.W0 F.dv F.ds
 csl:F.cs.length≤1000000
 dsl:F.ds.length≤1000000
 strc:StrcAt F.W0
 plen:F.parts.length=F.ts.length
theorem i3A{D:Nat→Prop}{W0 w w':World}{rb m1 m2:Nat}{cv dv ov:Value}{acc:List Nd}{p e:Int}(h:ReS W0 rb m1 m2 cv dv ov acc p e w)(hc:Ch D w w')(h1:¬ D rb)(h2:¬ D m1)(h3:¬ D m2)(h4:∀ g,ov.ownBlock=some g→¬ D g)(h5:∀ b,D b→W0.heap.size≤b):ReS W0 rb m1 m2 cv dv ov acc p e w' :=
 ⟨aVA h.box hc h1,yQ h.f hc h2,yQ h.a hc h3,qO h.row hc h4,uK h.und hc h5,h.lo⟩
theorem TgS.re_ch{F:TgFix}{k:Nat}{nms:List ByteArray}{wt:Bool}{x:Nd}{t:List Nd}{ov1 nv:Value}{p1 e1:Int}{w w':World}{D:Nat→Prop}(hF:TgOk F)(h:TgS F k nms wt x t ov1 p1 e1 nv w)(hc:Ch D w w')(hD:∀ i,D i→F.wl.heap.size≤i∧ov1.ownBlock≠some i) :
 ReS F.W0 F.rb F.m1 F.m2 F.cv F.dv ov1 (F.acc++t) p1 e1 w'∧Ch (TgC F.rb F.ov F.nb) F.wl w'∧BoxAt w' F.nb 112 (uGA x):=by
 have hlow:∀ i,i < F.wl.heap.size→¬ D i:=fun i hi hd=>by have:=(hD i hd).1;omega
 refine⟨i3A h.re hc (hlow _ hF.rlt) (hlow _ hF.m1lt) (hlow _ hF.m2lt) (fun g hg hd=>(hD g hd).2 hg) (fun b hb=>Nat.le_trans hF.wlt (hD b hb).1),h.ch.trans hc (fun i hi hd=>(hlow i hi hd).elim),aVA h.nd hc (hlow _ hF.nlt)⟩
theorem oZA{F:TgFix}(k:Nat)(hk:k < F.ts.length):(fC (F.ts.take k)).length≤(fC (F.ts.take (k+1))).length:=by
 rw[List.take_succ_eq_append_getElem hk,aV,List.length_append];omega
theorem TgS.name {F : TgFix} {k : Nat} {nms : List ByteArray} {wt wt' : Bool} {x : Nd} {t : List Nd} {ov1 nv v' : Value} {p1 e1 : Int} {w w' : World} {s : ByteArray} (hF : TgOk F) (hk : k < F.ts.length) (h : TgS F k nms wt x t ov1 p1 e1 nv w) (hc : Ch (fun i => nv.ownBlock = some i) w w')
    (hown:w'.ownsRow F.wl.heap.size 9 1 v' (nms.length+1) (nms.map .string++[.string s])) (hs:F.R=goS F.cs F.ds (kR wt' (F.parts.drop (k+1))) (F.ts.drop (k+1)) x (nms++[s]) F.st t):TgS F (k+1) (nms++[s]) wt' x t ov1 p1 e1 v' w':=by
  obtain ⟨h1, h2, h3⟩ := h.re_ch hF hc (fun i hi => ⟨(vB h.row hi).1, by
    rcases own_ne h.row h.re.row (by decide) with e | e
    · rw[e]at hi;cases hi
    · intro e2;exact e (hi.trans e2.symm)⟩)
  refine⟨h1,h2,h.own,h3,by rw[List.length_append,List.map_append];exact hown,hs,by rw[List.length_append];have:=h.nlen;simp;omega,Nat.le_trans h.tlen (oZA k hk)⟩
theorem nPA(pp:Int)(s:ByteArray):p3A (.word pp s):=by
 rintro W0 w rb m1 m2 cv dv ov acc p e q cap bv st cs ds hok hn hcap hw hE hcs hds hcn hdn hR hq ha hb hab hst hacc;have HLa:=Lib.hid (gFA (w0:=w) (.word pp s) (q:=q) (cap:=cap) (by omega) hq);have HR:=Lib.hid hR;have HB:=Lib.hid hb;have hs:s.size≠0:=hok;have hne:=(uL hs).1;have hne2:=(uL hs).2;have hwx:s.size≤1000000:=hw ⟨0,pp,s⟩ (by simp[xB]);rw[mQ];have HWd:=Lib.hid (fun w1 (hU:Under w w1)=>mTA ⟨0,pp,s⟩ cs st (bv:=bv) hwx (hR.under hU) (hb.under hU) (by omega) (by omega) hcs hcn);have hl1:(xB (.word pp s)).length=1:=rfl;rw[hl1]at HLa ⊢;clear hR hb hq ha hab hst hacc hn hcap hw hok hl1 hcs hds;simp only[ST.last,sxV]at HLa;simp only[sxV]at HWd;go_enter Tryz.func126,Tryz.ntmps126;go_wp2_with fail;refine wp_scope_straight ?_;go_wp2_with fail;refine HLa.out.mono ?_;rintro e w1 ⟨rfl,hU1⟩;have HU1:=Lib.hid (aA hU1 (.cells #[.int .i64 0,.int .i64 pp,.string s] 28));have hZ:=qA w1 #[.int .i64 0,.int .i64 pp,.string s] 28;have z0:(w1.alloc (.cells #[.int .i64 0,.int .i64 pp,.string s] 28)).cell? ⟨w1.heap.size,0,none⟩=some (.int .i64 (0)):=hZ.cell 0;have z1:(w1.alloc (.cells #[.int .i64 0,.int .i64 pp,.string s] 28)).cell? ⟨w1.heap.size,1,none⟩=some (.int .i64 (pp)):=hZ.cell 1;have z2:(w1.alloc (.cells #[.int .i64 0,.int .i64 pp,.string s] 28)).cell? ⟨w1.heap.size,2,none⟩=some (.string s):=hZ.cell 2;have zl:=hZ.lt;have HZ:=Lib.hid hZ;have hw1:=hU1.size;clear hU1 HLa hZ;go_wp2_with fail;refine(HWd.out _ HU1.out).mono ?_;rintro e w2 hO;have HO:=Lib.hid (ReOut.back HU1.out hO);have hv:∃ b,e = .returned (.bool b):=by
  obtain⟨_,_,_,_,_,_,_,h⟩:=hO
  split at h
  · exact⟨_,h.1⟩
  · exact⟨_,h.1⟩
 obtain⟨b,rfl⟩:=hv;clear hO HWd;go_wp2;rw[Exit.noGoto_ret];go_ret;exact HO.out
end Go.Proofs.YtggjbblgoddnjaaGreatDoor
