/- Part 9 of what the proof rests on. -/
import Derived.Deep.AppendLies
import Derived.Deep.RegionHeld3
import Derived.Lib.SliceRun
import Derived.Lib.SlBytesRow
import Derived.Lib.BufferRead
import Derived.Laws.AppendOwnNone
import Derived.Scope
import Derived.WalkMore
import Derived.Deep.LoopGhost
import Derived.Deep.QuietTactic
import Derived.Test.YtggjbblgoddnjaaGreatDoorM00
import Derived.Test.YtggjbblgoddnjaaGreatDoorM04
import Derived.Test.YtggjbblgoddnjaaGreatDoorM06
import Derived.Test.YtggjbblgoddnjaaGreatDoorM08
set_option linter.unusedSimpArgs false
set_option linter.unusedVariables false
set_option maxRecDepth 100000
set_option maxHeartbeats 4000000
namespace Go.Proofs.YtggjbblgoddnjaaGreatDoor
open Go.Conc Go.Lx Go.RowKit
section
variable {w0 : World} {b off n cap k : Nat}
theorem uZ:∀(row:List Sx) (j:Nat) (u:Value),(bE row)[j]? = some u→∃ k x,row[k]? = some x∧((j=k * 3∧u = .int .i64 x.many)∨(j=k * 3+1∧u = .int .i64 x.pos)∨(j=k * 3+2∧u = .string x.word)):=by
 intro row
 induction row with
 | nil=>intro j u h;simp[bE]at h
 | cons x row ih =>
   intro j u h
   match j,h with
   | 0,h=>cases h;exact⟨0,x,rfl,.inl ⟨rfl,rfl⟩⟩
   | 1,h=>cases h;exact⟨0,x,rfl,.inr (.inl ⟨rfl,rfl⟩)⟩
   | 2,h=>cases h;exact⟨0,x,rfl,.inr (.inr ⟨rfl,rfl⟩)⟩
   | j + 3, h =>
     obtain⟨k,y,h1,h2⟩:=ih j u h;refine⟨k+1,y,h1,?_⟩;rcases h2 with⟨rfl,rfl⟩ | ⟨rfl,rfl⟩ | ⟨rfl,rfl⟩
     · exact .inl ⟨by omega,rfl⟩
     · exact .inr (.inl ⟨by omega,rfl⟩)
     · exact .inr (.inr ⟨by omega,rfl⟩)
theorem kAB{row:List Sx}(h:yRA w0 b off row){j:Nat}{u:Value}(hj:(bE row)[j]? = some u):w0.cell? ⟨b,off+j,none⟩=some u:=by
 obtain⟨k,x,h1,h2⟩:=uZ row j u hj;obtain⟨c0,c1,c2⟩:=h k x h1;rcases h2 with⟨rfl,rfl⟩ | ⟨rfl,rfl⟩ | ⟨rfl,rfl⟩
 · exact c0
 · exact c1
 · exact c2
theorem cCB{row:List Sx}{u:Value}(h:u∈bE row):u.oneCell'=true:=by
 obtain⟨j,hj⟩:=List.getElem?_of_mem h;obtain⟨k,x,_,h2⟩:=uZ row j u hj;rcases h2 with⟨_,rfl⟩ | ⟨_,rfl⟩ | ⟨_,rfl⟩<;>rfl
theorem r0A(row:List Sx)(hne:row≠[])(hn:row.length≤1000000)(hb0:b < w0.heap.size)(ht:yRA w0 b off row) :
 Calls Tryz.prog 67 #[.slice (some ⟨b,off,none⟩) row.length cap] w0 fun e w'=>∃ v,e = .returned v∧w'.ownsRow w0.heap.size 28 3 v row.length (bE row)∧Under w0 w':=by
 obtain⟨i0,hi,hz0,hz1,hz2⟩:=info_parts Tryz.info28;have hmx:0+row.length≤maxLen:=by simp only[maxLen];omega
 have hby:(0+row.length) * 32≤140737488355328:=by omega
 have HT:=aA ht;clear ht;have eqn:=Lib.run_eql_slice_nil (P:=Tryz.prog) w0 23 28 (some ⟨b,off,none⟩) row.length cap 0 0 Tryz.underlying23;go_enter Tryz.func67,Tryz.ntmps67;go_wp2_with (at_builtin;refine wpList_append_own_at _ rfl _ _ 23 rfl w0.heap.size 28 i0 _ 3 32 Tryz.underlying23 hi hz0 hz1 hz2 rfl (by decide) _ _ _ rfl (uR w0 _ _ _ (Nat.le_refl _)) ⟨b,off,none⟩ row.length cap (bE row) rfl (aI row) ?c1 (fun u hu=>cCB hu) hmx hby ?c5 ?_)
 case c1 =>
   intro j u hj;rw[zM];exact(fA (W:=w0) (bA ⟨rfl,rfl,Nat.le_refl _,fun _ _=>rfl⟩ _) hb0 _).trans (kAB HT.out hj)
 case c5=>simp
 intro v' w1 hown hgrow hnil hat;have HW:=aA hown;have HU2:=aA (xA (W:=w0) (bA ⟨rfl,rfl,Nat.le_refl _,fun _ _=>rfl⟩ _) hgrow fun g e=>by cases e;exact Nat.le_refl _);clear hown hgrow hnil hat;go_wp2;go_ret;exact⟨v',rfl,HW.out,HU2.out⟩
def SxOwns (w : World) (base : Nat) : List Value → List (List Sx) → Prop
  | [],[]=>True
  | v::vs,l::ls=>w.ownsRow base 28 3 v l.length (bE l)∧SxOwns w base vs ls
  | _,_=>False
theorem SxOwns.app {w : World} {base : Nat} : ∀ {vs : List Value} {ls : List (List Sx)} {v : Value} {l : List Sx}, SxOwns w base vs ls → w.ownsRow base 28 3 v l.length (bE l) → SxOwns w base (vs ++ [v]) (ls ++ [l])
  | [],[],_,_,_,h=>⟨h,trivial⟩
  | _::_,_::_,_,_,h,h'=>⟨h.1,SxOwns.app h.2 h'⟩
  | [],_::_,_,_,h,_=>h.elim
  | _::_,[],_,_,h,_=>h.elim
theorem SxOwns.map {w w' : World} {base base' : Nat} : ∀ {vs : List Value} {ls : List (List Sx)}, SxOwns w base vs ls → (∀ v n xs, w.ownsRow base 28 3 v n xs → w'.ownsRow base' 28 3 v n xs) → SxOwns w' base' vs ls
  | [],[],_,_=>trivial
  | _::_,_::_,h,h'=>⟨h' _ _ _ h.1,SxOwns.map h.2 h'⟩
  | [],_::_,h,_=>h.elim
  | _::_,[],h,_=>h.elim
theorem SxOwns.at {w : World} {base : Nat} : ∀ {vs : List Value} {ls : List (List Sx)}, SxOwns w base vs ls → ∀ {i : Nat} {l : List Sx}, ls[i]? = some l → ∃ v, vs[i]? = some v ∧ w.ownsRow base 28 3 v l.length (bE l)
  | [],[],_,_,_,hi=>by simp at hi
  | v::_,_::_,h,0,_,hi=>by cases hi;exact⟨v,rfl,h.1⟩
  | _ :: _, _ :: _, h, i + 1, _, hi => by
    obtain⟨v,h1,h2⟩:=SxOwns.at h.2 (i:=i) hi;exact⟨v,h1,h2⟩
  | [],_::_,h,_,_,_=>h.elim
  | _::_,[],h,_,_,_=>h.elim
structure IH (w0:World) (va:Value) (bs:List Nat) (vo:Value) (ls:List (List Sx)) (w:World):Prop where
 at_:w.ownsRow w0.heap.size 3 1 va bs.length (nI bs)
 out:∃ vs,w.ownsRow w0.heap.size 23 1 vo ls.length vs∧SxOwns w w0.heap.size vs ls
 low:Under w0 w
theorem Tryz.info23:(Tryz.prog.info? 23).map (fun i=>(i.zero,i.size,i.bytes))=some (some (.slice none 0 0),1,24):=by kernel_rfl
noncomputable def vUA:Code:=Tryz.f34.body.getD .skip
noncomputable def rVA:Code:=dB (qA (qA (qA (qA vUA))))
noncomputable def itRound:Code:=fD (fD (qA rVA))
def xM(l va:Value)(m k:Nat)(vo:Value)(J:Nat→Value):Array Value :=
 #[l, J 1, J 2, J 3, va, J 5, vo, J 7, J 8, J 9, J 10, J 11, J 12, J 13, J 14, J 15, J 16, .int .i64 (m : Int), .int .i64 (k : Int), J 19, J 20, J 21, J 22, J 23, J 24, J 25, J 26, J 27, J 28, J 29, J 30, J 31, J 32, J 33, J 34, J 35, J 36, J 37]
def p2A(w0:World)(l va:Value)(m k:Nat)(bs:List Nat)(ls:List (List Sx))(a':Act)(w':World):Prop :=
 ∃ vo J,a'=⟨xM l va m k vo J,[]⟩∧IH w0 va bs vo ls w'
def xDB(l va:Value)(m:Nat)(vo:Value)(w:World)(e:Exit)(a':Act)(w':World):Prop:=e = .exit 0∧∃ J,a'=⟨xM l va m m vo J,[]⟩∧w'=w
theorem v8A{l va vo:Value}{m:Nat}(J:Nat→Value)(w:World) :
 itRound.wp Tryz.prog (Exit.then (fun _ _=>False) (xDB l va m vo w)) ⟨xM l va m m vo J,[]⟩ w:=by
 unfold itRound rVA vUA;simp only[Tryz.f34,Option.getD_some,dB,qA,fD];unfold xM;go_wp2;exact⟨rfl,eB (F:=xM l va m m vo) (by rfl) rfl⟩
theorem fLA(row:List Sx){a c:Nat}(hc:c≤row.length):(piece row a c).length=c - a:=by
 unfold piece;rw[List.length_take,List.length_drop];omega
theorem i4A{row:List Sx}{a c:Nat}(h:yRA w0 b off row):yRA w0 b (off+a * 3) (piece row a c):=by
 intro k x hk;unfold piece at hk;have:row[a+k]? = some x:=by
  rw[List.getElem?_take]at hk
  split at hk
  · rw[List.getElem?_drop]at hk;exact hk
  · cases hk
 have:=h (a+k) x this;rw[Nat.add_mul]at this
 simpa [Nat.add_assoc] using this
theorem vCB {row : List Sx} {bs : List Nat} {va vo : Value} {ls : List (List Sx)} {a c : Nat} (hk : k + 1 < bs.length) (hbs : bs.length ≤ 1000001) (ha : bs[k]? = some a) (hc : bs[k + 1]? = some c) (hac : a < c) (hcn : c ≤ row.length) (hn : row.length ≤ 1000000) (hcap : row.length ≤ cap) (hls : ls.length = k) (J : Nat → Value) (w : World) (hP : IH w0 va bs vo ls w)
    (hb0:b < w0.heap.size) (ht:yRA w0 b off row) :
    itRound.wp Tryz.prog (Exit.then (p2A w0 (.slice (some ⟨b,off,none⟩) row.length cap) va (bs.length - 1) (k+1) bs (ls++[piece row a c])) (fun _ _ _=>False)) ⟨xM (.slice (some ⟨b,off,none⟩) row.length cap) va (bs.length - 1) k vo J,[]⟩ w:=by
  have hb:=Nat.lt_of_lt_of_le hb0 hP.low.size;obtain⟨i0,hi,hz0,hz1,hz2⟩:=info_parts Tryz.info23;obtain⟨m,hm⟩:∃ m,bs.length=m+1:=⟨bs.length - 1,by omega⟩;obtain⟨vs,ho,hel⟩:=hP.out;obtain⟨ga,gac,hva,hga,hgab,hgal,_,_⟩:=dE hP.at_ (by omega);have hne:=own_ne ho hP.at_ (by decide);rw[hm]at hva;subst hva;have ca:=eD hP.at_ hga (iN ha);have cc:=eD hP.at_ hga (iN hc);have hat0:=hP.at_;have hU:=hP.low;rw[hm]at hk hbs ⊢;rw[Nat.add_sub_cancel];clear hP;have hin:(k:Int) < m:=by omega
  have hk0:(0:Int)≤k:=Int.natCast_nonneg _;have ix1:(k:Int) < (m:Int)+1:=by omega
  have ix2:(k:Int)+1 < (m:Int)+1:=by omega
  have ix3:(0:Int)≤(k:Int)+1:=by omega
  have wr:IntKind.i64.wrap ((k:Int)+1)=(k:Int)+1:=by rw[IntKind.wrap_i64];omega
  have a0:(0:Int)≤a:=Int.natCast_nonneg _;have a1:(a:Int)≤c:=by omega
  have a2:(c:Int)≤cap:=by omega
  have hmx:k+1≤maxLen:=by simp only[maxLen];omega
  have hby:(k+1) * 24≤140737488355328:=by omega
  have HO:=aA ho;have HE:=aA hel;have HA:=aA hat0;have HU:=aA hU;have HT:=aA ht;clear ho hel hat0 hU ht;have hca:¬ cap=a:=by omega
  have hpl:(piece row a c).length=c - a:=fLA row hcn;have HC0:Calls Tryz.prog 67 #[.slice (some ⟨b,off+a * 3,none⟩) (c - a) (cap - a)] w.drew fun e w1=>∃ g1 c1,e = .returned (.slice (some ⟨g1,0,none⟩) (c - a) c1)∧w1.ownsRow w0.heap.size 28 3 (.slice (some ⟨g1,0,none⟩) (c - a) c1) (c - a) (bE (piece row a c))∧Under w w1:=by
   have := r0A (w0 := w.drew) (b := b) (off := off + a * 3) (cap := cap - a) (piece row a c) (fun e => by rw [e] at hpl; simp at hpl; omega) (by omega) hb (i4A fun k x hk => by
     have:=HT.out k x hk;rw[← fA HU.out hb0,← fA HU.out hb0,← fA HU.out hb0]at this;exact this)
   rw[hpl]at this;refine this.mono ?_;rintro e w1 ⟨v,rfl,h1,h2⟩;obtain⟨g1,c1,rfl,_⟩:=dE h1 (by omega);exact⟨g1,c1,rfl,wD h1 HU.out.size,⟨h2.os,h2.output,h2.size,h2.low⟩⟩
  have HC:=aA HC0;clear HC0;have hnx:some ga≠vo.ownBlock:=by
   rcases hne with e | e
   · rw[e];simp
   · exact fun e'=>e (e'.symm)
  subst hls; clear hpl hne ca cc; unfold itRound rVA vUA; simp only [Tryz.f34, Option.getD_some, dB, qA, fD]; unfold xM; have ca := eD HA.out hga (iN ha); have cc := eD HA.out hga (iN hc); go_wp2_with fail; go_region_held3 (fun w' => w'.cell? ⟨ga, ls.length, none⟩ = some (.int .i64 (a : Int)) ∧ w'.cell? ⟨ga, ls.length + 1, none⟩ = some (.int .i64 (c : Int)))
    (first
      | go_keep
      | (go_split_ands
         refine⟨?_,?_⟩
         · (rw[hgrow.cell_far _ (by have:=hU1.size;simp;omega) hnx];assumption)
         · (rw[hgrow.cell_far _ (by have:=hU1.size;simp;omega) hnx];assumption))
      | (refine ⟨?_, ?_⟩
         · (rw[fA hU1 hgal];assumption)
         · (rw[fA hU1 hgal];assumption)))
    (first
      | (go_simp;go_at_call 67;refine HC.out.mono ?_;rintro e w1 ⟨g1,c1,rfl,hown1,hU1⟩;have HU1:=aA hU1;have HW1:=aA hown1)
      | (refine step_append_lies _ (by rfl) _ _ _ (by rfl) w0.heap.size 23 i0 _ 1 24 Tryz.underlying82 hi hz0 hz1 hz2 rfl (by omega) vo ls.length vs (by rfl) ((uA HO.out hU1).alloc _) ⟨w1.heap.size,0,none⟩ 1 1 [.slice (some ⟨g1,0,none⟩) (c - a) c1] (by rfl) (by rfl) (World.news_of_block (cs:=#[.slice (some ⟨g1,0,none⟩) (c - a) c1]) (t:=23) (fr:=(0,0)) (heap_alloc_new w1 _)) (by simp[Value.oneCell']) (by omega) hmx hby (by have:=HU1.out.size;have:=HU.out.size;simp;omega) (w1.heap.size+1) (by simp) ?_;intro gg cc' w2 hown2 hgrow hat2 hlt2))
  have hpl:(piece row a c).length=c - a:=fLA row hcn;have HP2:IH w0 (.slice (some ⟨ga,0,none⟩) (m+1) gac) bs (.slice (some ⟨gg,0,none⟩) (ls.length+1) cc') (ls++[piece row a c]) w2:=by
   refine⟨vE ((uA HA.out hU1).alloc _) hgrow (.inr (by rw[hga];exact hnx)),⟨_,by rw[List.length_append];exact hown2,?_⟩,xA (bA (HU.out.trans hU1) _) hgrow fun g e=>(jB HO.out e).1⟩;refine SxOwns.app (HE.out.map fun v n xs h=>vE ((uA h hU1).alloc _) hgrow (own_ne h HO.out (by decide))) ?_;rw[hpl];exact vE (hown1.alloc _) hgrow (own_ne hown1 (uA HO.out hU1) (by decide))
  have HP3:=aA HP2;clear hown2 hgrow hat2 hlt2 hown1 hU1 HP2 hpl;go_wp2;exact⟨_,eB (F:=xM _ _ m (ls.length+1) _) (by rfl) HP3.out⟩
end
section
variable {w0 : World} {b off n cap k : Nat}
theorem zXA(row:List Sx)(st:List Nat)(n:Nat){k:Nat}(hk:k < st.length){a c:Nat}(ha:(st++[n])[k]? = some a)(hc:(st++[n])[k+1]? = some c):(pieces row st n)[k]? = some (piece row a c):=by
 unfold pieces;rw[List.getElem?_map,List.getElem?_range hk];simp only[Option.map_some,List.getD_eq_getElem?_getD,ha,hc,Option.getD_some]
theorem iCB{st:List Nat}{n:Nat}(h:Inc st n){k a c:Nat}(ha:(st++[n])[k]? = some a)(hc:(st++[n])[k+1]? = some c):a < c∧c≤n:=by
 unfold Inc at h;obtain⟨h1,e1⟩:=List.getElem?_eq_some_iff.1 ha;obtain⟨h2,e2⟩:=List.getElem?_eq_some_iff.1 hc;refine⟨by rw[← e1,← e2];exact List.pairwise_iff_getElem.1 h k (k+1) h1 h2 (by omega),?_⟩;have hl:(st++[n]).length=st.length+1:=by simp
 by_cases hk:k+1=st.length
 · rw [← e2]; have : (st ++ [n])[k + 1] = n := by simp [hk]
   omega
 · have := List.pairwise_iff_getElem.1 h (k + 1) st.length h2 (by omega) (by omega); have e3 : (st ++ [n])[st.length]'(by omega) = n := by simp
   rw[e3]at this;omega
def II(w0:World)(l va:Value)(row:List Sx)(st:List Nat)(m:Nat)(a:Act)(w:World):Prop :=
 ∃ k,m+k=st.length∧p2A w0 l va st.length k (st++[row.length]) ((pieces row st row.length).take k) a w
def zEB(w0:World)(l va:Value)(row:List Sx)(st:List Nat)(e:Exit)(a:Act)(w:World):Prop :=
 e = .exit 0∧p2A w0 l va st.length st.length (st++[row.length]) (pieces row st row.length) a w
theorem oZA (row : List Sx) (st : List Nat) {p : Option Addr} {va : Value} (hn : row.length ≤ 1000000) (hcap : row.length ≤ cap) (hp : SxArg w0 p row) (hst : st.length ≤ row.length) (hinc : Inc st row.length) (m : Nat) (a : Act) (w : World)
    (h0:II w0 (.slice p row.length cap) va row st m a w) :
    (Code.loop itRound).wp Tryz.prog (zEB w0 (.slice p row.length cap) va row st) a w:=by
  refine wp_loop_ghost _ m h0 ?_;clear h0;rintro m a w ⟨k,hmk,vo,J,rfl,hi⟩;by_cases hkn:k=st.length
  · subst hkn; refine wp_mono (v8A J w) ?_; rintro e a' w' h
    cases e with
    | normal=>exact h.elim
    | _ =>
      obtain⟨h1,J',rfl,rfl⟩:=h;rw[List.take_of_length_le (by rw[mY];exact Nat.le_refl _)]at hi;exact⟨h1,vo,J',rfl,hi⟩
  have hlt:k < st.length:=by omega
  obtain⟨b,off,rfl,hb0,ht⟩:=hp (fun e=>by rw[e,List.length_nil]at hst;omega);have hbl:(st++[row.length]).length=st.length+1:=by simp
  obtain⟨x,hx⟩:∃ x,(st++[row.length])[k]? = some x:=⟨_,List.getElem?_eq_getElem (by omega)⟩;obtain⟨y,hy⟩:∃ y,(st++[row.length])[k+1]? = some y:=⟨_,List.getElem?_eq_getElem (by omega)⟩;obtain⟨h1,h2⟩:=iCB hinc hx hy;have:=vCB (cap:=cap) (w0:=w0) (row:=row) (va:=va) (vo:=vo) (ls:=(pieces row st row.length).take k) (by omega) (by omega) hx hy h1 h2 hn hcap (by rw[List.length_take,mY];omega) J w hi hb0 ht;rw[hbl,Nat.add_sub_cancel]at this;refine wp_mono this ?_;rintro e a' w' h
  cases e with
  | normal =>
    refine⟨m - 1,by omega,k+1,by omega,?_⟩;have hpl:k < (pieces row st row.length).length:=by rw[mY];exact hlt
    have hpk:=zXA row st row.length hlt hx hy;rw[List.getElem?_eq_getElem hpl]at hpk;rw[List.take_succ_eq_append_getElem hpl,Option.some.inj hpk];exact h
  | _=>exact h.elim
def tWA(w0:World)(R:Option (List (List Sx)))(e:Ending)(w':World):Prop :=
 Under w0 w'∧match R with
  | some ls=>∃ vo vs,e = .returned (.tuple #[vo,.bool true])∧w'.ownsRow w0.heap.size 23 1 vo ls.length vs∧SxOwns w' w0.heap.size vs ls
  | none=>e = .returned (.tuple #[.slice none 0 0,.bool false])
theorem vSA:∀(l:List Sx) (i:Nat) (st s:List Nat),oC l i st=some s→s.length≤st.length+l.length:=by
 intro l
 induction l with
 | nil=>intro i st s h;cases h;simp
 | cons x l ih =>
   intro i st s h;simp only[oC]at h
   split at h
   · have := ih _ _ _ h; have e : (sN x i st).length ≤ st.length + 1 := by unfold sN; simp
     simp only[List.length_cons];omega
   · cases h
theorem cBA(row:List Sx){p:Option Addr}(hn:row.length≤1000000)(hcap:row.length≤cap)(hp:SxArg w0 p row) :
 Calls Tryz.prog 34 #[.slice p row.length cap] w0 (tWA w0 (iL row)):=by
 have C1:=aA (qZ (w0:=w0) (cap:=cap) row hn hp);have HL:=aA (fun st va hst hinc m a w h=>oZA (w0:=w0) (cap:=cap) (va:=va) row st hn hcap hp hst hinc m a w h);have HI:=aA (fun st h=>uCB row 0 [] st (o7A 0) h);have HN:=aA (fun st h=>vSA row 0 [] st h);unfold iL;generalize oC row 0 []=R at *;clear hp;go_enter Tryz.func34,Tryz.ntmps34;go_wp2_with fail;refine C1.out.mono ?_;rintro e w1 ⟨hU1,hR1⟩
 cases R with
 | none =>
   subst hR1;have HU1:=aA hU1;clear hU1;go_wp2;go_ret2;exact⟨HU1.out,rfl⟩
 | some st =>
   obtain⟨va,rfl,hown⟩:=hR1;have hst:=HN.out st rfl;simp only[List.length_nil,Nat.zero_add]at hst;have hinc:=HI.out st rfl;rw[Nat.zero_add]at hinc;obtain⟨g,gc,rfl,hg,hgb,hgl,_,_⟩:=dE hown (by omega);have HL2:=aA (HL.out st (.slice (some ⟨g,0,none⟩) (st.length+1) gc) hst hinc);have HO:=aA hown;have HU1:=aA hU1;clear hU1 hown hinc HL HI HN C1;go_wp2;rename_i K hK;refine wp_mono (HL2.out st.length _ _ ⟨0,rfl,.slice none 0 0,_,nD (F:=xM _ _ _ 0 _) (by rfl),⟨by simpa using HO.out,⟨[],lF _ _ _ _,trivial⟩,HU1.out⟩⟩) ?_;rintro e a' w' ⟨rfl,vo,J,rfl,hi⟩;simp only[Exit.inBlock,if_pos,Exit.then];refine hK _ _ ?_;have HH:=aA hi;clear hi;unfold xM;go_wp2;go_ret2;obtain⟨vs,h1,h2⟩:=HH.out.out;exact⟨HH.out.low,vo,vs,rfl,h1,h2⟩
def RowsArg(w:World)(p:Option Addr)(ls:List (List Sx)):Prop:=ls≠[]→∃ b off,p=some ⟨b,off,none⟩∧b < w.heap.size∧∀ i l,ls[i]? = some l→∃ q c,w.cell? ⟨b,off+i,none⟩=some (.slice q l.length c)∧l.length≤c∧SxArg w q l
theorem RowsArg.under{a b:World}{p:Option Addr}{l:List (List Sx)}(h:RowsArg a p l)(hU:Under a b):RowsArg b p l:=by
 intro hne;obtain⟨bl,off,rfl,hb,ht⟩:=h hne;refine⟨bl,off,rfl,Nat.lt_of_lt_of_le hb hU.size,fun k t hk=>?_⟩;obtain⟨q,c,h1,h2,h3⟩:=ht k t hk;exact⟨q,c,by rw[fA hU hb];exact h1,h2,h3.under hU⟩
theorem pWA{w:World}{base:Nat}{e:TypeId}{l:Value}{row:List Sx}(h:w.ownsRow base e 3 l row.length (bE row)):∃ p cap,l = .slice p row.length cap∧row.length≤cap∧SxArg w p row:=by
 obtain⟨p,cap,rfl,h1⟩:=mBB h;refine⟨p,cap,rfl,?_,h1⟩;rcases h.2 with⟨e,h0⟩ | ⟨g,c,cur,e,_,_,h2,_⟩
 · rw[h0];exact Nat.zero_le _
 · cases e;exact h2
theorem mQA{w:World}{base:Nat}{e:TypeId}{vo:Value}{vs:List Value}{ls:List (List Sx)}(h:w.ownsRow base e 1 vo ls.length vs)(h':SxOwns w base vs ls):∃ p cap,vo = .slice p ls.length cap∧RowsArg w p ls:=by
 rcases h.2 with⟨rfl,h0⟩ | ⟨g,cap,cur,rfl,hb,hg,rest⟩
 · refine⟨none,0,by rw[h0],fun hne=>?_⟩;exact absurd (List.length_eq_zero_iff.1 h0) hne
 · refine⟨_,cap,rfl,fun _=>⟨g,0,rfl,(Array.getElem?_eq_some_iff.1 hg).1,fun k t ht=>?_⟩⟩;obtain⟨v,h1,h2⟩:=h'.at ht;obtain⟨q,c,rfl,h3,h4⟩:=pWA h2;rw[Nat.zero_add];exact⟨q,c,eD h rfl h1,h3,h4⟩
end
section
variable {w0 : World} {b off n cap k : Nat}
theorem oVA(init:List Sx)(x:Sx)(hn:init.length+1≤1000000)(hcap:init.length+1≤cap)(hb0:b < w0.heap.size)(ht:yRA w0 b off (init++[x])) :
 Calls Tryz.prog 69 #[.slice (some ⟨b,off,none⟩) (init.length+1) cap] w0 (tWA w0 (vM (init++[x]))):=by
 have hl:(init++[x]).length=init.length+1:=by simp
 have C1:=qZ (w0:=w0) (cap:=cap) (p:=some ⟨b,off,none⟩) (init++[x]) (by omega) (fun _=>⟨b,off,rfl,hb0,ht⟩);rw[hl]at C1;have C1:=aA C1;have C2:=aA (fun w1 (hU1:Under w0 w1)=>cBA (w0:=w1) (cap:=cap) (p:=some ⟨b,off,none⟩) init (by omega) (by omega) (SxArg.under (a:=w0) (fun _=>⟨b,off,rfl,hb0,fun k y hk=>ht k y (by rw[List.getElem?_append_left (List.getElem?_eq_some_iff.1 hk).1];exact hk)⟩) hU1));have c2:=(ht init.length x (by simp)).2.2;have N0:oC (init++[x]) 0 []=none→vM (init++[x])=none:=by
  intro h;rw[oO,h]
 have N1:∀ st,oC (init++[x]) 0 []=some st→st.length≠1→vM (init++[x])=none:=by
  intro st h hs;rw[oO,h]
  match st,hs with
  | [],_=>rfl
  | [_],h=>exact absurd rfl h
  | _::_::_,_=>rfl
 have N2:∀ st,oC (init++[x]) 0 []=some st→st.length=1→vM (init++[x])=if x.word.size=0 then iL init else none:=by
  intro st h hs;rw[oO,h]
  match st,hs with
  | [_],_=>rfl
 have N0:=aA N0;have N1:=aA N1;have N2:=aA N2;clear ht hl;generalize vM (init++[x])=PR at *;generalize oC (init++[x]) 0 []=R at *;have a1:(init.length:Int)≤cap:=by omega
 have a2:(init.length:Int) < (init.length:Int)+1:=by omega
 have a3:(0:Int)≤init.length:=by omega
 have a4:(init.length:Int)+1≤1000000:=by omega
 obtain⟨xm,xp,xw⟩:=x;simp only at c2 N2;go_enter Tryz.func69,Tryz.ntmps69;go_wp2_with fail;refine C1.out.mono ?_;rintro e w1 ⟨hU1,hR1⟩;rw[← fA hU1 hb0]at c2
 cases R with
 | none =>
   subst hR1;have HU1:=aA hU1;have N0':=aA (N0.out rfl);clear hU1 N0 N1 N2;go_wp2;go_ret2;rw[N0'.out];exact⟨HU1.out,rfl⟩
 | some st =>
   obtain⟨va,rfl,hown⟩:=hR1;obtain⟨g,gc,rfl,hg,hgb,hgl,_,_⟩:=dE hown (by omega);have HU1:=aA hU1;clear hU1 hown hg hgb hgl;by_cases hs:st.length=1
   · have N2' := aA (N2.out st rfl hs); clear N0 N1 N2 C1; rw [hs]; clear hs; by_cases hB : xw.size = 0
     · have e0 : xw = ⟨#[]⟩ := ByteArray.ext (Array.eq_empty_of_size_eq_zero hB); subst e0; clear hB; go_wp2_with fail; refine (C2.out w1 HU1.out).mono ?_; rintro e w2 ⟨hU2, hR2⟩; have hPR := N2'.out; simp only [show (⟨#[]⟩ : ByteArray).size = 0 from rfl, if_true] at hPR; subst hPR; generalize iL init = R2 at *
       cases R2 with
       | none =>
         subst hR2;have HU2:=aA hU2;clear hU2;go_wp2;go_ret2;exact⟨HU1.out.trans HU2.out,rfl⟩
       | some ls =>
         obtain⟨vo,vs,rfl,h1,h2⟩:=hR2;have HU2:=aA hU2;have H1:=aA h1;have H2:=aA h2;clear hU2 h1 h2;go_wp2;go_ret2;exact⟨HU1.out.trans HU2.out,vo,vs,rfl,wD H1.out HU1.out.size,H2.out.map fun v n xs h=>wD h HU1.out.size⟩
     · obtain⟨e1,e2⟩:=yG hB;have hPR:=N2'.out;rw[if_neg hB]at hPR;subst hPR;clear hB N2';go_wp2;go_ret2;exact⟨HU1.out,rfl⟩
   · have e1 : ((st.length : Int) + 1 != 2) = true := by simp; omega
     have N1':=aA (N1.out st rfl hs);clear N0 N1 N2 C1 C2 hs;go_wp2;go_ret2;rw[N1'.out];exact⟨HU1.out,rfl⟩
theorem lYA{p:Option Addr}:Calls Tryz.prog 69 #[.slice p 0 cap] w0 (tWA w0 none):=by
 have C1:=aA (qZ (w0:=w0) (cap:=cap) (p:=p) [] (by simp) (fun h=>absurd rfl h));have z:(([]:List Sx).length:Nat)=0:=rfl;go_enter Tryz.func69,Tryz.ntmps69;go_wp2_with fail;refine C1.out.mono ?_;rintro e w1 ⟨hU1,va,rfl,hown⟩;obtain⟨g,gc,rfl,hg,hgb,hgl,_,_⟩:=dE hown (by simp);have HU1:=aA hU1;clear hU1 hown hg hgb hgl;go_wp2;go_ret2;exact⟨HU1.out,rfl⟩
theorem tXA(row:List Sx){p:Option Addr}(hn:row.length≤1000000)(hcap:row.length≤cap)(hp:SxArg w0 p row) :
 Calls Tryz.prog 69 #[.slice p row.length cap] w0 (tWA w0 (vM row)):=by
 by_cases hne:row=[]
 · subst hne;exact lYA
 obtain⟨init,x,rfl⟩:∃ init x,row=init++[x]:=⟨row.dropLast,row.getLast hne,(List.dropLast_concat_getLast hne).symm⟩;obtain⟨b,off,rfl,hb0,ht⟩:=hp hne;rw[List.length_append]at hn hcap ⊢;exact oVA init x hn hcap hb0 ht
end
end Go.Proofs.YtggjbblgoddnjaaGreatDoor
namespace Go.Proofs.YtggjbblgoddnjaaGreatDoor
open Go.Lx Go.RowKit
theorem fEA{C:Nat→Prop}{w w':World}(h:Ch C w w'){b:Nat}(hb:b < w.heap.size)(hc:¬ C b)(j:Nat):w'.cell? ⟨b,j,none⟩=w.cell? ⟨b,j,none⟩:=by simp only[World.cell?,h.block b hb hc]
def eXA(C:Nat→Prop)(q:Option Addr):Prop:=∀ b off x,q=some ⟨b,off,x⟩→¬ C b
theorem e6A{C:Nat→Prop}{w w':World}{q:Option Addr}{row:List Sx}(h:SxArg w q row)(hC:Ch C w w')(ha:eXA C q):SxArg w' q row:=fun hne=>by
 obtain⟨b,off,rfl,hb,hc⟩:=h hne;refine⟨b,off,rfl,Nat.lt_of_lt_of_le hb hC.size,fun k x hk=>?_⟩;rw[fEA hC hb (ha b off none rfl),fEA hC hb (ha b off none rfl),fEA hC hb (ha b off none rfl)];exact hc k x hk
def iBB(C:Nat→Prop)(v:Value):Prop:=∀ q n c,v = .slice q n c→n≠0→eXA C q
def TsArg(C:Nat→Prop)(w:World)(q:Option Addr)(ts:List ST):Prop:=ts≠[]→∃ b off,q=some ⟨b,off,none⟩∧b < w.heap.size∧¬ C b ∧
 ∀ i T,ts[i]? = some T→∃ qi ci,w.cell? ⟨b,off+i,none⟩=some (.slice qi (fC T).length ci)∧(fC T).length≤ci∧SxArg w qi (fC T)∧eXA C qi
theorem TsArg.ch{C D:Nat→Prop}{w w':World}{q:Option Addr}{ts:List ST}(h:TsArg C w q ts)(hC:Ch C w w'):TsArg C w' q ts:=fun hne=>by
 obtain⟨b,off,rfl,hb,hn,hc⟩:=h hne;refine⟨b,off,rfl,Nat.lt_of_lt_of_le hb hC.size,hn,fun i T hi=>?_⟩;obtain⟨qi,ci,h1,h2,h3,h4⟩:=hc i T hi;exact⟨qi,ci,(fEA hC hb hn _).trans h1,h2,e6A h3 hC h4,h4⟩
def TgC(rb:Nat)(ov:Value)(nb:Nat)(b:Nat):Prop:=xU rb ov b∨b=nb
def kEB(T:ST):Prop:=∀(W0 w:World) (rb m1 m2:Nat) (cv dv ov:Value) (acc:List Nd) (p e:Int) (q:Option Addr) (cap:Nat) (bv:Value) (st cs ds:List ByteArray),
 okS T→(fC T).length≤20000→(fC T).length≤cap→(∀ x∈fC T,x.word.size≤1000000)→StrcAt W0→TextsV W0 cv cs→TextsV W0 dv ds→cs.length≤1000000→ds.length≤1000000→ReS W0 rb m1 m2 cv dv ov acc p e w →
 SxArg w q (fC T)→eXA (xU rb ov) q→TextsV w bv st→iBB (xU rb ov) bv→st.length+(fC T).length≤50000→acc.length+(fC T).length≤900000 →
 Calls Tryz.prog 126 #[.pointer (some ⟨rb,0,none⟩),.slice q (fC T).length cap,bv] w (ReOut W0 rb m1 m2 cv dv ov acc w (nT cs ds T st))
structure TgFix where
 (W0 wl:World) (rb m1 m2 nb:Nat) (cv dv ov bv:Value) (acc:List Nd) (st cs ds:List ByteArray) (ts:List ST) (parts:List UInt8) (q2:Option Addr) (c2:Nat) (R:Say)
structure TgS (F:TgFix) (k:Nat) (nms:List ByteArray) (wt:Bool) (x:Nd) (t:List Nd) (ov1:Value) (p1 e1:Int) (nv:Value) (w:World):Prop where
 re:ReS F.W0 F.rb F.m1 F.m2 F.cv F.dv ov1 (F.acc++t) p1 e1 w
 ch:Ch (TgC F.rb F.ov F.nb) F.wl w
 own:∀ b,b < F.wl.heap.size→ov1.ownBlock=some b→F.ov.ownBlock=some b
 nd:BoxAt w F.nb 112 (fJ x)
 row:w.ownsRow F.wl.heap.size 9 1 nv nms.length (nms.map .string)
 say:F.R=goS F.cs F.ds (iW wt (F.parts.drop k)) (F.ts.drop k) x nms F.st t
 nlen:nms.length≤k
 tlen:t.length≤(kC (F.ts.take k)).length
structure TgOk (F:TgFix):Prop where
 nlt:F.nb < F.wl.heap.size
 rlt:F.rb < F.wl.heap.size
 m1lt:F.m1 < F.wl.heap.size
 m2lt:F.m2 < F.wl.heap.size
 wlt:F.W0.heap.size≤F.wl.heap.size
 nrc:¬ xU F.rb F.ov F.nb
 lw:F.W0.heap.size≤F.nb
 arg:TsArg (TgC F.rb F.ov F.nb) F.wl F.q2 F.ts
 bound:TextsV F.wl F.bv F.st
 away:iBB (TgC F.rb F.ov F.nb) F.bv
 ok:oMA F.ts
 len:(kC F.ts).length≤20000
 stl:F.st.length+(kC F.ts).length≤50000
 accl:F.acc.length+(kC F.ts).length≤900000
 words:∀ x∈kC F.ts,x.word.size≤1000000
 csT:TextsV F.W0 F.cv F.cs
 dsT:TextsV F.W0 F.dv F.ds
 csl:F.cs.length≤1000000
 dsl:F.ds.length≤1000000
 strc:StrcAt F.W0
 plen:F.parts.length=F.ts.length
theorem wCB{D:Nat→Prop}{W0 w w':World}{rb m1 m2:Nat}{cv dv ov:Value}{acc:List Nd}{p e:Int}(h:ReS W0 rb m1 m2 cv dv ov acc p e w)(hc:Ch D w w')(h1:¬ D rb)(h2:¬ D m1)(h3:¬ D m2)(h4:∀ g,ov.ownBlock=some g→¬ D g)(h5:∀ b,D b→W0.heap.size≤b):ReS W0 rb m1 m2 cv dv ov acc p e w' :=
 ⟨kUA h.box hc h1,iV h.f hc h2,iV h.a hc h3,xJ h.row hc h4,jC h.und hc h5,h.lo⟩
theorem TgS.re_ch{F:TgFix}{k:Nat}{nms:List ByteArray}{wt:Bool}{x:Nd}{t:List Nd}{ov1 nv:Value}{p1 e1:Int}{w w':World}{D:Nat→Prop}(hF:TgOk F)(h:TgS F k nms wt x t ov1 p1 e1 nv w)(hc:Ch D w w')(hD:∀ i,D i→F.wl.heap.size≤i∧ov1.ownBlock≠some i) :
 ReS F.W0 F.rb F.m1 F.m2 F.cv F.dv ov1 (F.acc++t) p1 e1 w'∧Ch (TgC F.rb F.ov F.nb) F.wl w'∧BoxAt w' F.nb 112 (fJ x):=by
 have hlow:∀ i,i < F.wl.heap.size→¬ D i:=fun i hi hd=>by have:=(hD i hd).1;omega
 refine⟨wCB h.re hc (hlow _ hF.rlt) (hlow _ hF.m1lt) (hlow _ hF.m2lt) (fun g hg hd=>(hD g hd).2 hg) (fun b hb=>Nat.le_trans hF.wlt (hD b hb).1),h.ch.trans hc (fun i hi hd=>(hlow i hi hd).elim),kUA h.nd hc (hlow _ hF.nlt)⟩
theorem i9A{F:TgFix}(k:Nat)(hk:k < F.ts.length):(kC (F.ts.take k)).length≤(kC (F.ts.take (k+1))).length:=by
 rw[List.take_succ_eq_append_getElem hk,gY,List.length_append];omega
theorem TgS.name {F : TgFix} {k : Nat} {nms : List ByteArray} {wt wt' : Bool} {x : Nd} {t : List Nd} {ov1 nv v' : Value} {p1 e1 : Int} {w w' : World} {s : ByteArray} (hF : TgOk F) (hk : k < F.ts.length) (h : TgS F k nms wt x t ov1 p1 e1 nv w) (hc : Ch (fun i => nv.ownBlock = some i) w w')
    (hown:w'.ownsRow F.wl.heap.size 9 1 v' (nms.length+1) (nms.map .string++[.string s])) (hs:F.R=goS F.cs F.ds (iW wt' (F.parts.drop (k+1))) (F.ts.drop (k+1)) x (nms++[s]) F.st t):TgS F (k+1) (nms++[s]) wt' x t ov1 p1 e1 v' w':=by
  obtain ⟨h1, h2, h3⟩ := h.re_ch hF hc (fun i hi => ⟨(jB h.row hi).1, by
    rcases own_ne h.row h.re.row (by decide) with e | e
    · rw[e]at hi;cases hi
    · intro e2;exact e (hi.trans e2.symm)⟩)
  refine⟨h1,h2,h.own,h3,by rw[List.length_append,List.map_append];exact hown,hs,by rw[List.length_append];have:=h.nlen;simp;omega,Nat.le_trans h.tlen (i9A k hk)⟩
theorem zUA(pp:Int)(s:ByteArray):kEB (.word pp s):=by
 rintro W0 w rb m1 m2 cv dv ov acc p e q cap bv st cs ds hok hn hcap hw hE hcs hds hcn hdn hR hq ha hb hab hst hacc;have HLa:=aA (qKA (w0:=w) (.word pp s) (q:=q) (cap:=cap) (by omega) hq);have HR:=aA hR;have HB:=aA hb;have hs:s.size≠0:=hok;have hne:=(yG hs).1;have hne2:=(yG hs).2;have hwx:s.size≤1000000:=hw ⟨0,pp,s⟩ (by simp[fC]);rw[nT];have HWd:=aA (fun w1 (hU:Under w w1)=>aZA ⟨0,pp,s⟩ cs st (bv:=bv) hwx (hR.under hU) (hb.under hU) (by omega) (by omega) hcs hcn);have hl1:(fC (.word pp s)).length=1:=rfl;rw[hl1]at HLa ⊢;clear hR hb hq ha hab hst hacc hn hcap hw hok hl1 hcs hds;simp only[ST.last,sxV]at HLa;simp only[sxV]at HWd;go_enter Tryz.func126,Tryz.ntmps126;go_wp2_with fail;refine wp_scope_straight ?_;go_wp2_with fail;refine HLa.out.mono ?_;rintro e w1 ⟨rfl,hU1⟩;have HU1:=aA (bA hU1 (.cells #[.int .i64 0,.int .i64 pp,.string s] 28));have hZ:=rA w1 #[.int .i64 0,.int .i64 pp,.string s] 28;have z0:(w1.alloc (.cells #[.int .i64 0,.int .i64 pp,.string s] 28)).cell? ⟨w1.heap.size,0,none⟩=some (.int .i64 (0)):=hZ.cell 0;have z1:(w1.alloc (.cells #[.int .i64 0,.int .i64 pp,.string s] 28)).cell? ⟨w1.heap.size,1,none⟩=some (.int .i64 (pp)):=hZ.cell 1;have z2:(w1.alloc (.cells #[.int .i64 0,.int .i64 pp,.string s] 28)).cell? ⟨w1.heap.size,2,none⟩=some (.string s):=hZ.cell 2;have zl:=hZ.lt;have HZ:=aA hZ;have hw1:=hU1.size;clear hU1 HLa hZ;go_wp2_with fail;refine(HWd.out _ HU1.out).mono ?_;rintro e w2 hO;have HO:=aA (ReOut.back HU1.out hO);have hv:∃ b,e = .returned (.bool b):=by
  obtain⟨_,_,_,_,_,_,_,h⟩:=hO
  split at h
  · exact⟨_,h.1⟩
  · exact⟨_,h.1⟩
 obtain⟨b,rfl⟩:=hv;clear hO HWd;go_wp2;rw[Exit.noGoto_ret];go_ret;exact HO.out
theorem TsArg.more{C:Nat→Prop}{w:World}{q:Option Addr}{ts:List ST}{nb:Nat}(h:TsArg C w q ts)(hn:w.heap.size≤nb):TsArg (fun b=>C b∨b=nb) w q ts:=fun hne=>by
 obtain⟨b,off,rfl,hb,hnC,hc⟩:=h hne;refine⟨b,off,rfl,hb,fun e=>e.elim hnC (fun e=>by omega),fun i T hi=>?_⟩;obtain⟨qi,ci,h1,h2,h3,h4⟩:=hc i T hi;refine⟨qi,ci,h1,h2,h3,fun b' off' x e=>?_⟩;have hp:=hCA T;obtain⟨b2,off2,e',hb',_⟩:=h3 (fun e=>by rw[e]at hp;exact absurd hp (Nat.lt_irrefl _));rw[e]at e'
 cases e';exact fun e2=>e2.elim (h4 _ _ _ e) (fun e2=>by omega)
theorem TsArg.tail{C:Nat→Prop}{w:World}{b off:Nat}{a:ST}{ts:List ST}(h:TsArg C w (some ⟨b,off,none⟩) (a::ts)):TsArg C w (some ⟨b,off+1,none⟩) ts:=fun hne=>by
 obtain⟨b',off',e,hb,hnC,hc⟩:=h (by simp)
 cases e;refine⟨b,off+1,rfl,hb,hnC,fun i T hi=>?_⟩;obtain⟨qi,ci,h1,h2⟩:=hc (i+1) T (by simpa using hi);exact⟨qi,ci,by rw[show off+1+i=off+(i+1) by omega];exact h1,h2⟩
def ints(l:List Int):List Value:=l.map fun n=>.int .i64 n
def lY(n:Int):Bool := !(decide (n < 0)||decide (9 < n))
def nX : Nat → List Int → Int
  | _,[] => -1
  | i,n::l=>if lY n=false then i else nX (i+1) l
theorem iUA{l:List Int}{k:Nat}{c:Int}(h:l[k]? = some c):nX k (l.drop k)=if lY c=false then(k:Int) else nX (k+1) (l.drop (k+1)):=by
 obtain⟨hk,hc⟩:=List.getElem?_eq_some_iff.1 h;rw[List.drop_eq_getElem_cons hk,hc];rfl
theorem i1A:∀(l:List Int) (i:Nat),decide (0≤nX i l) = !(l.all lY):=by
 intro l
 induction l with
 | nil=>intro i;simp[nX]
 | cons n l ih =>
   intro i;have e:nX i (n::l)=if lY n=false then(i:Int) else nX (i+1) l:=rfl
   by_cases h:lY n=false
   · simp only[e,List.all_cons,h];simp
   · simp only[e,if_neg h,List.all_cons,ih];simp at h;rw[h];simp
theorem jLA(l:List Int)(p:Option Addr)(c:Nat)(w:World)(hl:l.length≤maxLen)(hp:RowArg w p (ints l)) :
 Calls Tryz.prog 206 #[.slice p l.length c,.func (.func 200) #[] #[]] w fun e w'=>e = .returned (.int .i64 (nX 0 l))∧w=w':=by
 unfold maxLen at hl;have HP:=aA hp;clear hp;go_enter Tryz.func206,Tryz.ntmps206;go_wp2
 go_loop [8] (fun i=>∃ k:Nat,k≤l.length∧i = .int .i64 k∧nX 0 l=nX k (l.drop k)) (fun i=>l.length - (intOf i).toNat)
 case atStart=>exact⟨0,Nat.zero_le _,rfl,by simp⟩
 case round =>
   obtain⟨k,hk,rfl,hN⟩:=hrel;have HN:=aA hN;clear hN;by_cases hlt:k < l.length
   · have hc := iUA (l := l) (k := k) (c := l[k]) (List.getElem?_eq_getElem hlt); have HC := aA hc; clear hc; obtain ⟨b, off, rfl, hb, hcs⟩ := HP.out (by rw [Ne, ints, List.map_eq_nil_iff]; intro e; rw [e] at hlt; simp at hlt); have cc := hcs k (.int .i64 l[k]) (by simp [ints, List.getElem?_eq_getElem hlt]); clear hcs; generalize hx : l[k] = x at *; clear hx; by_cases h1 : x < 0
     · go_wp2;go_ret;exact⟨kG (by rw[HN.out,HC.out,if_pos (by simp[lY,h1])]),rfl⟩
     · by_cases h2 : 9 < x
       · go_wp2;go_ret;exact⟨kG (by rw[HN.out,HC.out,if_pos (by simp[lY,h2])]),rfl⟩
       · go_wp2
         go_round
         case rel=>exact⟨k+1,by omega,by go_num,by rw[HN.out,HC.out,if_neg (by simp[lY];omega)]⟩
         case measure=>simp[intOf];omega
   · go_wp2;go_ret;exact⟨kG (by rw[HN.out,List.drop_eq_nil_of_le (by omega)];rfl),rfl⟩
theorem vVA(l:List Int)(p:Option Addr)(c:Nat)(w:World)(hl:l.length≤maxLen)(hp:RowArg w p (ints l)) :
 Calls Tryz.prog 199 #[.slice p l.length c,.func (.func 200) #[] #[]] w fun e w'=>e = .returned (.bool (!l.all lY))∧w=w':=by
 have hb:=i1A l 0;have HB:=aA hb;clear hb;go_enter Tryz.func199,Tryz.ntmps199;go_wp2_with (go_at_call 206;refine(jLA l p c _ hl hp).mono ?_;rintro e w' ⟨rfl,rfl⟩);go_ret;exact⟨mI HB.out,rfl⟩
theorem n7A(l:List Int)(p:Option Addr)(c:Nat)(w:World)(hl:l.length≤maxLen)(hp:RowArg w p (ints l)) :
 Calls Tryz.prog 193 #[.slice p l.length c] w fun e w'=>e = .returned (.bool (l.all lY))∧w=w':=by
 go_enter Tryz.func193,Tryz.ntmps193;go_wp2_with (go_at_call 199;refine(vVA l p c _ hl hp).mono ?_;rintro e w' ⟨rfl,rfl⟩);go_ret;exact⟨mI (by simp),rfl⟩
def qUA(n:Int):Int:=if lY n then 0 else 1
theorem vGA(n:Int)(w:World) :
 Calls Tryz.prog 189 #[.int .i64 n] w fun e w'=>e = .returned (.int .i64 (qUA n))∧Under w w':=by
 have hc:=n7A [n] (some ⟨w.heap.size,0,none⟩) 1 (w.alloc (.cells #[.int .i64 n] 3)) (by unfold maxLen;simp) (by simpa [ints] using cO w (ints [n]) 3 (0,0));have e:[n].all lY=lY n:=by simp
 rw[e]at hc;have HC:=aA hc;clear hc e;unfold qUA;by_cases h:lY n
 all_goals
  go_enter Tryz.func189,Tryz.ntmps189;go_wp2_with (go_at_call 193;refine HC.out.mono ?_;rintro e w' ⟨rfl,rfl⟩);go_ret;exact⟨by simp,bA (Under.refl _) _⟩
theorem pGA(k:Int)(w:World):Calls Tryz.prog 190 #[.int .i64 k] w fun e w'=>e = .returned (.int .i64 (tV k))∧w=w':=by
 unfold tV;by_cases h0:k=0<;>by_cases h3:k=3<;>by_cases h6:k=6
 all_goals try omega
 all_goals
  go_enter Tryz.func190,Tryz.ntmps190;go_wp2;go_ret;exact⟨kG (by simp[*]),rfl⟩
theorem p3A(x:Nd)(w:World)(hS:ShapesAt 3 w)(hr:zA x=true):Calls Tryz.prog 182 #[ndV x] w fun e w'=>e = .returned (.int .i64 ((binds x).length:Nat))∧Under w w':=by
 obtain⟨k,n,m,s⟩:=x;unfold ndV binds;obtain⟨h0,h1⟩:=pV hr;have hm:=vR hr;obtain⟨p,c,c0,_⟩:=hS.row k.toNat (by simp at h0 h1;omega);simp only at *;by_cases h26:k=26
 · have:=hm (.inl h26);go_enter Tryz.func182,Tryz.ntmps182;go_wp2;go_ret;exact⟨kG (by omega),bA (Under.refl _) _⟩
 by_cases h27:k=27
 · have:=hm (.inr h27);go_enter Tryz.func182,Tryz.ntmps182;go_wp2;go_ret;exact⟨kG (by omega),bA (Under.refl _) _⟩
 have hb:=hS.lt;clear hm hr hS;go_enter Tryz.func182,Tryz.ntmps182;go_wp2;go_ret;exact⟨kG (by simp),bA (Under.refl _) _⟩
theorem vBB(k:Nat):(fN k=true∧fM k=false∧fS k=false∧(k=0∨k=2∨k=3∨k=6))∨(fN k=false∧fM k=false∧fS k=true∧(k=1∨k=25))∨(fN k=true∧fM k=true∧fS k=true∧k=26)∨(fN k=false∧fM k=true∧fS k=true∧k=27) ∨
    (fN k=false∧fM k=false∧fS k=false∧k≠2∧k≠26∧k≠27):=by
  simp only[fN,fM,fS,List.contains_iff_mem,Bool.eq_false_iff,ne_eq,List.mem_cons,List.not_mem_nil,or_false];omega
theorem jL(s:ByteArray):s.toList.isEmpty=decide (s.size=0):=by
 rw[ByteArray.toList_eq,← ByteArray.size_data]
 cases h:s.data.toList with
 | nil=>simp[← Array.length_toList,h]
 | cons a b=>simp[← Array.length_toList,h]
structure RightAt (k n m:Int) (s:ByteArray) (w:World) (a b c:Bool):Prop where
 k0:0≤k
 k1:k < 30
 hs:s.size≤maxLen
 lt:3 < w.heap.size
 row:∃ p q,w.cell? ⟨3,k.toNat * 4,none⟩=some (.slice p (jH k.toNat).length q)
 c1:w.cell? ⟨3,k.toNat * 4+1,none⟩=some (.bool a)
 c2:w.cell? ⟨3,k.toNat * 4+2,none⟩=some (.bool b)
 c3:w.cell? ⟨3,k.toNat * 4+3,none⟩=some (.bool c)
 e1:fN k.toNat=a
 e2:fM k.toNat=b
 e3:fS k.toNat=c
theorem RightAt.val{k n m:Int}{s:ByteArray}{w:World}{a b c:Bool}(H:RightAt k n m s w a b c):zA ⟨k,n,m,s⟩ =
    if(!a&&(n != 0))=true then false else if(!b&&(m != 0))=true then false else if(!c && !s.toList.isEmpty)=true then false else if(c && !uD s)=true then false
    else if(k==2)=true then decide (0≤n)&&decide (n≤9) else if(k==26)=true then decide (0≤n)&&decide (n≤5)&&decide (0≤m)&&decide (m≤6) else if(k==27)=true then decide (0≤m)&&decide (m≤6) else !a||(decide (0≤n)&&decide (n≤tV k)):=by
  have e1:=H.e1;have e2:=H.e2;have e3:=H.e3;have h0:=H.k0;have h1:=H.k1;unfold zA;simp only;rw[if_neg (by omega),e1,e2,e3,jL]
  cases a<;>cases b<;>cases c<;>simp
theorem zMA(k:Int)(h:(k==26)=true)(w:World):Calls Tryz.prog 190 #[.int .i64 k] w fun e w'=>e = .returned (.int .i64 5)∧w=w':=by
 have:tV k=5:=by simp at h;subst h;rfl
 have hc:=pGA k w;rw[this]at hc;exact hc
section
variable {k n m : Int} {s : ByteArray} {w : World}
theorem yXA(H:RightAt k n m s w true false false)(h26:(k==26)=false)(h27:(k==27)=false):Calls Tryz.prog 179 #[ndV ⟨k,n,m,s⟩] w fun e w'=>e = .returned (.bool (zA ⟨k,n,m,s⟩))∧Under w w':=by
 have HV:=aA H.val;obtain⟨hk0,hk1,hs,hb,⟨p,q,c0⟩,c1,c2,c3,e1,e2,e3⟩:=H;clear e1 e2 e3;unfold ndV
 cases hm:(m != 0)
 · cases he : s.toList.isEmpty
   · rw[show zA ⟨k,n,m,s⟩=false from HV.out.trans (by simp[*])];clear HV;go_enter Tryz.func179,Tryz.ntmps179;go_wp2;go_ret;exact⟨rfl,(by first | exact bA (bA (Under.refl _) _) _ | exact bA (bA (bA (Under.refl _) _) _) _ | exact bB (bA (bA (Under.refl _) _) _) _)⟩
   · cases h2 : (k == 2)
     · cases hn : decide (0 ≤ n)
       · rw[show zA ⟨k,n,m,s⟩=false from HV.out.trans (by simp[*])];clear HV;go_enter Tryz.func179,Tryz.ntmps179;go_wp2;go_quiet ((go_at_call 190;exact Calls.quiet_of_same ((pGA _ _).mono fun _ _ h=>⟨h.1,h.2.symm⟩)));go_wp2;go_ret;exact⟨rfl,bB (bA (bA (Under.refl _) _) _) _⟩
       · rw[show zA ⟨k,n,m,s⟩=decide (n≤tV k) from HV.out.trans (by simp[*])];clear HV;go_enter Tryz.func179,Tryz.ntmps179;go_wp2;go_quiet ((go_at_call 190;exact Calls.quiet_of_same ((pGA _ _).mono fun _ _ h=>⟨h.1,h.2.symm⟩)));go_wp2;go_ret;exact⟨rfl,bB (bA (bA (Under.refl _) _) _) _⟩
     · rw [show zA ⟨k, n, m, s⟩ = (decide (0 ≤ n) && decide (n ≤ 9)) from HV.out.trans (by simp [*])]; clear HV; go_enter Tryz.func179, Tryz.ntmps179; go_wp2_with fail; refine (vGA n _).mono ?_; rintro e w' ⟨rfl, hU⟩; have HU := aA hU; clear hU; unfold qUA lY; go_wp2
       all_goals
        go_ret;exact⟨mI (by simp[*]<;>omega),(bA (bA (Under.refl _) _) _).trans HU.out⟩
 · rw[show zA ⟨k,n,m,s⟩=false from HV.out.trans (by simp[*])];clear HV;go_enter Tryz.func179,Tryz.ntmps179;go_wp2;go_ret;exact⟨rfl,(by first | exact bA (bA (Under.refl _) _) _ | exact bA (bA (bA (Under.refl _) _) _) _ | exact bB (bA (bA (Under.refl _) _) _) _)⟩
theorem vYA(H:RightAt k n m s w false false true)(h2:(k==2)=false)(h26:(k==26)=false)(h27:(k==27)=false):Calls Tryz.prog 179 #[ndV ⟨k,n,m,s⟩] w fun e w'=>e = .returned (.bool (zA ⟨k,n,m,s⟩))∧Under w w':=by
 have HV:=aA H.val;obtain⟨hk0,hk1,hs,hb,⟨p,q,c0⟩,c1,c2,c3,e1,e2,e3⟩:=H;clear e1 e2 e3;unfold ndV
 cases hn:(n != 0)
 · cases hm : (m != 0)
   · cases hnm : uD s
     · rw[show zA ⟨k,n,m,s⟩=false from HV.out.trans (by simp[*])];clear HV;go_enter Tryz.func179,Tryz.ntmps179;go_wp2_with (go_at_call 82;refine(vI s _ hs).mono ?_;rintro e w' ⟨rfl,rfl⟩;try rw[hnm]);go_ret;exact⟨rfl,(by first | exact bA (bA (Under.refl _) _) _ | exact bA (bA (bA (Under.refl _) _) _) _ | exact bB (bA (bA (Under.refl _) _) _) _)⟩
     · rw[show zA ⟨k,n,m,s⟩=true from HV.out.trans (by simp[*])];clear HV;go_enter Tryz.func179,Tryz.ntmps179;go_wp2_with (go_at_call 82;refine(vI s _ hs).mono ?_;rintro e w' ⟨rfl,rfl⟩;try rw[hnm]);go_quiet (fail);go_wp2;go_ret;exact⟨rfl,(by first | exact bA (bA (Under.refl _) _) _ | exact bA (bA (bA (Under.refl _) _) _) _ | exact bB (bA (bA (Under.refl _) _) _) _)⟩
   · rw[show zA ⟨k,n,m,s⟩=false from HV.out.trans (by simp[*])];clear HV;go_enter Tryz.func179,Tryz.ntmps179;go_wp2;go_ret;exact⟨rfl,(by first | exact bA (bA (Under.refl _) _) _ | exact bA (bA (bA (Under.refl _) _) _) _ | exact bB (bA (bA (Under.refl _) _) _) _)⟩
 · rw[show zA ⟨k,n,m,s⟩=false from HV.out.trans (by simp[*])];clear HV;go_enter Tryz.func179,Tryz.ntmps179;go_wp2;go_ret;exact⟨rfl,(by first | exact bA (bA (Under.refl _) _) _ | exact bA (bA (bA (Under.refl _) _) _) _ | exact bB (bA (bA (Under.refl _) _) _) _)⟩
theorem nXA(H:RightAt k n m s w true true true)(h2:(k==2)=false)(h26:(k==26)=true):Calls Tryz.prog 179 #[ndV ⟨k,n,m,s⟩] w fun e w'=>e = .returned (.bool (zA ⟨k,n,m,s⟩))∧Under w w':=by
 have HV:=aA H.val;obtain⟨hk0,hk1,hs,hb,⟨p,q,c0⟩,c1,c2,c3,e1,e2,e3⟩:=H;clear e1 e2 e3;unfold ndV
 cases hnm:uD s
 · rw[show zA ⟨k,n,m,s⟩=false from HV.out.trans (by simp[*])];clear HV;go_enter Tryz.func179,Tryz.ntmps179;go_wp2_with (go_at_call 82;refine(vI s _ hs).mono ?_;rintro e w' ⟨rfl,rfl⟩;try rw[hnm]);go_ret;exact⟨rfl,(by first | exact bA (bA (Under.refl _) _) _ | exact bA (bA (bA (Under.refl _) _) _) _ | exact bB (bA (bA (Under.refl _) _) _) _)⟩
 · cases hn : decide (0 ≤ n)
   · rw[show zA ⟨k,n,m,s⟩=false from HV.out.trans (by simp[*])];clear HV;go_enter Tryz.func179,Tryz.ntmps179;go_wp2_with (go_at_call 82;refine(vI s _ hs).mono ?_;rintro e w' ⟨rfl,rfl⟩;try rw[hnm]);go_quiet ((go_at_call 190;exact Calls.quiet_of_same ((zMA _ (by assumption) _).mono fun _ _ h=>⟨h.1,h.2.symm⟩)));go_wp2;go_ret;exact⟨rfl,(by first | exact bA (bA (Under.refl _) _) _ | exact bA (bA (bA (Under.refl _) _) _) _ | exact bB (bA (bA (Under.refl _) _) _) _)⟩
   · cases hn5 : decide (n ≤ 5)
     · rw[show zA ⟨k,n,m,s⟩=false from HV.out.trans (by simp[*])];clear HV;go_enter Tryz.func179,Tryz.ntmps179;go_wp2_with (go_at_call 82;refine(vI s _ hs).mono ?_;rintro e w' ⟨rfl,rfl⟩;try rw[hnm]);go_quiet ((go_at_call 190;exact Calls.quiet_of_same ((zMA _ (by assumption) _).mono fun _ _ h=>⟨h.1,h.2.symm⟩)));go_wp2;go_ret;exact⟨rfl,(by first | exact bA (bA (Under.refl _) _) _ | exact bA (bA (bA (Under.refl _) _) _) _ | exact bB (bA (bA (Under.refl _) _) _) _)⟩
     · cases hm0 : decide (0 ≤ m)
       · rw[show zA ⟨k,n,m,s⟩=false from HV.out.trans (by simp[*])];clear HV;go_enter Tryz.func179,Tryz.ntmps179;go_wp2_with (go_at_call 82;refine(vI s _ hs).mono ?_;rintro e w' ⟨rfl,rfl⟩;try rw[hnm]);go_quiet ((go_at_call 190;exact Calls.quiet_of_same ((zMA _ (by assumption) _).mono fun _ _ h=>⟨h.1,h.2.symm⟩)));go_wp2;go_ret;exact⟨rfl,(by first | exact bA (bA (Under.refl _) _) _ | exact bA (bA (bA (Under.refl _) _) _) _ | exact bB (bA (bA (Under.refl _) _) _) _)⟩
       · rw[show zA ⟨k,n,m,s⟩=decide (m≤6) from HV.out.trans (by simp[*])];clear HV;go_enter Tryz.func179,Tryz.ntmps179;go_wp2_with (go_at_call 82;refine(vI s _ hs).mono ?_;rintro e w' ⟨rfl,rfl⟩;try rw[hnm]);go_quiet ((go_at_call 190;exact Calls.quiet_of_same ((zMA _ (by assumption) _).mono fun _ _ h=>⟨h.1,h.2.symm⟩)));go_wp2;go_ret;exact⟨rfl,(by first | exact bA (bA (Under.refl _) _) _ | exact bA (bA (bA (Under.refl _) _) _) _ | exact bB (bA (bA (Under.refl _) _) _) _)⟩
theorem cYA(H:RightAt k n m s w false true true)(h2:(k==2)=false)(h26:(k==26)=false)(h27:(k==27)=true):Calls Tryz.prog 179 #[ndV ⟨k,n,m,s⟩] w fun e w'=>e = .returned (.bool (zA ⟨k,n,m,s⟩))∧Under w w':=by
 have HV:=aA H.val;obtain⟨hk0,hk1,hs,hb,⟨p,q,c0⟩,c1,c2,c3,e1,e2,e3⟩:=H;clear e1 e2 e3;unfold ndV
 cases hn:(n != 0)
 · cases hnm : uD s
   · rw[show zA ⟨k,n,m,s⟩=false from HV.out.trans (by simp[*])];clear HV;go_enter Tryz.func179,Tryz.ntmps179;go_wp2_with (go_at_call 82;refine(vI s _ hs).mono ?_;rintro e w' ⟨rfl,rfl⟩;try rw[hnm]);go_ret;exact⟨rfl,(by first | exact bA (bA (Under.refl _) _) _ | exact bA (bA (bA (Under.refl _) _) _) _ | exact bB (bA (bA (Under.refl _) _) _) _)⟩
   · cases hm0 : decide (0 ≤ m)
     · rw[show zA ⟨k,n,m,s⟩=false from HV.out.trans (by simp[*])];clear HV;go_enter Tryz.func179,Tryz.ntmps179;go_wp2_with (go_at_call 82;refine(vI s _ hs).mono ?_;rintro e w' ⟨rfl,rfl⟩;try rw[hnm]);go_ret;exact⟨rfl,(by first | exact bA (bA (Under.refl _) _) _ | exact bA (bA (bA (Under.refl _) _) _) _ | exact bB (bA (bA (Under.refl _) _) _) _)⟩
     · rw[show zA ⟨k,n,m,s⟩=decide (m≤6) from HV.out.trans (by simp[*])];clear HV;go_enter Tryz.func179,Tryz.ntmps179;go_wp2_with (go_at_call 82;refine(vI s _ hs).mono ?_;rintro e w' ⟨rfl,rfl⟩;try rw[hnm]);go_ret;exact⟨rfl,(by first | exact bA (bA (Under.refl _) _) _ | exact bA (bA (bA (Under.refl _) _) _) _ | exact bB (bA (bA (Under.refl _) _) _) _)⟩
 · rw[show zA ⟨k,n,m,s⟩=false from HV.out.trans (by simp[*])];clear HV;go_enter Tryz.func179,Tryz.ntmps179;go_wp2;go_ret;exact⟨rfl,(by first | exact bA (bA (Under.refl _) _) _ | exact bA (bA (bA (Under.refl _) _) _) _ | exact bB (bA (bA (Under.refl _) _) _) _)⟩
theorem oXA(H:RightAt k n m s w false false false)(h2:(k==2)=false)(h26:(k==26)=false)(h27:(k==27)=false):Calls Tryz.prog 179 #[ndV ⟨k,n,m,s⟩] w fun e w'=>e = .returned (.bool (zA ⟨k,n,m,s⟩))∧Under w w':=by
 have HV:=aA H.val;obtain⟨hk0,hk1,hs,hb,⟨p,q,c0⟩,c1,c2,c3,e1,e2,e3⟩:=H;clear e1 e2 e3;unfold ndV
 cases hn:(n != 0)
 · cases hm : (m != 0)
   · cases he : s.toList.isEmpty
     · rw[show zA ⟨k,n,m,s⟩=false from HV.out.trans (by simp[*])];clear HV;go_enter Tryz.func179,Tryz.ntmps179;go_wp2;go_ret;exact⟨rfl,(by first | exact bA (bA (Under.refl _) _) _ | exact bA (bA (bA (Under.refl _) _) _) _ | exact bB (bA (bA (Under.refl _) _) _) _)⟩
     · rw[show zA ⟨k,n,m,s⟩=true from HV.out.trans (by simp[*])];clear HV;go_enter Tryz.func179,Tryz.ntmps179;go_wp2;go_quiet (fail);go_wp2;go_ret;exact⟨rfl,bB (bA (bA (Under.refl _) _) _) _⟩
   · rw[show zA ⟨k,n,m,s⟩=false from HV.out.trans (by simp[*])];clear HV;go_enter Tryz.func179,Tryz.ntmps179;go_wp2;go_ret;exact⟨rfl,(by first | exact bA (bA (Under.refl _) _) _ | exact bA (bA (bA (Under.refl _) _) _) _ | exact bB (bA (bA (Under.refl _) _) _) _)⟩
 · rw[show zA ⟨k,n,m,s⟩=false from HV.out.trans (by simp[*])];clear HV;go_enter Tryz.func179,Tryz.ntmps179;go_wp2;go_ret;exact⟨rfl,(by first | exact bA (bA (Under.refl _) _) _ | exact bA (bA (bA (Under.refl _) _) _) _ | exact bB (bA (bA (Under.refl _) _) _) _)⟩
end
theorem qR(x:Nd)(w:World)(hs:x.s.size≤maxLen)(hS:ShapesAt 3 w):Calls Tryz.prog 179 #[ndV x] w fun e w'=>e = .returned (.bool (zA x))∧Under w w':=by
 obtain⟨k,n,m,s⟩:=x;simp only at *;by_cases hk:k < 0
 · rw[show zA ⟨k,n,m,s⟩=false by simp[zA,hk]];unfold ndV;go_enter Tryz.func179,Tryz.ntmps179;go_wp2;go_ret;exact⟨rfl,bA (Under.refl _) _⟩
 by_cases hk2:30≤k
 · rw[show zA ⟨k,n,m,s⟩=false by simp[zA,hk2]];unfold ndV;go_enter Tryz.func179,Tryz.ntmps179;go_wp2;go_ret;exact⟨rfl,bA (Under.refl _) _⟩
 obtain⟨p,c,c0,_,_,c1,c2,c3⟩:=hS.row k.toNat (by omega);have hR:RightAt k n m s w (fN k.toNat) (fM k.toNat) (fS k.toNat):=⟨by omega,by omega,hs,hS.lt,⟨p,c,c0⟩,c1,c2,c3,rfl,rfl,rfl⟩;rcases vBB k.toNat with⟨e1,e2,e3,hc⟩ | ⟨e1,e2,e3,hc⟩ | ⟨e1,e2,e3,hc⟩ | ⟨e1,e2,e3,hc⟩ | ⟨e1,e2,e3,hc⟩<;>rw[e1,e2,e3]at hR
 · exact yXA hR (by simp;omega) (by simp;omega)
 · exact vYA hR (by simp;omega) (by simp;omega) (by simp;omega)
 · exact nXA hR (by simp;omega) (by simp;omega)
 · exact cYA hR (by simp;omega) (by simp;omega) (by simp;omega)
 · exact oXA hR (by simp;omega) (by simp;omega) (by simp;omega)
def aD : List (Nat × Nat) → List Value
  | []=>[]
  | x::l=>.int .i64 (x.1:Int) :: .int .i64 (x.2:Int)::aD l
theorem bJ(l r:List (Nat×Nat)):aD (l++r)=aD l++aD r:=by
 induction l with
 | nil=>rfl
 | cons x l ih=>simp[aD,ih]
theorem qQ(l:List (Nat×Nat)):(aD l).length=l.length * 2:=by
 induction l with
 | nil=>rfl
 | cons x l ih=>simp[aD,ih];omega
theorem zS : ∀ {l : List (Nat × Nat)} {k : Nat} {x : Nat × Nat}, l[k]? = some x → (aD l)[k * 2]? = some (.int .i64 (x.1 : Int)) ∧ (aD l)[k * 2 + 1]? = some (.int .i64 (x.2 : Int))
  | y::l,0,x,h=>by cases h;exact⟨rfl,rfl⟩
  | y :: l, k + 1, x, h => by
    have:=zS (l:=l) (k:=k) (x:=x) (by simpa using h);rw[show(k+1) * 2=k * 2+2 by omega];exact this
theorem Tryz.info256:(Tryz.prog.info? 256).map (fun i=>(i.zero,i.size,i.bytes))=some (some (.agg #[.int .i64 0,.int .i64 0]),2,16):=by kernel_rfl
theorem yLA{l:List (Nat×Nat)}{i k:Nat}(h:∀ y∈l,y.2≤k):(meas i l).2≤k+1:=by
 have:∀(l:List (Nat×Nat)) (d:Nat),d≤k+1→(∀ y∈l,y.2≤k)→l.foldl (fun d x=>max d (x.2+1)) d≤k+1:=by
  intro l
  induction l with
  | nil=>intro d hd _;exact hd
  | cons x l ih =>
    intro d hd hl;have:=hl x (List.mem_cons_self ..);exact ih _ (show max d (x.2+1)≤k+1 by omega) fun y hy=>hl y (List.mem_cons_of_mem _ hy)
 exact this l 1 (by omega) h
structure MI (w0:World) (t:List Nd) (va vo:Value) (k:Nat) (all op:List (Nat×Nat)) (w:World):Prop where
 all_:w.ownsRow w0.heap.size 256 2 va all.length (aD all)
 op_:w.ownsRow w0.heap.size 256 2 vo op.length (aD op)
 ne:va.ownBlock=none∨va.ownBlock≠vo.ownBlock
 low:Under w0 w
 res:yC (t.drop k) k all op=yC t 0 [] []
 al:all.length=k
 ol:op.length≤k
 dp:∀ y∈op,y.2≤k
def mYA(w0:World)(t:List Nd)(e:Ending)(w:World):Prop :=
 match yC t 0 [] [] with
 | none=>e = .returned (.tuple #[.slice none 0 0,.bool false])∧Under w0 w
 | some (all,op)=>∃ v,e = .returned (.tuple #[v,.bool (decide ((op.length:Int)=1))])∧w.ownsRow w0.heap.size 256 2 v all.length (aD all)∧Under w0 w
noncomputable def sQ:Code:=Tryz.f166.body.getD .skip
noncomputable def bR:Code:=dB (qA (qA sQ))
noncomputable def msRound:Code:=fD (fD (qA bR))
noncomputable def r8A:Code:=dB (qA (qA (qA (qA (fD (dB (qA (qA msRound))))))))
noncomputable def miRound:Code:=fD (fD (qA r8A))
def sH(l va vo:Value)(n k:Nat)(J:Nat→Value):Array Value:=#[l,J 1,J 2,J 3,va,vo,J 6,J 7,J 8,J 9,J 10,J 11,l,.int .i64 (n:Int),.int .i64 (k:Int),J 15,J 16,J 17,J 18,J 19,J 20,J 21,J 22,J 23,J 24,J 25,J 26,J 27,J 28,J 29,J 30,J 31,J 32,J 33,J 34,J 35,J 36,J 37,J 38,J 39,J 40,J 41,J 42,J 43,J 44,J 45,J 46,J 47,J 48,J 49,J 50,J 51,J 52,J 53,J 54,J 55,J 56,J 57,J 58,J 59,J 60,J 61,J 62,J 63,J 64,J 65,J 66,J 67,J 68,J 69,J 70,J 71,J 72]
def gI(l va vo:Value)(n k kk b9:Nat)(vs:Value)(bl j:Nat)(J:Nat→Value):Array Value :=
 #[l, J 1, J 2, J 3, va, vo, J 6, J 7, .int .i64 (kk : Int), .pointer (some ⟨b9, 0, none⟩), J 10, J 11, l, .int .i64 (n : Int), .int .i64 (k : Int), J 15, J 16, J 17, J 18, J 19, J 20, J 21, J 22, J 23, J 24, J 25, J 26, J 27, J 28, J 29, J 30, J 31, J 32, J 33, J 34, J 35, J 36, J 37, vs, .int .i64 (bl : Int), .int .i64 (j : Int), J 41, J 42, J 43, J 44, J 45, J 46, J 47, J 48, J 49, J 50, J 51, J 52, J 53, J 54, J 55, J 56, J 57, J 58, J 59, J 60, J 61, J 62, J 63, J 64, J 65, J 66, J 67, J 68, J 69, J 70, J 71, J 72]
def MIn(W1:World)(l va vo:Value)(n k kk b9:Nat)(vs:Value)(bl j:Nat)(f d:Nat)(a:Act)(w:World):Prop :=
 ∃ J,a=⟨gI l va vo n k kk b9 vs bl j J,[]⟩∧Under W1 w∧BoxAt w b9 256 #[.int .i64 (f:Int),.int .i64 (d:Int)]
def lDB(W1:World)(l va vo:Value)(n k kk b9:Nat)(vs:Value)(bl j:Nat)(f d:Nat)(e:Exit)(a:Act)(w:World):Prop:=e = .exit 2∧MIn W1 l va vo n k kk b9 vs bl j f d a w
theorem qDB{w:World}{b:Nat}{t:TypeId}{a:Value}{y y':Int}(h:BoxAt w b t #[a,.int .i64 y])(e:y=y'):BoxAt w b t #[a,.int .i64 y']:=e▸h
section
variable {W1 : World} {l va vo : Value} {n k kk b9 bl j f d : Nat}
theorem t8A{vs:Value}(J:Nat→Value)(w:World)(hU:Under W1 w)(hB:BoxAt w b9 256 #[.int .i64 (f:Int),.int .i64 (d:Int)]) :
 miRound.wp Tryz.prog (Exit.then (fun _ _=>False) (lDB W1 l va vo n k kk b9 vs bl bl f d)) ⟨gI l va vo n k kk b9 vs bl bl J,[]⟩ w:=by
 have HU:=aA hU;have HB:=aA hB;clear hU hB;unfold miRound r8A msRound bR sQ;simp only[Tryz.f166,Option.getD_some,dB,qA,fD];unfold gI;go_wp2;exact⟨rfl,eB (F:=gI _ va vo n k kk b9 vs bl bl) (by rfl) ⟨HU.out,HB.out⟩⟩
theorem gCB {b off c : Nat} {x : Nat × Nat} (hj : j < bl) (hbl : bl ≤ 8) (h9 : W1.heap.size ≤ b9) (J : Nat → Value) (w : World) (hU : Under W1 w) (hB : BoxAt w b9 256 #[.int .i64 (f : Int), .int .i64 (d : Int)])
    (hx2:x.2≤4000) (hb:b < W1.heap.size) (c0:W1.cell? ⟨b,off+j * 2,none⟩=some (.int .i64 (x.1:Int))) (c1:W1.cell? ⟨b,off+j * 2+1,none⟩=some (.int .i64 (x.2:Int))) :
    miRound.wp Tryz.prog (Exit.then (MIn W1 l va vo n k kk b9 (.slice (some ⟨b,off,none⟩) bl c) bl (j+1) (if j=0 then x.1 else f) (max d (x.2+1))) (fun _ _ _=>False)) ⟨gI l va vo n k kk b9 (.slice (some ⟨b,off,none⟩) bl c) bl j J,[]⟩ w:=by
  rw[← fA hU hb]at c0 c1;have hb':=Nat.lt_of_lt_of_le hb hU.size;have e0:=hB.cell 0;have e1:=hB.cell 1;have f0:=hB.free 0;have f1:=hB.free 1;have h9':=hB.lt;have hj':(j:Int) < bl:=by omega
  have hj1:(0:Int)≤j:=Int.natCast_nonneg _;have hj2:(j:Int)≤8:=by omega
  have hx3:(x.2:Int)≤4000:=by omega
  have hx4:(0:Int)≤x.2:=Int.natCast_nonneg _;have HU:=aA hU;have HB:=aA hB;clear hU hB;by_cases hz:j=0
  · rw [if_pos hz]; subst hz; rw [Nat.zero_mul, Nat.add_zero] at c0 c1; unfold miRound r8A msRound bR sQ; simp only [Tryz.f166, Option.getD_some, dB, qA, fD]; unfold gI; go_wp2
    all_goals exact eB (F:=gI _ va vo n k kk b9 _ bl (0+1)) (by rfl) ⟨bA (bC (bC HU.out h9 _ _) h9 _ _) _,(qDB ((HB.out.set _ _).set _ _) (by omega)).alloc _⟩
  · rw [if_neg hz]; have hz' : (0 : Int) < j := by omega
    clear hz;unfold miRound r8A msRound bR sQ;simp only[Tryz.f166,Option.getD_some,dB,qA,fD];unfold gI;go_wp2
    all_goals exact eB (F:=gI _ va vo n k kk b9 _ bl (j+1)) (by rfl) ⟨bA (bC HU.out h9 _ _) _,(qDB (HB.out.set _ _) (by omega)).alloc _⟩
def fZ(l:List (Nat×Nat))(j:Nat):Nat:=(l.take j).foldl (fun d x=>max d (x.2+1)) 1
theorem rNA{l:List (Nat×Nat)}{j:Nat}{x:Nat×Nat}(h:l[j]? = some x):fZ l (j+1)=max (fZ l j) (x.2+1):=by
 obtain⟨hj,rfl⟩:=List.getElem?_eq_some_iff.1 h;unfold fZ;rw[List.take_succ_eq_append_getElem hj,List.foldl_append];rfl
theorem nCA (ls : List (Nat × Nat)) {p : Option Addr} {c i : Nat} (hbl : ls.length ≤ 8) (h9 : W1.heap.size ≤ b9) (hx : ∀ x ∈ ls, x.2 ≤ 4000) (hp : RowArg W1 p (aD ls)) (m : Nat) (a : Act) (w : World)
    (h0:∃ j,m+j=ls.length∧MIn W1 l va vo n k kk b9 (.slice p ls.length c) ls.length j (if j=0 then i else(ls.headD (i,0)).1) (fZ ls j) a w) :
    (Code.loop miRound).wp Tryz.prog (lDB W1 l va vo n k kk b9 (.slice p ls.length c) ls.length ls.length (meas i ls).1 (meas i ls).2) a w:=by
  refine wp_loop_ghost (fun m a w=>∃ j,m+j=ls.length∧MIn W1 l va vo n k kk b9 (.slice p ls.length c) ls.length j (if j=0 then i else(ls.headD (i,0)).1) (fZ ls j) a w) m h0 ?_;clear h0;rintro m a w ⟨j,hmj,J,rfl,hU,hB⟩;by_cases hjn:j=ls.length
  · subst hjn; have e1 : (if ls.length = 0 then i else (ls.headD (i, 0)).1) = (meas i ls).1 := by cases ls <;> simp [meas]
    have e2:fZ ls ls.length=(meas i ls).2:=by unfold fZ meas;rw[List.take_length]
    rw[e1,e2]at hB;refine wp_mono (t8A J w hU hB) ?_;rintro e a' w' h
    cases e with
    | normal=>exact h.elim
    | _=>exact h
  have hlt:j < ls.length:=by omega
  obtain⟨b,off,rfl,hb,hc⟩:=hp (fun e=>by have:=congrArg List.length e;rw[qQ,List.length_nil]at this;omega);obtain⟨c0,c1⟩:=zS (List.getElem?_eq_getElem hlt);refine wp_mono (gCB hlt hbl h9 J w hU hB (hx _ (List.getElem_mem hlt)) hb (hc _ _ c0) (hc _ _ c1)) ?_;rintro e a' w' h
  cases e with
  | normal =>
    refine⟨m - 1,by omega,j+1,by omega,?_⟩;rw[rNA (List.getElem?_eq_getElem hlt),if_neg (by omega)];have e1:(ls.headD (i,0)).1=if j=0 then ls[j].1 else(if j=0 then i else(ls.headD (i,0)).1):=by
     by_cases hz:j=0
     · subst hz; rw [if_pos rfl]
       cases ls with
       | nil=>simp at hlt
       | cons x ls=>rfl
     · rw[if_neg hz,if_neg hz]
    rw[e1];exact h
  | _=>exact h.elim
end
section
variable {w0 : World} {t : List Nd} {b off c n k : Nat} {va vo : Value} {all op : List (Nat × Nat)}
def nWA(w0:World)(t:List Nd)(l:Value)(n k:Nat)(a:Act)(w:World):Prop:=∃ va vo all op J,a=⟨sH l va vo n k J,[]⟩∧MI w0 t va vo k all op w
def o6A(v:Value)(b:Bool)(J:Nat→Value):Array Value:=#[J 0,J 1,v,.bool b,J 4,J 5,J 6,J 7,J 8,J 9,J 10,J 11,J 12,J 13,J 14,J 15,J 16,J 17,J 18,J 19,J 20,J 21,J 22,J 23,J 24,J 25,J 26,J 27,J 28,J 29,J 30,J 31,J 32,J 33,J 34,J 35,J 36,J 37,J 38,J 39,J 40,J 41,J 42,J 43,J 44,J 45,J 46,J 47,J 48,J 49,J 50,J 51,J 52,J 53,J 54,J 55,J 56,J 57,J 58,J 59,J 60,J 61,J 62,J 63,J 64,J 65,J 66,J 67,J 68,J 69,J 70,J 71,J 72]
def wDB(w0:World)(e:Exit)(a:Act)(w:World):Prop:=e = .ret∧∃ J,a=⟨o6A (.slice none 0 0) false J,[]⟩∧Under w0 w
theorem nBB {x : Nd} (hk : k < n) (hn : n ≤ 4000) (hx : t[k]? = some x) (hbad : zA x = false ∨ op.length < (binds x).length) (J : Nat → Value) (w : World) (hM : MI w0 t va vo k all op w)
    (hR:∀ w1,Under w0 w1→Calls Tryz.prog 179 #[ndV x] w1 fun e w'=>e = .returned (.bool (zA x))∧Under w1 w')
    (hN:zA x=true→∀ w1,Under w0 w1→Calls Tryz.prog 182 #[ndV x] w1 fun e w'=>e = .returned (.int .i64 ((binds x).length:Nat))∧Under w1 w')
    (hb:b < w0.heap.size) (c0:w0.cell? ⟨b,off+k * 4,none⟩=some (.int .i64 x.k)) (c1:w0.cell? ⟨b,off+k * 4+1,none⟩=some (.int .i64 x.n)) (c2:w0.cell? ⟨b,off+k * 4+2,none⟩=some (.int .i64 x.m)) (c3:w0.cell? ⟨b,off+k * 4+3,none⟩=some (.string x.s)) :
    msRound.wp Tryz.prog (Exit.then (fun _ _=>False) (wDB w0)) ⟨sH (.slice (some ⟨b,off,none⟩) n c) va vo n k J,[]⟩ w:=by
  rw[← fA hM.low hb]at c0 c1 c2 c3;have hb':=Nat.lt_of_lt_of_le hb hM.low.size;obtain⟨q,co,rfl,_,_⟩:=RowArg.of_own hM.op_;have HB:=aA (rA w #[.int .i64 x.k,.int .i64 x.n,.int .i64 x.m,.string x.s] 112);have HU:=aA (bA hM.low (.cells #[.int .i64 x.k,.int .i64 x.n,.int .i64 x.m,.string x.s] 112));have HC:=aA (hR _ HU.out);have hk':(k:Int) < n:=by omega
  have hk0:(0:Int)≤k:=Int.natCast_nonneg _;have hol:op.length≤4000:=by have:=hM.ol;omega
  clear hM hR hk hx;by_cases hr:zA x=true
  · have hl : op.length < (binds x).length := by rcases hbad with h | h; · rw [hr] at h; cases h
                                                 · exact h
    have hl':(op.length:Int) < ((binds x).length:Nat):=by omega
    have HN:=aA (hN hr);rw[hr]at HC;clear hbad hl hr hN;unfold msRound bR sQ;simp only[Tryz.f166,Option.getD_some,dB,qA,fD];unfold sH;go_wp2_with fail;refine HC.out.mono ?_;rintro e w1 ⟨rfl,hU1⟩;have hB1:=HB.out.under hU1;have e0:=hB1.cell 0;have e1:=hB1.cell 1;have e2:=hB1.cell 2;have e3:=hB1.cell 3;have hlt1:=hB1.lt;have HU1:=aA hU1;have HM1:=aA (HN.out w1 (HU.out.trans hU1));clear hU1 hB1;go_wp2_with fail;refine HM1.out.mono ?_;rintro e w2 ⟨rfl,hU2⟩;have HU2:=aA hU2;clear hU2 e0 e1 e2 e3;go_wp2;exact⟨rfl,eB (F:=o6A _ false) (by rfl) ((HU.out.trans HU1.out).trans HU2.out)⟩
  · have hr' : zA x = false := by simpa using hr
    rw[hr']at HC;clear hbad hr hr' hN;unfold msRound bR sQ;simp only[Tryz.f166,Option.getD_some,dB,qA,fD];unfold sH;go_wp2_with fail;refine HC.out.mono ?_;rintro e w1 ⟨rfl,hU1⟩;have HU1:=aA hU1;clear hU1;go_wp2;exact⟨rfl,eB (F:=o6A _ false) (by rfl) (HU.out.trans HU1.out)⟩
def cBB(w0:World)(t:List Nd)(l:Value)(n:Nat)(e:Exit)(a:Act)(w:World):Prop:=e = .exit 0∧nWA w0 t l n n a w
theorem nAB{l:Value}(J:Nat→Value)(w:World)(hM:MI w0 t va vo n all op w) :
 msRound.wp Tryz.prog (Exit.then (fun _ _=>False) (cBB w0 t l n)) ⟨sH l va vo n n J,[]⟩ w:=by
 have HM:=aA hM;clear hM;unfold msRound bR sQ;simp only[Tryz.f166,Option.getD_some,dB,qA,fD];unfold sH;go_wp2;exact⟨rfl,va,vo,all,op,eB (F:=sH _ va vo n n) (by rfl) HM.out⟩
end
section
variable {w0 : World} {t : List Nd} {b off c n k : Nat} {va vo : Value} {all op : List (Nat × Nat)}
theorem eHA(l:List (Nat×Nat))(k:Nat):aD (l.drop k)=(aD l).drop (k * 2):=by
 induction k generalizing l with
 | zero=>simp
 | succ k ih => cases l with
   | nil=>simp[aD]
   | cons x l=>rw[List.drop_succ_cons,ih,show(k+1) * 2=k * 2+2 by omega];rfl
theorem xO(l:List (Nat×Nat))(k:Nat):aD (l.take k)=(aD l).take (k * 2):=by
 induction k generalizing l with
 | zero=>simp[aD]
 | succ k ih => cases l with
   | nil=>simp[aD]
   | cons x l=>rw[List.take_succ_cons,show(k+1) * 2=k * 2+2 by omega];simp[aD,ih]
inductive OpenAt (vo : Value) (kk bl : Nat) : Prop
  | nil (h:vo = .slice none 0 0) (hk:kk=0) (hb:bl=0)
  | full (g:Nat) (h:vo = .slice (some ⟨g,0,none⟩) kk kk) (hb:bl=0)
  | some (g co:Nat) (h:vo = .slice (some ⟨g,0,none⟩) (kk+bl) co) (hc:kk+bl≤co) (hk:kk < co) (hco:co≤maxLen)
theorem wBB {x : Nd} {kk bl : Nat} (hk : k < n) (hn : n ≤ 4000) (hx : t[k]? = some x) (hr : zA x = true) (hbl : (binds x).length = bl) (hkk : op.length = kk + bl) (hd : ∀ y ∈ op, y.2 ≤ 4000) (J : Nat → Value) (w : World) (hM : MI w0 t va vo k all op w)
    (hR:∀ w1,Under w0 w1→Calls Tryz.prog 179 #[ndV x] w1 fun e w'=>e = .returned (.bool true)∧Under w1 w')
    (hN:∀ w1,Under w0 w1→Calls Tryz.prog 182 #[ndV x] w1 fun e w'=>e = .returned (.int .i64 (bl:Nat))∧Under w1 w')
    (hb:b < w0.heap.size) (c0:w0.cell? ⟨b,off+k * 4,none⟩=some (.int .i64 x.k)) (c1:w0.cell? ⟨b,off+k * 4+1,none⟩=some (.int .i64 x.n)) (c2:w0.cell? ⟨b,off+k * 4+2,none⟩=some (.int .i64 x.m)) (c3:w0.cell? ⟨b,off+k * 4+3,none⟩=some (.string x.s)) :
    msRound.wp Tryz.prog (Exit.then (nWA w0 t (.slice (some ⟨b,off,none⟩) n c) n (k+1)) (fun _ _ _=>False)) ⟨sH (.slice (some ⟨b,off,none⟩) n c) va vo n k J,[]⟩ w:=by
  obtain⟨i0,hi,hz0,hz1,hz2⟩:=info_parts Tryz.info256;rw[← fA hM.low hb]at c0 c1 c2 c3;have hb':=Nat.lt_of_lt_of_le hb hM.low.size;have hO:OpenAt vo kk bl:=by
   rcases hM.op_.2 with⟨rfl,h0⟩ | ⟨g,co,cur,rfl,hgb,hgg,hle,hml,_⟩
   · exact .nil rfl (by omega) (by omega)
   · rw [hkk] at hle ⊢; by_cases hc : kk < co
     · exact .some g co rfl hle hc hml
     · obtain rfl : bl = 0 := by omega
       obtain rfl:co=kk:=by omega
       exact .full g rfl rfl
  have HB:=aA (rA w #[.int .i64 x.k,.int .i64 x.n,.int .i64 x.m,.string x.s] 112);have HU:=aA (bA hM.low (.cells #[.int .i64 x.k,.int .i64 x.n,.int .i64 x.m,.string x.s] 112));have HC:=aA (hR _ HU.out);have HN:=aA hN;have HM:=aA hM;have HK:=aA hkk;have HD:=aA hd;have hk':(k:Int) < n:=by omega
  have hk0:(0:Int)≤k:=Int.natCast_nonneg _;have hol:kk+bl≤4000:=by have:=hM.ol;omega
  have hbl8:bl≤8:=by have:=aM hr;omega
  have HX:=aA hx;have HR:=aA hr;have HBL:=aA hbl;clear hM hR hN hk hkk hd hx hr hbl;rcases hO with⟨rfl,rfl,rfl⟩ | ⟨g,rfl,rfl⟩ | ⟨g,co,rfl,hc,hkc,hco⟩
  · unfold msRound bR sQ; simp only [Tryz.f166, Option.getD_some, dB, qA, fD]; unfold sH; go_wp2_with fail; refine HC.out.mono ?_; rintro e w1 ⟨rfl, hU1⟩; have hB1 := HB.out.under hU1; have e0 := hB1.cell 0; have e1 := hB1.cell 1; have e2 := hB1.cell 2; have e3 := hB1.cell 3; have hlt1 := hB1.lt; have HU1 := aA hU1; have HB1 := aA hB1; have HM1 := aA (HN.out w1 (HU.out.trans hU1)); clear hU1 hB1; go_wp2_with fail; refine HM1.out.mono ?_; rintro e w2 ⟨rfl, hU2⟩; have hB2 := HB1.out.under hU2; have HU2 := aA hU2; have HM2 := aA (HN.out w2 ((HU.out.trans HU1.out).trans hU2)); clear e0 e1 e2 e3; have e0 := hB2.cell 0; have e1 := hB2.cell 1; have e2 := hB2.cell 2; have e3 := hB2.cell 3; have hlt2 := hB2.lt; clear hU2 hB2; go_wp2_with fail; refine HM2.out.mono ?_; rintro e w3 ⟨rfl, hU3⟩; have HU3 := aA hU3; clear e0 e1 e2 e3 hU3; go_wp2; rename_i K hK; have hUw3 := ((HU.out.trans HU1.out).trans HU2.out).trans HU3.out; have hUw := ((bA (Under.refl w) (.cells #[.int .i64 x.k, .int .i64 x.n, .int .i64 x.m, .string x.s] 112)).trans HU1.out).trans (HU2.out.trans HU3.out); have hls : (op.drop 0).length = 0 := by have := HK.out; rw [List.length_drop]; omega
    have hA3 := uA HM.out.all_ hUw; have HL := fun p1 c1 => nCA (W1 := w3) (l := .slice (some ⟨b, off, none⟩) n c) (va := va) (vo := .slice none 0 0) (n := n) (k := k) (kk := 0) (b9 := w3.heap.size) (op.drop 0) (p := p1) (c := c1) (i := k) (by omega) (Nat.le_refl _) (fun y hy => HD.out y (List.mem_of_mem_drop hy))
      (fun hne=>absurd (List.eq_nil_of_length_eq_zero (by rw[qQ,hls])) hne)
    simp only[hls]at HL;refine wp_mono (HL _ _ 0 _ _ ⟨0,by omega,eB (F:=gI _ _ _ _ _ _ _ _ 0 0) (by rfl) ⟨bA (Under.refl _) _,rA w3 _ _⟩⟩) ?_;rintro e a' w4 ⟨rfl,J',rfl,hU4,hB4⟩;simp only[Exit.inBlock,if_pos,Exit.then];refine hK _ _ ?_;clear hK HL;have hm4:meas k (op.drop 0)=meas k (op.drop 0):=rfl;generalize hf:(meas k (op.drop 0)).1=f at hB4;generalize hd:(meas k (op.drop 0)).2=d at hB4;have hO4:=World.ownsRow_nil w4 w0.heap.size 256 2;have hA4:=uA hA3 hU4;have e0:=hB4.cell 0;have e1:=hB4.cell 1;have h9:=hB4.lt;have hb4:=Nat.le_trans hUw3.size hU4.size;have hu4:=hUw3.trans hU4;have hmx:0+1≤maxLen:=by simp only[maxLen];omega
    have hby:(0+1) * 16≤140737488355328:=by omega
    have HM4 := aA hm4; have HF := aA hf; have HDd := aA hd; have HO4 := aA hO4; have HA4 := aA hA4; have HU4 := aA hu4; have HB4 := aA hB4; clear hm4 hf hd hO4 hA4 hu4 hB4 hA3 hUw hUw3 hls hU4; unfold gI; go_wp2_with fail; go_region_held3 (fun w' => w'.cell? ⟨w3.heap.size, 0, none⟩ = some (.int .i64 (f : Int)) ∧ w'.cell? ⟨w3.heap.size, 1, none⟩ = some (.int .i64 (d : Int)))
      (first
        | go_keep
        | (go_split_ands
           refine⟨?_,?_⟩
           · (rw[hgrow.cell_far _ (by simp;omega) (by simp[Value.ownBlock]<;>omega)];assumption)
           · (rw[hgrow.cell_far _ (by simp;omega) (by simp[Value.ownBlock]<;>omega)];assumption)))
      ((refine step_append_lies _ (by rfl) _ _ _ (by rfl) w0.heap.size 256 i0 _ 2 16 Tryz.underlying226 hi hz0 hz1 hz2 rfl (by omega) (.slice none 0 0) 0 [] (by rfl) ((HO4.out.alloc _).drew)
          ⟨w4.heap.size,0,none⟩ 1 1 [.int .i64 (f:Int),.int .i64 (d:Int)] (by rfl) (by rfl) (World.news_of_block (cs:=#[.int .i64 (f:Int),.int .i64 (d:Int)]) (t:=256) (fr:=(0,0)) (rA w4 _ _)) (by simp[Value.oneCell'])
          (by omega) hmx hby (by simp;omega) (w4.heap.size+1) (by simp) ?_;intro gg cc w5 hown5 hgrow hat hlt))
    have hne5:va.ownBlock=none∨va.ownBlock≠(Value.slice none 0 0).ownBlock:=HM.out.ne;have hA5:=vE ((HA4.out.alloc _).drew) hgrow hne5;have hB5:=((HB4.out.alloc _).drew).grown hgrow (by simp[Value.ownBlock]<;>omega);have hU5:=xA (nA (bA HU4.out _)) hgrow (fun g' e=>by cases e);clear e0 e1;have e0:=hB5.cell 0;have e1:=hB5.cell 1;have h95:=hB5.lt;have hz5:=hU5.size;have hgg:va.ownBlock=none∨va.ownBlock≠some gg:=by
     rcases hat with e | rfl
     · rw[← e];exact hne5
     · cases hv : va.ownBlock with
       | none=>exact .inl rfl
       | some g'=>right;intro e;cases e;have:=(jB HA4.out hv).2;omega
    have hk4:all.length+1≤maxLen:=by have:=HM.out.al;simp only[maxLen];omega
    have hb4:(all.length+1) * 16≤140737488355328:=by have:=HM.out.al;omega
    have HA5:=aA hA5;have HU5:=aA hU5;have HO5:=aA hown5;have HG:=aA hgg;clear hA5 hB5 hU5 hown5 hgg hne5 hat hgrow;go_wp2_with (at_builtin;refine wpList_append_own_at _ rfl _ _ 226 rfl w0.heap.size 256 i0 _ 2 16 Tryz.underlying226 hi hz0 hz1 hz2 rfl (by decide) _ _ _ rfl (HA5.out.alloc _) ⟨w5.heap.size,0,none⟩ 1 1 [.int .i64 (f:Int),.int .i64 (d:Int)] rfl rfl ?c1 ?c2 hk4 hb4 ?c5 ?_)
    case c1 =>
      intro j u hj
      match j,hj with
      | 0,hj=>cases hj;simp[Addr.add]
      | 1,hj=>cases hj;simp[Addr.add]
    case c2=>intro u hu;simp at hu;rcases hu with rfl | rfl<;>rfl
    case c5=>simp;omega
    intro v' w6 hown6 hgrow6 hnil6 hat6; have hO6 := vE (HO5.out.alloc (.cells #[.int .i64 (f : Int), .int .i64 (d : Int)] 256)) hgrow6 (by
      rcases HG.out with e | e
      · right;rw[e];simp[Value.ownBlock]
      · right;exact fun e'=>e e'.symm)
    have hne6:v'.ownBlock=none∨v'.ownBlock≠(Value.slice (some ⟨gg,0,none⟩) (0+1) cc).ownBlock:=by
     rcases hat6 with e | e
     · rw[e];exact HG.out
     · right;rw[e];have:=hlt;simp[Value.ownBlock];omega
    have hU6:=xA (bA HU5.out (.cells #[.int .i64 (f:Int),.int .i64 (d:Int)] 256)) hgrow6 (fun g' e=>(jB HA5.out e).1);have HM6:MI w0 t v' (.slice (some ⟨gg,0,none⟩) (0+1) cc) (k+1) (all++[(f,d)]) (op.take 0++[(f,d)]) w6:=by
     have htl:(op.take 0++[(f,d)]).length=0+1:=by rw[List.length_append,List.length_take,HK.out];simp
     refine ⟨by rw [List.length_append, bJ]; exact hown6, by rw [htl, bJ, xO]; exact hO6, hne6, hU6, ?_, by rw [List.length_append, HM.out.al]; rfl, by rw [htl]; have := HM.out.ol; rw [HK.out] at this; omega, fun y hy => by
       rcases List.mem_append.1 hy with h | h
       · have:=HM.out.dp y (List.mem_of_mem_take h);omega
       · rw[List.mem_singleton.1 h];show d≤k+1;rw[← HDd.out];exact yLA fun y hy=>HM.out.dp y (List.mem_of_mem_drop hy)⟩
     rw[← HM.out.res];obtain⟨hkt,hx⟩:=List.getElem?_eq_some_iff.1 HX.out;rw[List.drop_eq_getElem_cons hkt,hx]
     show _=if zA x=false∨op.length < (binds x).length then none else yC (t.drop (k+1)) (k+1) (all++[meas k (op.drop (op.length - (binds x).length))]) (op.take (op.length - (binds x).length)++[meas k (op.drop (op.length - (binds x).length))])
     have e:op.length - (binds x).length=0:=by have h1:=HK.out;have h2:=HBL.out;omega
     have e':meas k (op.drop 0)=(f,d):=Prod.ext HF.out HDd.out;rw[if_neg (by rw[HR.out,HK.out,HBL.out];simp),e,e']
    have HM7:=aA HM6;clear hO6 hne6 hU6 HM6 hown6 hgrow6 hnil6 hat6;go_wp2;exact⟨v',_,_,_,eB (F:=sH _ v' _ n (k+1)) (by rfl) HM7.out⟩
  · unfold msRound bR sQ; simp only [Tryz.f166, Option.getD_some, dB, qA, fD]; unfold sH; have i1 : (0 : Int) ≤ kk := Int.natCast_nonneg _; have i3 : (kk : Int) ≤ 4000 := by omega
    go_wp2_with fail;refine HC.out.mono ?_;rintro e w1 ⟨rfl,hU1⟩;have hB1:=HB.out.under hU1;have e0:=hB1.cell 0;have e1:=hB1.cell 1;have e2:=hB1.cell 2;have e3:=hB1.cell 3;have hlt1:=hB1.lt;have HU1:=aA hU1;have HB1:=aA hB1;have HM1:=aA (HN.out w1 (HU.out.trans hU1));clear hU1 hB1;go_wp2_with fail;refine HM1.out.mono ?_;rintro e w2 ⟨rfl,hU2⟩;have hB2:=HB1.out.under hU2;have HU2:=aA hU2;have HM2:=aA (HN.out w2 ((HU.out.trans HU1.out).trans hU2));clear e0 e1 e2 e3;have e0:=hB2.cell 0;have e1:=hB2.cell 1;have e2:=hB2.cell 2;have e3:=hB2.cell 3;have hlt2:=hB2.lt;clear hU2 hB2;go_wp2_with fail;refine HM2.out.mono ?_;rintro e w3 ⟨rfl,hU3⟩;have HU3:=aA hU3;clear e0 e1 e2 e3 hU3;go_wp2;rename_i K hK;have hUw3:=((HU.out.trans HU1.out).trans HU2.out).trans HU3.out;have hUw:=((bA (Under.refl w) (.cells #[.int .i64 x.k,.int .i64 x.n,.int .i64 x.m,.string x.s] 112)).trans HU1.out).trans (HU2.out.trans HU3.out);have hls:(op.drop kk).length=0:=by have:=HK.out;rw[List.length_drop];omega
    have hO3 := uA HM.out.op_ hUw; rw [HK.out] at hO3; have hA3 := uA HM.out.all_ hUw; have hgl : g < w3.heap.size := (jB hO3 rfl).2; have HL := fun p1 c1 => nCA (W1 := w3) (l := .slice (some ⟨b, off, none⟩) n c) (va := va) (vo := .slice (some ⟨g, 0, none⟩) kk kk) (n := n) (k := k) (kk := kk) (b9 := w3.heap.size) (op.drop kk) (p := p1) (c := c1) (i := k) (by omega) (Nat.le_refl _) (fun y hy => HD.out y (List.mem_of_mem_drop hy))
      (fun hne=>absurd (List.eq_nil_of_length_eq_zero (by rw[qQ,hls])) hne)
    simp only[hls]at HL;refine wp_mono (HL _ _ 0 _ _ ⟨0,by omega,eB (F:=gI _ _ _ _ _ _ _ _ 0 0) (by rfl) ⟨bA (Under.refl _) _,rA w3 _ _⟩⟩) ?_;rintro e a' w4 ⟨rfl,J',rfl,hU4,hB4⟩;simp only[Exit.inBlock,if_pos,Exit.then];refine hK _ _ ?_;clear hK HL;have hm4:meas k (op.drop kk)=meas k (op.drop kk):=rfl;generalize hf:(meas k (op.drop kk)).1=f at hB4;generalize hd:(meas k (op.drop kk)).2=d at hB4;have hO4:=pQ (uA hO3 hU4) (m:=kk) (Nat.le_refl kk);have hA4:=uA hA3 hU4;have e0:=hB4.cell 0;have e1:=hB4.cell 1;have h9:=hB4.lt;have hgl4:=Nat.lt_of_lt_of_le hgl hU4.size;have hb4:=Nat.le_trans hUw3.size hU4.size;have hu4:=hUw3.trans hU4;have hmx:kk+1≤maxLen:=by simp only[maxLen];omega
    have hby:(kk+1) * 16≤140737488355328:=by omega
    have hgne:g≠w3.heap.size:=by omega
    have HM4 := aA hm4; have HF := aA hf; have HDd := aA hd; have HO4 := aA hO4; have HA4 := aA hA4; have HU4 := aA hu4; have HB4 := aA hB4; clear hm4 hf hd hO4 hA4 hu4 hB4 hO3 hA3 hUw hUw3 hls hU4; unfold gI; go_wp2_with fail; go_region_held3 (fun w' => w'.cell? ⟨w3.heap.size, 0, none⟩ = some (.int .i64 (f : Int)) ∧ w'.cell? ⟨w3.heap.size, 1, none⟩ = some (.int .i64 (d : Int)))
      (first
        | go_keep
        | (go_split_ands
           refine⟨?_,?_⟩
           · (rw[hgrow.cell_far _ (by simp;omega) (by simp[Value.ownBlock]<;>omega)];assumption)
           · (rw[hgrow.cell_far _ (by simp;omega) (by simp[Value.ownBlock]<;>omega)];assumption)))
      ((refine step_append_lies _ (by rfl) _ _ _ (by rfl) w0.heap.size 256 i0 _ 2 16 Tryz.underlying226 hi hz0 hz1 hz2 rfl (by omega) (.slice (some ⟨g, 0, none⟩) kk kk) kk ((aD op).take (kk * 2)) (by rfl) ((HO4.out.alloc _).drew)
          ⟨w4.heap.size,0,none⟩ 1 1 [.int .i64 (f:Int),.int .i64 (d:Int)] (by rfl) (by rfl) (World.news_of_block (cs:=#[.int .i64 (f:Int),.int .i64 (d:Int)]) (t:=256) (fr:=(0,0)) (rA w4 _ _)) (by simp[Value.oneCell'])
          (by omega) hmx hby (by simp;omega) (w4.heap.size+1) (by simp) ?_;intro gg cc w5 hown5 hgrow hat hlt))
    have hne5:va.ownBlock=none∨va.ownBlock≠(Value.slice (some ⟨g,0,none⟩) kk kk).ownBlock:=HM.out.ne;have hA5:=vE ((HA4.out.alloc _).drew) hgrow hne5;have hB5:=((HB4.out.alloc _).drew).grown hgrow (by simp[Value.ownBlock]<;>omega);have hU5:=xA (nA (bA HU4.out _)) hgrow (fun g' e=>(jB HO4.out e).1);clear e0 e1;have e0:=hB5.cell 0;have e1:=hB5.cell 1;have h95:=hB5.lt;have hz5:=hU5.size;have hgg:va.ownBlock=none∨va.ownBlock≠some gg:=by
     rcases hat with e | rfl
     · rw[← e];exact hne5
     · cases hv : va.ownBlock with
       | none=>exact .inl rfl
       | some g'=>right;intro e;cases e;have:=(jB HA4.out hv).2;omega
    have hk4:all.length+1≤maxLen:=by have:=HM.out.al;simp only[maxLen];omega
    have hb4:(all.length+1) * 16≤140737488355328:=by have:=HM.out.al;omega
    have HA5:=aA hA5;have HU5:=aA hU5;have HO5:=aA hown5;have HG:=aA hgg;clear hA5 hB5 hU5 hown5 hgg hne5 hat hgrow;go_wp2_with (at_builtin;refine wpList_append_own_at _ rfl _ _ 226 rfl w0.heap.size 256 i0 _ 2 16 Tryz.underlying226 hi hz0 hz1 hz2 rfl (by decide) _ _ _ rfl (HA5.out.alloc _) ⟨w5.heap.size,0,none⟩ 1 1 [.int .i64 (f:Int),.int .i64 (d:Int)] rfl rfl ?c1 ?c2 hk4 hb4 ?c5 ?_)
    case c1 =>
      intro j u hj
      match j,hj with
      | 0,hj=>cases hj;simp[Addr.add]
      | 1,hj=>cases hj;simp[Addr.add]
    case c2=>intro u hu;simp at hu;rcases hu with rfl | rfl<;>rfl
    case c5=>simp;omega
    intro v' w6 hown6 hgrow6 hnil6 hat6; have hO6 := vE (HO5.out.alloc (.cells #[.int .i64 (f : Int), .int .i64 (d : Int)] 256)) hgrow6 (by
      rcases HG.out with e | e
      · right;rw[e];simp[Value.ownBlock]
      · right;exact fun e'=>e e'.symm)
    have hne6:v'.ownBlock=none∨v'.ownBlock≠(Value.slice (some ⟨gg,0,none⟩) (kk+1) cc).ownBlock:=by
     rcases hat6 with e | e
     · rw[e];exact HG.out
     · right;rw[e];have:=hlt;simp[Value.ownBlock];omega
    have hU6:=xA (bA HU5.out (.cells #[.int .i64 (f:Int),.int .i64 (d:Int)] 256)) hgrow6 (fun g' e=>(jB HA5.out e).1);have HM6:MI w0 t v' (.slice (some ⟨gg,0,none⟩) (kk+1) cc) (k+1) (all++[(f,d)]) (op.take kk++[(f,d)]) w6:=by
     have htl:(op.take kk++[(f,d)]).length=kk+1:=by rw[List.length_append,List.length_take,HK.out];simp
     refine ⟨by rw [List.length_append, bJ]; exact hown6, by rw [htl, bJ, xO]; exact hO6, hne6, hU6, ?_, by rw [List.length_append, HM.out.al]; rfl, by rw [htl]; have := HM.out.ol; rw [HK.out] at this; omega, fun y hy => by
       rcases List.mem_append.1 hy with h | h
       · have:=HM.out.dp y (List.mem_of_mem_take h);omega
       · rw[List.mem_singleton.1 h];show d≤k+1;rw[← HDd.out];exact yLA fun y hy=>HM.out.dp y (List.mem_of_mem_drop hy)⟩
     rw[← HM.out.res];obtain⟨hkt,hx⟩:=List.getElem?_eq_some_iff.1 HX.out;rw[List.drop_eq_getElem_cons hkt,hx]
     show _=if zA x=false∨op.length < (binds x).length then none else yC (t.drop (k+1)) (k+1) (all++[meas k (op.drop (op.length - (binds x).length))]) (op.take (op.length - (binds x).length)++[meas k (op.drop (op.length - (binds x).length))])
     have e:op.length - (binds x).length=kk:=by have h1:=HK.out;have h2:=HBL.out;omega
     have e':meas k (op.drop kk)=(f,d):=Prod.ext HF.out HDd.out;rw[if_neg (by rw[HR.out,HK.out,HBL.out];simp),e,e']
    have HM7:=aA HM6;clear hO6 hne6 hU6 HM6 hown6 hgrow6 hnil6 hat6;go_wp2;exact⟨v',_,_,_,eB (F:=sH _ v' _ n (k+1)) (by rfl) HM7.out⟩
  · unfold msRound bR sQ; simp only [Tryz.f166, Option.getD_some, dB, qA, fD]; unfold sH; have i1 : (0 : Int) ≤ kk := Int.natCast_nonneg _; have i2 : (0 : Int) ≤ bl := Int.natCast_nonneg _; have i3 : (kk : Int) + bl ≤ 4000 := by omega
    have i4:(kk:Int)≤co:=by omega
    have i5:(kk:Int)+bl≤co:=by omega
    have i6:¬ co=kk:=by omega
    go_wp2_with fail;refine HC.out.mono ?_;rintro e w1 ⟨rfl,hU1⟩;have hB1:=HB.out.under hU1;have e0:=hB1.cell 0;have e1:=hB1.cell 1;have e2:=hB1.cell 2;have e3:=hB1.cell 3;have hlt1:=hB1.lt;have HU1:=aA hU1;have HB1:=aA hB1;have HM1:=aA (HN.out w1 (HU.out.trans hU1));clear hU1 hB1;go_wp2_with fail;refine HM1.out.mono ?_;rintro e w2 ⟨rfl,hU2⟩;have hB2:=HB1.out.under hU2;have HU2:=aA hU2;have HM2:=aA (HN.out w2 ((HU.out.trans HU1.out).trans hU2));clear e0 e1 e2 e3;have e0:=hB2.cell 0;have e1:=hB2.cell 1;have e2:=hB2.cell 2;have e3:=hB2.cell 3;have hlt2:=hB2.lt;clear hU2 hB2;go_wp2_with fail;refine HM2.out.mono ?_;rintro e w3 ⟨rfl,hU3⟩;have HU3:=aA hU3;clear e0 e1 e2 e3 hU3;go_wp2;rename_i K hK;have hUw3:=((HU.out.trans HU1.out).trans HU2.out).trans HU3.out;have hUw:=((bA (Under.refl w) (.cells #[.int .i64 x.k,.int .i64 x.n,.int .i64 x.m,.string x.s] 112)).trans HU1.out).trans (HU2.out.trans HU3.out);have hls:(op.drop kk).length=bl:=by rw[List.length_drop,HK.out];omega
    have hO3 := uA HM.out.op_ hUw; rw [HK.out] at hO3; have hA3 := uA HM.out.all_ hUw; have hgl : g < w3.heap.size := (jB hO3 rfl).2; have HL := nCA (W1 := w3) (l := .slice (some ⟨b, off, none⟩) n c) (va := va) (vo := .slice (some ⟨g, 0, none⟩) (kk + bl) co) (n := n) (k := k) (kk := kk) (b9 := w3.heap.size) (op.drop kk) (p := some ⟨g, kk * 2, none⟩) (c := co - kk) (i := k) (by omega) (Nat.le_refl _) (fun y hy => HD.out y (List.mem_of_mem_drop hy))
      (fun _=>⟨g,kk * 2,rfl,hgl,fun j u hj=>eD hO3 rfl (by rw[eHA,List.getElem?_drop]at hj;exact hj)⟩)
    rw[hls]at HL;refine wp_mono (HL bl _ _ ⟨0,by omega,eB (F:=gI _ _ _ _ _ _ _ _ bl 0) (by rfl) ⟨bA (Under.refl _) _,rA w3 _ _⟩⟩) ?_;rintro e a' w4 ⟨rfl,J',rfl,hU4,hB4⟩;simp only[Exit.inBlock,if_pos,Exit.then];refine hK _ _ ?_;clear hK HL;have hm4:meas k (op.drop kk)=meas k (op.drop kk):=rfl;generalize hf:(meas k (op.drop kk)).1=f at hB4;generalize hd:(meas k (op.drop kk)).2=d at hB4;have hO4:=pQ (uA hO3 hU4) (m:=kk) (Nat.le_add_right kk bl);have hA4:=uA hA3 hU4;have e0:=hB4.cell 0;have e1:=hB4.cell 1;have h9:=hB4.lt;have hgl4:=Nat.lt_of_lt_of_le hgl hU4.size;have hb4:=Nat.le_trans hUw3.size hU4.size;have hu4:=hUw3.trans hU4;have hmx:kk+1≤maxLen:=by simp only[maxLen];omega
    have hby:(kk+1) * 16≤140737488355328:=by omega
    have hgne:g≠w3.heap.size:=by omega
    have HM4 := aA hm4; have HF := aA hf; have HDd := aA hd; have HO4 := aA hO4; have HA4 := aA hA4; have HU4 := aA hu4; have HB4 := aA hB4; clear hm4 hf hd hO4 hA4 hu4 hB4 hO3 hA3 hUw hUw3 hls hU4; unfold gI; go_wp2_with fail; go_region_held3 (fun w' => w'.cell? ⟨w3.heap.size, 0, none⟩ = some (.int .i64 (f : Int)) ∧ w'.cell? ⟨w3.heap.size, 1, none⟩ = some (.int .i64 (d : Int)))
      (first
        | go_keep
        | (go_split_ands
           refine⟨?_,?_⟩
           · (rw[hgrow.cell_far _ (by simp;omega) (by simp[Value.ownBlock]<;>omega)];assumption)
           · (rw[hgrow.cell_far _ (by simp;omega) (by simp[Value.ownBlock]<;>omega)];assumption)))
      ((refine step_append_lies _ (by rfl) _ _ _ (by rfl) w0.heap.size 256 i0 _ 2 16 Tryz.underlying226 hi hz0 hz1 hz2 rfl (by omega) (.slice (some ⟨g, 0, none⟩) kk co) kk ((aD op).take (kk * 2)) (by rfl) ((HO4.out.alloc _).drew)
          ⟨w4.heap.size,0,none⟩ 1 1 [.int .i64 (f:Int),.int .i64 (d:Int)] (by rfl) (by rfl) (World.news_of_block (cs:=#[.int .i64 (f:Int),.int .i64 (d:Int)]) (t:=256) (fr:=(0,0)) (rA w4 _ _)) (by simp[Value.oneCell'])
          (by omega) hmx hby (by simp;omega) (w4.heap.size+1) (by simp) ?_;intro gg cc w5 hown5 hgrow hat hlt))
    have hne5:va.ownBlock=none∨va.ownBlock≠(Value.slice (some ⟨g,0,none⟩) kk co).ownBlock:=HM.out.ne;have hA5:=vE ((HA4.out.alloc _).drew) hgrow hne5;have hB5:=((HB4.out.alloc _).drew).grown hgrow (by simp[Value.ownBlock]<;>omega);have hU5:=xA (nA (bA HU4.out _)) hgrow (fun g' e=>(jB HO4.out e).1);clear e0 e1;have e0:=hB5.cell 0;have e1:=hB5.cell 1;have h95:=hB5.lt;have hz5:=hU5.size;have hgg:va.ownBlock=none∨va.ownBlock≠some gg:=by
     rcases hat with e | rfl
     · rw[← e];exact hne5
     · cases hv : va.ownBlock with
       | none=>exact .inl rfl
       | some g'=>right;intro e;cases e;have:=(jB HA4.out hv).2;omega
    have hk4:all.length+1≤maxLen:=by have:=HM.out.al;simp only[maxLen];omega
    have hb4:(all.length+1) * 16≤140737488355328:=by have:=HM.out.al;omega
    have HA5:=aA hA5;have HU5:=aA hU5;have HO5:=aA hown5;have HG:=aA hgg;clear hA5 hB5 hU5 hown5 hgg hne5 hat hgrow;go_wp2_with (at_builtin;refine wpList_append_own_at _ rfl _ _ 226 rfl w0.heap.size 256 i0 _ 2 16 Tryz.underlying226 hi hz0 hz1 hz2 rfl (by decide) _ _ _ rfl (HA5.out.alloc _) ⟨w5.heap.size,0,none⟩ 1 1 [.int .i64 (f:Int),.int .i64 (d:Int)] rfl rfl ?c1 ?c2 hk4 hb4 ?c5 ?_)
    case c1 =>
      intro j u hj
      match j,hj with
      | 0,hj=>cases hj;simp[Addr.add]
      | 1,hj=>cases hj;simp[Addr.add]
    case c2=>intro u hu;simp at hu;rcases hu with rfl | rfl<;>rfl
    case c5=>simp;omega
    intro v' w6 hown6 hgrow6 hnil6 hat6; have hO6 := vE (HO5.out.alloc (.cells #[.int .i64 (f : Int), .int .i64 (d : Int)] 256)) hgrow6 (by
      rcases HG.out with e | e
      · right;rw[e];simp[Value.ownBlock]
      · right;exact fun e'=>e e'.symm)
    have hne6:v'.ownBlock=none∨v'.ownBlock≠(Value.slice (some ⟨gg,0,none⟩) (kk+1) cc).ownBlock:=by
     rcases hat6 with e | e
     · rw[e];exact HG.out
     · right;rw[e];have:=hlt;simp[Value.ownBlock];omega
    have hU6:=xA (bA HU5.out (.cells #[.int .i64 (f:Int),.int .i64 (d:Int)] 256)) hgrow6 (fun g' e=>(jB HA5.out e).1);have HM6:MI w0 t v' (.slice (some ⟨gg,0,none⟩) (kk+1) cc) (k+1) (all++[(f,d)]) (op.take kk++[(f,d)]) w6:=by
     have htl:(op.take kk++[(f,d)]).length=kk+1:=by rw[List.length_append,List.length_take,HK.out];simp
     refine ⟨by rw [List.length_append, bJ]; exact hown6, by rw [htl, bJ, xO]; exact hO6, hne6, hU6, ?_, by rw [List.length_append, HM.out.al]; rfl, by rw [htl]; have := HM.out.ol; rw [HK.out] at this; omega, fun y hy => by
       rcases List.mem_append.1 hy with h | h
       · have:=HM.out.dp y (List.mem_of_mem_take h);omega
       · rw[List.mem_singleton.1 h];show d≤k+1;rw[← HDd.out];exact yLA fun y hy=>HM.out.dp y (List.mem_of_mem_drop hy)⟩
     rw[← HM.out.res];obtain⟨hkt,hx⟩:=List.getElem?_eq_some_iff.1 HX.out;rw[List.drop_eq_getElem_cons hkt,hx]
     show _=if zA x=false∨op.length < (binds x).length then none else yC (t.drop (k+1)) (k+1) (all++[meas k (op.drop (op.length - (binds x).length))]) (op.take (op.length - (binds x).length)++[meas k (op.drop (op.length - (binds x).length))])
     have e:op.length - (binds x).length=kk:=by have h1:=HK.out;have h2:=HBL.out;omega
     have e':meas k (op.drop kk)=(f,d):=Prod.ext HF.out HDd.out;rw[if_neg (by rw[HR.out,HK.out,HBL.out];simp),e,e']
    have HM7:=aA HM6;clear hO6 hne6 hU6 HM6 hown6 hgrow6 hnil6 hat6;go_wp2;exact⟨v',_,_,_,eB (F:=sH _ v' _ n (k+1)) (by rfl) HM7.out⟩
end
end Go.Proofs.YtggjbblgoddnjaaGreatDoor
