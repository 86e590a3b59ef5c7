/- Part 34 of what the proof rests on. -/
import Derived.Lib.SliceRun
import Derived.TacticsInMore
import Derived.LoopNIn
import Derived.LoopIn
import Derived.Shelf.Abstract
import Derived.Shelf.RegionOpen
import Derived.Test.YtlnlpdephijcoaaGreatDoorM00
import Derived.Test.YtlnlpdephijcoaaGreatDoorM11
import Derived.Test.YtlnlpdephijcoaaGreatDoorM13
import Derived.Test.YtlnlpdephijcoaaGreatDoorM33
set_option linter.unusedSimpArgs false
set_option linter.unusedVariables false
set_option maxRecDepth 100000
set_option maxHeartbeats 1000000
namespace Go.Proofs.YtlnlpdephijcoaaGreatDoor
open Go.Lx Go.RowKit
theorem Tryz.infoInt:(Tryz.prog.info? 3).map (fun i=>(i.zero,i.size,i.bytes))=some (some (.int .i64 0),1,8):=by kernel_rfl
theorem fXA(l:List Nat):(iE l).length=l.length:=List.length_map ..
theorem pZA{l:List Nat}{u:Value}(h:u∈iE l):u.oneCell'=true:=by
 unfold iE at h;obtain⟨n,_,rfl⟩:=List.mem_map.1 h;rfl
theorem m1A(w0:World)(base:Nat)(e:TypeId)(size:Nat)(hb:base≤w0.heap.size):(w0.alloc (.cells #[] e)).ownsRow base e size (.slice (some ⟨w0.heap.size,0,none⟩) 0 0) 0 [] :=
 ⟨by simp,.inr ⟨w0.heap.size,0,#[],rfl,hb,yA w0 _ _,Nat.le_refl _,by decide,by simp,by simp⟩⟩
section
variable {w0 : World}
theorem xHA(l:List Nat){p:Option Addr}{c:Nat}(hn:l.length≤1000000)(hp:RowArg w0 p (iE l)) :
 Calls Tryz.prog 109 #[.slice p l.length c] w0 fun e w'=>∃ v,e = .returned v∧w'.ownsRow w0.heap.size 3 1 v l.length (iE l)∧Under w0 w':=by
 obtain⟨i0,hi,hz0,hz1,hz2⟩:=info_parts Tryz.infoInt;have eqn:=Lib.run_eql_slice_nil (P:=Tryz.prog) w0 105 3 p l.length c 0 0 Tryz.underlying105
 cases p with
 | none =>
   have hl:l=[]:=Classical.byContradiction fun h=>by
    obtain⟨b,off,e,_⟩:=hp (fun e=>h (by simpa [iE] using e))
    cases e
   subst hl;clear hp;rw[List.length_nil]at eqn ⊢;go_enter Tryz.func109,Tryz.ntmps109;go_wp2;go_ret;exact⟨_,rfl,World.ownsRow_nil _ _ _ _,Under.refl _⟩
 | some a =>
   have hmx:0+l.length≤maxLen:=by simp only[maxLen];omega
   have hby:(0+l.length) * 8≤140737488355328:=by omega
   have HP:=Lib.hid hp;clear hp;go_enter Tryz.func109,Tryz.ntmps109;go_wp2_with (at_builtin;refine wpList_append_own_at _ rfl _ _ 105 rfl w0.heap.size 3 i0 _ 1 8 Tryz.underlying105 hi hz0 hz1 hz2 rfl (by decide) _ _ _ rfl (m1A w0 _ _ _ (Nat.le_refl _)) a l.length c (iE l) rfl (by rw[fXA];omega) ?c1 (fun u hu=>pZA hu) hmx hby ?c5 ?_)
   case c1 =>
     intro j u hj;obtain⟨b,off,e,hb,hc⟩:=HP.out (fun e=>by rw[e]at hj;cases hj)
     cases e;rw[eO];exact(jA (W:=w0) (aA (Under.refl _) _) hb _).trans (hc j u hj)
   case c5=>simp
   intro v' w1 hown hgrow hnil hat;have HW:=Lib.hid hown;have HU2:=Lib.hid (eB (W:=w0) (aA (Under.refl _) _) hgrow fun g e=>by cases e;exact Nat.le_refl _);clear hown hgrow hnil hat;go_wp2;go_ret;exact⟨v',rfl,HW.out,HU2.out⟩
def bN(w0:World)(x:Nd)(e:Ending)(w:World):Prop:=∃ v,e = .returned (.tuple #[v,.bool (nA x)])∧w.ownsRow w0.heap.size 3 1 v (if nA x then binds x else []).length (iE (if nA x then binds x else []))∧Under w0 w
theorem cWA(n:Int)(m:Nat)(s:ByteArray)(hs:s.size≤maxLen)(hS:ShapesAt 0 w0)(hr:nA ⟨26,n,m,s⟩=true)(hm:m≤6):Calls Tryz.prog 81 #[ndV ⟨26,n,m,s⟩] w0 (bN w0 ⟨26,n,m,s⟩):=by
 have HB:=Lib.hid (yA w0 #[.int .i64 26,.int .i64 n,.int .i64 m,.string s] 76);have HC:=Lib.hid (zR ⟨26,n,m,s⟩ _ hs (hS.under (aA (Under.refl w0) (.cells #[.int .i64 26,.int .i64 n,.int .i64 m,.string s] 76))));have HR:=Lib.hid hr;rw[hr]at HC;obtain⟨i0,hi,hz0,hz1,hz2⟩:=info_parts Tryz.infoInt;clear hr;clear hS;have HBI:=Lib.hid (show(if true=true then binds ⟨26,n,m,s⟩ else [])=List.replicate m 0 by rw[if_pos rfl];rfl);unfold ndV;go_enter Tryz.func81,Tryz.ntmps81;go_wp2_with fail;refine HC.out.mono ?_;rintro e w1 ⟨rfl,hU1⟩;have hB1:=HB.out.under hU1;have e0:=hB1.cell 0;have e1:=hB1.cell 1;have e2:=hB1.cell 2;have e3:=hB1.cell 3;have hlt:=hB1.lt;have m0:(0:Int)≤m:=Int.natCast_nonneg _;have m6:(m:Int)≤6:=by omega
 have HU1:=Lib.hid hU1;have hz1':=((aA (Under.refl w0) (.cells #[.int .i64 26,.int .i64 n,.int .i64 m,.string s] 76)).trans hU1).size;clear hU1 hB1;go_wp2_with (at_make;refine wpList_make_full _ rfl _ _ _ rfl w0.heap.size 3 i0 _ 1 Tryz.underlying105 hi hz0 hz1 .i64 .i64 _ _ m rfl rfl rfl rfl ?c1 ?c2 ?c3 ?_)
 case c1=>rw[hz2];omega
 case c2=>simp only[maxLen];omega
 case c3=>omega
 intro w2 hown hgrow;have HO:=Lib.hid hown;have HU2:=Lib.hid (eB (Under.refl w1) hgrow fun g e=>by cases e);clear hown hgrow;go_wp2;go_ret2;unfold bN;rw[HR.out];refine⟨.slice (some ⟨w1.heap.size,0,none⟩) m m,rfl,?_,((aA (Under.refl w0) _).trans HU1.out).trans HU2.out⟩
 show w2.ownsRow w0.heap.size 3 1 _ (List.replicate m 0).length (iE (List.replicate m 0))
 have hcs:(madeCells #[Value.int .i64 0] m).toList=iE (List.replicate m 0):=by
  apply List.ext_getElem
  · simp[iE,madeCells]
  · intro j h1 h2;simp[iE,madeCells,Nat.mod_one]
 rw[List.length_replicate,← hcs];exact HO.out
theorem sUA(n:Int)(m:Nat)(s:ByteArray)(hs:s.size≤maxLen)(hS:ShapesAt 0 w0)(hr:nA ⟨27,n,m,s⟩=true)(hm:m≤6):Calls Tryz.prog 81 #[ndV ⟨27,n,m,s⟩] w0 (bN w0 ⟨27,n,m,s⟩):=by
 have HB:=Lib.hid (yA w0 #[.int .i64 27,.int .i64 n,.int .i64 m,.string s] 76);have HC:=Lib.hid (zR ⟨27,n,m,s⟩ _ hs (hS.under (aA (Under.refl w0) (.cells #[.int .i64 27,.int .i64 n,.int .i64 m,.string s] 76))));have HR:=Lib.hid hr;rw[hr]at HC;obtain⟨i0,hi,hz0,hz1,hz2⟩:=info_parts Tryz.infoInt;clear hr;clear hS;have HBI:=Lib.hid (show(if true=true then binds ⟨27,n,m,s⟩ else [])=1::List.replicate (m+1) 0 by rw[if_pos rfl];rfl);unfold ndV;go_enter Tryz.func81,Tryz.ntmps81;go_wp2_with fail;refine HC.out.mono ?_;rintro e w1 ⟨rfl,hU1⟩;have hB1:=HB.out.under hU1;have e0:=hB1.cell 0;have e1:=hB1.cell 1;have e2:=hB1.cell 2;have e3:=hB1.cell 3;have hlt:=hB1.lt;have m0:(0:Int)≤m:=Int.natCast_nonneg _;have m6:(m:Int)≤6:=by omega
 have HU1:=Lib.hid hU1;have hz1':=((aA (Under.refl w0) (.cells #[.int .i64 27,.int .i64 n,.int .i64 m,.string s] 76)).trans hU1).size;clear hU1 hB1;go_wp2_with (at_builtin;refine sW rfl _ _ w0.heap.size 105 3 3 rfl i0 Tryz.underlying105 Tryz.underlying3 hi hz0 hz1 hz2 ⟨w1.heap.size,0,none⟩ (.int .i64 1) (m+1) rfl ?c0 ?c1 (by omega) (by omega) ?c3 ?_)
 case c0=>exact congrArg (Value.int .i64) (by omega)
 case c1=>simp
 case c3=>simp;omega
 intro v w2 hown hgrow;have HO:=Lib.hid hown;have HU2:=Lib.hid (eB (aA (Under.refl w1) _) hgrow fun g e=>by cases e);clear hown hgrow;go_wp2;go_ret2;unfold bN;rw[HR.out];refine⟨_,rfl,?_,((aA (Under.refl w0) _).trans HU1.out).trans HU2.out⟩
 show w2.ownsRow w0.heap.size 3 1 _ (1::List.replicate (m+1) 0).length (iE (1::List.replicate (m+1) 0))
 have hcs:iE (1::List.replicate (m+1) 0) = .int .i64 1::List.replicate (m+1) (.int .i64 0):=by simp[iE]
 rw[hcs,List.length_cons,List.length_replicate,Nat.add_comm (m+1) 1];exact HO.out
end
section
variable {w0 : World}
theorem tTA(x:Nd)(hs:x.s.size≤maxLen)(hS:ShapesAt 0 w0)(hr:nA x=true)(h26:¬ x.k=26)(h27:¬ x.k=27):Calls Tryz.prog 81 #[ndV x] w0 (bN w0 x):=by
 have HB:=Lib.hid (yA w0 #[.int .i64 x.k,.int .i64 x.n,.int .i64 x.m,.string x.s] 76);have HC:=Lib.hid (zR x _ hs (hS.under (aA (Under.refl w0) (.cells #[.int .i64 x.k,.int .i64 x.n,.int .i64 x.m,.string x.s] 76))));obtain⟨h0,h1⟩:=oH hr;have HR:=Lib.hid hr;rw[hr]at HC;obtain⟨i0,hi,hz0,hz1,hz2⟩:=info_parts Tryz.infoInt;have hl6:=qCA x.k.toNat;have HS:=Lib.hid hS;have hb:=hS.lt;clear hS hr;unfold ndV;go_enter Tryz.func81,Tryz.ntmps81;go_wp2_with fail;refine HC.out.mono ?_;rintro e w1 ⟨rfl,hU1⟩;have hB1:=HB.out.under hU1;have e0:=hB1.cell 0;have e1:=hB1.cell 1;have e2:=hB1.cell 2;have e3:=hB1.cell 3;have hS1:=HS.out.under ((aA (Under.refl w0) _).trans hU1);obtain⟨p,c,c0,hcc,hrow,_⟩:=hS1.row x.k.toNat (by omega);have hlt:=hS1.lt;have HCl:=Lib.hid (xHA (w0:=w1) (c:=c) (pE x.k.toNat) (by omega) hrow);have HU1:=Lib.hid hU1;clear hU1 hB1 hS1 hrow;go_wp2_with fail;refine HCl.out.mono ?_;rintro e w2 ⟨v,rfl,hown,hU2⟩;have HO:=Lib.hid hown;have HU2:=Lib.hid hU2;clear hown hU2;go_wp2;go_ret2;unfold bN;rw[HR.out];refine⟨v,rfl,?_,((aA (Under.refl w0) _).trans HU1.out).trans HU2.out⟩;have:(if true=true then binds x else [])=pE x.k.toNat:=by rw[if_pos rfl];unfold binds;rw[if_neg h26,if_neg h27]
 rw[this];exact kN HO.out ((aA (Under.refl w0) _).trans HU1.out).size
theorem pBA(x:Nd)(hs:x.s.size≤maxLen)(hS:ShapesAt 0 w0):Calls Tryz.prog 81 #[ndV x] w0 (bN w0 x):=by
 by_cases hr:nA x=true
 · by_cases h26 : x.k = 26
   · obtain⟨k,n,m,s⟩:=x;obtain rfl:k=26:=h26;have hm:=uK hr (.inl rfl);obtain⟨m',rfl⟩:∃ m':Nat,m=m':=⟨m.toNat,by simp only at hm;omega⟩;exact cWA n m' s hs hS hr (by simp only at hm;omega)
   · by_cases h27 : x.k = 27
     · obtain⟨k,n,m,s⟩:=x;obtain rfl:k=27:=h27;have hm:=uK hr (.inr rfl);obtain⟨m',rfl⟩:∃ m':Nat,m=m':=⟨m.toNat,by simp only at hm;omega⟩;exact sUA n m' s hs hS hr (by simp only at hm;omega)
     · exact tTA x hs hS hr h26 h27
 · have HC := Lib.hid (zR x _ hs (hS.under (aA (Under.refl w0) (.cells #[.int .i64 x.k, .int .i64 x.n, .int .i64 x.m, .string x.s] 76)))); have hr' : nA x = false := by simpa using hr
   rw[hr']at HC;have HR:=Lib.hid hr';clear hr hr' hS;unfold ndV;go_enter Tryz.func81,Tryz.ntmps81;go_wp2_with fail;refine HC.out.mono ?_;rintro e w1 ⟨rfl,hU1⟩;have HU1:=Lib.hid hU1;clear hU1;go_wp2;go_ret2;unfold bN;rw[HR.out];exact⟨.slice none 0 0,rfl,World.ownsRow_nil _ _ _ _,(aA (Under.refl w0) _).trans HU1.out⟩
end
noncomputable def nGA:Code:=Tryz.f127.body.getD .skip
noncomputable def ndRound:Code:=oC (oC (fA (fA nGA)))
noncomputable def uBB:Code:=fA (fA (fA (fA (oC (xA (fA ndRound))))))
noncomputable def niRound:Code:=oC (oC (fA uBB))
def gW(yf:Value)(tb:Nat)(vo:Value)(k:Int)(J:Nat→Value):Array Value:=#[yf,.pointer (some ⟨tb,0,none⟩),J 2,vo,.int .i64 k,J 5,J 6,J 7,J 8,J 9,J 10,J 11,J 12,J 13,J 14,J 15,J 16,J 17,J 18,J 19,J 20,J 21,J 22,J 23,J 24,J 25,J 26,J 27,J 28,J 29,J 30,J 31,J 32,J 33,J 34,J 35,J 36,J 37,J 38,J 39,J 40,J 41,J 42,J 43,J 44,J 45,J 46,J 47,J 48,J 49,J 50,J 51,J 52,J 53,J 54]
def qO(yf:Value)(tb:Nat)(vo:Value)(k:Int)(u:Nat)(vb:Value)(m j:Nat)(J:Nat→Value):Array Value :=
 #[yf, .pointer (some ⟨tb, 0, none⟩), J 2, vo, .int .i64 k, .int .i64 (u : Int), J 6, J 7, J 8, J 9, J 10, J 11, J 12, J 13, J 14, J 15, J 16, J 17, J 18, J 19, J 20, J 21, J 22, J 23, J 24, J 25, J 26, J 27, J 28, J 29, J 30, J 31, J 32, J 33, J 34, J 35, J 36, J 37, J 38, J 39, J 40, J 41, vb, .int .i64 (m : Int), .int .i64 (j : Int), J 45, J 46, J 47, J 48, J 49, J 50, J 51, J 52, J 53, J 54]
structure NH (W0:World) (tb:Nat) (vt:Value) (B:Nat) (Jc:Option Nat→World→Prop) (vo:Value) (l:List Nat) (A:World):Prop where
 j:Jc vo.ownBlock A
 row:A.ownsRow B 3 1 vo l.length (iE l)
 low:Under W0 A
 box:BoxAt A tb 30 #[vt]
 big:B≤A.heap.size
section
variable {W0 : World} {tb B : Nat} {vt yf vo : Value} {Jc : Option Nat → World → Prop} {k : Int} {u m j : Nat} {l : List Nat}
def nMA(Jc:Option Nat→World→Prop):Prop:=∀ b b' A A',Jc b A→IStep b b' A A'→Jc b' A'
theorem NH.under{A A':World}(h:NH W0 tb vt B Jc vo l A)(hJ:nMA Jc)(hU:Under A A'):NH W0 tb vt B Jc vo l A' :=
 ⟨hJ _ _ _ _ h.j (IStep.under hU _),uA h.row hU,h.low.trans hU,h.box.under hU,Nat.le_trans h.big hU.size⟩
theorem NH.grown{A A':World}{vo':Value}{l':List Nat}(h:NH W0 tb vt B Jc vo l A)(hJ:nMA Jc)(hg:A.grownBy A' vo.ownBlock)(hat:vo'.ownBlock=vo.ownBlock∨vo'.ownBlock=some A.heap.size)(hr:A'.ownsRow B 3 1 vo' l'.length (iE l'))(hW:W0.heap.size≤B)(ht:tb < B):NH W0 tb vt B Jc vo' l' A' :=
 ⟨hJ _ _ _ _ h.j (IStep.grown hg hat),hr,eB h.low hg fun g e=>Nat.le_trans hW (iC h.row e).1,h.box.grown hg fun e=>by have:=(iC h.row e.symm).1;omega,Nat.le_trans h.big hg.size⟩
def NIn(W0:World)(tb:Nat)(vt:Value)(B:Nat)(Jc:Option Nat→World→Prop)(yf:Value)(k:Int)(u:Nat)(vb:Value)(m j:Nat)(A0:World)(l:List Nat)(bs:List Nat)(a:Act)(A:World):Prop :=
 ∃ vo J,a=⟨qO yf tb vo k u vb m j J,[]⟩∧NH W0 tb vt B Jc vo l A∧A.ownsRow A0.heap.size 3 1 vb bs.length (iE bs)∧(vb.ownBlock=none∨vb.ownBlock≠vo.ownBlock)
def rCB(W0:World)(tb:Nat)(vt:Value)(B:Nat)(Jc:Option Nat→World→Prop)(yf:Value)(k:Int)(u:Nat)(vb:Value)(m:Nat)(A0:World)(l:List Nat)(bs:List Nat)(e:Exit)(a:Act)(A:World):Prop:=e = .exit 2∧NIn W0 tb vt B Jc yf k u vb m m A0 l bs a A
theorem p8A{A0:World}{bs:List Nat}{vb:Value}(J:Nat→Value)(A:World)(hH:NH W0 tb vt B Jc vo l A)(hb:A.ownsRow A0.heap.size 3 1 vb bs.length (iE bs))(hne:vb.ownBlock=none∨vb.ownBlock≠vo.ownBlock) :
 niRound.wp Tryz.prog (Exit.then (fun _ _=>False) (rCB W0 tb vt B Jc yf k u vb m A0 l bs)) ⟨qO yf tb vo k u vb m m J,[]⟩ A:=by
 have HH:=Lib.hid hH;have HB:=Lib.hid hb;have HN:=Lib.hid hne;clear hH hb hne;unfold niRound uBB ndRound nGA;simp only[Tryz.f127,Option.getD_some,xA,fA,oC];unfold qO;go_wp2;exact⟨rfl,vo,rA (F:=qO yf tb vo k u vb m m) (by rfl) ⟨HH.out,HB.out,HN.out⟩⟩
theorem qBB {A0 : World} {bs : List Nat} {vb : Value} {x : Nat} (hJ : nMA Jc) (hW : W0.heap.size ≤ B) (ht : tb < B) (hx : bs[j]? = some x) (hm : bs.length ≤ 8) (hu : u ≤ 10000) (hx2 : x ≤ 2) (hl : l.length ≤ 40000) (J : Nat → Value) (A : World) (hH : NH W0 tb vt B Jc vo l A)
    (hb:A.ownsRow A0.heap.size 3 1 vb bs.length (iE bs)) (hne:vb.ownBlock=none∨vb.ownBlock≠vo.ownBlock) :
    niRound.wp Tryz.prog (Exit.then (NIn W0 tb vt B Jc yf k u vb bs.length (j+1) A0 (l++[u+x]) bs) (fun _ _ _=>False)) ⟨qO yf tb vo k u vb bs.length j J,[]⟩ A:=by
  obtain⟨i0,hi,hz0,hz1,hz2⟩:=info_parts Tryz.infoInt;obtain⟨hj,hxe⟩:=List.getElem?_eq_some_iff.1 hx;obtain⟨g,gc,hvb,hg,_,hgl,_,_⟩:=wC hb (by omega);have c0:=lC hb hg (j:=j) (u:=.int .i64 (x:Int)) (by unfold iE;rw[List.getElem?_map,hx];rfl);have hj1:(j:Int) < bs.length:=by omega
  have hj0:(0:Int)≤j:=Int.natCast_nonneg _;have hj8:(j:Int)≤8:=by omega
  have hu0:(0:Int)≤u:=Int.natCast_nonneg _;have hu1:(u:Int)≤10000:=by omega
  have hx0:(0:Int)≤x:=Int.natCast_nonneg _;have hx1:(x:Int)≤2:=by omega
  have hmx:l.length+1≤maxLen:=by simp only[maxLen];omega
  have hby:(l.length+1) * 8≤140737488355328:=by omega
  have HH:=Lib.hid hH;have HB:=Lib.hid hb;have HN:=Lib.hid hne;have HG:=Lib.hid hg;subst hvb;clear hH hb hne hx hxe hg;unfold niRound uBB ndRound nGA;simp only[Tryz.f127,Option.getD_some,xA,fA,oC];unfold qO;go_wp2_with (at_builtin;refine wpList_append_own_at _ rfl _ _ 105 rfl B 3 i0 _ 1 8 Tryz.underlying105 hi hz0 hz1 hz2 rfl (by decide) _ _ _ rfl (HH.out.row.alloc _) ⟨A.heap.size,0,none⟩ 1 1 [.int .i64 ((u:Int)+(x:Int))] rfl rfl ?c1 ?c2 hmx hby ?c5 ?_)
  case c1 =>
    intro j u hj
    match j,hj with
    | 0,hj=>cases hj;simp[Addr.add]
  case c2=>intro u hu;simp at hu;subst hu;rfl
  case c5=>have:=HH.out.big;simp;omega
  intro v' A1 hown hgrow hnil hat; have HH1 := Lib.hid ((HH.out.under hJ (aA (Under.refl A) (.cells #[.int .i64 ((u : Int) + (x : Int))] 3))).grown (vo' := v') (l' := l ++ [u + x]) hJ hgrow (by simpa using hat) (by
    rw[List.length_append];have:iE (l++[u+x])=iE l++[.int .i64 ((u:Int)+(x:Int))]:=by simp[iE]
    rw[this];exact hown) hW ht)
  have HB1:=Lib.hid (qG (HB.out.alloc (.cells #[.int .i64 ((u:Int)+(x:Int))] 3)) hgrow HN.out);have hne1:(Value.slice (some ⟨g,0,none⟩) bs.length gc).ownBlock=none∨(Value.slice (some ⟨g,0,none⟩) bs.length gc).ownBlock≠v'.ownBlock:=by
   right
   rcases hat with e | e
   · rw [e]; rcases HN.out with h | h
     · simp[Value.ownBlock]at h
     · exact h
   · rw[e];simp[Value.ownBlock];omega
  have HN1:=Lib.hid hne1;clear hown hgrow hnil hat hne1;go_wp2;exact⟨v',rA (F:=qO yf tb v' k u _ bs.length (j+1)) (by rfl) ⟨HH1.out,HB1.out,HN1.out⟩⟩
theorem mXA {A0 : World} (bs : List Nat) {vb : Value} (hJ : nMA Jc) (hW : W0.heap.size ≤ B) (ht : tb < B) (hm : bs.length ≤ 8) (hu : u ≤ 10000) (hx2 : ∀ x ∈ bs, x ≤ 2) (hl : l.length ≤ 39000) (i : Nat) (a : Act) (A : World)
    (h0:∃ j,i+j=bs.length∧NIn W0 tb vt B Jc yf k u vb bs.length j A0 (l++(bs.take j).map (u + ·)) bs a A) :
    (Code.loop niRound).wp Tryz.prog (rCB W0 tb vt B Jc yf k u vb bs.length A0 (l++bs.map (u + ·)) bs) a A:=by
  refine wp_loop_ghost (fun i a A=>∃ j,i+j=bs.length∧NIn W0 tb vt B Jc yf k u vb bs.length j A0 (l++(bs.take j).map (u + ·)) bs a A) i h0 ?_;clear h0;rintro i a A ⟨j,hij,vo,J,rfl,hH,hb,hne⟩;by_cases hjn:j=bs.length
  · subst hjn; rw [List.take_length] at hH; refine wp_mono (p8A J A hH hb hne) ?_; rintro e a' w' h
    cases e with
    | normal=>exact h.elim
    | _=>exact h
  have hlt:j < bs.length:=by omega
  refine wp_mono (qBB hJ hW ht (List.getElem?_eq_getElem hlt) hm hu (hx2 _ (List.getElem_mem hlt)) (by rw[List.length_append,List.length_map,List.length_take];omega) J A hH hb hne) ?_;rintro e a' w' h
  cases e with
  | normal =>
    refine⟨i - 1,by omega,j+1,by omega,?_⟩;rw[List.take_succ_eq_append_getElem hlt,List.map_append,← List.append_assoc];exact h
  | _=>exact h.elim
end
attribute [local go_sem] Oper.semAt_some
section
variable {W0 : World} {tb B n : Nat} {vt vo : Value} {Jc Jd : Option Nat → World → Prop} {Jx : World → Prop} {R : Nat → Prop} {k u l : Nat} {st : List Nat}
def aAB(W0:World)(tb:Nat)(vt:Value)(B:Nat)(Jc:Option Nat→World→Prop)(yf:Value)(k:Nat)(st:List Nat)(a:Act)(A:World):Prop :=
 ∃ vo J,a=⟨gW yf tb vo ((k:Int) - 1) J,[]⟩∧NH W0 tb vt B Jc vo st.reverse A
def fCB(Jx:World→Prop)(e:Exit)(a:Act)(A:World):Prop:=e = .ret∧a.defers=[]∧Jx A
theorem zBB {x : Nd} {b off c N : Nat} (hJd : nMA Jd) (hW : W0.heap.size ≤ B) (ht : tb < B) (hR : ∀ k, k < W0.heap.size → R k) (hRt : R tb) (hk : k < N) (hN : N ≤ 4000) (hcap : N ≤ c) (hu : u ≤ 8000) (hl : st.length ≤ 38000) (hvt : vt = .slice (some ⟨b, off, none⟩) N c)
    (hs:x.s.size≤maxLen) (hS:ShapesAt 0 W0) (hb:b < W0.heap.size) (c0:W0.cell? ⟨b,off+k * 4,none⟩=some (.int .i64 x.k)) (c1:W0.cell? ⟨b,off+k * 4+1,none⟩=some (.int .i64 x.n)) (c2:W0.cell? ⟨b,off+k * 4+2,none⟩=some (.int .i64 x.m)) (c3:W0.cell? ⟨b,off+k * 4+3,none⟩=some (.string x.s))
    (J:Nat→Value) (A:World) (hH:NH W0 tb vt B Jc vo (u::st).reverse A)
    (hY:YieldAt Fence.wide (n - 1) Tryz.prog l #[.int .i64 (k:Int),.int .i64 (u:Int)] A fun e A'=>(e = .returned (.bool true)∧Jd vo.ownBlock A'∧Kept R vo.ownBlock A A')∨(e = .returned (.bool false)∧Jx A')) :
    ndRound.wpIn Fence.wide n Tryz.prog (Exit.then (aAB W0 tb vt B Jd (.func (.yield l) #[] #[]) k (((oF x).map (u + ·)).reverse++st)) (fCB Jx)) ⟨gW (.func (.yield l) #[] #[]) tb vo (((k+1:Nat):Int) - 1) J,[]⟩ A:=by
  rw[show(((k+1:Nat):Int) - 1)=(k:Int) by omega];have hrl:(u::st).reverse.length=st.length+1:=by simp
  have hrow:=hH.row;rw[hrl]at hrow;obtain⟨g,gc,hvo,hg,hgB,hgl,hgc,_⟩:=wC hrow (by omega);have ctop:=lC hrow hg (j:=st.length) (u:=.int .i64 (u:Int)) (by simp[iE]);subst hvo;obtain⟨fn,tmps,assign,body,hy,hRd⟩:=hY;have hk0:(0:Int)≤k:=Int.natCast_nonneg _;have hk1:(k:Int) < N:=by omega
  have hl0:(0:Int)≤st.length:=Int.natCast_nonneg _;have hl1:(st.length:Int)≤38000:=by omega
  have hgc':(st.length:Int)+1≤gc:=by omega
  have HH:=Lib.hid hH;have HR:=Lib.hid hrow;have HVT:=Lib.hid hvt;have HY:=Lib.hid hRd;clear hH hrow hvt hrl hRd;unfold ndRound nGA;simp only[Tryz.f127,Option.getD_some,fA,oC];unfold gW
  gi_wp2
  refine⟨fun h=>absurd h (by decide),?_⟩;refine HY.out.mono ?_;rintro e A1 (⟨rfl,hj1,hk1'⟩ | ⟨rfl,hx1⟩)
  · have hH1 : NH W0 tb vt B Jd (.slice (some ⟨g, 0, none⟩) st.length gc) st.reverse A1 := by
      have hr:=jOA HR.out (w':=A1) fun g' e=>hk1'.same g' (by have:=(iC HR.out e).2;omega) (.inr e)
      have hcut:=nO hr (m:=st.length) (by omega);refine⟨hj1,?_,HH.out.low.kept hk1' hR,(hk1'.same tb HH.out.box.lt (.inl hRt)).trans HH.out.box,Nat.le_trans HH.out.big hk1'.size⟩;rw[List.length_reverse];have:iE st.reverse=(iE (u::st).reverse).take (st.length * 1):=by
       rw[List.reverse_cons,Nat.mul_one];unfold iE;rw[List.map_append,List.take_left' (by simp)]
      rw[this];exact hcut
    have eb:=hH1.box.cell 0;have elt:=hH1.box.lt;rw[HVT.out]at eb;rw[← jA hH1.low hb]at c0 c1 c2 c3;have hb1:=Nat.lt_of_lt_of_le hb hH1.low.size;have HB:=Lib.hid (pBA (w0:=A1) x hs (hS.under hH1.low));have HH1:=Lib.hid hH1;clear hj1 hk1' hH1 HY
    gi_wp2
    refine⟨trivial,fun h=>absurd h (by decide),?_⟩;refine(callsIn_wide.2 HB.out).mono ?_;rintro e A2 ⟨vb,rfl,hvb,hU2⟩;have hvb':A2.ownsRow A1.heap.size 3 1 vb (oF x).length (iE (oF x)):=hvb;obtain⟨q,co,rfl,hq1,hq2⟩:=RowArg.of_own hvb';clear hq1 hq2;have hH2:=HH1.out.under hJd hU2;have hne2:(Value.slice q (oF x).length co).ownBlock=none∨(Value.slice q (oF x).length co).ownBlock≠(Value.slice (some ⟨g,0,none⟩) st.length gc).ownBlock:=by
     cases hq:(Value.slice q (oF x).length co).ownBlock with
     | none=>exact .inl rfl
     | some g'=>right;intro e;cases e;have:=(iC hvb' hq).1;have:=(iC HH1.out.row rfl).2;omega
    have HL:=Lib.hid (mXA (k:=(k:Int)) (u:=u) (yf:=.func (.yield l) #[] #[]) (vt:=vt) (vb:=.slice q (oF x).length co) (A0:=A1) (l:=st.reverse) (oF x) hJd hW ht (gFA x) (by omega) nK (by rw[List.length_reverse];omega) (oF x).length);have HH2:=Lib.hid hH2;have HV:=Lib.hid hvb';have HN:=Lib.hid hne2;clear hH2 hvb hvb' hne2 hU2 c0 c1 c2 c3 eb
    gi_wp2
    rename_i K hK;refine wpIn_wide.2 (wp_mono (HL.out _ _ ⟨0,by omega,.slice (some ⟨g,0,none⟩) st.length gc,rA (F:=qO _ tb _ k u _ (oF x).length 0) (by rfl) ⟨by simpa using HH2.out,HV.out,HN.out⟩⟩) ?_);rintro e a' A3 ⟨rfl,vo3,J3,rfl,hH3,_,_⟩;simp only[Exit.inBlock,if_pos,Exit.then];refine hK _ _ ?_;clear hK;have HH3:=Lib.hid hH3;clear hH3;unfold qO
    gi_wp2
    refine⟨vo3,rA (F:=gW _ tb vo3 ((k:Int) - 1)) (by rfl) ?_⟩;have:=HH3.out;rw[List.reverse_append,List.reverse_reverse];exact this
  · gi_wp2
    exact⟨rfl,rfl,hx1⟩
end
attribute [local go_sem] Oper.semAt_some
section
variable {W0 w : World} {tb c n : Nat} {t : List Nd} {p : Option Addr}
def NdI(W0:World)(tb:Nat)(vt:Value)(B:Nat)(J:Option Nat→List (Nat×Nat)→World→Prop)(t:List Nd)(l m:Nat)(a:Act)(A:World):Prop :=
 ∃ pre st,aAB W0 tb vt B (fun b A=>J b pre A) (.func (.yield l) #[] #[]) m st a A∧pre++qF t m st=tH t∧(qF t m st).length=m∧m≤t.length∧(∀ u∈st,u+2 * m≤8000)∧st.length+8 * m≤33000
def NdD(J:Option Nat→List (Nat×Nat)→World→Prop)(Jx:List (Nat×Nat)→World→Prop)(t:List Nd)(e:Exit)(a:Act)(A:World):Prop :=
 a.defers=[]∧((e = .exit 0∧∃ b,J b (tH t) A)∨(e = .ret∧∃ pre,Jx pre A))
theorem lVA(w0:World)(base:Nat)(e:TypeId)(v:Value)(hb:base≤w0.heap.size):(w0.alloc (.cells #[v] e)).ownsRow base e 1 (.slice (some ⟨w0.heap.size,0,none⟩) 1 1) 1 [v] :=
 ⟨by simp,.inr ⟨w0.heap.size,1,#[v],rfl,hb,yA w0 _ _,Nat.le_refl _,by decide,by simp,by simp⟩⟩
theorem dYA {B l : Nat} {W : World} {J : Option Nat → List (Nat × Nat) → World → Prop} {Jx : List (Nat × Nat) → World → Prop} (hn : t.length ≤ 4000) (hcap : t.length ≤ c) (hs : ∀ x ∈ t, x.s.size ≤ maxLen) (hp : RowArg W0 p (zB t)) (hS : ShapesAt 0 W0)
    (hW:W0.heap.size≤B) (ht:tb < B) (hJ:∀ b b' pre A A',J b pre A→IStep b b' A A'→J b' pre A')
    (hY : ∀ b pre x A, J b pre A → pre ++ [x] <+: tH t → YieldAt Fence.wide (n - 1) Tryz.prog l #[.int .i64 (x.1 : Int), .int .i64 (x.2 : Int)] A fun e A' =>
      (e = .returned (.bool true)∧J b (pre++[x]) A'∧Kept (fun k=>k < W0.heap.size∨k=tb) b A A')∨(e = .returned (.bool false)∧Jx (pre++[x]) A'))
    (m:Nat) (a:Act) (A:World) (h0:NdI W0 tb (.slice p t.length c) B J t l m a A) :
    (Code.loop ndRound).wpIn Fence.wide n Tryz.prog (NdD J Jx t) a A:=by
  refine wpIn_wide.2 (wp_loop_ghost (NdI W0 tb (.slice p t.length c) B J t l) m h0 ?_);clear h0;rintro m a A ⟨pre,st,⟨vo,Jn,rfl,hH⟩,hx,hl,hm,hu,hst⟩;refine(wpIn_wide (n:=n)).1 ?_
  cases m with
  | zero =>
    have he:qF t 0 st=[]:=List.eq_nil_of_length_eq_zero hl;rw[he,List.append_nil]at hx;subst hx;have hH':NH W0 tb (.slice p t.length c) B (fun b A=>J b (tH t) A) vo st.reverse A:=hH;have HJ:=Lib.hid hH.j;clear hH hH' hu hst hY hJ;unfold ndRound nGA;simp only[Tryz.f127,Option.getD_some,fA,oC];unfold gW
    gi_wp2
    exact⟨rfl,.inl ⟨rfl,_,HJ.out⟩⟩
  | succ k =>
    cases st with
    | nil=>simp[qF]at hl
    | cons u st =>
      have hk:k < t.length:=by omega
      have hxk:t[k]? = some t[k]:=List.getElem?_eq_getElem hk;rw[vT hxk]at hx hl;obtain⟨b,off,rfl,hb,c0,c1,c2,c3⟩:=hp.node hxk;have hu1:=hu u (List.mem_cons_self ..);rw[List.length_cons]at hst;have hpre:pre++[(k,u)] <+: tH t:=⟨qF t k (((oF t[k]).map (u + ·)).reverse++st),by rw[← hx];simp⟩;refine wpIn_mono (zBB (Jd:=fun b A=>J b (pre++[(k,u)]) A) (Jx:=Jx (pre++[(k,u)])) (R:=fun k=>k < W0.heap.size∨k=tb) (l:=l) (fun b b' A A' h1 h2=>hJ b b' _ A A' h1 h2) hW ht (fun k hk=>Or.inl hk) (Or.inr rfl) hk hn hcap (by omega) (by omega) rfl (hs _ (List.getElem_mem hk)) hS hb c0 c1 c2 c3 Jn A hH (hY _ pre (k,u) A hH.j hpre)) ?_;rintro e a' A' h
      cases e with
      | normal =>
        refine⟨k,by omega,pre++[(k,u)],_,h,by rw[← hx];simp,by simpa using hl,by omega,?_,?_⟩
        · intro v hv; rcases List.mem_append.1 hv with hv | hv
          · rw[List.mem_reverse,List.mem_map]at hv;obtain⟨y,hy,rfl⟩:=hv;have:=nK y hy;omega
          · have:=hu v (List.mem_cons_of_mem _ hv);omega
        · rw[List.length_append,List.length_reverse,List.length_map];have:=gFA t[k];omega
      | _=>exact⟨h.2.1,.inr ⟨h.1,_,h.2.2⟩⟩
theorem wTA(hn:t.length≤4000)(hcap:t.length≤c)(hs:∀ x∈t,x.s.size≤maxLen)(hp:RowArg W0 p (zB t))(hS:ShapesAt 0 W0)(hU:Under W0 w)(hB:BoxAt w tb 30 #[.slice p t.length c])(hlen:(tH t).length=t.length) :
 Iter Fence.wide n Tryz.prog 127 #[.pointer (some ⟨tb,0,none⟩)] (fun x:Nat×Nat=>#[.int .i64 (x.1:Int),.int .i64 (x.2:Int)]) (fun k=>k < W0.heap.size∨k=tb) (tH t) w:=by
 intro l J Jx W hW hJ hY h0;have HL:=Lib.hid (dYA (n:=n) (l:=l) (B:=W.heap.size) (tb:=tb) (W:=W) (c:=c) (p:=p) (t:=t) (W0:=W0) (J:=J) (Jx:=Jx) hn hcap hs hp hS (Nat.le_trans hU.size hW.size) (Nat.lt_of_lt_of_le hB.lt hW.size) hJ hY t.length);have HB:=Lib.hid (hB.under hW);have eb:=HB.out.cell 0;have elt:=HB.out.lt;have HU:=Lib.hid (hU.trans hW);have HJ:=Lib.hid hJ;have H0:=Lib.hid h0;have HLen:=Lib.hid hlen;have hn1:(t.length:Int)≤4000:=by omega
 have hn0:(0:Int)≤t.length:=Int.natCast_nonneg _;clear hJ hY h0 hp hS hs hlen;refine callsIn_of_wp Tryz.func127 rfl trivial ?_ rfl;simp only[Tryz.ntmps127,List.size_toArray,List.length_cons,List.length_nil,Nat.reduceAdd,Nat.reduceSub,Array.replicate_succ,Array.replicate_zero,List.push_toArray,List.append_toArray,List.nil_append,List.cons_append]
 gi_wp2
 have hNH:NH W0 tb (.slice p t.length c) W.heap.size (fun b A=>J b [] A) (.slice (some ⟨W.heap.size,0,none⟩) 1 1) [0].reverse (W.alloc (.cells #[.int .i64 0] 3)) :=
  ⟨HJ.out none _ [] W _ H0.out ⟨rfl,rfl,by simp,fun k hk _=>(aA (Under.refl W) _).low k hk,.inr ⟨W.heap.size,rfl,Nat.le_refl _⟩⟩,
   lVA W _ _ _ (Nat.le_refl _),aA HU.out _,HB.out.alloc _,by simp⟩
 refine wpIn_mono (HL.out _ _ ⟨[],[0],⟨_,rA (F:=gW _ tb _ ((t.length:Int) - 1)) (by rfl) hNH⟩,rfl,HLen.out,Nat.le_refl _,fun u hu=>by rw[List.mem_singleton.1 hu];omega,by simp;omega⟩) ?_;rintro e a' A' ⟨hd,(⟨rfl,b,hb⟩ | ⟨rfl,pre,hpre⟩)⟩
 · simp only[Exit.inBlock,if_pos];exact bodyPost_end (P:=Tryz.prog) (fn:=Tryz.f127) (R:=fun e W'=>(∃ v,e=Ending.returned v)∧((∃ b,J b (tH t) W')∨∃ pre,Jx pre W')) (results_none rfl _ _ _) hd ⟨⟨_,rfl⟩,.inl ⟨b,hb⟩⟩
 · simp only[Exit.inBlock];exact bodyPost_ret (P:=Tryz.prog) (fn:=Tryz.f127) (R:=fun e W'=>(∃ v,e=Ending.returned v)∧((∃ b,J b (tH t) W')∨∃ pre,Jx pre W')) (results_none rfl _ _ _) hd ⟨⟨_,rfl⟩,.inr ⟨pre,hpre⟩⟩
end
end Go.Proofs.YtlnlpdephijcoaaGreatDoor
