/- Part 44 of what the proof rests on. -/
import Derived.Deep.RegionHeld3
import Derived.Laws.ResultCell
import Derived.Test.YtlnlpdephijcoaaGreatDoorRows
import Derived.Conc.Holds
import Derived.KernelRfl
import Derived.Test.YtlnlpdephijcoaaGreatDoorL01
import Derived.Test.YtlnlpdephijcoaaGreatDoorL02
import Derived.Test.YtlnlpdephijcoaaGreatDoorL13
import Derived.Test.YtlnlpdephijcoaaGreatDoorL34
import Derived.Test.YtlnlpdephijcoaaGreatDoorL36
import Derived.Test.YtlnlpdephijcoaaGreatDoorL39
import Derived.Test.YtlnlpdephijcoaaGreatDoorL43
set_option linter.unusedSimpArgs false
set_option linter.unusedVariables false
set_option maxRecDepth 100000
set_option maxHeartbeats 4000000
namespace Go.Proofs.YtlnlpdephijcoaaGreatDoor
open Go.Lx Go.RowKit
def d5A{α:Type}(w0:World)(t:List α)(f:α→Prop)(i:Value)(wr:World):Prop:=∃ k:Nat,k≤t.length∧i = .int .i64 (k:Int)∧(∀ x∈t.take k,f x)∧wr=w0
theorem fTA{α:Type}{l:List α}{k:Nat}{Pr:α→Prop}(hk:k < l.length)(h:∀ x∈l.take k,Pr x)(h1:Pr l[k]):∀ x∈l.take (k+1),Pr x:=by
 rw[List.take_succ_eq_append_getElem hk];intro x hx;rcases List.mem_append.1 hx with hx | hx
 · exact h x hx
 · rw[List.mem_singleton.1 hx];exact h1
section
variable {w0 : World}
end
def o8A(w0:World)(cs ds:List ByteArray)(e:Ending)(w:World):Prop:=∃ b,e = .returned (.bool b)∧Under w0 w∧(b=false→cs.length≤50∧ds.length≤50)
section
variable {w0 : World}
theorem xQA(cs ds:List ByteArray){p1 p2:Option Addr}{d1 d2:Nat}(hcs:TextsV w0 (.slice p1 cs.length d1) cs)(hds:TextsV w0 (.slice p2 ds.length d2) ds):Calls Tryz.prog 7 #[.agg #[.slice p1 cs.length d1,.slice p2 ds.length d2]] w0 (o8A w0 cs ds):=by
 obtain⟨p,c,e,_,_,hp⟩:=hcs
 cases e;obtain⟨q,d,e,_,_,hq⟩:=hds
 cases e;have HU0:=Lib.hid (aA (Under.refl w0) (.cells #[.slice p1 cs.length d1,.slice p2 ds.length d2] 24));have HB:=Lib.hid (xA w0 #[.slice p1 cs.length d1,.slice p2 ds.length d2] 24);have HP:=Lib.hid (hp.under HU0.out);have HQ:=Lib.hid (hq.under HU0.out);have hl0:(0:Int)≤cs.length:=by omega
 have ha0:(0:Int)≤ds.length:=by omega
 clear hp hq;have n0:(w0.alloc (.cells #[.slice p1 cs.length d1,.slice p2 ds.length d2] 24)).cell? ⟨w0.heap.size,0,none⟩=some (.slice p1 cs.length d1):=HB.out.cell 0;have n1:(w0.alloc (.cells #[.slice p1 cs.length d1,.slice p2 ds.length d2] 24)).cell? ⟨w0.heap.size,1,none⟩=some (.slice p2 ds.length d2):=HB.out.cell 1;have nl:=HB.out.lt;by_cases hl:cs.length≤50
 · have hl' : ¬ (50 : Int) < cs.length := by omega
   by_cases ha:ds.length≤50
   · have ha' : ¬ (50 : Int) < ds.length := by omega
     go_enter Tryz.func7,Tryz.ntmps7;go_wp2_with fail;generalize w0.alloc (.cells #[.slice p1 cs.length d1,.slice p2 ds.length d2] 24)=wA at *;go_wp2;go_loopw [3] (fun i wr=>d5A wA cs (fun _=>True) i wr) (fun i _=>cs.length - (intOf i).toNat)
     case atStart=>exact⟨0,Nat.zero_le _,rfl,fun _ _=>trivial,rfl⟩
     case round =>
       obtain⟨k,hk,rfl,hN,rfl⟩:=hrel;clear hN;by_cases hlt:k < cs.length
       · obtain ⟨b, off, rfl, hb, cc⟩ := sBA HP.out hlt; generalize cs[k] = x at *; by_cases hs : x.size ≤ 100
         · have hs' : ¬ (100 : Int) < x.size := by omega
           clear hs;go_wp2;go_roundw
           case rel=>exact⟨k+1,by omega,by go_num,fun _ _=>trivial,rfl⟩
           case measure=>simp[intOf];omega
         · have hs' : (100 : Int) < x.size := by omega
           clear hs;go_wp2;go_ret;exact⟨true,rfl,HU0.out,fun h=>by cases h⟩
       · obtain rfl : k = cs.length := by omega
         go_wp2;go_loopw [4] (fun i w2=>d5A wr ds (fun _=>True) i w2) (fun i _=>ds.length - (intOf i).toNat)
         case atStart=>exact⟨0,Nat.zero_le _,rfl,fun _ _=>trivial,rfl⟩
         case round =>
           obtain⟨k,hk,rfl,hN,rfl⟩:=hrel;clear hN;by_cases hlt:k < ds.length
           · obtain ⟨b, off, rfl, hb, cc⟩ := sBA HQ.out hlt; generalize ds[k] = x at *; by_cases hs : x.size ≤ 100
             · have hs' : ¬ (100 : Int) < x.size := by omega
               clear hs;go_wp2;go_roundw
               case rel=>exact⟨k+1,by omega,by go_num,fun _ _=>trivial,rfl⟩
               case measure=>simp[intOf];omega
             · have hs' : (100 : Int) < x.size := by omega
               clear hs;go_wp2;go_ret;exact⟨true,rfl,HU0.out,fun h=>by cases h⟩
           · obtain rfl : k = ds.length := by omega
             go_wp2;go_ret;exact⟨false,rfl,HU0.out,fun _=>⟨hl,ha⟩⟩
   · have ha' : (50 : Int) < ds.length := by omega
     clear ha;go_enter Tryz.func7,Tryz.ntmps7;go_wp2;go_ret;exact⟨true,rfl,HU0.out,fun h=>by cases h⟩
 · have hl' : (50 : Int) < cs.length := by omega
   clear hl;go_enter Tryz.func7,Tryz.ntmps7;go_wp2;go_ret;exact⟨true,rfl,HU0.out,fun h=>by cases h⟩
end
end Go.Proofs.YtlnlpdephijcoaaGreatDoor
namespace Go.Proofs.YtlnlpdephijcoaaGreatDoor
open Go.Conc Go.Lx Go.RowKit
theorem Tryz.infoSx8:(Tryz.prog.info? 73).map (fun i=>(i.zero,i.size,i.bytes))=some (some (.agg #[.int .i64 0,.int .i64 0,.string ⟨#[]⟩]),3,32):=by kernel_rfl
noncomputable def dRA:Code:=Tryz.f11.body.getD .skip
noncomputable def thRound:Code:=bC (bC (dA (rA (dA (dA dRA)))))
def dM(l:Value)(k:Nat)(vr:Value)(J:Nat→Value):Array Value:=#[l,J 1,J 2,vr,.int .i64 (k:Int),J 5,J 6,J 7,J 8,J 9,J 10,J 11,J 12,J 13,J 14,J 15,J 16,J 17,J 18,J 19]
section
variable {w0 : World} {b off n cap k : Nat} {vr : Value} {row : List Sx} {x : Sx}
def xWA(w0:World)(l:Value)(k:Nat)(row:List Sx)(a':Act)(w':World):Prop :=
 ∃ vr J,a'=⟨dM l k vr J,[]⟩∧w'.ownsRow w0.heap.size 73 3 vr k (nC row)∧Under w0 w'
def m8A(l:Value)(n:Nat)(vr:Value)(w:World)(e:Exit)(a':Act)(w':World):Prop:=e = .exit 0∧∃ J,a'=⟨dM l n vr J,[]⟩∧w'=w
theorem v3A(p:Option Addr)(J:Nat→Value)(w:World) :
 thRound.wp Tryz.prog (Exit.then (fun _ _=>False) (m8A (.slice p n cap) n vr w)) ⟨dM (.slice p n cap) n vr J,[]⟩ w:=by
 unfold thRound dRA;simp only[Tryz.f11,Option.getD_some,rA,dA,bC];unfold dM;go_wp2;exact⟨rfl,nA (F:=dM (.slice p n cap) n vr) (by rfl) rfl⟩
theorem y5A (hk : k < n) (hn : n ≤ 1000000) (J : Nat → Value) (w : World) (hP : w.ownsRow w0.heap.size 73 3 vr k (nC row)) (hU : Under w0 w)
    (hb0:b < w0.heap.size) (c0:w0.cell? ⟨b,off+k * 3,none⟩=some (.int .i64 x.many)) (c1:w0.cell? ⟨b,off+k * 3+1,none⟩=some (.int .i64 x.pos)) (c2:w0.cell? ⟨b,off+k * 3+2,none⟩=some (.string x.word)) :
    thRound.wp Tryz.prog (Exit.then (xWA w0 (.slice (some ⟨b,off,none⟩) n cap) (k+1) (row++[x])) (fun _ _ _=>False)) ⟨dM (.slice (some ⟨b,off,none⟩) n cap) k vr J,[]⟩ w:=by
  have hb:=Nat.lt_of_lt_of_le hb0 hU.size;rw[← jA hU hb0]at c0 c1 c2;obtain⟨i0,hi,hz0,hz1,hz2⟩:=info_parts Tryz.infoSx8;have hin:(k:Int) < n:=by omega
  have hmx:k+1≤maxLen:=by simp only[maxLen];omega
  have hby:(k+1) * 32≤140737488355328:=by omega
  have hws:=hU.size;have HP:=Lib.hid hP;have HU:=Lib.hid hU;clear hP hU;unfold thRound dRA;simp only[Tryz.f11,Option.getD_some,rA,dA,bC];unfold dM;go_wp2_with (at_builtin;refine wpList_append_own_at _ rfl _ _ 36 rfl w0.heap.size 73 i0 _ 3 32 Tryz.underlying36 hi hz0 hz1 hz2 rfl (by decide) _ _ _ rfl (HP.out.alloc _) ⟨w.heap.size,0,none⟩ 1 1 [.int .i64 x.many,.int .i64 x.pos,.string x.word] rfl rfl ?c1 ?c2 hmx hby ?c5 ?_)
  case c1 => 
    intro j u hj
    match j,hj with
    | 0,hj=>cases hj;simp[Addr.add]
    | 1,hj=>cases hj;simp[Addr.add]
    | 2,hj=>cases hj;simp[Addr.add]
  case c2=>intro u hu;simp at hu;rcases hu with rfl | rfl | rfl<;>rfl
  case c5=>simp;omega
  intro v' w' hown hgrow hnil hat;have HW:=Lib.hid hown;have HU2:=Lib.hid (bB (aA HU.out _) hgrow fun g e=>(iC HP.out e).1);clear hown hgrow hnil hat;go_wp2;exact⟨v',nA (F:=dM _ (k+1) v') (by rfl) ⟨by rw[tH];exact HW.out,HU2.out⟩⟩
def TI(w0:World)(l:Value)(row:List Sx)(m:Nat)(a:Act)(w:World):Prop:=∃ k,m+k=row.length∧xWA w0 l k (row.take k) a w
def jAB(w0:World)(l:Value)(row:List Sx)(e:Exit)(a:Act)(w:World):Prop:=e = .exit 0∧xWA w0 l row.length row a w
theorem pTA(row:List Sx){p:Option Addr}(hn:row.length≤1000000)(hp:SxArg w0 p row)(m:Nat)(a:Act)(w:World)(h0:TI w0 (.slice p row.length cap) row m a w) :
 (Code.loop thRound).wp Tryz.prog (jAB w0 (.slice p row.length cap) row) a w:=by
 refine wp_loop_ghost _ m h0 ?_;clear h0;rintro m a w ⟨k,hmk,vr,J,rfl,hown,hU⟩;by_cases hkn:k=row.length
 · subst hkn; refine wp_mono (v3A p J w) ?_; rintro e a' w' h
   cases e with
   | normal=>exact h.elim
   | _ =>
     obtain⟨h1,J',rfl,rfl⟩:=h;rw[List.take_length]at hown;exact⟨h1,vr,J',rfl,hown,hU⟩
 have hlt:k < row.length:=by omega
 obtain⟨b,off,rfl,hb0,ht⟩:=hp (fun e=>by rw[e]at hlt;exact absurd hlt (Nat.not_lt_zero _));obtain⟨c0,c1,c2⟩:=ht k row[k] (List.getElem?_eq_getElem hlt);refine wp_mono (y5A hlt hn J w hown hU hb0 c0 c1 c2) ?_;rintro e a' w' h
 cases e with
 | normal=>exact⟨m - 1,by omega,k+1,by omega,by rw[List.take_succ_eq_append_getElem hlt];exact h⟩
 | _=>exact h.elim
theorem dNA(row:List Sx){p:Option Addr}(hn:row.length≤1000000)(hp:SxArg w0 p row) :
 Calls Tryz.prog 11 #[.slice p row.length cap] w0 fun e w'=>∃ v,e = .returned v∧w'.ownsRow w0.heap.size 73 3 v row.length (nC row)∧Under w0 w':=by
 have HL:=Lib.hid (fun m a w h=>pTA (w0:=w0) (cap:=cap) row hn hp m a w h);clear hp;go_enter Tryz.func11,Tryz.ntmps11;go_wp2;rename_i K hK;refine wp_mono (HL.out row.length _ _ ⟨0,rfl,.slice (some ⟨w0.heap.size,0,none⟩) 0 0,_,fB (F:=dM _ 0 _) (by rfl),wI w0 _ _ _ (Nat.le_refl _),aA ⟨rfl,rfl,Nat.le_refl _,fun _ _=>rfl⟩ _⟩) ?_;rintro e a' w' ⟨rfl,vr,J,rfl,hown,hU⟩;simp only[Exit.inBlock,if_pos,Exit.then];refine hK _ _ ?_;unfold dM;have HO:=Lib.hid hown;clear hown;go_wp2;go_ret;exact⟨vr,rfl,HO.out,hU⟩
end
noncomputable def qZ:Code:=Tryz.f3.body.getD .skip
noncomputable def jIA:Code:=rA (dA (dA qZ))
noncomputable def t8Round:Code:=bC (bC (dA jIA))
noncomputable def t8Rest:Code:=dA (dA (dA qZ))
def iH(l:Value)(na k:Nat)(s:ByteArray)(J:Nat→Value):Array Value:=#[J 0,l,.string s,.pointer (some ⟨na,0,none⟩),J 4,J 5,J 6,.int .i64 (k:Int),J 8,J 9,J 10,J 11,J 12,J 13,J 14,J 15,J 16,J 17,J 18,J 19,J 20,J 21,J 22,J 23,J 24,J 25,J 26,J 27,J 28,J 29,J 30,J 31,J 32,J 33,J 34,J 35,J 36,J 37,J 38,J 39,J 40,J 41,J 42,J 43,J 44,J 45,J 46,J 47,J 48,J 49,J 50,J 51,J 52,J 53,J 54,J 55,J 56,J 57,J 58,J 59,J 60,J 61,J 62,J 63,J 64,J 65,J 66,J 67,J 68,J 69,J 70,J 71,J 72,J 73,J 74,J 75,J 76,J 77,J 78,J 79]
def T8Q(W:World)(e:Exit)(a:Act)(w:World):Prop:=lK Tryz.prog Tryz.f3 (TrueU W) e a w
section
variable {W : World}
structure T8S (W:World) (cs ds:List ByteArray) (p1 p2:Option Addr) (d1 d2:Nat) (na:Nat) (w:World):Prop where
 und:Under W w
 box:BoxAt w na 24 #[.slice p1 cs.length d1,.slice p2 ds.length d2]
theorem T8S.re{cs ds:List ByteArray}{p1 p2:Option Addr}{d1 d2 na:Nat}{w:World}(h:T8S W cs ds p1 p2 d1 d2 na w)(τ:Nat→Question→Nat)(d:Nat):T8S W cs ds p1 p2 d1 d2 na (re w τ d):=⟨h.und.re τ d,h.box⟩
theorem T8S.under{cs ds:List ByteArray}{p1 p2:Option Addr}{d1 d2 na:Nat}{w w':World}(h:T8S W cs ds p1 p2 d1 d2 na w)(hU:Under w w'):T8S W cs ds p1 p2 d1 d2 na w':=⟨h.und.trans hU,h.box.under hU⟩
def wOA(W:World)(l:Value)(cs ds:List ByteArray)(p1 p2:Option Addr)(d1 d2 na:Nat)(word:ByteArray)(k:Nat)(a':Act)(w':World):Prop:=∃ J,a'=⟨iH l na k word J,[]⟩∧T8S W cs ds p1 p2 d1 d2 na w'
def cPA(a:Act):Nat:=match a.tmps.getD 7 undef with | .int _ n=>n.toNat | _=>0
theorem gHA(l:Value)(na k:Nat)(s:ByteArray)(J:Nat→Value):cPA ⟨iH l na k s J,[]⟩=k:=by
 have:(iH l na k s J).getD 7 undef = .int .i64 k:=rfl;simp only[cPA,this];omega
section
variable {b off n cap k na d1 d2 : Nat} {p1 p2 : Option Addr} {x : Sx} {word : ByteArray} {cs ds : List ByteArray}
def eAB(l:Value)(na n:Nat)(word:ByteArray)(w:World)(a':Act)(w':World):Prop:=∃ J,a'=⟨iH l na n word J,[]⟩∧w'=w
def g7A(l:Value)(na n:Nat)(word:ByteArray)(w:World)(e:Exit)(a':Act)(w':World):Prop:=e = .exit 0∧∃ J,a'=⟨iH l na n word J,[]⟩∧w'=w
theorem z1A(p:Option Addr)(J:Nat→Value)(w:World) :
 t8Round.wp Tryz.prog (Exit.then (fun _ _=>False) (g7A (.slice p n cap) na n word w)) ⟨iH (.slice p n cap) na n word J,[]⟩ w:=by
 unfold t8Round jIA qZ;simp only[Tryz.f3,Option.getD_some,rA,dA,bC];unfold iH;go_wp2;exact⟨rfl,nA (F:=iH (.slice p n cap) na n word) (by rfl) rfl⟩
theorem a2A(hk:k < n)(hn:n≤1000000)(hx:x.word.size≤100)(J:Nat→Value)(w:World)(hb:b < w.heap.size)(c2:w.cell? ⟨b,off+k * 3+2,none⟩=some (.string x.word)) :
 t8Round.wp Tryz.prog (Exit.then (eAB (.slice (some ⟨b,off,none⟩) n cap) na (k+1) word w) (fun _ _ _=>False)) ⟨iH (.slice (some ⟨b,off,none⟩) n cap) na k word J,[]⟩ w:=by
 have hin:(k:Int) < n:=by omega
 have hx':¬(100:Int) < x.word.size:=by omega
 clear hx;unfold t8Round jIA qZ;simp only[Tryz.f3,Option.getD_some,rA,dA,bC];unfold iH;go_wp2;exact nA (F:=iH (.slice (some ⟨b,off,none⟩) n cap) na (k+1) word) (by rfl) rfl
theorem m7A(hk:k < n)(hn:n≤1000000)(hx:100 < x.word.size)(J:Nat→Value)(w:World)(hE:StrcAt w)(hS:ShapesAt 0 w)(hU:Under W w)(hb:b < w.heap.size)(c2:w.cell? ⟨b,off+k * 3+2,none⟩=some (.string x.word)) :
 t8Round.wpG Tryz.prog (fun e a w=>e = .ret∧T8Q W e a w) ⟨iH (.slice (some ⟨b,off,none⟩) n cap) na k word J,[]⟩ w:=by
 have hin:(k:Int) < n:=by omega
 have hx':(100:Int) < x.word.size:=by omega
 clear hx;have HSh:=Lib.hid (xK w hE hS);clear hE hS;generalize hQ:(fun(e:Exit) (a:Act) (w:World)=>e = .ret∧T8Q W e a w)=Q;unfold t8Round jIA qZ;simp only[Tryz.f3,Option.getD_some,rA,dA,bC];unfold iH;refine oC xB (aC xB fun τ d=>?_);go_wp2;refine nG ?_ τ d;refine oC xB (iU xB (oC xB (aC xB fun τ d=>?_)));have c2':(re w τ d).cell? ⟨b,off+k * 3+2,none⟩=some (.string x.word):=c2;have hb':b < (re w τ d).heap.size:=hb;go_wp2;refine nG ?_ τ d;refine oM xB (t:=true) rfl ?_;simp only[if_true];refine oC xB (zJ xB ?_);refine pG (i:=0) (rest:=List.range' 1 1) xB rfl (by rfl) (bF (vs:=#[]) rfl Tryz.func8 (by kernel_rfl) rfl (by simp)) HSh.out ?_;rintro v w1 ⟨rfl,hU1⟩;refine jE xB 1 1 0 (by decide) fun τ d=>?_
 simp only[List.drop_succ_cons,List.drop_zero,List.take_succ_cons,List.take_zero];walk_nrm;go_wp2;refine jG xB ?_;simp only[Exit.then];refine aC xB fun τ d=>?_
 go_wp2;subst hQ;exact⟨rfl,fI rfl rfl ⟨rfl,(hU.trans hU1).re _ _⟩⟩
end
def f5A(W:World)(l:Value)(cs ds:List ByteArray)(p1 p2:Option Addr)(d1 d2 na:Nat)(word:ByteArray)(row:List Sx)(e:Exit)(a:Act)(w:World):Prop :=
 (e = .exit 0∧wOA W l cs ds p1 p2 d1 d2 na word row.length a w∧∀ x∈row,x.word.size≤100)∨(e = .ret∧T8Q W e a w)
theorem q3A(cs ds:List ByteArray)(row:List Sx)(word:ByteArray){p1 p2 p:Option Addr}{d1 d2 cap na:Nat}(hn:row.length≤1000000)(hp:SxArg W p row)(hE:StrcAt W)(hS:ShapesAt 0 W)(a:Act)(w:World)(h0:wOA W (.slice p row.length cap) cs ds p1 p2 d1 d2 na word 0 a w) :
 (Code.loop t8Round).wpG Tryz.prog (f5A W (.slice p row.length cap) cs ds p1 p2 d1 d2 na word row) a w:=by
 refine jMA xB (fun a w=>∃ k,k≤row.length∧(∀ t∈row.take k,t.word.size≤100)∧wOA W (.slice p row.length cap) cs ds p1 p2 d1 d2 na word k a w) (fun a _=>row.length - cPA a) ⟨0,Nat.zero_le _,by simp,h0⟩ ?_;clear h0;rintro a w ⟨k,hkn,hg,J,rfl,hT⟩;rw[gHA];by_cases hk:k=row.length
 · subst hk; refine aC xB fun τ d => wp_mono (z1A p J (re w τ d)) ?_
   rintro e a' w' h
   cases e with
   | normal=>exact h.elim
   | _ =>
     obtain⟨h1,J',rfl,rfl⟩:=h;rw[List.take_length]at hg;exact .inl ⟨h1,⟨J',rfl,hT.re τ d⟩,hg⟩
 have hlt:k < row.length:=by omega
 obtain⟨b,off,rfl,hb0,ht⟩:=hp (fun e=>by rw[e]at hlt;exact absurd hlt (Nat.not_lt_zero _));obtain⟨_,_,c2⟩:=ht k row[k] (List.getElem?_eq_getElem hlt);have hb:=Nat.lt_of_lt_of_le hb0 hT.und.size;rw[← jA hT.und hb0]at c2;by_cases hx:row[k].word.size≤100
 · refine aC xB fun τ d => wp_mono (a2A (cap := cap) hlt hn hx J (re w τ d) hb c2) ?_
   rintro e a' w' h
   cases e with
   | normal =>
     obtain⟨J',rfl,rfl⟩:=h;refine⟨⟨k+1,by omega,?_,J',rfl,hT.re τ d⟩,?_⟩
     · exact fTA (Pr:=fun t:Sx=>t.word.size≤100) hlt hg hx
     · rw[gHA];omega
   | _=>exact h.elim
 · refine bZ (m7A (cap:=cap) (x:=row[k]) hlt hn (by omega) J w (hE.under hT.und) (hS.under hT.und) hT.und hb c2) ?_;rintro e a' w' ⟨rfl,h⟩;exact .inr ⟨rfl,h⟩
theorem yTA(row:List Sx)(h150:row.length≤20000)(hw:∀ x∈row,x.word.size≤1000000)(cs ds:List ByteArray)(hcl:cs.length≤1000000)(hdl:ds.length≤1000000) :
 ∃ R:Say,(∀ t,R = .ok t→t.length≤20000) ∧
  (∀ (w : World) (p : Option Addr) (cap : Nat) (p1 p2 : Option Addr) (d1 d2 : Nat), row.length ≤ cap → SxArg w p row → StrcAt w → ShapesAt 0 w → TextsV w (.slice p1 cs.length d1) cs → TextsV w (.slice p2 ds.length d2) ds →
    Calls Tryz.prog 9 #[.agg #[.slice p1 cs.length d1,.slice p2 ds.length d2],.slice p row.length cap] w (TermOut w R)) ∧
  (∀ (w : World) (p : Option Addr) (cap : Nat) (p1 p2 : Option Addr) (d1 d2 : Nat), row.length ≤ cap → SxArg w p row → TextsV w (.slice p1 cs.length d1) cs → TextsV w (.slice p2 ds.length d2) ds →
    Calls Tryz.prog 10 #[.agg #[.slice p1 cs.length d1,.slice p2 ds.length d2],.slice p row.length cap] w (TermOut w R)):=by
 by_cases h:∃ ls,gF row=some ls∧ls.length=1
 · obtain ⟨ls, h1, h2⟩ := h; obtain ⟨ts, hok, rfl, rfl⟩ := gFA h1; obtain ⟨T, rfl⟩ : ∃ T, ts = [T] := List.length_eq_one_iff.1 (by simpa using h2); have e : fA [T] = uA T := by simp [fA]
   rw[e]at h150 hw ⊢;refine⟨xH cs ds T,fun t ht=>?_,fun w p cap p1 p2 d1 d2 g1 g2 g3 g4 g5 g6=>jHA T cs ds hok.1 h150 g1 g2 hw g3 g4 g5 g6 hcl hdl,fun w p cap p1 p2 d1 d2 g1 g2 g5 g6=>lDA T cs ds hok.1 h150 g1 g2 g5 g6 hcl hdl⟩;unfold xH at ht
   split at ht
   · cases ht
   · rename_i t' he
     split at ht
     · cases ht;exact Nat.le_trans (pM T _ _ he) h150
     · cases ht
 · have hb : ∀ ls, gF row = some ls → ls.length ≠ 1 := fun ls h1 h2 => h ⟨ls, h1, h2⟩
   exact⟨.error (71,0),fun t ht=>(by cases ht),fun w p cap p1 p2 d1 d2 g1 g2 _ _ _ _=>g0A row h150 g1 g2 hb p1 p2 _ _ d1 d2,fun w p cap p1 p2 d1 d2 g1 g2 _ _=>zTA row h150 g1 g2 hb p1 p2 _ _ d1 d2⟩
theorem f3A (cs ds : List ByteArray) (row : List Sx) (word : ByteArray) {p1 p2 p : Option Addr} {d1 d2 cap na : Nat} (hcs : TextsV W (.slice p1 cs.length d1) cs) (hds : TextsV W (.slice p2 ds.length d2) ds) (hrow : SxArg W p row) (hcap : row.length ≤ cap) (hn : row.length ≤ 20000) (hE : StrcAt W) (hS : ShapesAt 0 W) (hcl : cs.length ≤ 50) (hdl : ds.length ≤ 50)
    (hg:∀ x∈row,x.word.size≤100) (J:Nat→Value) (w:World) (hT:T8S W cs ds p1 p2 d1 d2 na w):t8Rest.wp Tryz.prog (T8Q W) ⟨iH (.slice p row.length cap) na row.length word J,[]⟩ w:=by
  obtain⟨R,hRl,hP,hU⟩:=yTA row hn (fun x hx=>Nat.le_trans (hg x hx) (by decide)) cs ds (by omega) (by omega);have HP:=Lib.hid (hP w p cap p1 p2 d1 d2 hcap (hrow.under hT.und) (hE.under hT.und) (hS.under hT.und) (hcs.under hT.und) (hds.under hT.und));have HUt:=Lib.hid hU;have HRl:=Lib.hid hRl;have HT:=Lib.hid hT;have HTh:=Lib.hid (fun w' (h:Under W w')=>dNA (w0:=w') (cap:=cap) row (by omega) (hrow.under h));have HTx:=Lib.hid (And.intro hcs hds);have n0:w.cell? ⟨na,0,none⟩=some (.slice p1 cs.length d1):=hT.box.cell 0;have n1:w.cell? ⟨na,1,none⟩=some (.slice p2 ds.length d2):=hT.box.cell 1;have nl:=hT.box.lt;generalize hQ:T8Q W=Q;have HQ:=Lib.hid hQ;clear hP hU hRl hT hQ;unfold t8Rest qZ;simp only[Tryz.f3,Option.getD_some,dA];unfold iH;go_wp2_with fail;refine HP.out.mono ?_;rintro e w1 ⟨hU1,hR1⟩;have HT1:=Lib.hid (HT.out.under hU1);have n0:w1.cell? ⟨na,0,none⟩=some (.slice p1 cs.length d1):=HT1.out.box.cell 0;have n1:w1.cell? ⟨na,1,none⟩=some (.slice p2 ds.length d2):=HT1.out.box.cell 1;have nl:=HT1.out.box.lt;have HU1:=Lib.hid hU1;clear hU1
  cases R with
  | error x =>
    obtain ⟨c, q⟩ := x; replace hR1 : e = .returned (.tuple #[.slice none 0 0, .int .i64 q, .int .i64 c]) := hR1; subst hR1; go_wp2_with fail; go_region_held3 (fun w' => w'.cell? ⟨na, 0, none⟩ = some (.slice p1 cs.length d1) ∧ w'.cell? ⟨na, 1, none⟩ = some (.slice p2 ds.length d2))
      (first
        | exact⟨n0,n1⟩
        | go_keep
        | exact⟨(jA (Under.trans hU2 hU3) nl 0).trans n0,(jA (Under.trans hU2 hU3) nl 1).trans n1⟩
        | exact⟨(jA hU2 nl 0).trans n0,(jA hU2 nl 1).trans n1⟩)
      (first
        | (go_simp;go_at_call 11;refine(HTh.out _ (bA HT1.out.und)).mono ?_;rintro e w2 ⟨v2,rfl,ho2,hU2⟩;obtain⟨q2,c2,rfl,hc2,hs2⟩:=aZ ho2)
        | (go_simp;go_at_call 10;refine(HUt.out _ _ _ _ _ _ _ hc2 hs2 (HTx.out.1.under ((bA HT1.out.und).trans hU2)) (HTx.out.2.under ((bA HT1.out.und).trans hU2))).mono ?_;rintro e w3 ⟨hU3,rfl⟩))
    rename_i hHeld;clear hHeld;have HW3:=Lib.hid (((bA HT1.out.und).trans hU2).trans hU3);have HSm:=Lib.hid (cEA (w0:=w3) [] [] (u:=.slice none 0 0) (v:=.slice none 0 0) (by decide) ⟨none,0,rfl,Nat.le_refl _,fun _=>rfl,RowArg.nil⟩ ⟨none,0,rfl,Nat.le_refl _,fun _=>rfl,RowArg.nil⟩);clear hU2 hU3 ho2 hc2 hs2 n0 n1 nl HP HUt HTh;go_wp2_with fail;refine HSm.out.mono ?_;rintro e w4 ⟨rfl,hU4⟩;rw[qU];have HW4:=Lib.hid (HW3.out.trans hU4);clear hU4 HSm;go_wp2_with fail;refine(wS (w0:=w4) word).mono ?_;rintro e w5 ⟨rfl,hU5⟩;rw[qXA];have HW5:=Lib.hid (HW4.out.trans hU5);clear hU5;go_wp2_with fail;refine(gL (w0:=w5) word).mono ?_;rintro e w6 ⟨rfl,hU6⟩;have HW6:=Lib.hid (HW5.out.trans hU6);clear hU6;go_wp2;rw[← HQ.out];exact fI rfl rfl ⟨rfl,HW6.out⟩
  | ok t =>
    replace hR1 : ∃ u, e = .returned (.tuple #[u, .int .i64 0, .int .i64 0]) ∧ TermV w1 u t := hR1; obtain ⟨u1, rfl, hT1⟩ := hR1; obtain ⟨r1, k1, rfl, hk1, hn1, hr1⟩ := hT1; have HV1 := Lib.hid (show TermV w1 (.slice r1 t.length k1) t from ⟨r1, k1, rfl, hk1, hn1, hr1⟩); clear hk1 hn1 hr1; go_wp2_with fail; go_region_held3 (fun w' => w'.cell? ⟨na, 0, none⟩ = some (.slice p1 cs.length d1) ∧ w'.cell? ⟨na, 1, none⟩ = some (.slice p2 ds.length d2))
      (first
        | exact⟨n0,n1⟩
        | go_keep
        | exact⟨(jA (Under.trans hU2 hU3) nl 0).trans n0,(jA (Under.trans hU2 hU3) nl 1).trans n1⟩
        | exact⟨(jA hU2 nl 0).trans n0,(jA hU2 nl 1).trans n1⟩)
      (first
        | (go_simp;go_at_call 11;refine(HTh.out _ (bA HT1.out.und)).mono ?_;rintro e w2 ⟨v2,rfl,ho2,hU2⟩;obtain⟨q2,c2,rfl,hc2,hs2⟩:=aZ ho2)
        | (go_simp;go_at_call 10;refine(HUt.out _ _ _ _ _ _ _ hc2 hs2 (HTx.out.1.under ((bA HT1.out.und).trans hU2)) (HTx.out.2.under ((bA HT1.out.und).trans hU2))).mono ?_;rintro e w3 ⟨hU3,u3,rfl,hV3⟩;obtain⟨r3,k3,rfl,hk3,hn3,hr3⟩:=hV3))
    rename_i hHeld;clear hHeld;have HW3:=Lib.hid (((bA HT1.out.und).trans hU2).trans hU3);have HSm:=Lib.hid (cEA (w0:=w3) t t (by have:=HRl.out t rfl;simp only[maxLen];omega) (TermV.mono _ _ _ _ ((bA (Under.refl _)).trans (hU2.trans hU3)) HV1.out) ⟨r3,k3,rfl,hk3,hn3,hr3⟩);clear hU2 hU3 ho2 hc2 hs2 n0 n1 nl HP HUt HTh;go_wp2_with fail;refine HSm.out.mono ?_;rintro e w4 ⟨rfl,hU4⟩;rw[qU];have HW4:=Lib.hid (HW3.out.trans hU4);clear hU4 HSm;go_wp2_with fail;refine(wS (w0:=w4) word).mono ?_;rintro e w5 ⟨rfl,hU5⟩;rw[qXA];have HW5:=Lib.hid (HW4.out.trans hU5);clear hU5;go_wp2_with fail;refine(gL (w0:=w5) word).mono ?_;rintro e w6 ⟨rfl,hU6⟩;have HW6:=Lib.hid (HW5.out.trans hU6);clear hU6;go_wp2;rw[← HQ.out];exact fI rfl rfl ⟨rfl,HW6.out⟩
theorem eRA(cs ds:List ByteArray)(row:List Sx)(word:ByteArray){p1 p2 p:Option Addr}{d1 d2 cap:Nat}(W:World)(hcs:TextsV W (.slice p1 cs.length d1) cs)(hds:TextsV W (.slice p2 ds.length d2) ds)(hrow:SxArg W p row)(hcap:row.length≤cap)(hmx:row.length≤maxLen)(hE:StrcAt W)(hS:ShapesAt 0 W) :
 CallsG Tryz.prog 3 #[.agg #[.slice p1 cs.length d1,.slice p2 ds.length d2],.slice p row.length cap,.string word] W (TrueU W):=by
 refine rJ xB Tryz.func3 rfl ?_ TrueU.re;simp only[Tryz.ntmps3,List.size_toArray,List.length_cons,List.length_nil,Nat.reduceAdd,Nat.reduceSub,Array.replicate_succ,Array.replicate_zero,List.push_toArray,List.append_toArray,List.nil_append,List.cons_append];refine oC xB (aC xB fun τ d=>?_);go_wp2;have HT0:=Lib.hid (show T8S W cs ds p1 p2 d1 d2 W.heap.size ((re W τ d).alloc (.cells #[.slice p1 cs.length d1,.slice p2 ds.length d2] 24)) from⟨aA ((Under.refl W).re τ d) _,xA (re W τ d) _ _⟩);have hsz:(re W τ d).heap.size=W.heap.size:=rfl;rw[hsz];generalize (re W τ d).alloc (.cells #[.slice p1 cs.length d1,.slice p2 ds.length d2] 24)=w1 at *;clear hsz;refine oC xB (oC xB ?_);refine vN xB 13 (by decide) fun τ d=>?_
 simp only[List.take_succ_cons,List.take_zero];have n0:(re w1 τ d).cell? ⟨W.heap.size,0,none⟩=some (.slice p1 cs.length d1):=HT0.out.box.cell 0;have n1:(re w1 τ d).cell? ⟨W.heap.size,1,none⟩=some (.slice p2 ds.length d2):=HT0.out.box.cell 1;have nl:W.heap.size < (re w1 τ d).heap.size:=HT0.out.box.lt;have HHv:=Lib.hid (xQA (w0:=re w1 τ d) cs ds (hcs.under (HT0.out.re τ d).und) (hds.under (HT0.out.re τ d).und));go_wp2_with fail;refine HHv.out.mono ?_;rintro e w2 ⟨b,rfl,hU2,hb⟩;have HT2:=Lib.hid ((HT0.out.re τ d).under hU2);have HSh:=Lib.hid (xK w2 (hE.under HT2.out.und) (hS.under HT2.out.und));clear n0 n1 nl HHv hU2
 cases b
 · obtain ⟨hc50, hd50⟩ := hb rfl; by_cases h1 : (150 : Int) < row.length
   · go_wp2; refine jE xB 13 3 0 (by decide) fun τ d => ?_
     simp only[List.drop_succ_cons,List.drop_zero,List.take_succ_cons,List.take_zero];walk_nrm;go_wp2;refine jG xB ?_;simp only[Exit.then];refine nG ?_ τ d;refine oM xB (t:=true) rfl ?_;simp only[if_true];refine oC xB (zJ xB ?_);refine pG (i:=0) (rest:=List.range' 1 1) xB rfl (by rfl) (bF (vs:=#[]) rfl Tryz.func8 (by kernel_rfl) rfl (by simp)) HSh.out ?_;rintro v w3 ⟨rfl,hU3⟩;refine jE xB 1 1 0 (by decide) fun τ d=>?_
     simp only[List.drop_succ_cons,List.drop_zero,List.take_succ_cons,List.take_zero];walk_nrm;go_wp2;refine jG xB ?_;simp only[Exit.then];refine aC xB fun τ d=>?_
     go_wp2;exact fI rfl rfl ⟨rfl,(HT2.out.und.trans hU3).re _ _⟩
   by_cases h2:(100:Int) < word.size
   · go_wp2; refine jE xB 13 3 0 (by decide) fun τ d => ?_
     simp only[List.drop_succ_cons,List.drop_zero,List.take_succ_cons,List.take_zero];walk_nrm;go_wp2;refine jG xB ?_;simp only[Exit.then];refine nG ?_ τ d;refine oM xB (t:=true) rfl ?_;simp only[if_true];refine oC xB (zJ xB ?_);refine pG (i:=0) (rest:=List.range' 1 1) xB rfl (by rfl) (bF (vs:=#[]) rfl Tryz.func8 (by kernel_rfl) rfl (by simp)) HSh.out ?_;rintro v w3 ⟨rfl,hU3⟩;refine jE xB 1 1 0 (by decide) fun τ d=>?_
     simp only[List.drop_succ_cons,List.drop_zero,List.take_succ_cons,List.take_zero];walk_nrm;go_wp2;refine jG xB ?_;simp only[Exit.then];refine aC xB fun τ d=>?_
     go_wp2;exact fI rfl rfl ⟨rfl,(HT2.out.und.trans hU3).re _ _⟩
   go_wp2;have e1:decide ((150:Int) < row.length)=false:=decide_eq_false (by omega);have e2:decide ((100:Int) < word.size)=false:=decide_eq_false (by omega);simp only[e1,e2,Bool.or_self];refine pG (i:=13) (rest:=List.range' 14 2) xB rfl (by rfl) (bF (vs:=#[]) rfl Tryz.func8 (by kernel_rfl) rfl (by simp)) HSh.out ?_;rintro v w3 ⟨rfl,hU3⟩;have HT3:=Lib.hid (HT2.out.under hU3);clear hU3 HSh;refine jE xB 14 2 0 (by decide) fun τ d=>?_
   simp only[List.drop_succ_cons,List.drop_zero,List.take_succ_cons,List.take_zero];walk_nrm;go_wp2;refine jG xB ?_;simp only[Exit.then];refine nG ?_ τ d;refine oM xB (t:=false) rfl ?_;simp only[Bool.false_eq_true,if_false];refine aC xB fun τ d=>?_
   go_wp2;refine nG ?_ τ d;refine oC xB (oC xB (aC xB fun τ d=>?_));go_wp2;refine nG ?_ τ d;refine iU xB (bZ (Q:=f5A W (.slice p row.length cap) cs ds p1 p2 d1 d2 W.heap.size word row) (q3A cs ds row word (by omega) hrow hE hS _ _ ⟨_,fB (F:=iH (.slice p row.length cap) W.heap.size 0 word) (by rfl),HT3.out⟩) ?_);rintro e a w4 (⟨rfl,⟨J,rfl,hT⟩,hg⟩ | ⟨rfl,h⟩)
   · exact aC xB fun τ d=>f3A cs ds row word hcs hds hrow hcap (by omega) hE hS hc50 hd50 hg J (re w4 τ d) (hT.re τ d)
   · exact h
 · go_wp2; refine jE xB 13 3 0 (by decide) fun τ d => ?_
   simp only[List.drop_succ_cons,List.drop_zero,List.take_succ_cons,List.take_zero];walk_nrm;go_wp2;refine jG xB ?_;simp only[Exit.then];refine nG ?_ τ d;refine oM xB (t:=true) rfl ?_;simp only[if_true];refine oC xB (zJ xB ?_);refine pG (i:=0) (rest:=List.range' 1 1) xB rfl (by rfl) (bF (vs:=#[]) rfl Tryz.func8 (by kernel_rfl) rfl (by simp)) HSh.out ?_;rintro v w3 ⟨rfl,hU3⟩;refine jE xB 1 1 0 (by decide) fun τ d=>?_
   simp only[List.drop_succ_cons,List.drop_zero,List.take_succ_cons,List.take_zero];walk_nrm;go_wp2;refine jG xB ?_;simp only[Exit.then];refine aC xB fun τ d=>?_
   go_wp2;exact fI rfl rfl ⟨rfl,(HT2.out.und.trans hU3).re _ _⟩
end
end Go.Proofs.YtlnlpdephijcoaaGreatDoor
namespace Go.Proofs.YtlnlpdephijcoaaGreatDoor
open Go
theorem uIA:mapsRowed Tryz.pinned.checked.prog=true:=by kernel_rfl
theorem wIA:(Rows.scopeTermsRow.inPlace==Tryz.pinned.checked.prog.inPlace 3)=true:=by kernel_rfl
theorem wHA:(Rows.scopeTermsRow.unfollowed==Tryz.pinned.checked.prog.unfollowed 3)=true:=by kernel_rfl
theorem uHA:(Rows.scopeTermsRow.recurses==Tryz.pinned.checked.prog.recurses 3)=true:=by kernel_rfl
theorem kJA:(Rows.scopeTermsRow.named==Tryz.pinned.checked.prog.varsNamed 3)=true:=by kernel_rfl
theorem kBA:joinedFacts Tryz.pinned.checked.prog 3 Tryz.f3 Rows.scopeTermsSpec Rows.scopeTermsRow=true:=by
 unfold joinedFacts;rw[uIA,wIA,wHA,uHA,kJA]
 kernel_rfl
end Go.Proofs.YtlnlpdephijcoaaGreatDoor
