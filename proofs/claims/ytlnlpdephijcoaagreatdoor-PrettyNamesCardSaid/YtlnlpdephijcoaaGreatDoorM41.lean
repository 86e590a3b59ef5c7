/- Part 41 of what the proof rests on. -/
import Derived.Deep.RegionLaw
import Derived.Deep.RegionHeld3
import Derived.Conc.CompanyMem
import Derived.Conc.WalkWords
import Derived.Test.YtlnlpdephijcoaaGreatDoorM11
import Derived.Test.YtlnlpdephijcoaaGreatDoorM14
import Derived.Test.YtlnlpdephijcoaaGreatDoorM40
set_option linter.unusedSimpArgs false
set_option linter.unusedVariables false
set_option maxRecDepth 100000
set_option maxHeartbeats 8000000
namespace Go.Proofs.YtlnlpdephijcoaaGreatDoor
open Go.Lx Go.RowKit
def tN (av : List ByteArray) : List Tm → List Nat → List ByteArray → List ByteArray
  | [],_,_=>[]
  | a::l,bs,st=>dE av st (bs.headD 0)++⟨(aG av a (st++dE av st (bs.headD 0))).toArray⟩::tN av l bs.tail st
theorem bZA{av:List ByteArray}{l:List Tm}{bs:List Nat}{st:List ByteArray}{j:Nat}(hj:j < l.length)(hb:j < bs.length):tN av (l.drop j) (bs.drop j) st=dE av st bs[j]++⟨(aG av l[j] (st++dE av st bs[j])).toArray⟩::tN av (l.drop (j+1)) (bs.drop (j+1)) st:=by
 rw[List.drop_eq_getElem_cons hj,List.drop_eq_getElem_cons hb];rfl
theorem iCA (av : List ByteArray) : ∀ (l : List Tm) (bs : List Nat) (st : List ByteArray), kI (tN av l bs st) = mX av l bs st false
  | [],_,_=>rfl
  | a :: l, bs, st => by
    rw[tN,mX,hGA,kI,iCA av l bs.tail st];simp[qN]
theorem pGA(x:ByteArray)(l:List ByteArray):Lib.join ((x::l).map (·.data.toList)) [32]=x.data.toList++kI l:=by
 induction l generalizing x with
 | nil=>simp[Lib.join,kI,List.intercalate,List.intersperse]
 | cons y l ih =>
   have h:=ih y;simp only[Lib.join,List.intercalate,List.map_cons,List.intersperse,List.flatten_cons]at h ⊢;rw[h];simp[kI,qN]
structure WdI (W0 w4:World) (pb hb tb lb:Nat) (ks:lD) (st:List ByteArray) (sv lv:Value) (ls:List ByteArray) (sv' lv':Value) (wr:World):Prop where
 pr:PrS W0 pb hb tb ks st sv' wr
 lbx:BoxAt wr lb 22 #[lv']
 lrow:wr.ownsRow W0.heap.size 9 1 lv' ls.length (ls.map .string)
 apart:lv'.ownBlock=none∨lv'.ownBlock≠sv'.ownBlock
 lo:W0.heap.size≤lb
 ch:Ch (fun b=>PrC pb tb sv b∨b=lb∨lv.ownBlock=some b) w4 wr
 own:∀ b,b < w4.heap.size→sv'.ownBlock=some b→sv.ownBlock=some b
 lown:∀ b,b < w4.heap.size→lv'.ownBlock=some b→lv.ownBlock=some b
section
variable {W0 w4 wr w' : World} {pb hb tb lb : Nat} {ks : lD} {st ls ls0 : List ByteArray} {sv lv sv' lv' : Value}
theorem WdI.row(h:WdI W0 w4 pb hb tb lb ks st sv lv ls sv' lv' wr)(h0:WdI W0 w4 pb hb tb lb ks st sv lv ls0 sv lv w4){base:Nat}{e:TypeId}{s n:Nat}{v:Value}{xs:List Value}(hr:w4.ownsRow base e s v n xs)(h1:e≠93)(h2:e≠9)(h3:e≠22):wr.ownsRow base e s v n xs:=by
 refine fK hr h.ch ?_;rintro g hg ((rfl | rfl | e0) | rfl | e0)
 · exact jC h0.pr.box hr h1 hg
 · exact nI h0.pr.taken hr hg
 · rcases own_ne hr h0.pr.row h2 with h' | h'
   · rw[h']at hg;cases hg
   · exact h' (hg.trans e0.symm)
 · exact jC h0.lbx hr h3 hg
 · rcases own_ne hr h0.lrow h2 with h' | h'
   · rw[h']at hg;cases hg
   · exact h' (hg.trans e0.symm)
theorem WdI.box(h:WdI W0 w4 pb hb tb lb ks st sv lv ls sv' lv' wr)(h0:WdI W0 w4 pb hb tb lb ks st sv lv ls0 sv lv w4){b:Nat}{t:TypeId}{cs:Array Value}(hb:BoxAt w4 b t cs)(h1:t≠93)(h2:t≠9)(h3:t≠22):BoxAt wr b t cs:=by
 refine pF hb h.ch ?_;rintro((rfl | rfl | e) | rfl | e)
 · exact uI hb h0.pr.box h1 rfl
 · exact xI hb h0.pr.taken rfl
 · exact jC hb h0.pr.row (fun e=>h2 e.symm) e
 · exact uI hb h0.lbx h3 rfl
 · exact jC hb h0.lrow (fun e=>h2 e.symm) e
theorem WdI.und(h:WdI W0 w4 pb hb tb lb ks st sv lv ls sv' lv' wr)(hU:Under wr w'):WdI W0 w4 pb hb tb lb ks st sv lv ls sv' lv' w' :=
 ⟨h.pr.under hU,h.lbx.under hU,uA h.lrow hU,h.apart,h.lo,h.ch.under hU,h.own,h.lown⟩
theorem WdI.step (h : WdI W0 w4 pb hb tb lb ks st sv lv ls sv' lv' wr) {L : Lay} {ls' : List ByteArray} {sv2 lv2 xv : Value} {T : Tm} (hU : UnS W0 L ks st sv2 ls' lv2 xv T w') (e1 : L.pb = pb) (e2 : L.hb = hb) (e3 : L.tb = tb) (e4 : L.lb = lb) (hc : Ch (UnC L sv' lv') wr w')
    (ho:∀ b,b < wr.heap.size→sv2.ownBlock=some b→sv'.ownBlock=some b) (hl:∀ b,b < wr.heap.size→lv2.ownBlock=some b→lv'.ownBlock=some b):WdI W0 w4 pb hb tb lb ks st sv lv ls' sv2 lv2 w':=by
  subst e1 e2 e3 e4;have hz:=h.ch.size;refine⟨hU.pr,hU.lbx,hU.lrow,hU.apart,hU.lo,h.ch.trans hc ?_,fun b hb e=>h.own b hb (ho b (by omega) e),fun b hb e=>h.lown b hb (hl b (by omega) e)⟩;rintro i hi ((rfl | rfl | e) | rfl | e)
  · exact .inl (.inl rfl)
  · exact .inl (.inr (.inl rfl))
  · exact .inl (.inr (.inr (h.own i hi e)))
  · exact .inr (.inl rfl)
  · exact .inr (.inr (h.lown i hi e))
end
theorem uT{P:Program}{w:World}{a:Addr}{m:Mode}(f:Fn)(r l:Array Value):(store a (.func f r l) m).run P w=stored P w a (.func f r l) m:=run_store P w a _ m rfl
attribute [local go_sem] uT
theorem dJA : ∀ (l : List Tm) (d : Nat), d ≤ lI d l ∧ ∀ a ∈ l, rC a + 1 ≤ lI d l
  | [],d=>⟨Nat.le_refl _,fun a h=>by cases h⟩
  | b :: l, d => by
    obtain⟨h1,h2⟩:=dJA l (max d (rC b+1));simp only[lI];refine⟨by omega,fun a ha=>?_⟩;rcases List.mem_cons.1 ha with rfl | ha
    · omega
    · exact h2 a ha
theorem tIA{x:Nd}{l:List Tm}{a:Tm}(ha:a∈l):rC a≤rC (.mk x l):=by
 have:=(dJA l 1).2 a ha;rw[rC];omega
theorem vV : ∀ {l : List Tm} {a : Tm}, a ∈ l → (flat a).length ≤ (qA l).length
  | b :: l, a, ha => by
    rw[qA,List.length_append];rcases List.mem_cons.1 ha with rfl | ha
    · omega
    · have:=vV ha;omega
def vY(x:Nd):List ByteArray:=(if x.s.toList==[] then [] else [x.s])++(if x.k=26 then [⟨(Lib.decDigits x.n.toNat).toArray⟩] else [])
theorem e4A{av st:List ByteArray}{x:Nd}{l:List Tm}(h0:x.k≠0)(h1:x.k≠1)(h2:x.k≠2)(hp:sH x=false)(hf:jE x=false) :
 aG av (.mk x l) st=40::Lib.join ((uD x::(vY x++tN av l (binds x) st)).map (·.data.toList)) [32]++[41]:=by
 rw[pGA,hGA,iCA];unfold aG;rw[if_neg h0,if_neg h1,if_neg (by rw[hp];simp),if_neg h2,hf];unfold hKA vY
 split<;>split<;>simp[kI,qN]
theorem hWA{av st:List ByteArray}{x:Nd}{a b:Tm}(h0:x.k≠0)(h1:x.k≠1)(h2:x.k≠2)(hp:sH x=false)(hf:jE x=true)(hs:(x.s.toList==[])=true)(hb:binds x=[0,1])(h26:x.k≠26) :
 aG av (.mk x [a,b]) st=40::Lib.join ([uD x,bC (oD (av++st) st.length),⟨(aG av a st).toArray⟩,⟨(aG av b (st++[bC (oD (av++st) st.length)])).toArray⟩].map (·.data.toList)) [32]++[41]:=by
 rw[pGA]
 conv=>lhs;unfold aG
 rw[if_neg h0,if_neg h1,if_neg (by rw[hp];simp),if_neg h2,hf,hb];unfold hKA;rw[hs,if_neg h26];simp[kI,qN,mX,dE]
def vCB(W0 w4:World)(pb hb tb lb:Nat)(ks:lD)(st av:List ByteArray)(sv lv:Value)(l:List Tm)(bs:List Nat)(ls:List ByteArray)(i:Value)(wr:World):Prop :=
 ∃(j:Nat) (os:List ByteArray) (sv' lv':Value),j≤l.length∧i = .int .i64 (j:Int)∧os.length≤3 * j∧tN av l bs st=os++tN av (l.drop j) (bs.drop j) st∧WdI W0 w4 pb hb tb lb ks st sv lv (ls++os) sv' lv' wr
theorem m3A{x:Nd}(hx:nA x=true)(h0:x.k≠0)(h1:x.k≠1)(h2:x.k≠2)(hp:sH x=false)(hs:(x.s.toList==[])=true)(h26:x.k≠26):(binds x).length≠0:=by
 have hk:=oH hx;have hf:fS x.k.toNat=false:=by
  rcases fG hx with⟨_,h⟩ | ⟨h,_⟩
  · exact h
  · have:=(uP h).1;rw[ByteArray.toList_eq]at hs;simp at hs;simp[hs]at this
 obtain⟨k,n,m,s⟩:=x;simp only at *;unfold sH at hp;unfold binds;simp only at *;rcases(by omega:k=3∨k=4∨k=5∨k=6∨k=7∨k=8∨k=9∨k=10∨k=11∨k=12∨k=13∨k=14∨k=15∨k=16∨k=17∨k=18∨k=19∨k=20∨k=21∨k=22∨k=23∨k=24∨k=25∨k=27∨k=28∨k=29) with rfl | rfl | rfl | rfl | rfl | rfl | rfl | rfl | rfl | rfl | rfl | rfl | rfl | rfl | rfl | rfl | rfl | rfl | rfl | rfl | rfl | rfl | rfl | rfl | rfl | rfl
 all_goals first
  | (exact absurd hp (by decide))
  | (exact absurd hf (by decide))
  | (simp[pE])
theorem pBB{W0 w w':World}{pb hb tb:Nat}{ks:lD}{st:List ByteArray}{sv lv:Value}{n:Nat}{xs:List Value}(h:PrS W0 pb hb tb ks st sv w)(hl:w.ownsRow W0.heap.size 9 1 lv n xs)(ha:lv.ownBlock=none∨lv.ownBlock≠sv.ownBlock)(hc:Ch (fun i=>lv.ownBlock=some i) w w'):PrS W0 pb hb tb ks st sv w' :=
 ⟨pF h.box hc (fun e => jC h.box hl (by decide) e), h.heads.same (hc.block _ h.heads.lt (fun e => jV h.heads hl e)), h.taken.same (hc.block _ h.taken.lt (fun e => nI h.taken hl e)),
   fK h.row hc (fun g hg e => by
     rcases ha with h' | h'
     · rw[h']at e;cases e
     · exact h' (e.trans hg.symm)),zK h.und hc (fun b hb=>(iC hl hb).1),h.lo⟩
theorem nQA {W0 w2 w3 w5 : World} {lb g cap : Nat} {lv : Value} {ls : List ByteArray} {x : ByteArray} (hU : Under w2 w3) (hlb : w2.heap.size ≤ lb) (hL : BoxAt w3 lb 22 #[lv]) (hR : w3.ownsRow W0.heap.size 9 1 lv ls.length (ls.map .string)) (hv : ∀ i, lv.ownBlock = some i → w2.heap.size ≤ i)
    (hown:w5.ownsRow W0.heap.size 9 1 (.slice (some ⟨g,0,none⟩) (ls.length+1) cap) (ls.length+1) (ls.map .string++[.string x])) (hgr:(w3.alloc (.cells #[.string x] 9)).grownBy w5 lv.ownBlock) (hat:lv.ownBlock=some g∨w2.heap.size≤g) :
    BoxAt w5 lb 22 #[lv]∧Under w2 (w5.setCell ⟨lb,0,none⟩ (.slice (some ⟨g,0,none⟩) (ls.length+1) cap))∧BoxAt (w5.setCell ⟨lb,0,none⟩ (.slice (some ⟨g,0,none⟩) (ls.length+1) cap)) lb 22 #[.slice (some ⟨g,0,none⟩) (ls.length+1) cap] ∧
     (w5.setCell ⟨lb,0,none⟩ (.slice (some ⟨g,0,none⟩) (ls.length+1) cap)).ownsRow W0.heap.size 9 1 (.slice (some ⟨g,0,none⟩) (ls.length+1) cap) (ls++[x]).length ((ls++[x]).map .string)∧∀ i,(Value.slice (some ⟨g,0,none⟩) (ls.length+1) cap).ownBlock=some i→w2.heap.size≤i:=by
  have hc5:Ch (fun i=>lv.ownBlock=some i) w3 w5:=(Ch.of_under (aA (Under.refl w3) _)).grown hgr (fun g e _=>e);have hb5:=pF hL hc5 (fun e=>jC hL hR (by decide) e);have hU5:Under w2 w5:=zK hU hc5 hv;refine⟨hb5,xD hU5 hlb _ _,hb5.set 0 _,?_,fun i hi=>?_⟩
  · rw[List.length_append,List.map_append];exact kK hown (jC hb5 hown (by decide)) 0 _
  · have e : g = i := by simpa [Value.ownBlock] using hi
    rcases hat with h | h
    · exact hv i (by rw[h,e])
    · omega
attribute [local go_sem] uT
noncomputable def vEA:Code:=Tryz.f44.body.getD .skip
noncomputable def pwTail:Code:=fA (fA (fA (fA (fA (fA (fA (fA (fA (fA vEA)))))))))
noncomputable def pwJ:Code:=fA (fA (fA pwTail))
def iL(v1:Value)(bp nb:Nat)(bv:Value)(lb:Nat)(J:Nat→Value):Array Value:=#[J 0,v1,.pointer (some ⟨bp,0,none⟩),J 3,J 4,.pointer (some ⟨nb,0,none⟩),J 6,bv,J 8,.pointer (some ⟨lb,0,none⟩),J 10,J 11,J 12,J 13,J 14,J 15,J 16,J 17,J 18,J 19,J 20,J 21,J 22,J 23,J 24,J 25,J 26,J 27,J 28,J 29,J 30,J 31,J 32,J 33,J 34,J 35,J 36,J 37,J 38,J 39,J 40,J 41,J 42,J 43,J 44,J 45,J 46,J 47,J 48,J 49,J 50,J 51,J 52,J 53,J 54,J 55,J 56,J 57,J 58,J 59,J 60,J 61,J 62,J 63,J 64,J 65,J 66,J 67,J 68,J 69,J 70,J 71,J 72,J 73,J 74,J 75,J 76,J 77,J 78,J 79,J 80,J 81,J 82,J 83,J 84,J 85,J 86,J 87,J 88,J 89,J 90,J 91,J 92,J 93,J 94,J 95,J 96,J 97,J 98,J 99,J 100,J 101,J 102,J 103,J 104,J 105,J 106,J 107,J 108,J 109,J 110,J 111,J 112,J 113,J 114,J 115,J 116,J 117,J 118,J 119,J 120,J 121,J 122,J 123,J 124,J 125,J 126,J 127,J 128,J 129,J 130,J 131,J 132,J 133,J 134,J 135,J 136,J 137,J 138,J 139,J 140,J 141,J 142,J 143,J 144,J 145,J 146,J 147,J 148,J 149,J 150,J 151,J 152,J 153,J 154,J 155,J 156,J 157,J 158,J 159,J 160,J 161,J 162,J 163,J 164,J 165,J 166,J 167,J 168,J 169]
def dV(lb:Nat)(J:Nat→Value):Array Value:=#[J 0,J 1,J 2,J 3,J 4,J 5,J 6,J 7,J 8,.pointer (some ⟨lb,0,none⟩),J 10,J 11,J 12,J 13,J 14,J 15,J 16,J 17,J 18,J 19,J 20,J 21,J 22,J 23,J 24,J 25,J 26,J 27,J 28,J 29,J 30,J 31,J 32,J 33,J 34,J 35,J 36,J 37,J 38,J 39,J 40,J 41,J 42,J 43,J 44,J 45,J 46,J 47,J 48,J 49,J 50,J 51,J 52,J 53,J 54,J 55,J 56,J 57,J 58,J 59,J 60,J 61,J 62,J 63,J 64,J 65,J 66,J 67,J 68,J 69,J 70,J 71,J 72,J 73,J 74,J 75,J 76,J 77,J 78,J 79,J 80,J 81,J 82,J 83,J 84,J 85,J 86,J 87,J 88,J 89,J 90,J 91,J 92,J 93,J 94,J 95,J 96,J 97,J 98,J 99,J 100,J 101,J 102,J 103,J 104,J 105,J 106,J 107,J 108,J 109,J 110,J 111,J 112,J 113,J 114,J 115,J 116,J 117,J 118,J 119,J 120,J 121,J 122,J 123,J 124,J 125,J 126,J 127,J 128,J 129,J 130,J 131,J 132,J 133,J 134,J 135,J 136,J 137,J 138,J 139,J 140,J 141,J 142,J 143,J 144,J 145,J 146,J 147,J 148,J 149,J 150,J 151,J 152,J 153,J 154,J 155,J 156,J 157,J 158,J 159,J 160,J 161,J 162,J 163,J 164,J 165,J 166,J 167,J 168,J 169]
theorem aY{P:Program}{c:Code}{Q:Exit→Act→World→Prop}{A:Array Value}{F:(Nat→Value)→Array Value}{df:List Deferred}{w:World}(hA:A=F fun n=>A.getD n undef)(h:∀ J,c.wp P Q ⟨F J,df⟩ w):c.wp P Q ⟨A,df⟩ w:=by
 have:=h fun n=>A.getD n undef
 rw[← hA]at this;exact this
theorem yFA {w8 : World} {lb g9 c9 : Nat} {LF : List ByteArray} {Post : Ending → World → Prop} (hb : BoxAt w8 lb 22 #[.slice (some ⟨g9, 0, none⟩) LF.length c9]) (hg : g9 < w8.heap.size) (hc : LF.length ≤ c9) (hn : LF.length ≤ 100000)
    (hJ:∀ j u,LF[j]? = some u→w8.cell? ⟨g9,0+j,none⟩=some (.string u)) (hl:(Lib.join (LF.map fun u:ByteArray=>u.data.toList) [32]).length+2≤1000000)
    (hP:∀ w',Under w8 w'→Post (.returned (.string ⟨(40::Lib.join (LF.map fun u:ByteArray=>u.data.toList) [32]++[41]).toArray⟩)) w') (J:Nat→Value) :
    pwJ.wp Tryz.prog (bodyPost Tryz.prog Tryz.f44 Post) ⟨dV lb J,[]⟩ w8:=by
  have HJc:=Lib.hid (Tryz.strings_Join g9 0 c9 LF ⟨#[32]⟩ w8 hJ hg (by omega) hc (by show(Lib.join (LF.map fun u:ByteArray=>u.data.toList) [32]).length≤_;omega));have z0:=hb.cell 0;have z1:=hb.lt;have HP:=Lib.hid hP;rw[show(⟨#[32]⟩:ByteArray).data.toList=[32] from rfl]at HJc;generalize Lib.join (LF.map fun u:ByteArray=>u.data.toList) [32]=j at *;have z2:¬ 9223372036854775807 < 1+j.toArray.size:=by simp;omega
  have z3:¬ 9223372036854775807 < 1+j.toArray.size+1:=by simp;omega
  clear hb hJ hl hP;unfold pwJ pwTail vEA;simp only[Tryz.f44,Option.getD_some,fA];unfold dV;go_wp2_with fail;clear z0 z1;refine HJc.out.mono ?_;rintro e w7 ⟨rfl,hBl⟩;have HU7:=Lib.hid (zI hBl);clear hBl HJc;go_wp2
  show Post (.returned (.string (⟨#[40]⟩++⟨j.toArray⟩++⟨#[41]⟩))) w7
  rw[show((⟨#[40]⟩:ByteArray)++⟨j.toArray⟩++⟨#[41]⟩)=⟨(40::j++[41]).toArray⟩ from ByteArray.ext (by simp)];exact HP.out _ HU7.out
def gAB(av st:List ByteArray)(x:Nd)(l:List Tm)(LS:List ByteArray):Prop :=
 (jE x = false ∧ aG av (.mk x l) st = 40 :: Lib.join ((LS ++ tN av l (binds x) st).map (·.data.toList)) [32] ++ [41]) ∨
   (jE x=true∧∃ W ta tb',LS=[W]∧l=[ta,tb']∧binds x=[0,1]∧aG av (.mk x l) st=40::Lib.join ([W,bC (oD (av++st) st.length),⟨(aG av ta st).toArray⟩,⟨(aG av tb' (st++[bC (oD (av++st) st.length)])).toArray⟩].map (·.data.toList)) [32]++[41])
theorem fBB{av st:List ByteArray}{x:Nd}{l:List Tm}(hx:nA x=true)(hl:l.length=(binds x).length)(h0:x.k≠0)(h1:x.k≠1)(h2:x.k≠2)(hp:sH x=false):gAB av st x l (uD x::vY x):=by
 cases hf:jE x
 · exact .inl ⟨hf,e4A h0 h1 h2 hp hf⟩
 · have hk : x.k = 3 ∨ x.k = 6 ∨ x.k = 4 := by simpa [jE, or_assoc] using hf
   have hs:(x.s.toList==[])=true:=by
    rcases fG hx with⟨h,_⟩ | ⟨_,h⟩
    · rw[h];rfl
    · rcases hk with e | e | e<;>(rw[e]at h;cases h)
   have hb:binds x=[0,1]:=by rcases hk with e | e | e<;>simp[binds,e,pE]
   have h26:x.k≠26:=by omega
   obtain⟨ta,tb',rfl⟩:∃ ta tb',l=[ta,tb']:=by
    have h2:l.length=2:=by rw[hl,hb];rfl
    match l,h2 with
    | [a,b],_=>exact⟨a,b,rfl⟩
   have he:vY x=[]:=by unfold vY;rw[hs,if_neg h26];rfl
   exact .inr ⟨hf,_,ta,tb',by rw[he],rfl,hb,hWA h0 h1 h2 hp hf hs hb h26⟩
def yXA(W0 w:World)(pb hq tb:Nat)(ks:lD)(st av:List ByteArray)(sv:Value)(T:Tm)(e:Ending)(w':World):Prop :=
 e = .returned (.string ⟨(aG av T st).toArray⟩)∧∃ sv',PrS W0 pb hq tb ks st sv' w'∧Ch (PrC pb tb sv) w w'∧∀ b,b < w.heap.size→sv'.ownBlock=some b→sv.ownBlock=some b
theorem xL (x : Nd) (l : List Tm) (ih : ∀ a ∈ l, jJ a) (hok : okT (.mk x l)) (hd : rC (.mk x l) ≤ 60) {N : Nat} (hN : (flat (.mk x l)).length = N) (hn : N ≤ 4000) {W0 w w3 : World} {pb hq tb b off c lb cb qb' : Nat} {qb : Option Addr} {ks : lD} {st av LS : List ByteArray} {sv LV : Value}
    (hW:Pow10 W0) (hS:ShapesAt 0 W0) (hP:PrS W0 pb hq tb ks st sv w) (hT:TakenIs ks (av++st)) (hc:N≤c) (hr:RowArg w (some ⟨b,off,none⟩) (zB (flat (.mk x l)))) (ha:av.length≤90000) (hst:st.length+2 * N≤90000) (hss:∀ s∈st,s.size≤22) (hin:oFA l (binds x) st.length)
    (hU:Under w w3) (hlb:w.heap.size≤lb) (hlv:∀ i,LV.ownBlock=some i→w.heap.size≤i) (hB1:BoxAt w3 w.heap.size 88 #[.pointer (some ⟨pb,0,none⟩)]) (hB2:BoxAt w3 (w.heap.size+1) 76 #[.int .i64 x.k,.int .i64 x.n,.int .i64 x.m,.string x.s])
    (hrb:w3.ownsRow qb' 3 1 (.slice qb l.length cb) (binds x).length (iE (binds x))) (hL3:BoxAt w3 lb 22 #[LV]) (hR3:w3.ownsRow W0.heap.size 9 1 LV LS.length (LS.map .string)) (hLS:LS.length≤3) (hL0:0 < LS.length)
    (hEnd:gAB av st x l LS) (J:Nat→Value) :
    pwTail.wp Tryz.prog (bodyPost Tryz.prog Tryz.f44 (yXA W0 w pb hq tb ks st av sv (.mk x l))) ⟨iL (.slice (some ⟨b,off,none⟩) N c) w.heap.size (w.heap.size+1) (.slice qb l.length cb) lb J,[]⟩ w3:=by
  have hx := hok.1; have hsl := wEA av (by omega) (.mk x l) hok st hss (by omega); have hbr : (if nA x then binds x else []) = binds x := if_pos hx; have HAr := Lib.hid (xPA (w0 := w3) x l (t := flat (.mk x l)) (b := b) (off := off) (c := c) rfl hok hd (by omega) (by omega) (hr.under hU) ((hS.under hP.und).under hU)); have HUn := Lib.hid (fun a (ha' : a ∈ l) => jBA a (wR.1 hok.2.2 a ha') (Nat.le_trans (tIA ha') hd) (by have := vV ha'; rw [flat, List.length_append] at hN; omega) (ih a ha')); rw [hN] at HAr hsl; have HP := Lib.hid hP; have HT0 := Lib.hid hT; have HIn := Lib.hid hin; have HLen := Lib.hid (show l.length = (binds x).length from hok.2.1); have HL8 := Lib.hid (gG hx); have HB22b := Lib.hid (show ∀ b ∈ binds x, b ≤ 2 from fun b hb => by have := nK (x := x); unfold oF at this; rw [hbr] at this; exact this b hb); have HSS := Lib.hid hss; have HW := Lib.hid hW; have HS := Lib.hid hS; have HFl := Lib.hid (show N = (qA l).length + 1 by rw [← hN, flat]; simp); have HSt := Lib.hid hst; have HHa := Lib.hid ha; have HSl := Lib.hid hsl; have HN4 := Lib.hid hn; have HU3 := Lib.hid hU; have HB13 := Lib.hid hB1; have HB23 := Lib.hid hB2; have HRb := Lib.hid hrb; have HL3 := Lib.hid hL3; have HR3 := Lib.hid hR3; have HLb := Lib.hid hlb; have HLv := Lib.hid hlv; have HEnd := Lib.hid hEnd; have HLS := Lib.hid hLS; have HL0 := Lib.hid hL0; clear hEnd hlv hR3 hL3 hrb hB2 hB1 hU hss hst ha hr hT hP hS hW hin hsl hbr hx hd hok ih hN; obtain ⟨cJ, hcJ⟩ : ∃ c, pwJ = c := ⟨_, rfl⟩; have hcl := hcJ; unfold pwJ pwTail vEA at hcl; simp only [Tryz.f44, Option.getD_some, fA] at hcl; unfold pwTail vEA; simp only [Tryz.f44, Option.getD_some, fA]; rw [hcl]; have HcJ := Lib.hid hcJ; clear hcl hcJ; unfold iL; go_wp2_with fail; refine HAr.out.mono ?_; rintro e w4 ⟨vr, vs, rfl, hU4, hvr, hz⟩; have HU4 := Lib.hid (HU3.out.trans hU4); have hlb' := Nat.le_trans HP.out.und.size HLb.out; have h0 : WdI W0 w4 pb hq tb (lb) ks st sv LV LS sv LV w4 := ⟨HP.out.under HU4.out, HL3.out.under hU4, uA HR3.out hU4, by
    cases ho:(LV:Value).ownBlock with
    | none=>exact .inl rfl
    | some g =>
      right
      intro e;have h1:=(iC HP.out.row (g:=g) e.symm).2;have h2:=HLv.out g ho;omega,by omega,Ch.refl _,fun b _ e=>e,fun b _ e=>e⟩
  have H0:=Lib.hid h0;have HU34:=Lib.hid hU4;have HB14:=Lib.hid (HB13.out.under hU4);have HB24:=Lib.hid (HB23.out.under hU4);have HRb4:=Lib.hid (uA HRb.out hU4);have HVr:=Lib.hid hvr;have HZ:=Lib.hid hz;have hvl:vs.length=l.length:=by have:=hvr.1;omega
  obtain⟨qp,cp,rfl,_,_⟩:=RowArg.of_own hvr;have HVl:=Lib.hid hvl;have HB34:=Lib.hid (show W0.heap.size≤w3.heap.size from(HP.out.und.trans HU3.out).size);have hbase:=HU4.out.size;clear h0 hvr hz hU4 hvl HB13 HB23 HRb HL3 HR3;go_wp2;go_loopw [130] (fun i wr=>vCB W0 w4 pb hq tb (lb) ks st av sv LV l (binds x) LS i wr) (fun i _=>l.length - (intOf i).toNat)
  case atStart=>exact⟨0,[],sv,LV,Nat.zero_le _,rfl,Nat.zero_le _,rfl,by rw[List.append_nil];exact H0.out⟩
  case round =>
    obtain⟨j,os,sv',lv',hj,rfl,hos,hpa,hI⟩:=hrel;have HI:=Lib.hid hI;have HPa:=Lib.hid hpa;have HOs:=Lib.hid hos;have hj0:(0:Int)≤(j:Int):=by omega
    have hj8:l.length≤8:=by rw[HLen.out];exact HL8.out
    clear hpa hos;by_cases hjl:j < l.length
    · have hjb : j < (binds x).length := by rw [← HLen.out]; exact hjl
      have hjl':(j:Int) < (l.length:Int):=by omega
      have hjv:j < vs.length:=by rw[HVl.out];exact hjl
      have hrv:=HI.out.row H0.out HVr.out (by decide) (by decide) (by decide);obtain⟨gp,cp',ep,hgp,_,hgl,_,_⟩:=wC hrv (by omega);obtain⟨rfl,rfl⟩:qp=some ⟨gp,0,none⟩∧cp=cp':=by cases ep;exact⟨rfl,rfl⟩
      clear ep;have v0:=lC hrv hgp (List.getElem?_eq_getElem hjv);have hrb:=HI.out.row H0.out HRb4.out (by decide) (by decide) (by decide);obtain⟨gb,cb',eb,hgb,_,hbl,_,_⟩:=wC hrb (by omega);rw[← HLen.out]at eb;obtain⟨rfl,rfl⟩:qb=some ⟨gb,0,none⟩∧cb=cb':=by cases eb;exact⟨rfl,rfl⟩
      clear eb;have hbi:=bHA (List.getElem?_eq_getElem hjb);have hpart:=kN (HI.out.row H0.out (HZ.out.2 j _ _ (List.getElem?_eq_getElem hjv) (List.getElem?_eq_getElem hjl)) (by decide) (by decide) (by decide)) (base':=W0.heap.size) HB34.out;have HPt:=Lib.hid hpart;have hin:=b7A hjl hjb HIn.out;have hb2:=HB22b.out _ (List.getElem_mem hjb);have hfp:=vV (List.getElem_mem hjl);have HPl:=Lib.hid (bZA (av:=av) (st:=st) hjl hjb);have HQ:=HUn.out _ (List.getElem_mem hjl) (binds x)[j];generalize hTT:l[j]=T at *;generalize (binds x)[j]=bj at *;generalize vs[j]=xv at *;obtain⟨qx,cx,rfl,_,_⟩:=RowArg.of_own hpart;have hbj0:(0:Int)≤(bj:Int):=by omega
      obtain⟨W5,hW5⟩:∃ W5,W5=((wr.alloc (.cells #[.slice qx (flat T).length cx] 30)).alloc (.cells #[(.func (.func 83) #[] #[.pointer (some ⟨lb,0,none⟩),.pointer (some ⟨w.heap.size,0,none⟩),.pointer (some ⟨wr.heap.size,0,none⟩),.pointer (some ⟨wr.heap.size+1,0,none⟩)])] 142)).drew:=⟨_,rfl⟩;have hU5:Under wr W5:=by rw[hW5];exact bA (aA (aA (Under.refl _) _) _)
      have hUn:UnS W0 ⟨pb,hq,tb,lb,w.heap.size,wr.heap.size,wr.heap.size+1⟩ ks st sv' (LS++os) lv' (.slice qx (flat T).length cx) T W5:=by
       refine⟨HI.out.pr.under hU5,HI.out.lbx.under hU5,uA HI.out.lrow hU5,HI.out.apart,(HI.out.box H0.out HB14.out (by decide) (by decide) (by decide)).under hU5,?_,?_,uA HPt.out hU5,HI.out.lo⟩
       · rw[hW5];exact((yA wr _ _).alloc _).drew
       · rw[hW5];have:=yA (wr.alloc (.cells #[.slice qx (flat T).length cx] 30)) #[(.func (.func 83) #[] #[.pointer (some ⟨lb,0,none⟩),.pointer (some ⟨w.heap.size,0,none⟩),.pointer (some ⟨wr.heap.size,0,none⟩),.pointer (some ⟨wr.heap.size+1,0,none⟩)])] 142;rw[World.size_alloc]at this;exact this.drew
      have HC := Lib.hid (HQ W0 W5 ⟨pb, hq, tb, lb, w.heap.size, wr.heap.size, wr.heap.size + 1⟩ ks st av (LS ++ os) sv' lv' _ HW.out HS.out hUn HT0.out HHa.out (by have := HSt.out; have := HFl.out; omega) (by have := HOs.out; simp; omega) HSS.out hin); have u0 : W5.cell? ⟨wr.heap.size + 1, 0, none⟩ = some (.func (.func 83) #[] #[.pointer (some ⟨lb, 0, none⟩), .pointer (some ⟨w.heap.size, 0, none⟩), .pointer (some ⟨wr.heap.size, 0, none⟩), .pointer (some ⟨wr.heap.size + 1, 0, none⟩)]) := hUn.ubx.cell 0; have b5 : W5.cell? ⟨gb, j, none⟩ = some (.int .i64 (bj : Int)) := lC (uA hrb hU5) hgb hbi; have tt := And.intro u0 b5; have HBi := Lib.hid hbi; have hb2' := hb2; have HUn5 := Lib.hid hUn; have HU5 := Lib.hid hU5; have HE5 := Lib.hid hW5; clear u0 b5 hrb hUn hU5 hpart hrv hbi hin HQ hb2 hfp hgb hgp hW5; subst hTT; go_wp2_with fail; rw [HE5.out] at tt; go_region_held3 (fun w' => w'.cell? ⟨wr.heap.size + 1, 0, none⟩ = some (.func (.func 83) #[] #[.pointer (some ⟨lb, 0, none⟩), .pointer (some ⟨w.heap.size, 0, none⟩), .pointer (some ⟨wr.heap.size, 0, none⟩), .pointer (some ⟨wr.heap.size + 1, 0, none⟩)]) ∧ w'.cell? ⟨gb, j, none⟩ = some (.int .i64 (bj : Int)))
        (first
          | exact tt
          | go_keep
          | exact⟨q0,q1⟩)
        ((go_simp; go_at_call 83; rw [← HE5.out]; refine HC.out.mono ?_; rintro e w6 ⟨⟨v6, rfl⟩, sv6, lv6, hU6, hC6, hO6, hL6⟩
          have q0:w6.cell? ⟨wr.heap.size+1,0,none⟩=some (.func (.func 83) #[] #[.pointer (some ⟨lb,0,none⟩),.pointer (some ⟨w.heap.size,0,none⟩),.pointer (some ⟨wr.heap.size,0,none⟩),.pointer (some ⟨wr.heap.size+1,0,none⟩)]):=hU6.ubx.cell 0;have HW6:=Lib.hid ((HI.out.und HU5.out).step hU6 rfl rfl rfl rfl hC6 hO6 hL6);have q1:w6.cell? ⟨gb,j,none⟩=some (.int .i64 (bj:Int)):=lC (HW6.out.row H0.out HRb4.out (by decide) (by decide) (by decide)) rfl HBi.out))
      rename_i hHeld;clear hHeld q0 q1 tt hU6 hC6 hO6 hL6;go_wp2;go_roundw
      case rel =>
        refine⟨j+1,os++dE av st bj++[⟨(aG av l[j] (st++dE av st bj)).toArray⟩],sv6,lv6,by omega,by go_num,?_,?_,?_⟩
        · have:=HOs.out;rw[List.length_append,List.length_append,pM,List.length_singleton];omega
        · rw[HPa.out,HPl.out];simp
        · have:=HW6.out;simp only[List.append_assoc]at this ⊢;exact this
      case measure=>simp[intOf];omega
    · obtain rfl : j = l.length := by omega
      have hos:os=tN av l (binds x) st:=by rw[HPa.out,List.drop_length];simp[tN]
      have hnb := HI.out.box H0.out HB24.out (by decide) (by decide) (by decide); have z4 : wr.cell? ⟨w.heap.size + 1, 0, none⟩ = some (.int .i64 x.k) := hnb.cell 0; have z5 := hnb.lt; obtain ⟨g9, c9, e9, hg9, _, hl9, hc9, _⟩ := wC HI.out.lrow (by have := HL0.out; simp; omega); subst e9; have HCJ := Lib.hid ((Ch.of_under HU4.out).trans HI.out.ch (D := fun b => PrC pb tb sv b ∨ b = lb ∨ LV.ownBlock = some b) (C := PrC pb tb sv) (fun i hi h => by
        rcases h with h | h | h
        · exact h
        · have:=HLb.out;omega
        · have:=HLv.out i h;omega))
      have HPJ:=Lib.hid HI.out.pr;rcases HEnd.out with⟨hf,hsay⟩ | ⟨hf,W,ta,tb',rfl,hlab,hb01,hsay⟩
      · simp only [jE, Bool.or_eq_false_iff] at hf; obtain ⟨⟨f3, f6⟩, f4⟩ := hf; rw [← hos] at hsay; have HSay := Lib.hid hsay; clear hsay hos; go_wp2; rw [← HcJ.out]; refine aY (F := dV lb) (by rfl) fun J => ?_
        refine yFA HI.out.lbx hl9 hc9 (by have:=HOs.out;have:=HLS.out;simp;omega) (fun jj u hu=>by rw[Nat.zero_add];exact lC HI.out.lrow rfl (by rw[List.getElem?_map,hu];rfl)) ?_ (fun w' hU'=>⟨by rw[HSay.out],sv',HPJ.out.under hU',HCJ.out.under hU',fun b hb e=>HI.out.own b (by have:=HU4.out.size;omega) e⟩) J;have h1:=HSl.out;have h2:=HN4.out;rw[HSay.out]at h1;simp at h1 ⊢;omega
      · have hk3 : (x.k == 3) = true ∨ ((x.k == 3) = false ∧ (x.k == 6) = true) ∨ ((x.k == 3) = false ∧ (x.k == 6) = false ∧ (x.k == 4) = true) := by
          unfold jE at hf
          cases h3:(x.k==3)<;>cases h6:(x.k==6)<;>simp[h3,h6]at hf ⊢;exact hf
        obtain⟨nm,hnm⟩:∃ nm,nm=bC (oD (av++st) st.length):=⟨_,rfl⟩;rw[← hnm]at hsay;have hos3:os=[⟨(aG av ta st).toArray⟩,nm,⟨(aG av tb' (st++[nm])).toArray⟩]:=by rw[hos,hb01,hlab,hnm];simp[tN,dE]
        generalize hTA:(⟨(aG av ta st).toArray⟩:ByteArray)=TA at hos3 hsay;generalize hTB:(⟨(aG av tb' (st++[nm])).toArray⟩:ByteArray)=TB at hos3 hsay;subst hos3;have HSay:=Lib.hid hsay;clear hsay hos hnm hlab hb01 hf hTA hTB;have hrow:=HI.out.lrow;have z0:wr.cell? ⟨lb,0,none⟩=some (.slice (some ⟨g9,0,none⟩) 4 c9):=HI.out.lbx.cell 0;have z1:=HI.out.lbx.lt;have y1:wr.cell? ⟨g9,1,none⟩=some (.string TA):=lC hrow rfl rfl;have y2:wr.cell? ⟨g9,2,none⟩=some (.string nm):=lC hrow rfl rfl;have y3:=uR hrow (g:=g9) rfl 1;have y4:=uR hrow (g:=g9) rfl 2;have y5:g9 < wr.heap.size:=(iC hrow rfl).2;have hne:lb≠g9:=fun e=>jC HI.out.lbx hrow (by decide) (by rw[e];rfl)
        have HNe:=Lib.hid hne;have i1:(1:Int) < 4:=by omega
        have hrow1:=sZ hrow (g:=g9) rfl (j:=1) (by simp) (.string nm);have y6:(wr.setCell ⟨g9,1,none⟩ (.string nm)).cell? ⟨g9,2,none⟩=some (.string nm):=lC hrow1 rfl rfl;have y7:=uR hrow1 (g:=g9) rfl 2;have y8:=(iC hrow1 (g:=g9) rfl).2;have hrow2:=sZ hrow1 (g:=g9) rfl (j:=2) (by simp) (.string TA);have HR2:=Lib.hid hrow2;have hl1:=HI.out.lbx.other hne 1 (.string nm);have hl2:=hl1.other hne 2 (.string TA);have HL2:=Lib.hid hl2;rcases hk3 with f3 | ⟨f3,f6⟩ | ⟨f3,f6,f4⟩
        all_goals
         go_wp2_with fail;rename_i K hK;refine wp_mono (Q:=fun e a' w'=>e = .normal∧∃ J,a'=⟨dV lb J,[]⟩∧w'=((wr.setCell ⟨g9,1,none⟩ (.string nm)).setCell ⟨g9,2,none⟩ (.string TA)).drew) ?_ ?_
         · refine wp_region_noPanic ?_; refine wp_region_held_drew (S := fun w' => w'.cell? ⟨lb, 0, none⟩ = some (.slice (some ⟨g9, 0, none⟩) 4 c9)) (by kernel_rfl) z0 (fun hHeld => ?_); co_applyP aB 0 rfl (by kernel_rfl) (by kernel_rfl) (fun _ _ _ h => h) hHeld (fun w hSw => ?_) ?_; rotate_left
           · (try dsimp only at hSw);go_simp;try with_reducible rfl
           try walk_nrm
           co_applyP aB 1 rfl (by kernel_rfl) (by kernel_rfl) (fun _ _ _ h=>h) hHeld (fun w hSw=>?_) ?_;rotate_left
           · (try dsimp only at hSw);go_simp;try with_reducible rfl
           try walk_nrm
           co_applyP aB 2 rfl (by kernel_rfl) (by kernel_rfl) (fun _ _ _ h=>h) hHeld (fun w hSw=>?_) ?_;rotate_left
           · (try dsimp only at hSw);go_simp;try with_reducible rfl
           try walk_nrm
           co_applyP aB 3 rfl (by kernel_rfl) (by kernel_rfl) (fun _ _ _ h=>h) hHeld (fun w hSw=>?_) ?_;rotate_left
           · (try dsimp only at hSw);go_simp;try with_reducible rfl
           try walk_nrm
           co_applyP aB 5 rfl (by kernel_rfl) (by kernel_rfl) (fun _ _ _ h=>h) hHeld (fun w hSw=>?_) ?_;rotate_left
           · (try dsimp only at hSw);go_simp;try with_reducible rfl
           try walk_nrm
           co_applyP aB 6 rfl (by kernel_rfl) (by kernel_rfl) (fun _ _ _ h=>h) hHeld (fun w hSw=>?_) ?_;rotate_left
           · (try dsimp only at hSw);go_simp;try with_reducible rfl
           try walk_nrm
           refine bT 4 7 (by kernel_rfl) rfl rfl (fun K hK=>?_) (fun K hK=>?_);go_simp;refine hK.out _ _ hHeld (fun _=>?_);clear hK K hHeld;rename_i hHeld
           try walk_nrm
           refine kD 7 (by kernel_rfl) rfl fun K hK=>?_
           rotate_left;go_simp;refine hK.out _ _ hHeld (fun _=>?_);clear hK K hHeld;rename_i hHeld
           try walk_nrm
           refine kD 4 (by kernel_rfl) rfl fun K hK=>?_
           all_goals
            go_simp;refine hK.out _ _ hHeld (fun _=>?_);clear hK K hHeld;rename_i hHeld
            try walk_nrm
            co_applyP aB 8 rfl (by kernel_rfl) (by kernel_rfl) (fun _ _ _ h=>h) hHeld (fun w hSw=>?_) ?_;rotate_left
            · (try dsimp only at hSw);go_simp;try with_reducible rfl
            try walk_nrm
            refine kD 9 (by kernel_rfl) rfl fun K hK=>?_
            go_simp;refine hK.out _ _ (by exact hl1.cell 0) (fun _=>?_);clear hK K hHeld;rename_i hHeld
            try walk_nrm
            co_applyP aB 10 rfl (by kernel_rfl) (by kernel_rfl) (fun _ _ _ h=>h) hHeld (fun w hSw=>?_) ?_;rotate_left
            · (try dsimp only at hSw);go_simp;try with_reducible rfl
            try walk_nrm
            refine kD 11 (by kernel_rfl) rfl fun K hK=>?_
            go_simp;refine hK.out _ _ (by exact hl2.cell 0) (fun _=>?_);clear hK K hHeld;rename_i hHeld
            try walk_nrm
            refine wpAnyH_done (by kernel_rfl) ?_ _;refine NoPanic.normal ?_;exact⟨rfl,rA (F:=dV lb) (by rfl) rfl⟩
         rintro ex a' w8 ⟨rfl, J, rfl, rfl⟩; simp only [Exit.then]; refine hK _ _ ?_; rw [← HcJ.out]; clear z0 z1 hnb z4 z5 y1 y2 y3 y4 y5 y6 y7 y8 hrow1 hrow2 hl1 hl2 i1 hK K; have hW8 : Under ((wr.setCell ⟨g9, 1, none⟩ (.string nm)).setCell ⟨g9, 2, none⟩ (.string TA)) ((wr.setCell ⟨g9, 1, none⟩ (.string nm)).setCell ⟨g9, 2, none⟩ (.string TA)).drew := bA (Under.refl _); have hr8 := uA HR2.out hW8; have hc8 : Ch (fun i => (Value.slice (some ⟨g9, 0, none⟩) 4 c9).ownBlock = some i) wr ((wr.setCell ⟨g9, 1, none⟩ (.string nm)).setCell ⟨g9, 2, none⟩ (.string TA)).drew := (((Ch.refl (C := fun i => (Value.slice (some ⟨g9, 0, none⟩) 4 c9).ownBlock = some i) wr).set (g := g9) (fun _ => rfl) 1 _).set (g := g9) (fun _ => rfl) 2 _).under hW8; have HPJ := Lib.hid (pBB HI.out.pr HI.out.lrow HI.out.apart hc8); have HCJ := Lib.hid (HCJ.out.trans hc8 (fun i hi h => by
           have h1:=HI.out.lown i (by have:=HU4.out.size;omega) h;have:=HLv.out i h1;omega))
         refine yFA (LF := [W, nm, TA, TB]) (HL2.out.under hW8) (iC hr8 rfl).2 hc9 (by simp) (fun jj u hu => by
           rw[Nat.zero_add];refine lC hr8 rfl ?_
           show([W,nm,TA,TB].map Value.string)[jj]? = _
           rw[List.getElem?_map,hu];rfl) ?_ (fun w' hU'=>⟨by rw[HSay.out],sv',HPJ.out.under hU',HCJ.out.under hU',fun b hb e=>HI.out.own b (by have:=HU4.out.size;omega) e⟩) J
         have h1:=HSl.out;have h2:=HN4.out;rw[HSay.out]at h1;simp at h1 ⊢;omega
end Go.Proofs.YtlnlpdephijcoaaGreatDoor
