/- Part 16 of what the proof rests on. -/
import Derived.Test.YtlnlpdephijcoaaGreatDoorChecked
import Derived.KernelRfl
import Derived.WalkKit
import Derived.Tactics
import Derived.LoopTactic
import Derived.OwnWalk
import Derived.Maps.AppendAt
import Derived.Deep.QuietTactic
import Derived.BigQuiet
import Derived.Deep.LoopGhost
import Derived.Lib.Hide
import Derived.Outline
import Derived.Carry
import Derived.LoopN
import Derived.Deep.RegionHeld3
import Derived.Lib.Bytealg
import Derived.Laws.Externs
import Derived.Conc.AtomicLaws
import Derived.Test.YtlnlpdephijcoaaGreatDoorM00
import Derived.Test.YtlnlpdephijcoaaGreatDoorM01
import Derived.Test.YtlnlpdephijcoaaGreatDoorM02
import Derived.Test.YtlnlpdephijcoaaGreatDoorM07
set_option linter.unusedSimpArgs false
set_option linter.unusedVariables false
set_option maxRecDepth 100000
set_option maxHeartbeats 2000000
namespace Go.Proofs.YtlnlpdephijcoaaGreatDoor
open Go.Lx Go.RowKit
theorem wHA{l:List UInt8}{k:Nat}{c:UInt8}(h:l[k]? = some c):eD k (l.drop k)=(okB k c&&eD (k+1) (l.drop (k+1))):=by
 obtain⟨hk,hc⟩:=List.getElem?_eq_some_iff.1 h;rw[List.drop_eq_getElem_cons hk,hc];rfl
theorem jL{a b:Bool}(h:a=b):Ending.returned (.bool a) = .returned (.bool b):=by rw[h]
theorem uL{k:IntKind}{a b:Int}(h:a=b):Ending.returned (.int k a) = .returned (.int k b):=by rw[h]
theorem sJA{s:ByteArray}{k:Nat}{b:Bool}(h1:Hid (eD 0 s.data.toList=eD k (s.data.toList.drop k)))(h2:Hid (eD k (s.data.toList.drop k)=(b&&eD (k+1) (s.data.toList.drop (k+1)))))(h:b=false):false=qD s:=by
 unfold qD;rw[h1.out,h2.out,h];rfl
theorem tKA{s:ByteArray}{k:Nat}{b:Bool}(h1:Hid (eD 0 s.data.toList=eD k (s.data.toList.drop k)))(h2:Hid (eD k (s.data.toList.drop k)=(b&&eD (k+1) (s.data.toList.drop (k+1)))))(h:b=true):eD 0 s.data.toList=eD (k+1) (s.data.toList.drop (k+1)):=by
 rw[h1.out,h2.out,h];rfl
theorem t1A{s:ByteArray}{k:Nat}(h1:Hid (eD 0 s.data.toList=eD k (s.data.toList.drop k)))(hk:¬ k < s.size):qD s=(!s.toList.isEmpty&&decide ((s.size:Int)≤16)):=by
 unfold qD;rw[h1.out,List.drop_eq_nil_of_le (by simp[← ByteArray.size_data]at hk ⊢;omega),ByteArray.toList_eq];have e1:decide (s.size≠0) = !s.data.toList.isEmpty:=by
  rw[← ByteArray.size_data]
  cases h:s.data.toList with
  | nil=>simp[← Array.length_toList,h]
  | cons a b=>simp[← Array.length_toList,h]
 have e2:decide (s.size≤16)=decide ((s.size:Int)≤16):=by rw[Bool.eq_iff_iff];simp;omega
 rw[e1,e2];simp[eD]
theorem mI(s:ByteArray)(w:World)(hs:s.size≤maxLen):Calls Tryz.prog 100 #[.string s] w fun e w'=>e = .returned (.bool (qD s))∧w=w':=by
 unfold maxLen at hs;go_enter Tryz.func100,Tryz.ntmps100;go_wp2
 go_loop [8] (fun i=>∃ k:Nat,k≤s.size∧i = .int .i64 k∧eD 0 s.data.toList=eD k (s.data.toList.drop k)) (fun i=>s.size - (intOf i).toNat)
 case atStart=>exact⟨0,Nat.zero_le _,rfl,by simp⟩
 case round =>
   obtain⟨k,hk,rfl,hN⟩:=hrel;have HN:=Lib.hid hN;clear hN;by_cases hlt:k < s.size
   · have hc := wHA (l := s.data.toList) (k := k) (c := s[k]) (by rw [List.getElem?_eq_getElem (by simpa using hlt)]; rfl); have HC := Lib.hid hc; clear hc; by_cases hz : k = 0
     · subst hz; go_wp2
       all_goals try (go_round
                      case measure=>simp[intOf];omega)
       all_goals first
        | exact⟨1,by omega,rfl,tKA HN HC (by unfold okB oV eBA eSA;simp at *;omega)⟩
        | (exact⟨1,by omega,rfl,tKA HN HC (by unfold okB oV eBA eSA;simp[*])⟩)
        | (go_ret;exact⟨jL (sJA HN HC (by unfold okB oV eBA eSA;simp at *;omega)),rfl⟩)
     · have hz' : (0 : Int) < k := by omega
       clear hz;go_wp2
       all_goals try (go_round
                      case measure=>simp[intOf];omega)
       all_goals first
        | exact⟨k+1,by omega,by go_num,tKA HN HC (by unfold okB oV eBA eSA;simp at *;omega)⟩
        | (go_ret;exact⟨jL (sJA HN HC (by unfold okB oV eBA eSA;simp at *;omega)),rfl⟩)
   · have he := t1A HN hlt; have HE := Lib.hid he; clear he; go_wp2
     all_goals
      go_ret;exact⟨by rw[HE.out];simp[*],rfl⟩
def gP(k n:Int):Value:=.agg #[.int .i64 k,.int .i64 n,.int .i64 0,.string ⟨#[]⟩]
def mH(k n:Int)(s:List UInt8):Value:=.agg #[.int .i64 k,.int .i64 n,.int .i64 0,.string ⟨#[]⟩,.string ⟨s.toArray⟩]
def aloneL:lD:=[(⟨#[80,114,111,112]⟩,gP 2 0),(⟨#[78,97,116]⟩,gP 10 0),(⟨#[122,101,114,111]⟩,gP 11 0),(⟨#[69,109,112,116,121]⟩,gP 14 0),(⟨#[85,110,105,116]⟩,gP 16 0),(⟨#[115,116,97,114]⟩,gP 17 0),(⟨#[116,105,99,107]⟩,gP 29 0)]
section
variable {w0 : World}
theorem sXA:Calls Tryz.prog 54 #[] w0 fun e w=>e = .returned (.map (some w0.heap.size))∧MapAt w w0.heap.size aloneL∧Under w0 w:=by
 have hmm:=@run_makeMap Tryz.prog;have hM:=zLA w0;have hU:=aA (Under.refl w0) (.map #[] 0);go_enter Tryz.func54,Tryz.ntmps54;go_wp2_with (refine uG rfl _ _ _ (.inl rfl) Tryz.underlying61 Tryz.underlying9 rfl hM rfl rfl ?_;intro w1 hM1 hT1;replace hU:=hT1.under hU (Nat.le_refl _);replace hM:=hM1;clear hM1 hT1);go_ret;exact⟨rfl,hM,hU⟩
def mVA:lD:=[(⟨#[84,121,112,101]⟩,mH 2 0 [110]),(⟨#[108,97,109]⟩,mH 4 0 [119,46,46]),(⟨#[97,112,112]⟩,mH 5 0 [46,46]),(⟨#[112,97,105,114]⟩,mH 7 0 [46,46,46]),(⟨#[102,115,116]⟩,mH 8 0 [46]),(⟨#[115,110,100]⟩,mH 9 0 [46]),(⟨#[115,117,99]⟩,mH 12 0 [46]),(⟨#[112,114,102]⟩,mH 28 0 [46]),(⟨#[114,101,99]⟩,mH 13 0 [118,46,46,118,118,46,46]),(⟨#[97,98,111,114,116]⟩,mH 15 0 [46,46]),(⟨#[101,113]⟩,mH 18 0 [46,46,46]),(⟨#[114,101,102,108]⟩,mH 19 0 [46,46]),(⟨#[99,97,115,116]⟩,mH 20 0 [46,46,46,46]),(⟨#[116,114,97,110,115,112]⟩,mH 21 0 [46,46,118,46,46,46,46]),(⟨#[113,117,111,116]⟩,mH 22 0 [46,118,118,46,46,46,46]),(⟨#[99,108,97,115,115]⟩,mH 23 0 [46,46]),(⟨#[113,101,108,105,109]⟩,mH 24 0 [46,118,46,46,46]),(⟨#[100,97,116,97]⟩,mH 25 0 [100]),(⟨#[99,111,110]⟩,mH 26 0 [100,110,42]),(⟨#[101,108,105,109]⟩,mH 27 0 [100,118,46,42,46])]
def sfx:List ByteArray:=[⟨#[]⟩,⟨#[49]⟩,⟨#[50]⟩,⟨#[51]⟩]
def q3A(ks:lD)(j:Nat):lD:=lV (lV ks (⟨#[112,105]⟩++sfx.getD j ⟨#[]⟩) (mH 3 j [119,46,46])) (⟨#[115,105,103]⟩++sfx.getD j ⟨#[]⟩) (mH 6 j [119,46,46])
def dQ : Nat → lD
  | 0=>mVA
  | j+1=>q3A (dQ j) j
def formsL:lD:=dQ 4
noncomputable def zTA:Code:=Tryz.f53.body.getD .skip
noncomputable def kTA:Code:=xA (fA (fA zTA))
noncomputable def fmRound:Code:=oC (oC (fA kTA))
def mO(m b:Nat)(j:Nat)(J:Nat→Value):Array Value:=#[J 0,.map (some m),J 2,J 3,J 4,J 5,J 6,J 7,J 8,J 9,J 10,J 11,J 12,J 13,J 14,J 15,J 16,J 17,J 18,J 19,J 20,J 21,J 22,J 23,J 24,J 25,J 26,J 27,J 28,J 29,J 30,J 31,J 32,J 33,J 34,J 35,J 36,J 37,J 38,J 39,J 40,J 41,J 42,J 43,J 44,J 45,.slice (some ⟨b,0,none⟩) 4 4,.int .i64 4,.int .i64 (j:Int),J 49,J 50,J 51,J 52,J 53,J 54,J 55,J 56,J 57,J 58,J 59,J 60,J 61,J 62,J 63,J 64,J 65,J 66]
def FmI(w0:World)(b j:Nat)(a:Act)(w:World):Prop:=∃ J,a=⟨mO w0.heap.size b j J,[]⟩∧MapAt w w0.heap.size (dQ j)∧BoxAt w b 9 #[.string ⟨#[]⟩,.string ⟨#[49]⟩,.string ⟨#[50]⟩,.string ⟨#[51]⟩]∧Under w0 w
def FmD(w0:World)(b:Nat)(e:Exit)(a:Act)(w:World):Prop:=e = .exit 0∧FmI w0 b 4 a w
theorem t8A{b:Nat}(J:Nat→Value)(w:World)(hM:MapAt w w0.heap.size (dQ 4))(hB:BoxAt w b 9 #[.string ⟨#[]⟩,.string ⟨#[49]⟩,.string ⟨#[50]⟩,.string ⟨#[51]⟩])(hU:Under w0 w) :
 fmRound.wp Tryz.prog (Exit.then (fun _ _=>False) (FmD w0 b)) ⟨mO w0.heap.size b 4 J,[]⟩ w:=by
 have HM:=Lib.hid hM;have HB:=Lib.hid hB;have HU:=Lib.hid hU;clear hM hB hU;unfold fmRound kTA zTA;simp only[Tryz.f53,Option.getD_some,xA,fA,oC];unfold mO;go_wp2;exact⟨rfl,rA (F:=mO _ b 4) (by rfl) ⟨HM.out,HB.out,HU.out⟩⟩
theorem gBB{b j:Nat}(hj:j < 4)(J:Nat→Value)(w:World)(hM:MapAt w w0.heap.size (dQ j))(hB:BoxAt w b 9 #[.string ⟨#[]⟩,.string ⟨#[49]⟩,.string ⟨#[50]⟩,.string ⟨#[51]⟩])(hbm:b≠w0.heap.size)(hU:Under w0 w) :
 fmRound.wp Tryz.prog (Exit.then (FmI w0 b (j+1)) (fun _ _ _=>False)) ⟨mO w0.heap.size b j J,[]⟩ w:=by
 have hc:w.cell? ⟨b,j,none⟩=some (.string (sfx.getD j ⟨#[]⟩)):=by
  rw[hB.cell]
  match j,hj with
  | 0,_=>rfl
  | 1,_=>rfl
  | 2,_=>rfl
  | 3,_=>rfl
 have hlt:=hB.lt;have HB:=Lib.hid hB;have hj1:(j:Int) < 4:=by omega
 have hj0:(0:Int)≤j:=Int.natCast_nonneg _;have hz:(sfx.getD j ⟨#[]⟩).size≤1:=by
  match j,hj with
  | 0,_=>decide
  | 1,_=>decide
  | 2,_=>decide
  | 3,_=>decide
 clear hB;generalize hs:sfx.getD j ⟨#[]⟩=s at *;have hf:dQ (j+1)=lV (lV (dQ j) (⟨#[112,105]⟩++s) (mH 3 j [119,46,46])) (⟨#[115,105,103]⟩++s) (mH 6 j [119,46,46]):=by
  show q3A (dQ j) j=_
  unfold q3A;rw[hs]
 have HF:=Lib.hid hf;clear hf hs;unfold fmRound kTA zTA;simp only[Tryz.f53,Option.getD_some,xA,fA,oC];unfold mO;go_wp2_with (refine uG rfl _ _ _ (.inr rfl) Tryz.underlying60 Tryz.underlying9 rfl hM rfl rfl ?_;intro w1 hM1 hT1;replace hU:=hT1.under hU (Nat.le_refl _);replace hM:=hM1;replace HB:=Lib.hid (HB.out.turned hT1 (fun e=>hbm (Option.some.inj e)));try clear hc;clear hT1 hM1);refine rA (F:=mO _ b (j+1)) (by rfl) ⟨?_,HB.out,hU⟩;rw[HF.out];exact hM
theorem dXA{b:Nat}(hbm:b≠w0.heap.size)(m:Nat)(a:Act)(w:World)(h0:∃ j,m+j=4∧FmI w0 b j a w):(Code.loop fmRound).wp Tryz.prog (FmD w0 b) a w:=by
 refine wp_loop_ghost (fun m a w=>∃ j,m+j=4∧FmI w0 b j a w) m h0 ?_;clear h0;rintro m a w ⟨j,hmj,J,rfl,hM,hB,hU⟩;by_cases h4:j=4
 · subst h4; refine wp_mono (t8A J w hM hB hU) ?_; rintro e a' w' h
   cases e with
   | normal=>exact h.elim
   | _=>exact h
 · refine wp_mono (gBB (by omega) J w hM hB hbm hU) ?_; rintro e a' w' h
   cases e with
   | normal=>exact⟨m - 1,by omega,j+1,by omega,h⟩
   | _=>exact h.elim
end
section
variable {w0 : World}
theorem zVA:Calls Tryz.prog 53 #[] w0 fun e w=>e = .returned (.map (some w0.heap.size))∧MapAt w w0.heap.size formsL∧Under w0 w:=by
 have hmm:=@run_makeMap Tryz.prog;have hM:=zLA w0;have hU:=aA (Under.refl w0) (.map #[] 0);go_enter Tryz.func53,Tryz.ntmps53;go_wp2_with (refine uG rfl _ _ _ (.inl rfl) Tryz.underlying60 Tryz.underlying9 rfl hM rfl rfl ?_;intro w1 hM1 hT1;replace hU:=hT1.under hU (Nat.le_refl _);replace hM:=hM1;clear hM1 hT1);rename_i w1 K hK;have hM20:MapAt w1 w0.heap.size mVA:=hM.cast (by kernel_rfl);have hB:=yA w1 #[.string ⟨#[]⟩,.string ⟨#[49]⟩,.string ⟨#[50]⟩,.string ⟨#[51]⟩] 9;have hU1:=aA (Under.refl w1) (.cells #[.string ⟨#[]⟩,.string ⟨#[49]⟩,.string ⟨#[50]⟩,.string ⟨#[51]⟩] 9);refine wp_mono (dXA (by have:=hM.lt;omega) 4 _ _ ⟨0,rfl,rA (F:=mO _ w1.heap.size 0) (by rfl) ⟨hM20.under hU1,hB,hU.trans hU1⟩⟩) ?_;rintro e a' w' ⟨rfl,J,rfl,hM4,_,hU4⟩;simp only[Exit.inBlock,if_pos,Exit.then];refine hK _ _ ?_;have HM4:=Lib.hid hM4;have HU4:=Lib.hid hU4;clear hK hM hU hM20 hB hU1 hM4 hU4;unfold mO;go_wp2;go_ret;exact⟨rfl,HM4.out,HU4.out⟩
end
theorem dGA : ∀ {ks : lD} {k : ByteArray} {v : Value}, nH ks k = some v → (k, v) ∈ ks
  | (a, u) :: r, k, v, h => by
    simp only[nH]at h
    split at h
    · rename_i e
      cases h;subst e;exact List.mem_cons_self ..
    · exact List.mem_cons_of_mem _ (dGA h)
def kwB(s:ByteArray):Bool:=(nH formsL s).isSome||(nH aloneL s).isSome
def o3A : Value → Bool
  | .agg ⟨[.int .i64 _,.int .i64 _,.int .i64 _,.string _,.string _]⟩=>true
  | _=>false
def y2A : Value → Bool
  | .agg ⟨[.int .i64 _,.int .i64 _,.int .i64 _,.string _]⟩=>true
  | _=>false
theorem t0A:formsL.all (fun p=>o3A p.2)=true:=by kernel_rfl
theorem yWA:aloneL.all (fun p=>y2A p.2)=true:=by kernel_rfl
theorem zYA{s:ByteArray}{v:Value}(h:nH formsL s=some v):∃ k n m x y,v = .agg #[.int .i64 k,.int .i64 n,.int .i64 m,.string x,.string y]:=by
 have:=List.all_eq_true.1 t0A _ (dGA h);simp only at this;unfold o3A at this
 split at this
 · exact⟨_,_,_,_,_,rfl⟩
 · cases this
theorem jHA{s:ByteArray}{v:Value}(h:nH aloneL s=some v):∃ k n m x,v = .agg #[.int .i64 k,.int .i64 n,.int .i64 m,.string x]:=by
 have:=List.all_eq_true.1 yWA _ (dGA h);simp only at this;unfold y2A at this
 split at this
 · exact⟨_,_,_,_,rfl⟩
 · cases this
theorem gU(w:World):(zeroValue 114).run Tryz.prog w = .ok (.agg #[.int .i64 0,.int .i64 0,.int .i64 0,.string ⟨#[]⟩,.string ⟨#[]⟩]) w:=by kernel_rfl
theorem vU(w:World):(zeroValue 76).run Tryz.prog w = .ok (.agg #[.int .i64 0,.int .i64 0,.int .i64 0,.string ⟨#[]⟩]) w:=by kernel_rfl
section
variable {w0 : World}
structure Tables (w:World) (rb m1 m2:Nat):Prop where
 lt:rb < w.heap.size
 c1:w.cell? ⟨rb,2,none⟩=some (.map (some m1))
 c2:w.cell? ⟨rb,3,none⟩=some (.map (some m2))
 f:MapAt w m1 formsL
 a:MapAt w m2 aloneL
theorem zOA(s:ByteArray){rb m1 m2:Nat}(hT:Tables w0 rb m1 m2):Calls Tryz.prog 35 #[.pointer (some ⟨rb,0,none⟩),.string s] w0 fun e w=>e = .returned (.bool (kwB s))∧Under w0 w:=by
 obtain⟨hlt,c1,c2,h1,h2⟩:=hT;have hk:kwB s=((nH formsL s).isSome||(nH aloneL s).isSome):=rfl;have HK:=Lib.hid hk;have HM1:=Lib.hid h1;have HM2:=Lib.hid h2;clear hk h1 h2
 cases hf:nH formsL s with
 | none =>
   cases ha:nH aloneL s with
   | none =>
     rw [hf, ha] at HK; go_enter Tryz.func35, Tryz.ntmps35; go_wp2_with (first
       | (refine nE rfl _ _ true rfl Tryz.underlying60 Tryz.underlying9 (gU _) rfl HM1.out rfl ?_;rw[hf];simp only[Option.getD_some,Option.getD_none,Option.isSome_some,Option.isSome_none,if_true])
       | (refine nE rfl _ _ true rfl Tryz.underlying61 Tryz.underlying9 (vU _) rfl (HM2.out.under (aA (Under.refl _) _)) rfl ?_;rw[ha];simp only[Option.getD_some,Option.getD_none,Option.isSome_some,Option.isSome_none,if_true]))
     go_ret;exact⟨jL HK.out.symm,aA (aA (Under.refl _) _) _⟩
   | some v =>
     obtain ⟨k, n, m, x, rfl⟩ := jHA ha; rw [hf, ha] at HK; go_enter Tryz.func35, Tryz.ntmps35; go_wp2_with (first
       | (refine nE rfl _ _ true rfl Tryz.underlying60 Tryz.underlying9 (gU _) rfl HM1.out rfl ?_;rw[hf];simp only[Option.getD_some,Option.getD_none,Option.isSome_some,Option.isSome_none,if_true])
       | (refine nE rfl _ _ true rfl Tryz.underlying61 Tryz.underlying9 (vU _) rfl (HM2.out.under (aA (Under.refl _) _)) rfl ?_;rw[ha];simp only[Option.getD_some,Option.getD_none,Option.isSome_some,Option.isSome_none,if_true]))
     go_ret;exact⟨jL HK.out.symm,aA (aA (Under.refl _) _) _⟩
 | some u =>
   obtain⟨k1,n1,m1',x1,y1,rfl⟩:=zYA hf
   cases ha:nH aloneL s with
   | none =>
     rw [hf, ha] at HK; go_enter Tryz.func35, Tryz.ntmps35; go_wp2_with (first
       | (refine nE rfl _ _ true rfl Tryz.underlying60 Tryz.underlying9 (gU _) rfl HM1.out rfl ?_;rw[hf];simp only[Option.getD_some,Option.getD_none,Option.isSome_some,Option.isSome_none,if_true])
       | (refine nE rfl _ _ true rfl Tryz.underlying61 Tryz.underlying9 (vU _) rfl (HM2.out.under (aA (Under.refl _) _)) rfl ?_;rw[ha];simp only[Option.getD_some,Option.getD_none,Option.isSome_some,Option.isSome_none,if_true]))
     go_ret;exact⟨jL HK.out.symm,aA (aA (Under.refl _) _) _⟩
   | some v =>
     obtain ⟨k, n, m, x, rfl⟩ := jHA ha; rw [hf, ha] at HK; go_enter Tryz.func35, Tryz.ntmps35; go_wp2_with (first
       | (refine nE rfl _ _ true rfl Tryz.underlying60 Tryz.underlying9 (gU _) rfl HM1.out rfl ?_;rw[hf];simp only[Option.getD_some,Option.getD_none,Option.isSome_some,Option.isSome_none,if_true])
       | (refine nE rfl _ _ true rfl Tryz.underlying61 Tryz.underlying9 (vU _) rfl (HM2.out.under (aA (Under.refl _) _)) rfl ?_;rw[ha];simp only[Option.getD_some,Option.getD_none,Option.isSome_some,Option.isSome_none,if_true]))
     go_ret;exact⟨jL HK.out.symm,aA (aA (Under.refl _) _) _⟩
end
theorem eJA{s:ByteArray}{x:List UInt8}:s=⟨x.toArray⟩↔s.data.toList=x:=by
 constructor
 · rintro rfl;simp
 · intro h; apply ByteArray.ext; apply Array.ext'
   simpa using h
def mAA(y:Int×Int×List UInt8):Value:=mH y.1 y.2.1 y.2.2
theorem kEA (s : ByteArray) : ∀ T : List (List UInt8 × Int × Int × List UInt8), nH (T.map fun t => ((⟨t.1.toArray⟩ : ByteArray), mAA t.2)) s = (pX s.data.toList T).map mAA
  | []=>rfl
  | (x, y) :: T => by
    simp only[List.map_cons,nH,pX,eJA]
    split
    · rfl
    · exact kEA s T
theorem pEA (s : ByteArray) : ∀ T : List (List UInt8 × Int), nH (T.map fun t => ((⟨t.1.toArray⟩ : ByteArray), gP t.2 0)) s = (mCA s.data.toList T).map fun k => gP k 0
  | []=>rfl
  | (x, y) :: T => by
    simp only[List.map_cons,nH,mCA,eJA]
    split
    · rfl
    · exact pEA s T
theorem e0A:formsL=formT.map fun t=>((⟨t.1.toArray⟩:ByteArray),mAA t.2):=by kernel_rfl
theorem uXA:aloneL=leafT.map fun t=>((⟨t.1.toArray⟩:ByteArray),gP t.2 0):=by kernel_rfl
theorem gOA(s:ByteArray):nH formsL s=(gN s).map mAA:=by rw[e0A,kEA];rfl
theorem zIA(s:ByteArray):nH aloneL s=(zN s).map fun k=>gP k 0:=by rw[uXA,pEA];rfl
theorem lDB(s:ByteArray):kwB s=kwW s:=by
 unfold kwB kwW;rw[gOA,zIA,Option.isSome_map,Option.isSome_map]
structure ReS (W0:World) (rb m1 m2:Nat) (cv dv ov:Value) (acc:List Nd) (p e:Int) (w:World):Prop where
 box:BoxAt w rb 63 #[cv,dv,.map (some m1),.map (some m2),ov,.int .i64 p,.int .i64 e]
 f:MapAt w m1 formsL
 a:MapAt w m2 aloneL
 row:w.ownsRow W0.heap.size 76 4 ov acc.length (zB acc)
 und:Under W0 w
 lo:W0.heap.size≤rb
def dH(rb:Nat)(ov:Value)(b:Nat):Prop:=b=rb∨ov.ownBlock=some b
theorem uV{C:Nat→Prop}{w w':World}{b:Nat}{ks:lD}(h:MapAt w b ks)(k:Ch C w w')(hc:¬ C b):MapAt w' b ks:=by
 obtain⟨es,cl,hb,he⟩:=h;exact⟨es,cl,(k.block b (Array.getElem?_eq_some_iff.1 hb).1 hc).trans hb,he⟩
section
variable {W0 w w' : World} {rb m1 m2 : Nat} {cv dv ov : Value} {acc : List Nd} {p e : Int}
theorem ReS.rb_m1(h:ReS W0 rb m1 m2 cv dv ov acc p e w):rb≠m1:=xI h.box h.f
theorem ReS.rb_m2(h:ReS W0 rb m1 m2 cv dv ov acc p e w):rb≠m2:=xI h.box h.a
theorem ReS.ov_rb(h:ReS W0 rb m1 m2 cv dv ov acc p e w):ov.ownBlock≠some rb:=jC h.box h.row (by decide)
theorem ReS.ov_m1(h:ReS W0 rb m1 m2 cv dv ov acc p e w):ov.ownBlock≠some m1:=nI h.f h.row
theorem ReS.ov_m2(h:ReS W0 rb m1 m2 cv dv ov acc p e w):ov.ownBlock≠some m2:=nI h.a h.row
theorem ReS.low(h:ReS W0 rb m1 m2 cv dv ov acc p e w):∀ b,dH rb ov b→W0.heap.size≤b:=fun b hb=>by
 rcases hb with rfl | hb
 · exact h.lo
 · exact(iC h.row hb).1
theorem ReS.under(h:ReS W0 rb m1 m2 cv dv ov acc p e w)(hU:Under w w'):ReS W0 rb m1 m2 cv dv ov acc p e w' :=
 ⟨h.box.under hU,h.f.under hU,h.a.under hU,uA h.row hU,h.und.trans hU,h.lo⟩
theorem ReS.tables(h:ReS W0 rb m1 m2 cv dv ov acc p e w):Tables w rb m1 m2:=⟨h.box.lt,h.box.cell 2,h.box.cell 3,h.f,h.a⟩
theorem ReS.row_out(h:ReS W0 rb m1 m2 cv dv ov acc p e w){base s n:Nat}{t:TypeId}{v:Value}{xs:List Value}(hr:w.ownsRow base t s v n xs)(h1:t≠63)(h2:t≠76):∀ g,v.ownBlock=some g→¬ dH rb ov g:=by
 rintro g hg (rfl | e)
 · exact jC h.box hr h1 hg
 · rcases own_ne hr h.row h2 with h' | h'
   · rw[h']at hg;cases hg
   · exact h' (hg.trans e.symm)
theorem ReS.box_out(h:ReS W0 rb m1 m2 cv dv ov acc p e w){b:Nat}{t:TypeId}{cs:Array Value}(hb:BoxAt w b t cs)(h1:t≠63)(h2:t≠76):¬ dH rb ov b:=by
 rintro(rfl | e)
 · exact uI hb h.box h1 rfl
 · exact jC hb h.row (fun e=>h2 e.symm) e
def ReOut(W0:World)(rb m1 m2:Nat)(cv dv ov:Value)(acc:List Nd)(w:World)(R:Say)(x:Ending)(w':World):Prop :=
 ∃ ov' acc' p' e',ReS W0 rb m1 m2 cv dv ov' acc' p' e' w'∧Ch (dH rb ov) w w'∧(∀ b,b < w.heap.size→ov'.ownBlock=some b→ov.ownBlock=some b) ∧
  match R with
  | .ok t=>x = .returned (.bool true)∧acc'=acc++t
  | .error (e1,p1)=>x = .returned (.bool false)∧p'=p1∧e'=e1
theorem ReS.wrong(h:ReS W0 rb m1 m2 cv dv ov acc p e w)(p' e':Int):ReS W0 rb m1 m2 cv dv ov acc p' e' ((w.setCell ⟨rb,6,none⟩ (.int .i64 e')).setCell ⟨rb,5,none⟩ (.int .i64 p'))∧Ch (dH rb ov) w ((w.setCell ⟨rb,6,none⟩ (.int .i64 e')).setCell ⟨rb,5,none⟩ (.int .i64 p')):=by
 have hc:Ch (fun b=>b=rb) w ((w.setCell ⟨rb,6,none⟩ (.int .i64 e')).setCell ⟨rb,5,none⟩ (.int .i64 p')):=((Ch.refl (C:=fun b=>b=rb) w).set (g:=rb) (fun _=>rfl) 6 _).set (g:=rb) (fun _=>rfl) 5 _;refine⟨⟨?_,uV h.f hc (fun e=>h.rb_m1 e.symm),uV h.a hc (fun e=>h.rb_m2 e.symm),fK h.row hc (fun g hg e=>by subst e;exact h.ov_rb hg),zK h.und hc (fun b e=>by subst e;exact h.lo),h.lo⟩,hc.weak fun b _ e=>.inl e⟩;exact(h.box.set 6 _).set 5 _
theorem iG(h:ReS W0 rb m1 m2 cv dv ov acc p e w)(p' e':Int):Calls Tryz.prog 57 #[.pointer (some ⟨rb,0,none⟩),.int .i64 e',.int .i64 p'] w (ReOut W0 rb m1 m2 cv dv ov acc w (.error (e',p'))):=by
 have H:=Lib.hid (h.wrong p' e');have hl:=h.box.lt;have c5:=h.box.cell 5;have c6:=h.box.cell 6;have f5:=h.box.free 5;have f6:=h.box.free 6;have f5':(w.setCell ⟨rb,6,none⟩ (.int .i64 e')).frozen? ⟨rb,5,none⟩=false:=(h.box.set 6 (.int .i64 e')).free 5;have c5':(w.setCell ⟨rb,6,none⟩ (.int .i64 e')).cell? ⟨rb,5,none⟩=some (.int .i64 p):=(h.box.set 6 (.int .i64 e')).cell 5;clear h;go_enter Tryz.func57,Tryz.ntmps57;go_wp2;go_ret;exact⟨ov,acc,p',e',H.out.1,H.out.2,fun b _ e=>e,rfl,rfl,rfl⟩
end
end Go.Proofs.YtlnlpdephijcoaaGreatDoor
namespace Go.Proofs.YtlnlpdephijcoaaGreatDoor
open Go.Conc Go.Lx
def pAB(c:UInt8):Int:=bits BinOp.or IntKind.u8 (c.toNat:Int) 32
def oK(c:UInt8):Bool:=decide (97≤pAB c)&&decide (pAB c≤122)||decide ((48:Int)≤(c.toNat:Int))&&decide ((c.toNat:Int)≤57)||(c.toNat:Int)==95
section
variable {main : Bool} {d : Deal} {T : TypeId → Prop} {o : Option Nat} {L : List (Nat × Obj)}
theorem gCB(s:Value)(w:World)(hF:Holds d T o L w):CallsC Tryz.prog main (Rely d T o) (Lx.Does d T o) 153 #[s] 100 w fun v w'=>v = .int .i64 1∧Holds d T o L w':=by
 co_apply Go.Lx.CallsC.more
 · co_apply callsC_of_wpC Tryz.func153 (by rfl) rfl; simp only [Tryz.ntmps153, List.size_toArray, List.length_cons, List.length_nil, Nat.reduceAdd, Nat.reduceSub, Array.replicate_succ, Array.replicate_zero, List.push_toArray, List.append_toArray, List.nil_append, List.cons_append]
   repeat (first | co_reg terms | co_op Holds.rely hF (co_quiet terms) | (co_apply opsC_unwanted terms rfl (by rfl);try walk_nrm) | (co_ctl terms;try co_then))
   exact⟨rfl,_,resultsC_tmp (by rfl) _,by simp,hF⟩
 · decide
theorem dBB(c:UInt8)(w:World)(hF:Holds d T o L w):CallsC Tryz.prog main (Rely d T o) (Lx.Does d T o) 154 #[.int .u8 c.toNat] 100 w fun v w'=>v = .bool ((c.toNat:Int) != 10)∧Holds d T o L w':=by
 co_apply Go.Lx.CallsC.more
 · co_apply callsC_of_wpC Tryz.func154 (by rfl) rfl; simp only [Tryz.ntmps154, List.size_toArray, List.length_cons, List.length_nil, Nat.reduceAdd, Nat.reduceSub, Array.replicate_succ, Array.replicate_zero, List.push_toArray, List.append_toArray, List.nil_append, List.cons_append]
   repeat (first | co_reg terms | co_op Holds.rely hF (co_quiet terms) | (co_apply opsC_unwanted terms rfl (by rfl);try walk_nrm) | (co_ctl terms;try co_then))
   exact⟨rfl,_,resultsC_tmp (by rfl) _,by simp,hF⟩
 · decide
theorem wBB(c:UInt8)(w:World)(hF:Holds d T o L w):CallsC Tryz.prog main (Rely d T o) (Lx.Does d T o) 151 #[.int .u8 c.toNat] 100 w fun v w'=>v = .bool (oK c)∧Holds d T o L w':=by
 by_cases h1:97≤bits BinOp.or IntKind.u8 (c.toNat:Int) 32<;>by_cases h2:bits BinOp.or IntKind.u8 (c.toNat:Int) 32≤122<;>by_cases h3:(48:Int)≤(c.toNat:Int)<;>by_cases h4:(c.toNat:Int)≤57
 all_goals
  co_apply Go.Lx.CallsC.more
  · co_apply callsC_of_wpC Tryz.func151 (by rfl) rfl; simp only [Tryz.ntmps151, List.size_toArray, List.length_cons, List.length_nil, Nat.reduceAdd, Nat.reduceSub, Array.replicate_succ, Array.replicate_zero, List.push_toArray, List.append_toArray, List.nil_append, List.cons_append]
    repeat (first | co_reg terms | co_op Holds.rely hF (co_quiet terms) | (co_apply opsC_unwanted terms rfl (by rfl);try walk_nrm) | (co_ctl terms;try co_then))
    refine⟨rfl,_,resultsC_tmp (by rfl) _,?_,hF⟩;simp only[oK,pAB,h1,h2,h3,h4,decide_true,decide_false,Bool.and_true,Bool.and_false,Bool.or_true,Bool.or_false,Bool.true_or,Bool.false_or,Bool.true_and,Bool.false_and];rfl
  · decide
end
section
variable {main : Bool} {d : Deal} {T : TypeId → Prop} {o : Option Nat} {L : List (Nat × Obj)}
theorem k9A(s:ByteArray)(c:UInt8)(w:World):(callFunc 187 #[.string s,.int .u8 c.toNat]).run Tryz.prog w = .ok (.value (.int .i64 (Lib.indexByte s.data.toList c))) w:=by
 rw[run_callFunc_extern Tryz.func187 (by kernel_rfl) (by kernel_rfl) (by kernel_rfl) (e:=Extern.BytealgIndexByte.indexByte) (by kernel_rfl),Lib.run_indexByteString];simp[Result.andThen]
theorem wAB(s:ByteArray)(c:UInt8)(w:World)(es:Array Event):(callFunc 187 #[.string s,.int .u8 c.toNat]).events Tryz.prog w es=es.push ⟨.mark (.extern 187),false,true⟩:=by
 rw[events_callFunc_extern Tryz.func187 (by kernel_rfl) (by kernel_rfl) (by kernel_rfl) (e:=Extern.BytealgIndexByte.indexByte) (by kernel_rfl)];have e:Extern.BytealgIndexByte.indexByte #[.string s,.int .u8 c.toNat]=(match (List.range s.size).find? (fun i=>s[i]! == (c.toNat:Int).toNat.toUInt8) with | some i=>pure (goInt i) | none=>pure (goInt (-1))):=rfl;rw[e]
 split<;>rfl
theorem mBB(s:ByteArray)(c:UInt8)(w:World)(hF:Holds d T o L w):CallsC Tryz.prog main (Rely d T o) (Lx.Does d T o) 183 #[.string s,.int .u8 c.toNat] 20 w fun v w'=>v = .int .i64 (Lib.indexByte s.data.toList c)∧Holds d T o L w':=by
 have hr:=k9A s c;have hv:=wAB s c;co_apply Go.Lx.CallsC.more
 · co_apply callsC_of_wpC Tryz.func183 (by rfl) rfl; simp only [Tryz.ntmps183, List.size_toArray, List.length_cons, List.length_nil, Nat.reduceAdd, Nat.reduceSub, Array.replicate_succ, Array.replicate_zero, List.push_toArray, List.append_toArray, List.nil_append, List.cons_append]
   co_stmt terms Holds.rely hF (co_quiet terms)
   co_apply wpC_seq terms
   co_reg terms
   co_op Holds.rely hF (co_quiet terms);co_op Holds.rely hF (co_quiet terms)
   co_opw Holds.rely hF (skip) (refine Does.reads fun e he=>?_;have hm:=mem_listed he;simp[go_sem,hv]at hm;subst hm;exact xMA _ _ _)
   repeat (first | co_reg terms | co_op Holds.rely hF (co_quiet terms) | (co_apply opsC_unwanted terms rfl (by rfl);try walk_nrm) | (co_ctl terms;try co_then))
   exact⟨rfl,_,resultsC_tmp (by rfl) _,by simp,hF⟩
 · decide
theorem pCB(s:ByteArray)(c:UInt8)(w:World)(hF:Holds d T o L w):CallsC Tryz.prog main (Rely d T o) (Lx.Does d T o) 172 #[.string s,.int .u8 c.toNat] 50 w fun v w'=>v = .int .i64 (Lib.indexByte s.data.toList c)∧Holds d T o L w':=by
 co_apply Go.Lx.CallsC.more
 · co_apply callsC_of_wpC Tryz.func172 (by rfl) rfl; simp only [Tryz.ntmps172, List.size_toArray, List.length_cons, List.length_nil, Nat.reduceAdd, Nat.reduceSub, Array.replicate_succ, Array.replicate_zero, List.push_toArray, List.append_toArray, List.nil_append, List.cons_append]
   co_stmt terms Holds.rely hF (co_quiet terms)
   co_apply wpC_seq terms
   co_reg terms
   co_op Holds.rely hF (co_quiet terms);co_op Holds.rely hF (co_quiet terms);co_apply fH terms rfl (by rfl) rfl (mBB s c _ hF) (by simp[Act.eval]);clear hF;rintro v w ⟨rfl,hF⟩
   try walk_nrm
   repeat (first | co_reg terms | co_op Holds.rely hF (co_quiet terms) | (co_apply opsC_unwanted terms rfl (by rfl);try walk_nrm) | (co_ctl terms;try co_then))
   exact⟨rfl,_,resultsC_tmp (by rfl) _,by simp,hF⟩
 · decide
theorem iCB{b:Nat}{s:ByteArray}(hb:(b,Obj.cells #[.string s] 9 (0,0))∈L)(c:UInt8)(w:World)(hF:Holds d T o L w) :
 CallsC Tryz.prog main (Rely d T o) (Lx.Does d T o) 171 #[.int .u8 c.toNat,.pointer (some ⟨b,0,none⟩)] 100 w fun v w'=>v = .bool (decide (0≤Lib.indexByte s.data.toList c))∧Holds d T o L w':=by
 co_apply Go.Lx.CallsC.more
 · co_apply callsC_of_wpC Tryz.func171 (by rfl) rfl; simp only [Tryz.ntmps171, List.size_toArray, List.length_cons, List.length_nil, Nat.reduceAdd, Nat.reduceSub, Array.replicate_succ, Array.replicate_zero, List.push_toArray, List.append_toArray, List.nil_append, List.cons_append]
   co_stmt terms Holds.rely hF (co_quiet terms)
   co_apply wpC_seq terms
   co_reg terms
   co_opw Holds.rely hF (have hc:_=some (Value.string s):=hF.cell hb 0) (refine Does.reads ?_;co_evs (exact hF.read hb _ _))
   clear hc;co_op Holds.rely hF (co_quiet terms);co_apply fH terms rfl (by rfl) rfl (pCB s c _ hF) (by simp[Act.eval]);clear hF;rintro v w ⟨rfl,hF⟩
   try walk_nrm
   repeat (first | co_reg terms | co_op Holds.rely hF (co_quiet terms) | (co_apply opsC_unwanted terms rfl (by rfl);try walk_nrm) | (co_ctl terms;try co_then))
   exact⟨rfl,_,resultsC_tmp (by rfl) _,by simp,hF⟩
 · decide
end
end Go.Proofs.YtlnlpdephijcoaaGreatDoor
