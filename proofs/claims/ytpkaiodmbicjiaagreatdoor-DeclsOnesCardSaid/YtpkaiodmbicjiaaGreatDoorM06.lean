/- Part 6 of what the proof rests on. -/
import Derived.Test.YtpkaiodmbicjiaaGreatDoorChecked
import Derived.KernelRfl
import Derived.WalkKit
import Derived.Tactics
import Derived.LoopTactic
import Derived.OwnWalk
import Derived.Maps.AppendAt
import Derived.Deep.QuietTactic
import Derived.BigQuiet
import Derived.Deep.LoopGhost
import Derived.Lib.Hide
import Derived.Outline
import Derived.Carry
import Derived.LoopN
import Derived.Deep.RegionHeld3
import Derived.Lib.Bytealg
import Derived.Laws.Externs
import Derived.Conc.AtomicLaws
import Derived.IntWalk
import Derived.Test.YtpkaiodmbicjiaaGreatDoorM00
import Derived.Test.YtpkaiodmbicjiaaGreatDoorM03
set_option linter.unusedSimpArgs false
set_option linter.unusedVariables false
set_option maxRecDepth 100000
set_option maxHeartbeats 4000000
namespace Go.Proofs.YtpkaiodmbicjiaaGreatDoor
open Go.Proofs.Tryz
open Go.Lx Go.RowKit
theorem tGA{l:List UInt8}{k:Nat}{c:UInt8}(h:l[k]? = some c):xD k (l.drop k)=(okB k c&&xD (k+1) (l.drop (k+1))):=by
 obtain⟨hk,hc⟩:=Qo.1 h;rw[Qi hk,hc];rfl
theorem xI{a b:Bool}(h:a=b):Ending.returned (.bool a) = .returned (.bool b):=by rw[h]
theorem iJ{k:IntKind}{a b:Int}(h:a=b):Ending.returned (.int k a) = .returned (.int k b):=by rw[h]
theorem wHA{s:ByteArray}{k:Nat}{b:Bool}(h1:Hid (xD 0 s.data.toList=xD k (s.data.toList.drop k)))(h2:Hid (xD k (s.data.toList.drop k)=(b&&xD (k+1) (s.data.toList.drop (k+1)))))(h:b=false):false=fD s:=by
 unfold fD;rw[h1.out,h2.out,h];rfl
theorem iJA{s:ByteArray}{k:Nat}{b:Bool}(h1:Hid (xD 0 s.data.toList=xD k (s.data.toList.drop k)))(h2:Hid (xD k (s.data.toList.drop k)=(b&&xD (k+1) (s.data.toList.drop (k+1)))))(h:b=true):xD 0 s.data.toList=xD (k+1) (s.data.toList.drop (k+1)):=by
 rw[h1.out,h2.out,h];rfl
theorem n3A{s:ByteArray}{k:Nat}(h1:Hid (xD 0 s.data.toList=xD k (s.data.toList.drop k)))(hk:¬ k < s.size):fD s=(!s.toList.isEmpty&&decide ((s.size:Int)<=16)):=by
 unfold fD;rw[h1.out,List.drop_eq_nil_of_le (by simp[<- ByteArray.size_data]at hk ⊢;omega),ByteArray.toList_eq];have e1:decide (s.size≠0) = !s.data.toList.isEmpty:=by
  rw[<- ByteArray.size_data]
  cases h:s.data.toList with
  | nil=>simp[<- Array.length_toList,h]
  | cons a b=>simp[<- Array.length_toList,h]
 have e2:decide (s.size<=16)=decide ((s.size:Int)<=16):=by rw[Bool.eq_iff_iff];simp;omega
 rw[e1,e2];simp[xD]
theorem bI(s:ByteArray)(w:World)(hs:s.size<=maxLen):Calls prog 46 #[.string s] w λe w'=>e = .returned (.bool (fD s))/\w=w':=by
 unfold maxLen at hs;go_enter func46,ntmps46;go_wp2
 go_loop [8] (λi=>∃ k:Nat,k<=s.size/\i = .int .i64 k/\xD 0 s.data.toList=xD k (s.data.toList.drop k)) (λi=>s.size - (intOf i).toNat)
 case atStart=>exact⟨0,Nat.zero_le _,rfl,by simp⟩
 case round =>
   obtain⟨k,hk,rfl,hN⟩:=hrel;have HN:=aA hN;clear hN;by_cases hlt:k < s.size
   . have hc:=tGA (l:=s.data.toList) (k:=k) (c:=s[k]) (by rw[Qa (by simpa using hlt)];rfl);have HC:=aA hc;clear hc;by_cases hz:k=0
     . subst hz;go_wp2
       all_goals try (go_round
                      case measure=>simp[intOf];omega)
       all_goals first
        | exact⟨1,by omega,rfl,iJA HN HC (by unfold okB pX zJA mQA;simp at *;omega)⟩
        | (exact⟨1,by omega,rfl,iJA HN HC (by unfold okB pX zJA mQA;simp[*])⟩)
        | (go_ret;exact⟨xI (wHA HN HC (by unfold okB pX zJA mQA;simp at *;omega)),rfl⟩)
     . have hz':(0:Int) < k:=by omega
       clear hz;go_wp2
       all_goals try (go_round
                      case measure=>simp[intOf];omega)
       all_goals first
        | exact⟨k+1,by omega,by go_num,iJA HN HC (by unfold okB pX zJA mQA;simp at *;omega)⟩
        | (go_ret;exact⟨xI (wHA HN HC (by unfold okB pX zJA mQA;simp at *;omega)),rfl⟩)
   . have he:=n3A HN hlt;have HE:=aA he;clear he;go_wp2
     all_goals
      go_ret;exact⟨by rw[HE.out];simp[*],rfl⟩
def pO(k n:Int):Value:=.agg #[.int .i64 k,.int .i64 n,.int .i64 0,.string ⟨#[]⟩]
def rH(k n:Int)(s:List UInt8):Value:=.agg #[.int .i64 k,.int .i64 n,.int .i64 0,.string ⟨#[]⟩,.string ⟨s.toArray⟩]
def aloneL:tH:=[(⟨#[80,114,111,112]⟩,pO 2 0),(⟨#[78,97,116]⟩,pO 10 0),(⟨#[122,101,114,111]⟩,pO 11 0),(⟨#[69,109,112,116,121]⟩,pO 14 0),(⟨#[85,110,105,116]⟩,pO 16 0),(⟨#[115,116,97,114]⟩,pO 17 0),(⟨#[116,105,99,107]⟩,pO 29 0)]
section
variable {w0 : World}
theorem zGA:Calls prog 78 #[] w0 λe w=>e = .returned (.map (some w0.heap.size))/\MapAt w w0.heap.size aloneL/\Under w0 w:=by
 have hmm:=@run_makeMap prog;have hM:=xJA w0;have hU:=bA (Qu w0) (.map #[] 0);go_enter func78,ntmps78;go_wp2_with (refine mI rfl _ _ _ (.inl rfl) underlying127 underlying9 rfl hM rfl rfl ?_;intro w1 hM1 hT1;replace hU:=hT1.under hU (Qd _);replace hM:=hM1;clear hM1 hT1);go_ret;exact⟨rfl,hM,hU⟩
def zSA:tH:=[(⟨#[84,121,112,101]⟩,rH 2 0 [110]),(⟨#[108,97,109]⟩,rH 4 0 [119,46,46]),(⟨#[97,112,112]⟩,rH 5 0 [46,46]),(⟨#[112,97,105,114]⟩,rH 7 0 [46,46,46]),(⟨#[102,115,116]⟩,rH 8 0 [46]),(⟨#[115,110,100]⟩,rH 9 0 [46]),(⟨#[115,117,99]⟩,rH 12 0 [46]),(⟨#[112,114,102]⟩,rH 28 0 [46]),(⟨#[114,101,99]⟩,rH 13 0 [118,46,46,118,118,46,46]),(⟨#[97,98,111,114,116]⟩,rH 15 0 [46,46]),(⟨#[101,113]⟩,rH 18 0 [46,46,46]),(⟨#[114,101,102,108]⟩,rH 19 0 [46,46]),(⟨#[99,97,115,116]⟩,rH 20 0 [46,46,46,46]),(⟨#[116,114,97,110,115,112]⟩,rH 21 0 [46,46,118,46,46,46,46]),(⟨#[113,117,111,116]⟩,rH 22 0 [46,118,118,46,46,46,46]),(⟨#[99,108,97,115,115]⟩,rH 23 0 [46,46]),(⟨#[113,101,108,105,109]⟩,rH 24 0 [46,118,46,46,46]),(⟨#[100,97,116,97]⟩,rH 25 0 [100]),(⟨#[99,111,110]⟩,rH 26 0 [100,110,42]),(⟨#[101,108,105,109]⟩,rH 27 0 [100,118,46,42,46])]
def sfx:List ByteArray:=[⟨#[]⟩,⟨#[49]⟩,⟨#[50]⟩,⟨#[51]⟩]
def pYA(ks:tH)(j:Nat):tH:=yBA (yBA ks (⟨#[112,105]⟩++sfx.getD j ⟨#[]⟩) (rH 3 j [119,46,46])) (⟨#[115,105,103]⟩++sfx.getD j ⟨#[]⟩) (rH 6 j [119,46,46])
def uP:Nat->tH
  | 0=>zSA
  | j+1=>pYA (uP j) j
def formsL:tH:=uP 4
noncomputable def bPA:Code:=f77.body.getD .skip
noncomputable def lPA:Code:=aB (jA (jA bPA))
noncomputable def fmRound:Code:=nC (nC (jA lPA))
def vN(m b:Nat)(j:Nat)(J:Nat->Value):Array Value:=#[J 0,.map (some m),J 2,J 3,J 4,J 5,J 6,J 7,J 8,J 9,J 10,J 11,J 12,J 13,J 14,J 15,J 16,J 17,J 18,J 19,J 20,J 21,J 22,J 23,J 24,J 25,J 26,J 27,J 28,J 29,J 30,J 31,J 32,J 33,J 34,J 35,J 36,J 37,J 38,J 39,J 40,J 41,J 42,J 43,J 44,J 45,.slice (some ⟨b,0,none⟩) 4 4,.int .i64 4,.int .i64 (j:Int),J 49,J 50,J 51,J 52,J 53,J 54,J 55,J 56,J 57,J 58,J 59,J 60,J 61,J 62,J 63,J 64,J 65,J 66]
def FmI(w0:World)(b j:Nat)(a:Act)(w:World):Prop:=∃ J,a=⟨vN w0.heap.size b j J,[]⟩/\MapAt w w0.heap.size (uP j)/\BoxAt w b 9 #[.string ⟨#[]⟩,.string ⟨#[49]⟩,.string ⟨#[50]⟩,.string ⟨#[51]⟩]/\Under w0 w
def FmD(w0:World)(b:Nat)(e:Exit)(a:Act)(w:World):Prop:=e = .exit 0/\FmI w0 b 4 a w
theorem a7A{b:Nat}(J:Nat->Value)(w:World)(hM:MapAt w w0.heap.size (uP 4))(hB:BoxAt w b 9 #[.string ⟨#[]⟩,.string ⟨#[49]⟩,.string ⟨#[50]⟩,.string ⟨#[51]⟩])(hU:Under w0 w) :
 fmRound.wp prog (Exit.then (λ_ _=>False) (FmD w0 b)) ⟨vN w0.heap.size b 4 J,[]⟩ w:=by
 have HM:=aA hM;have HB:=aA hB;have HU:=aA hU;clear hM hB hU;unfold fmRound lPA bPA;simp only[f77,Qf,aB,jA,nC];unfold vN;go_wp2;exact⟨rfl,bB (F:=vN _ b 4) (by rfl) ⟨HM.out,HB.out,HU.out⟩⟩
theorem d9A{b j:Nat}(hj:j < 4)(J:Nat->Value)(w:World)(hM:MapAt w w0.heap.size (uP j))(hB:BoxAt w b 9 #[.string ⟨#[]⟩,.string ⟨#[49]⟩,.string ⟨#[50]⟩,.string ⟨#[51]⟩])(hbm:b≠w0.heap.size)(hU:Under w0 w) :
 fmRound.wp prog (Exit.then (FmI w0 b (j+1)) (λ_ _ _=>False)) ⟨vN w0.heap.size b j J,[]⟩ w:=by
 have hc:w.cell? ⟨b,j,none⟩=some (.string (sfx.getD j ⟨#[]⟩)):=by
  rw[hB.cell]
  match j,hj with
  | 0,_=>rfl
  | 1,_=>rfl
  | 2,_=>rfl
  | 3,_=>rfl
 have hlt:=hB.lt;have HB:=aA hB;have hj1:(j:Int) < 4:=by omega
 have hj0:(0:Int)<=j:=Int.natCast_nonneg _;have hz:(sfx.getD j ⟨#[]⟩).size<=1:=by
  match j,hj with
  | 0,_=>decide
  | 1,_=>decide
  | 2,_=>decide
  | 3,_=>decide
 clear hB;generalize hs:sfx.getD j ⟨#[]⟩=s at *;have hf:uP (j+1)=yBA (yBA (uP j) (⟨#[112,105]⟩++s) (rH 3 j [119,46,46])) (⟨#[115,105,103]⟩++s) (rH 6 j [119,46,46]):=by
  show pYA (uP j) j=_
  unfold pYA;rw[hs]
 have HF:=aA hf;clear hf hs;unfold fmRound lPA bPA;simp only[f77,Qf,aB,jA,nC];unfold vN;go_wp2_with (refine mI rfl _ _ _ (.inr rfl) underlying126 underlying9 rfl hM rfl rfl ?_;intro w1 hM1 hT1;replace hU:=hT1.under hU (Qd _);replace hM:=hM1;replace HB:=aA (HB.out.turned hT1 (λe=>hbm (Qt e)));try clear hc;clear hT1 hM1);refine bB (F:=vN _ b (j+1)) (by rfl) ⟨?_,HB.out,hU⟩;rw[HF.out];exact hM
theorem vWA{b:Nat}(hbm:b≠w0.heap.size)(m:Nat)(a:Act)(w:World)(h0:∃ j,m+j=4/\FmI w0 b j a w):(Code.loop fmRound).wp prog (FmD w0 b) a w:=by
 refine wp_loop_ghost (λm a w=>∃ j,m+j=4/\FmI w0 b j a w) m h0 ?_;clear h0;rintro m a w ⟨j,hmj,J,rfl,hM,hB,hU⟩;by_cases h4:j=4
 . subst h4;refine wp_mono (a7A J w hM hB hU) ?_;rintro e a' w' h
   cases e with
   | normal=>exact h.elim
   | _=>exact h
 . refine wp_mono (d9A (by omega) J w hM hB hbm hU) ?_;rintro e a' w' h
   cases e with
   | normal=>exact⟨m - 1,by omega,j+1,by omega,h⟩
   | _=>exact h.elim
end
section
variable {w0 : World}
theorem iHA:Calls prog 77 #[] w0 λe w=>e = .returned (.map (some w0.heap.size))/\MapAt w w0.heap.size formsL/\Under w0 w:=by
 have hmm:=@run_makeMap prog;have hM:=xJA w0;have hU:=bA (Qu w0) (.map #[] 0);go_enter func77,ntmps77;go_wp2_with (refine mI rfl _ _ _ (.inl rfl) underlying126 underlying9 rfl hM rfl rfl ?_;intro w1 hM1 hT1;replace hU:=hT1.under hU (Qd _);replace hM:=hM1;clear hM1 hT1);rename_i w1 K hK;have hM20:MapAt w1 w0.heap.size zSA:=hM.cast (by kernel_rfl);have hB:=zA w1 #[.string ⟨#[]⟩,.string ⟨#[49]⟩,.string ⟨#[50]⟩,.string ⟨#[51]⟩] 9;have hU1:=bA (Qu w1) (.cells #[.string ⟨#[]⟩,.string ⟨#[49]⟩,.string ⟨#[50]⟩,.string ⟨#[51]⟩] 9);refine wp_mono (vWA (by have:=hM.lt;omega) 4 _ _ ⟨0,rfl,bB (F:=vN _ w1.heap.size 0) (by rfl) ⟨hM20.under hU1,hB,hU.trans hU1⟩⟩) ?_;rintro e a' w' ⟨rfl,J,rfl,hM4,_,hU4⟩;simp only[Exit.inBlock,if_pos,Exit.then];refine hK _ _ ?_;have HM4:=aA hM4;have HU4:=aA hU4;clear hK hM hU hM20 hB hU1 hM4 hU4;unfold vN;go_wp2;go_ret;exact⟨rfl,HM4.out,HU4.out⟩
end
theorem vEA:∀ {ks:tH} {k:ByteArray} {v:Value},fJ ks k=some v->(k,v)∈ks
  | (a, u) :: r, k, v, h => by
    simp only[fJ]at h
    split at h
    . rename_i e
      cases h;subst e;exact Qn ..
    . exact Qh _ (vEA h)
def kwB(s:ByteArray):Bool:=(fJ formsL s).isSome||(fJ aloneL s).isSome
def yYA:Value->Bool
  | .agg ⟨[.int .i64 _,.int .i64 _,.int .i64 _,.string _,.string _]⟩=>true
  | _=>false
def f3A:Value->Bool
  | .agg ⟨[.int .i64 _,.int .i64 _,.int .i64 _,.string _]⟩=>true
  | _=>false
theorem lVA:formsL.all (λp=>yYA p.2)=true:=by kernel_rfl
theorem nUA:aloneL.all (λp=>f3A p.2)=true:=by kernel_rfl
theorem fVA{s:ByteArray}{v:Value}(h:fJ formsL s=some v):∃ k n m x y,v = .agg #[.int .i64 k,.int .i64 n,.int .i64 m,.string x,.string y]:=by
 have:=List.all_eq_true.1 lVA _ (vEA h);simp only at this;unfold yYA at this
 split at this
 . exact⟨_,_,_,_,_,rfl⟩
 . cases this
theorem mCA{s:ByteArray}{v:Value}(h:fJ aloneL s=some v):∃ k n m x,v = .agg #[.int .i64 k,.int .i64 n,.int .i64 m,.string x]:=by
 have:=List.all_eq_true.1 nUA _ (vEA h);simp only at this;unfold f3A at this
 split at this
 . exact⟨_,_,_,_,rfl⟩
 . cases this
theorem wU(w:World):(zeroValue 157).run prog w = .ok (.agg #[.int .i64 0,.int .i64 0,.int .i64 0,.string ⟨#[]⟩,.string ⟨#[]⟩]) w:=by kernel_rfl
theorem sU(w:World):(zeroValue 96).run prog w = .ok (.agg #[.int .i64 0,.int .i64 0,.int .i64 0,.string ⟨#[]⟩]) w:=by kernel_rfl
section
variable {w0 : World}
structure Tables (w:World) (rb m1 m2:Nat):Prop where
 lt:rb < w.heap.size
 c1:w.cell? ⟨rb,2,none⟩=some (.map (some m1))
 c2:w.cell? ⟨rb,3,none⟩=some (.map (some m2))
 f:MapAt w m1 formsL
 a:MapAt w m2 aloneL
theorem dBA(s:ByteArray){rb m1 m2:Nat}(hT:Tables w0 rb m1 m2):Calls prog 58 #[.pointer (some ⟨rb,0,none⟩),.string s] w0 λe w=>e = .returned (.bool (kwB s))/\Under w0 w:=by
 obtain⟨hlt,c1,c2,h1,h2⟩:=hT;have hk:kwB s=((fJ formsL s).isSome||(fJ aloneL s).isSome):=rfl;have HK:=aA hk;have HM1:=aA h1;have HM2:=aA h2;clear hk h1 h2
 cases hf:fJ formsL s with
 | none =>
   cases ha:fJ aloneL s with
   | none =>
     rw[hf,ha]at HK;go_enter func58,ntmps58;go_wp2_with (first
       | (refine vC rfl _ _ true rfl underlying126 underlying9 (wU _) rfl HM1.out rfl ?_;rw[hf];simp only[Qf,Option.getD_none,Option.isSome_some,Option.isSome_none,if_true])
       | (refine vC rfl _ _ true rfl underlying127 underlying9 (sU _) rfl (HM2.out.under (bA (Qu _) _)) rfl ?_;rw[ha];simp only[Qf,Option.getD_none,Option.isSome_some,Option.isSome_none,if_true]))
     go_ret;exact⟨xI HK.out.symm,bA (bA (Qu _) _) _⟩
   | some v =>
     obtain⟨k,n,m,x,rfl⟩:=mCA ha;rw[hf,ha]at HK;go_enter func58,ntmps58;go_wp2_with (first
       | (refine vC rfl _ _ true rfl underlying126 underlying9 (wU _) rfl HM1.out rfl ?_;rw[hf];simp only[Qf,Option.getD_none,Option.isSome_some,Option.isSome_none,if_true])
       | (refine vC rfl _ _ true rfl underlying127 underlying9 (sU _) rfl (HM2.out.under (bA (Qu _) _)) rfl ?_;rw[ha];simp only[Qf,Option.getD_none,Option.isSome_some,Option.isSome_none,if_true]))
     go_ret;exact⟨xI HK.out.symm,bA (bA (Qu _) _) _⟩
 | some u =>
   obtain⟨k1,n1,m1',x1,y1,rfl⟩:=fVA hf
   cases ha:fJ aloneL s with
   | none =>
     rw[hf,ha]at HK;go_enter func58,ntmps58;go_wp2_with (first
       | (refine vC rfl _ _ true rfl underlying126 underlying9 (wU _) rfl HM1.out rfl ?_;rw[hf];simp only[Qf,Option.getD_none,Option.isSome_some,Option.isSome_none,if_true])
       | (refine vC rfl _ _ true rfl underlying127 underlying9 (sU _) rfl (HM2.out.under (bA (Qu _) _)) rfl ?_;rw[ha];simp only[Qf,Option.getD_none,Option.isSome_some,Option.isSome_none,if_true]))
     go_ret;exact⟨xI HK.out.symm,bA (bA (Qu _) _) _⟩
   | some v =>
     obtain⟨k,n,m,x,rfl⟩:=mCA ha;rw[hf,ha]at HK;go_enter func58,ntmps58;go_wp2_with (first
       | (refine vC rfl _ _ true rfl underlying126 underlying9 (wU _) rfl HM1.out rfl ?_;rw[hf];simp only[Qf,Option.getD_none,Option.isSome_some,Option.isSome_none,if_true])
       | (refine vC rfl _ _ true rfl underlying127 underlying9 (sU _) rfl (HM2.out.under (bA (Qu _) _)) rfl ?_;rw[ha];simp only[Qf,Option.getD_none,Option.isSome_some,Option.isSome_none,if_true]))
     go_ret;exact⟨xI HK.out.symm,bA (bA (Qu _) _) _⟩
theorem bCA(p1 p2:Option Addr)(n1 n2 d1 d2:Nat):Calls prog 57 #[.agg #[.slice p1 n1 d1,.slice p2 n2 d2]] w0 λe w=>∃ rb m1 m2,e = .returned (.pointer (some ⟨rb,0,none⟩))/\Tables w rb m1 m2/\Under w0 w:=by
 have HU0:=aA (bA (Qu w0) (.cells #[.slice p1 n1 d1,.slice p2 n2 d2] 82));go_enter func57,ntmps57;go_wp2_with fail;go_region_held3 (λw'=>w'.cell? ⟨w0.heap.size,0,none⟩=some (.slice p1 n1 d1)/\w'.cell? ⟨w0.heap.size,1,none⟩=some (.slice p2 n2 d2))
   (first
     | go_keep
     | (go_split_ands
        refine⟨?_,?_⟩
        . (rw[iA hU2 (by have:=hU1.size;simp at this ⊢;omega)];assumption)
        . (rw[iA hU2 (by have:=hU1.size;simp at this ⊢;omega)];assumption))
     | (go_split_ands
        refine⟨?_,?_⟩
        . (rw[iA hU1 (by simp)];assumption)
        . (rw[iA hU1 (by simp)];assumption)))
   (first
     | (go_simp;go_at_call 77;refine(iHA (w0:=_)).mono ?_;rintro e w1 ⟨rfl,hM1,hU1⟩)
     | (go_simp;go_at_call 78;refine(zGA (w0:=_)).mono ?_;rintro e w2 ⟨rfl,hM2,hU2⟩))
 have hM1':MapAt w1 (w0.heap.size+1) formsL:=by simpa using hM1
 have hB:=zA w2 #[.slice p1 n1 d1,.slice p2 n2 d2,.map (some (w0.heap.size+1)),.map (some w1.heap.size),.slice none 0 0,.int .i64 0,.int .i64 0] 129;have hU3:=bA (Qu w2) (.cells #[.slice p1 n1 d1,.slice p2 n2 d2,.map (some (w0.heap.size+1)),.map (some w1.heap.size),.slice none 0 0,.int .i64 0,.int .i64 0] 129);have hT:Tables _ w2.heap.size (w0.heap.size+1) w1.heap.size:=⟨hB.lt,hB.cell 2,hB.cell 3,(hM1'.under hU2).under hU3,hM2.under hU3⟩;have hUa:=(((fA HU0.out).trans hU1).trans hU2).trans hU3;have HT:=aA hT;have HUa:=aA hUa;clear hM1 hM1' hM2 hU1 hU2 hU3 hB hT hUa;go_wp2;go_ret;exact⟨_,_,_,rfl,HT.out,HUa.out⟩
theorem jMA(s:ByteArray):Calls prog 47 #[.string s] w0 λe w=>e = .returned (.bool (kwB s))/\Under w0 w:=by
 have HN:=aA (bCA (w0:=w0) none none 0 0 0 0);go_enter func47,ntmps47;go_wp2_with fail;refine HN.out.mono ?_;rintro e w1 ⟨rb,m1,m2,rfl,hT,hU⟩;have HK:=aA (dBA s hT);have HU:=aA hU;clear hT hU;go_wp2_with fail;refine HK.out.mono ?_;rintro e w2 ⟨rfl,hU2⟩;have HU2:=aA hU2;clear hU2;go_wp2;go_ret;exact⟨rfl,HU.out.trans HU2.out⟩
end
theorem oHA{s:ByteArray}{x:List UInt8}:s=⟨x.toArray⟩↔s.data.toList=x:=by
 constructor
 . rintro rfl;simp
 . intro h;apply ByteArray.ext;apply Array.ext'
   simpa using h
def iAA(y:Int×Int×List UInt8):Value:=rH y.1 y.2.1 y.2.2
theorem lDA(s:ByteArray):∀ T:List (List UInt8×Int×Int×List UInt8),fJ (T.map λt=>((⟨t.1.toArray⟩:ByteArray),iAA t.2)) s=(hDA s.data.toList T).map iAA
  | []=>rfl
  | (x, y) :: T => by
    simp only[List.map_cons,fJ,hDA,oHA]
    split
    . rfl
    . exact lDA s T
theorem bDA(s:ByteArray):∀ T:List (List UInt8×Int),fJ (T.map λt=>((⟨t.1.toArray⟩:ByteArray),pO t.2 0)) s=(oMA s.data.toList T).map λk=>pO k 0
  | []=>rfl
  | (x, y) :: T => by
    simp only[List.map_cons,fJ,oMA,oHA]
    split
    . rfl
    . exact bDA s T
theorem eXA:formsL=formT.map λt=>((⟨t.1.toArray⟩:ByteArray),iAA t.2):=by kernel_rfl
theorem aXA:aloneL=leafT.map λt=>((⟨t.1.toArray⟩:ByteArray),pO t.2 0):=by kernel_rfl
theorem xNA(s:ByteArray):fJ formsL s=(kN s).map iAA:=by rw[eXA,lDA];rfl
theorem lHA(s:ByteArray):fJ aloneL s=(qM s).map λk=>pO k 0:=by rw[aXA,bDA];rfl
theorem t8A(s:ByteArray):kwB s=kwW s:=by
 unfold kwB kwW;rw[xNA,lHA,Option.isSome_map,Option.isSome_map]
structure ReS (W0:World) (rb m1 m2:Nat) (cv dv ov:Value) (acc:List Nd) (p e:Int) (w:World):Prop where
 box:BoxAt w rb 129 #[cv,dv,.map (some m1),.map (some m2),ov,.int .i64 p,.int .i64 e]
 f:MapAt w m1 formsL
 a:MapAt w m2 aloneL
 row:w.ownsRow W0.heap.size 96 4 ov acc.length (dC acc)
 und:Under W0 w
 lo:W0.heap.size<=rb
def qG(rb:Nat)(ov:Value)(b:Nat):Prop:=b=rb∨ov.ownBlock=some b
theorem tT{C:Nat->Prop}{w w':World}{b:Nat}{ks:tH}(h:MapAt w b ks)(k:Ch C w w')(hc:¬ C b):MapAt w' b ks:=by
 obtain⟨es,cl,hb,he⟩:=h;exact⟨es,cl,(k.block b (Qe.1 hb).1 hc).trans hb,he⟩
section
variable {W0 w w' : World} {rb m1 m2 : Nat} {cv dv ov : Value} {acc : List Nd} {p e : Int}
theorem ReS.rb_m1(h:ReS W0 rb m1 m2 cv dv ov acc p e w):rb≠m1:=xS h.box h.f
theorem ReS.rb_m2(h:ReS W0 rb m1 m2 cv dv ov acc p e w):rb≠m2:=xS h.box h.a
theorem ReS.ov_rb(h:ReS W0 rb m1 m2 cv dv ov acc p e w):ov.ownBlock≠some rb:=bC h.box h.row (by decide)
theorem ReS.ov_m1(h:ReS W0 rb m1 m2 cv dv ov acc p e w):ov.ownBlock≠some m1:=yDA h.f h.row
theorem ReS.ov_m2(h:ReS W0 rb m1 m2 cv dv ov acc p e w):ov.ownBlock≠some m2:=yDA h.a h.row
theorem ReS.low(h:ReS W0 rb m1 m2 cv dv ov acc p e w):∀ b,qG rb ov b->W0.heap.size<=b:=λb hb=>by
 rcases hb with rfl|hb
 . exact h.lo
 . exact(xB h.row hb).1
theorem ReS.under(h:ReS W0 rb m1 m2 cv dv ov acc p e w)(hU:Under w w'):ReS W0 rb m1 m2 cv dv ov acc p e w' :=
 ⟨h.box.under hU,h.f.under hU,h.a.under hU,uA h.row hU,h.und.trans hU,h.lo⟩
theorem ReS.tables(h:ReS W0 rb m1 m2 cv dv ov acc p e w):Tables w rb m1 m2:=⟨h.box.lt,h.box.cell 2,h.box.cell 3,h.f,h.a⟩
theorem ReS.row_out(h:ReS W0 rb m1 m2 cv dv ov acc p e w){base s n:Nat}{t:TypeId}{v:Value}{xs:List Value}(hr:w.ownsRow base t s v n xs)(h1:t≠129)(h2:t≠96):∀ g,v.ownBlock=some g->¬ qG rb ov g:=by
 rintro g hg (rfl|e)
 . exact bC h.box hr h1 hg
 . rcases own_ne hr h.row h2 with h'|h'
   . rw[h']at hg;cases hg
   . exact h' (hg.trans e.symm)
def ReOut(W0:World)(rb m1 m2:Nat)(cv dv ov:Value)(acc:List Nd)(w:World)(R:Say)(x:Ending)(w':World):Prop :=
 ∃ ov' acc' p' e',ReS W0 rb m1 m2 cv dv ov' acc' p' e' w'/\Ch (qG rb ov) w w'/\(∀ b,b < w.heap.size->ov'.ownBlock=some b->ov.ownBlock=some b) /\
  match R with
  | .ok t=>x = .returned (.bool true)/\acc'=acc++t
  | .error (e1,p1)=>x = .returned (.bool false)/\p'=p1/\e'=e1
theorem ReS.wrong(h:ReS W0 rb m1 m2 cv dv ov acc p e w)(p' e':Int):ReS W0 rb m1 m2 cv dv ov acc p' e' ((w.setCell ⟨rb,6,none⟩ (.int .i64 e')).setCell ⟨rb,5,none⟩ (.int .i64 p'))/\Ch (qG rb ov) w ((w.setCell ⟨rb,6,none⟩ (.int .i64 e')).setCell ⟨rb,5,none⟩ (.int .i64 p')):=by
 have hc:Ch (λb=>b=rb) w ((w.setCell ⟨rb,6,none⟩ (.int .i64 e')).setCell ⟨rb,5,none⟩ (.int .i64 p')):=((Ch.refl (C:=λb=>b=rb) w).set (g:=rb) (λ_=>rfl) 6 _).set (g:=rb) (λ_=>rfl) 5 _;refine⟨⟨?_,tT h.f hc (λe=>h.rb_m1 e.symm),tT h.a hc (λe=>h.rb_m2 e.symm),iE h.row hc (λg hg e=>by subst e;exact h.ov_rb hg),dB h.und hc (λb e=>by subst e;exact h.lo),h.lo⟩,hc.weak λb _ e=>.inl e⟩;exact(h.box.set 6 _).set 5 _
theorem jG(h:ReS W0 rb m1 m2 cv dv ov acc p e w)(p' e':Int):Calls prog 80 #[.pointer (some ⟨rb,0,none⟩),.int .i64 e',.int .i64 p'] w (ReOut W0 rb m1 m2 cv dv ov acc w (.error (e',p'))):=by
 have H:=aA (h.wrong p' e');have hl:=h.box.lt;have c5:=h.box.cell 5;have c6:=h.box.cell 6;have f5:=h.box.free 5;have f6:=h.box.free 6;have f5':(w.setCell ⟨rb,6,none⟩ (.int .i64 e')).frozen? ⟨rb,5,none⟩=false:=(h.box.set 6 (.int .i64 e')).free 5;have c5':(w.setCell ⟨rb,6,none⟩ (.int .i64 e')).cell? ⟨rb,5,none⟩=some (.int .i64 p):=(h.box.set 6 (.int .i64 e')).cell 5;clear h;go_enter func80,ntmps80;go_wp2;go_ret;exact⟨ov,acc,p',e',H.out.1,H.out.2,λb _ e=>e,rfl,rfl,rfl⟩
end
end Go.Proofs.YtpkaiodmbicjiaaGreatDoor
namespace Go.Proofs.YtpkaiodmbicjiaaGreatDoor
open Go.Proofs.Tryz
open Go.Conc Go.Lx
def p9A(c:UInt8):Int:=bits BinOp.or IntKind.u8 (c.toNat:Int) 32
def rM(c:UInt8):Bool:=decide (97<=p9A c)&&decide (p9A c<=122)||decide ((48:Int)<=(c.toNat:Int))&&decide ((c.toNat:Int)<=57)||(c.toNat:Int)==95
section
variable {main : Bool} {d : Deal} {T : TypeId -> Prop} {o : Option Nat} {L : List (Nat × Obj)}
theorem qCB(s:Value)(w:World)(hF:Holds d T o L w):CallsC prog main (Rely d T o) (Lx.Does d T o) 96 #[s] 100 w λv w'=>v = .int .i64 1/\Holds d T o L w':=by
 co_apply Go.Lx.CallsC.more
 . co_apply callsC_of_wpC func96 (by rfl) rfl;simp only[ntmps96,List.size_toArray,Qk,List.length_nil,Nat.reduceAdd,Nat.reduceSub,Array.replicate_succ,Array.replicate_zero,List.push_toArray,List.append_toArray,List.nil_append,List.cons_append]
   repeat (first|co_reg terms|co_op Holds.rely hF (co_quiet terms)|(co_apply opsC_unwanted terms rfl (by rfl);try walk_nrm)|(co_ctl terms;try co_then))
   exact⟨rfl,_,resultsC_tmp (by rfl) _,by simp,hF⟩
 . decide
theorem hAB(c:UInt8)(w:World)(hF:Holds d T o L w):CallsC prog main (Rely d T o) (Lx.Does d T o) 97 #[.int .u8 c.toNat] 100 w λv w'=>v = .bool ((c.toNat:Int) != 10)/\Holds d T o L w':=by
 co_apply Go.Lx.CallsC.more
 . co_apply callsC_of_wpC func97 (by rfl) rfl;simp only[ntmps97,List.size_toArray,Qk,List.length_nil,Nat.reduceAdd,Nat.reduceSub,Array.replicate_succ,Array.replicate_zero,List.push_toArray,List.append_toArray,List.nil_append,List.cons_append]
   repeat (first|co_reg terms|co_op Holds.rely hF (co_quiet terms)|(co_apply opsC_unwanted terms rfl (by rfl);try walk_nrm)|(co_ctl terms;try co_then))
   exact⟨rfl,_,resultsC_tmp (by rfl) _,by simp,hF⟩
 . decide
theorem z9A(c:UInt8)(w:World)(hF:Holds d T o L w):CallsC prog main (Rely d T o) (Lx.Does d T o) 94 #[.int .u8 c.toNat] 100 w λv w'=>v = .bool (rM c)/\Holds d T o L w':=by
 by_cases h1:97<=bits BinOp.or IntKind.u8 (c.toNat:Int) 32<;>by_cases h2:bits BinOp.or IntKind.u8 (c.toNat:Int) 32<=122<;>by_cases h3:(48:Int)<=(c.toNat:Int)<;>by_cases h4:(c.toNat:Int)<=57
 all_goals
  co_apply Go.Lx.CallsC.more
  . co_apply callsC_of_wpC func94 (by rfl) rfl;simp only[ntmps94,List.size_toArray,Qk,List.length_nil,Nat.reduceAdd,Nat.reduceSub,Array.replicate_succ,Array.replicate_zero,List.push_toArray,List.append_toArray,List.nil_append,List.cons_append]
    repeat (first|co_reg terms|co_op Holds.rely hF (co_quiet terms)|(co_apply opsC_unwanted terms rfl (by rfl);try walk_nrm)|(co_ctl terms;try co_then))
    refine⟨rfl,_,resultsC_tmp (by rfl) _,?_,hF⟩;simp only[rM,p9A,h1,h2,h3,h4,decide_true,decide_false,Bool.and_true,Bool.and_false,Bool.or_true,Bool.or_false,Bool.true_or,Bool.false_or,Bool.true_and,Bool.false_and];rfl
  . decide
end
section
variable {main : Bool} {d : Deal} {T : TypeId -> Prop} {o : Option Nat} {L : List (Nat × Obj)}
theorem t5A(s:ByteArray)(c:UInt8)(w:World):(callFunc 122 #[.string s,.int .u8 c.toNat]).run prog w = .ok (.value (.int .i64 (Lib.indexByte s.data.toList c))) w:=by
 rw[run_callFunc_extern func122 (by kernel_rfl) (by kernel_rfl) (by kernel_rfl) (e:=Extern.BytealgIndexByte.indexByte) (by kernel_rfl),Lib.run_indexByteString];simp[Result.andThen]
theorem xAB(s:ByteArray)(c:UInt8)(w:World)(es:Array Event):(callFunc 122 #[.string s,.int .u8 c.toNat]).events prog w es=es.push ⟨.mark (.extern 122),false,true⟩:=by
 rw[events_callFunc_extern func122 (by kernel_rfl) (by kernel_rfl) (by kernel_rfl) (e:=Extern.BytealgIndexByte.indexByte) (by kernel_rfl)];have e:Extern.BytealgIndexByte.indexByte #[.string s,.int .u8 c.toNat]=(match (List.range s.size).find? (λi=>s[i]! == (c.toNat:Int).toNat.toUInt8) with|some i=>pure (goInt i)|none=>pure (goInt (-1))):=rfl;rw[e]
 split<;>rfl
theorem g9A(s:ByteArray)(c:UInt8)(w:World)(hF:Holds d T o L w):CallsC prog main (Rely d T o) (Lx.Does d T o) 118 #[.string s,.int .u8 c.toNat] 20 w λv w'=>v = .int .i64 (Lib.indexByte s.data.toList c)/\Holds d T o L w':=by
 have hr:=t5A s c;have hv:=xAB s c;co_apply Go.Lx.CallsC.more
 . co_apply callsC_of_wpC func118 (by rfl) rfl;simp only[ntmps118,List.size_toArray,Qk,List.length_nil,Nat.reduceAdd,Nat.reduceSub,Array.replicate_succ,Array.replicate_zero,List.push_toArray,List.append_toArray,List.nil_append,List.cons_append]
   co_stmt terms Holds.rely hF (co_quiet terms)
   co_apply wpC_seq terms
   co_reg terms
   co_op Holds.rely hF (co_quiet terms);co_op Holds.rely hF (co_quiet terms)
   co_opw Holds.rely hF (skip) (refine Does.reads λe he=>?_;have hm:=mem_listed he;simp[go_sem,hv]at hm;subst hm;exact rMA _ _ _)
   repeat (first|co_reg terms|co_op Holds.rely hF (co_quiet terms)|(co_apply opsC_unwanted terms rfl (by rfl);try walk_nrm)|(co_ctl terms;try co_then))
   exact⟨rfl,_,resultsC_tmp (by rfl) _,by simp,hF⟩
 . decide
theorem eCB(s:ByteArray)(c:UInt8)(w:World)(hF:Holds d T o L w):CallsC prog main (Rely d T o) (Lx.Does d T o) 110 #[.string s,.int .u8 c.toNat] 50 w λv w'=>v = .int .i64 (Lib.indexByte s.data.toList c)/\Holds d T o L w':=by
 co_apply Go.Lx.CallsC.more
 . co_apply callsC_of_wpC func110 (by rfl) rfl;simp only[ntmps110,List.size_toArray,Qk,List.length_nil,Nat.reduceAdd,Nat.reduceSub,Array.replicate_succ,Array.replicate_zero,List.push_toArray,List.append_toArray,List.nil_append,List.cons_append]
   co_stmt terms Holds.rely hF (co_quiet terms)
   co_apply wpC_seq terms
   co_reg terms
   co_op Holds.rely hF (co_quiet terms);co_op Holds.rely hF (co_quiet terms);co_apply gH terms rfl (by rfl) rfl (g9A s c _ hF) (by simp[Act.eval]);clear hF;rintro v w ⟨rfl,hF⟩
   try walk_nrm
   repeat (first|co_reg terms|co_op Holds.rely hF (co_quiet terms)|(co_apply opsC_unwanted terms rfl (by rfl);try walk_nrm)|(co_ctl terms;try co_then))
   exact⟨rfl,_,resultsC_tmp (by rfl) _,by simp,hF⟩
 . decide
theorem eBB{b:Nat}{s:ByteArray}(hb:(b,Obj.cells #[.string s] 9 (0,0))∈L)(c:UInt8)(w:World)(hF:Holds d T o L w) :
 CallsC prog main (Rely d T o) (Lx.Does d T o) 109 #[.int .u8 c.toNat,.pointer (some ⟨b,0,none⟩)] 100 w λv w'=>v = .bool (decide (0<=Lib.indexByte s.data.toList c))/\Holds d T o L w':=by
 co_apply Go.Lx.CallsC.more
 . co_apply callsC_of_wpC func109 (by rfl) rfl;simp only[ntmps109,List.size_toArray,Qk,List.length_nil,Nat.reduceAdd,Nat.reduceSub,Array.replicate_succ,Array.replicate_zero,List.push_toArray,List.append_toArray,List.nil_append,List.cons_append]
   co_stmt terms Holds.rely hF (co_quiet terms)
   co_apply wpC_seq terms
   co_reg terms
   co_opw Holds.rely hF (have hc:_=some (Value.string s):=hF.cell hb 0) (refine Does.reads ?_;co_evs (exact hF.read hb _ _))
   clear hc;co_op Holds.rely hF (co_quiet terms);co_apply gH terms rfl (by rfl) rfl (eCB s c _ hF) (by simp[Act.eval]);clear hF;rintro v w ⟨rfl,hF⟩
   try walk_nrm
   repeat (first|co_reg terms|co_op Holds.rely hF (co_quiet terms)|(co_apply opsC_unwanted terms rfl (by rfl);try walk_nrm)|(co_ctl terms;try co_then))
   exact⟨rfl,_,resultsC_tmp (by rfl) _,by simp,hF⟩
 . decide
end
section
variable {main : Bool} {d : Deal} {T : TypeId -> Prop} {o : Option Nat} {L : List (Nat × Obj)}
def qKA(main:Bool)(d:Deal)(T:TypeId->Prop)(o:Option Nat)(L:List (Nat×Obj))(f:FuncId)(caps:Array Value)(p:UInt8->Bool):Prop :=
 ∀(c:UInt8) (w:World),Holds d T o L w->CallsC prog main (Rely d T o) (Lx.Does d T o) f (#[.int .u8 c.toNat]++caps) 100 w λv w'=>v = .bool (p c)/\Holds d T o L w'
def many(p:UInt8->Bool)(l:List UInt8):Nat:=(l.takeWhile p).length
theorem m4A(p:UInt8->Bool)(l:List UInt8):many p l<=l.length:=(List.takeWhile_sublist p).length_le
theorem eUA(p:UInt8->Bool):∀(l:List UInt8) (k:Nat),k<=many p l->∀(h:k < l.length),(p l[k]=true->k+1<=many p l)/\(p l[k]=false->k=many p l)
  | [],_,_,h=>by simp at h
  | x :: l, 0, hk, h => by
    simp only[many,List.takeWhile_cons,List.getElem_cons_zero];constructor<;>intro hp<;>simp[hp]
  | x :: l, k + 1, hk, h => by
    simp only[many,List.takeWhile_cons]at hk ⊢
    cases hx:p x with
    | false=>simp[hx]at hk
    | true =>
      simp only[hx,if_true,Qk,List.getElem_cons_succ]at hk ⊢;have:=eUA p l k (by unfold many;omega) (by simpa using h);unfold many at this;exact⟨λh=>by have:=this.1 h;omega,λh=>by have:=this.2 h;omega⟩
def WAt(d:Deal)(T:TypeId->Prop)(o:Option Nat)(L:List (Nat×Obj))(s:ByteArray)(b:Nat)(k:Nat)(a:Act)(w:World):Prop :=
 ∃(u5 u6 u7 u8 u9 u10 u11 u12 u13 u14 u15 u16 u17 u18:Value),Holds d T o L w /\
  a=⟨#[.string s,.pointer (some ⟨b,0,none⟩),undef,.int .i64 0,.int .i64 (k:Int),u5,u6,u7,u8,u9,u10,u11,u12,u13,u14,u15,u16,u17,u18],[]⟩
def m8A(a:Act):Nat:=match a.tmps.getD 4 undef with|.int _ n=>n.toNat|_=>0
theorem p3A{b:Nat}{f:FuncId}{caps:Array Value}{p:UInt8->Bool}(hW:qKA main d T o L f caps p)(hb:(b,Obj.cells #[.func (.func f) #[] caps] 131 (0,0))∈L)(s:ByteArray)(hs:s.size<=1000000)(w:World)(hF:Holds d T o L w) :
 CallsC prog main (Rely d T o) (Lx.Does d T o) 111 #[.string s,.pointer (some ⟨b,0,none⟩)] ((s.size+1) * 6001+100) w λv w'=>v = .int .i64 (many p s.data.toList)/\Holds d T o L w':=by
 co_apply Go.Lx.CallsC.more
 . co_apply callsC_of_wpC func111 (by rfl) rfl;simp only[ntmps111,List.size_toArray,Qk,List.length_nil,Nat.reduceAdd,Nat.reduceSub,Array.replicate_succ,Array.replicate_zero,List.push_toArray,List.append_toArray,List.nil_append,List.cons_append]
   co_stmt terms Holds.rely hF (co_quiet terms)
   co_stmt terms Holds.rely hF (co_quiet terms)
   co_apply wpC_seq_mid terms (λa w=>∃ k:Nat,k=many p s.data.toList/\WAt d T o L s b k a w)
   . co_apply wpC_block terms;co_apply wpC_loop terms (λa w=>∃ k:Nat,k<=many p s.data.toList/\WAt d T o L s b k a w) (λa _=>s.size - m8A a) 6000 s.size
     . exact⟨0,Nat.zero_le _,_,_,_,_,_,_,_,_,_,_,_,_,_,_,hF,rfl⟩
     . omega
     . clear hF;rintro a w ⟨k,hk,u5,u6,u7,u8,u9,u10,u11,u12,u13,u14,u15,u16,u17,u18,hF,rfl⟩;have hml:=m4A p s.data.toList;have hsz:s.data.toList.length=s.size:=rfl;by_cases hlt:k < s.size
       . have hat:=eUA p s.data.toList k hk (by rw[hsz];exact hlt);have hpk:s.data.toList[k]=s[k]:=rfl;rw[hpk]at hat;clear hpk;have hin:0<=(k:Int)/\(k:Int) < s.size:=by omega
         have HSZ:=aA hsz;clear hsz
         cases hp:p (s[k]'hlt)
         . rw[hp]at hat;have HAT:=aA hat;clear hat;co_apply wpC_more
           . co_apply wpC_seq (n₂:=50) terms;co_apply wpC_seq terms;co_apply vH terms draws 500 (by omega) (S:=Holds d T o L) (by first|kernel_rfl|rfl);intro _ hR;replace hF:=Holds.rely (Holds.rely hF hR) (dP _);clear hR;simp only[List.size_toArray,Qk,List.length_nil,Nat.reduceAdd,Nat.zero_add];co_applyP iC terms (λ_ _=>Holds.rely) (λ_ _ _=>wpC_rely terms) 0 rfl (by first|kernel_rfl|decide +kernel) (by rfl) hF (λ_ hw=>⟨?_,?_⟩) ?_;rotate_left
             . intro K hK;go_simp;exact hK
             . co_quiet terms
             try walk_nrm
             co_applyP iC terms (λ_ _=>Holds.rely) (λ_ _ _=>wpC_rely terms) 1 rfl (by first|kernel_rfl|decide +kernel) (by rfl) hF (λ_ hw=>⟨?_,?_⟩) ?_;rotate_left
             . intro K hK;go_simp;exact hK
             . co_quiet terms
             try walk_nrm
             co_applyP iC terms (λ_ _=>Holds.rely) (λ_ _ _=>wpC_rely terms) 2 rfl (by first|kernel_rfl|decide +kernel) (by rfl) hF (λ_ hw=>⟨?_,?_⟩) ?_;rotate_left
             . intro K hK;go_simp;exact hK
             . rw[listed_nil (by simp[go_sem,iI _ _ _ underlying9])];exact Terms.idle terms _
             try walk_nrm
             co_applyP iC terms (λ_ _=>Holds.rely) (λ_ _ _=>wpC_rely terms) 3 rfl (by first|kernel_rfl|decide +kernel) (by rfl) hF (λ_ hw=>⟨?_,?_⟩) ?_;rotate_left
             . intro K hK;go_simp;exact hK
             . co_quiet terms
             try walk_nrm
             co_applyP iC terms (λ_ _=>Holds.rely) (λ_ _ _=>wpC_rely terms) 4 rfl (by first|kernel_rfl|decide +kernel) (by rfl) hF (λ_ hw=>⟨?_,?_⟩) ?_;rotate_left
             . intro K hK;go_simp;exact hK
             . co_quiet terms
             try walk_nrm
             co_applyP iC terms (λ_ _=>Holds.rely) (λ_ _ _=>wpC_rely terms) 5 rfl (by first|kernel_rfl|decide +kernel) (by rfl) hF (λ_ hw=>⟨?_,?_⟩) ?_;rotate_left
             . intro K hK;have hc:_=some (Value.func (.func f) #[] caps):=hw.cell hb 0;go_simp;exact hK
             . have hc:_=some (Value.func (.func f) #[] caps):=hw.cell hb 0;refine Does.reads ?_;co_evs (exact hw.read hb _ _)
             try walk_nrm
             co_applyP iC terms (λ_ _=>Holds.rely) (λ_ _ _=>wpC_rely terms) 6 rfl (by first|kernel_rfl|decide +kernel) (by rfl) hF (λ_ hw=>⟨?_,?_⟩) ?_;rotate_left
             . intro K hK;go_simp;exact hK
             . co_quiet terms
             try walk_nrm
             co_applyP iC terms (λ_ _=>Holds.rely) (λ_ _ _=>wpC_rely terms) 7 rfl (by first|kernel_rfl|decide +kernel) (by rfl) hF (λ_ hw=>⟨?_,?_⟩) ?_;rotate_left
             . intro K hK;go_simp;exact hK
             . co_quiet terms
             try walk_nrm
             co_applyP iC terms (λ_ _=>Holds.rely) (λ_ _ _=>wpC_rely terms) 8 rfl (by first|kernel_rfl|decide +kernel) (by rfl) hF (λ_ hw=>⟨?_,?_⟩) ?_;rotate_left
             . intro K hK;go_simp;exact hK
             . rw[listed_nil (by simp[go_sem,wJ _ _ _ _ underlying9 hin])];exact Terms.idle terms _
             try walk_nrm
             co_applyP qO terms (i:=9) (by first|kernel_rfl|decide +kernel) rfl (by rfl) rfl (by rfl) (hW (s[k]'hlt) _ hF) (by omega) (by simp[Act.eval]);clear hF;rintro v w ⟨rfl,hF⟩;rw[hp];refine⟨hF,?_⟩
             try walk_nrm
             co_applyP iC terms (λ_ _=>Holds.rely) (λ_ _ _=>wpC_rely terms) 10 rfl (by first|kernel_rfl|decide +kernel) (by rfl) hF (λ_ hw=>⟨?_,?_⟩) ?_;rotate_left
             . intro K hK;go_simp;exact hK
             . co_quiet terms
             try walk_nrm
             refine wL (by first|kernel_rfl|decide +kernel) ?_ _;co_then;co_apply wpC_cond (t:=false) terms rfl;simp only[Qs,if_false];co_ctl terms;co_then;exact⟨k,HAT.out.2 rfl,_,_,_,_,_,_,_,_,_,_,_,_,_,_,hF,rfl⟩
           . decide
         . rw[hp]at hat;have HAT:=aA hat;clear hat;co_apply wpC_more
           . co_apply wpC_seq terms;co_apply wpC_seq terms;co_apply vH terms draws 500 (by omega) (S:=Holds d T o L) (by first|kernel_rfl|rfl);intro _ hR;replace hF:=Holds.rely (Holds.rely hF hR) (dP _);clear hR;simp only[List.size_toArray,Qk,List.length_nil,Nat.reduceAdd,Nat.zero_add];co_applyP iC terms (λ_ _=>Holds.rely) (λ_ _ _=>wpC_rely terms) 0 rfl (by first|kernel_rfl|decide +kernel) (by rfl) hF (λ_ hw=>⟨?_,?_⟩) ?_;rotate_left
             . intro K hK;go_simp;exact hK
             . co_quiet terms
             try walk_nrm
             co_applyP iC terms (λ_ _=>Holds.rely) (λ_ _ _=>wpC_rely terms) 1 rfl (by first|kernel_rfl|decide +kernel) (by rfl) hF (λ_ hw=>⟨?_,?_⟩) ?_;rotate_left
             . intro K hK;go_simp;exact hK
             . co_quiet terms
             try walk_nrm
             co_applyP iC terms (λ_ _=>Holds.rely) (λ_ _ _=>wpC_rely terms) 2 rfl (by first|kernel_rfl|decide +kernel) (by rfl) hF (λ_ hw=>⟨?_,?_⟩) ?_;rotate_left
             . intro K hK;go_simp;exact hK
             . rw[listed_nil (by simp[go_sem,iI _ _ _ underlying9])];exact Terms.idle terms _
             try walk_nrm
             co_applyP iC terms (λ_ _=>Holds.rely) (λ_ _ _=>wpC_rely terms) 3 rfl (by first|kernel_rfl|decide +kernel) (by rfl) hF (λ_ hw=>⟨?_,?_⟩) ?_;rotate_left
             . intro K hK;go_simp;exact hK
             . co_quiet terms
             try walk_nrm
             co_applyP iC terms (λ_ _=>Holds.rely) (λ_ _ _=>wpC_rely terms) 4 rfl (by first|kernel_rfl|decide +kernel) (by rfl) hF (λ_ hw=>⟨?_,?_⟩) ?_;rotate_left
             . intro K hK;go_simp;exact hK
             . co_quiet terms
             try walk_nrm
             co_applyP iC terms (λ_ _=>Holds.rely) (λ_ _ _=>wpC_rely terms) 5 rfl (by first|kernel_rfl|decide +kernel) (by rfl) hF (λ_ hw=>⟨?_,?_⟩) ?_;rotate_left
             . intro K hK;have hc:_=some (Value.func (.func f) #[] caps):=hw.cell hb 0;go_simp;exact hK
             . have hc:_=some (Value.func (.func f) #[] caps):=hw.cell hb 0;refine Does.reads ?_;co_evs (exact hw.read hb _ _)
             try walk_nrm
             co_applyP iC terms (λ_ _=>Holds.rely) (λ_ _ _=>wpC_rely terms) 6 rfl (by first|kernel_rfl|decide +kernel) (by rfl) hF (λ_ hw=>⟨?_,?_⟩) ?_;rotate_left
             . intro K hK;go_simp;exact hK
             . co_quiet terms
             try walk_nrm
             co_applyP iC terms (λ_ _=>Holds.rely) (λ_ _ _=>wpC_rely terms) 7 rfl (by first|kernel_rfl|decide +kernel) (by rfl) hF (λ_ hw=>⟨?_,?_⟩) ?_;rotate_left
             . intro K hK;go_simp;exact hK
             . co_quiet terms
             try walk_nrm
             co_applyP iC terms (λ_ _=>Holds.rely) (λ_ _ _=>wpC_rely terms) 8 rfl (by first|kernel_rfl|decide +kernel) (by rfl) hF (λ_ hw=>⟨?_,?_⟩) ?_;rotate_left
             . intro K hK;go_simp;exact hK
             . rw[listed_nil (by simp[go_sem,wJ _ _ _ _ underlying9 hin])];exact Terms.idle terms _
             try walk_nrm
             co_applyP qO terms (i:=9) (by first|kernel_rfl|decide +kernel) rfl (by rfl) rfl (by rfl) (hW (s[k]'hlt) _ hF) (by omega) (by simp[Act.eval]);clear hF;rintro v w ⟨rfl,hF⟩;rw[hp];refine⟨hF,?_⟩
             try walk_nrm
             co_applyP iC terms (λ_ _=>Holds.rely) (λ_ _ _=>wpC_rely terms) 10 rfl (by first|kernel_rfl|decide +kernel) (by rfl) hF (λ_ hw=>⟨?_,?_⟩) ?_;rotate_left
             . intro K hK;go_simp;exact hK
             . co_quiet terms
             try walk_nrm
             refine wL (by first|kernel_rfl|decide +kernel) ?_ _;co_then;co_apply wpC_cond (t:=true) terms rfl;simp only[if_true];co_ctl terms;co_then
             repeat (first|co_reg terms|co_op Holds.rely hF (co_quiet terms)|(co_apply opsC_unwanted terms rfl (by rfl);try walk_nrm)|(co_ctl terms;try co_then))
             have hwr:IntKind.i64.wrap ((k:Int)+1)=((k+1:Nat):Int):=by rw[IntWalk.i64_in _ (by omega)];omega
             rw[hwr];exact⟨⟨k+1,HAT.out.1 rfl,_,_,_,_,_,_,_,_,_,_,_,_,_,_,hF,rfl⟩,by simp[m8A];omega⟩
           . decide
       . have hke:k=many p s.data.toList:=by omega
         have HKE:=aA hke;clear hke hsz;co_apply wpC_more
         . co_apply wpC_seq (n₂:=50) terms;co_apply wpC_seq terms;co_apply vH terms draws 500 (by omega) (S:=Holds d T o L) (by first|kernel_rfl|rfl);intro _ hR;replace hF:=Holds.rely (Holds.rely hF hR) (dP _);clear hR;simp only[List.size_toArray,Qk,List.length_nil,Nat.reduceAdd,Nat.zero_add];co_applyP iC terms (λ_ _=>Holds.rely) (λ_ _ _=>wpC_rely terms) 0 rfl (by first|kernel_rfl|decide +kernel) (by rfl) hF (λ_ hw=>⟨?_,?_⟩) ?_;rotate_left
           . intro K hK;go_simp;exact hK
           . co_quiet terms
           try walk_nrm
           co_applyP iC terms (λ_ _=>Holds.rely) (λ_ _ _=>wpC_rely terms) 1 rfl (by first|kernel_rfl|decide +kernel) (by rfl) hF (λ_ hw=>⟨?_,?_⟩) ?_;rotate_left
           . intro K hK;go_simp;exact hK
           . co_quiet terms
           try walk_nrm
           co_applyP iC terms (λ_ _=>Holds.rely) (λ_ _ _=>wpC_rely terms) 2 rfl (by first|kernel_rfl|decide +kernel) (by rfl) hF (λ_ hw=>⟨?_,?_⟩) ?_;rotate_left
           . intro K hK;go_simp;exact hK
           . rw[listed_nil (by simp[go_sem,iI _ _ _ underlying9])];exact Terms.idle terms _
           try walk_nrm
           co_applyP iC terms (λ_ _=>Holds.rely) (λ_ _ _=>wpC_rely terms) 3 rfl (by first|kernel_rfl|decide +kernel) (by rfl) hF (λ_ hw=>⟨?_,?_⟩) ?_;rotate_left
           . intro K hK;go_simp;exact hK
           . co_quiet terms
           try walk_nrm
           co_applyP iC terms (λ_ _=>Holds.rely) (λ_ _ _=>wpC_rely terms) 4 rfl (by first|kernel_rfl|decide +kernel) (by rfl) hF (λ_ hw=>⟨?_,?_⟩) ?_;rotate_left
           . intro K hK;go_simp;exact hK
           . co_quiet terms
           try walk_nrm
           co_applyP gZ terms (λ_ _=>Holds.rely) (λ_ _ _=>wpC_rely terms) 5 rfl (by first|kernel_rfl|decide +kernel) (by rfl) hF ?_
           try walk_nrm
           co_applyP gZ terms (λ_ _=>Holds.rely) (λ_ _ _=>wpC_rely terms) 6 rfl (by first|kernel_rfl|decide +kernel) (by rfl) hF ?_
           try walk_nrm
           co_applyP gZ terms (λ_ _=>Holds.rely) (λ_ _ _=>wpC_rely terms) 7 rfl (by first|kernel_rfl|decide +kernel) (by rfl) hF ?_
           try walk_nrm
           co_applyP gZ terms (λ_ _=>Holds.rely) (λ_ _ _=>wpC_rely terms) 8 rfl (by first|kernel_rfl|decide +kernel) (by rfl) hF ?_
           try walk_nrm
           co_applyP gZ terms (λ_ _=>Holds.rely) (λ_ _ _=>wpC_rely terms) 9 rfl (by first|kernel_rfl|decide +kernel) (by rfl) hF ?_
           try walk_nrm
           co_applyP iC terms (λ_ _=>Holds.rely) (λ_ _ _=>wpC_rely terms) 10 rfl (by first|kernel_rfl|decide +kernel) (by rfl) hF (λ_ hw=>⟨?_,?_⟩) ?_;rotate_left
           . intro K hK;go_simp;exact hK
           . co_quiet terms
           try walk_nrm
           refine wL (by first|kernel_rfl|decide +kernel) ?_ _;co_then;co_apply wpC_cond (t:=false) terms rfl;simp only[Qs,if_false];co_ctl terms;co_then;exact⟨k,HKE.out,_,_,_,_,_,_,_,_,_,_,_,_,_,_,hF,rfl⟩
         . decide
   . clear hF;rintro a w ⟨k,rfl,u5,u6,u7,u8,u9,u10,u11,u12,u13,u14,u15,u16,u17,u18,hF,rfl⟩
     repeat (first|co_reg terms|co_op Holds.rely hF (co_quiet terms)|(co_apply opsC_unwanted terms rfl (by rfl);try walk_nrm)|(co_ctl terms;try co_then))
     exact⟨rfl,_,resultsC_tmp (by rfl) _,by simp,hF⟩
 . omega
end
section
variable {main : Bool} {d : Deal} {T : TypeId -> Prop} {o : Option Nat} {L : List (Nat × Obj)}
theorem n7A(hT:T 9)(s:ByteArray)(w:World)(hF:Holds d T o L w) :
 CallsC prog main (Rely d T o) (Lx.Does d T o) 93 #[.string s] 30 w λv w'=>∃ b,v = .func (.func 109) #[] #[.pointer (some ⟨b,0,none⟩)]/\Holds d T o ((b,Obj.cells #[.string s] 9 (0,0))::L) w':=by
 co_apply Go.Lx.CallsC.more
 . co_apply callsC_of_wpC func93 (by rfl) rfl;simp only[ntmps93,List.size_toArray,Qk,List.length_nil,Nat.reduceAdd,Nat.reduceSub,Array.replicate_succ,Array.replicate_zero,List.push_toArray,List.append_toArray,List.nil_append,List.cons_append];co_apply wpC_seq terms
   co_reg terms
   co_opw Holds.rely hF (skip) (refine⟨Turn.alloc hT hF.box,?_⟩;co_evs (skip))
   replace hF:=hF.cons #[.string s] hT
   repeat (first|co_reg terms|co_op Holds.rely hF (co_quiet terms)|(co_apply opsC_unwanted terms rfl (by rfl);try walk_nrm)|(co_ctl terms;try co_then))
   exact⟨rfl,_,resultsC_tmp (by rfl) _,_,by simp,hF⟩
 . decide
theorem mJA(hT:T 131)(f:FuncId)(caps:Array Value)(w:World)(hF:Holds d T o L w) :
 CallsC prog main (Rely d T o) (Lx.Does d T o) 95 #[.func (.func f) #[] caps] 30 w λv w'=>∃ b,v = .func (.func 111) #[] #[.pointer (some ⟨b,0,none⟩)]/\Holds d T o ((b,Obj.cells #[.func (.func f) #[] caps] 131 (0,0))::L) w':=by
 co_apply Go.Lx.CallsC.more
 . co_apply callsC_of_wpC func95 (by rfl) rfl;simp only[ntmps95,List.size_toArray,Qk,List.length_nil,Nat.reduceAdd,Nat.reduceSub,Array.replicate_succ,Array.replicate_zero,List.push_toArray,List.append_toArray,List.nil_append,List.cons_append];co_apply wpC_seq terms
   co_reg terms
   co_opw Holds.rely hF (skip) (refine⟨Turn.alloc hT hF.box,?_⟩;co_evs (skip))
   replace hF:=hF.cons #[.func (.func f) #[] caps] hT
   repeat (first|co_reg terms|co_op Holds.rely hF (co_quiet terms)|(co_apply opsC_unwanted terms rfl (by rfl);try walk_nrm)|(co_ctl terms;try co_then))
   exact⟨rfl,_,resultsC_tmp (by rfl) _,_,by simp,hF⟩
 . decide
def bytes(l:List UInt8):ByteArray:=⟨l.toArray⟩
def iO(b1 b2 b3 b4 b5 b6 b7:Nat):Array Value :=
 #[.func (.func 94) #[] #[], .func (.func 111) #[] #[.pointer (some ⟨b2, 0, none⟩)], .int .i64 1,
   .func (.func 109) #[] #[.pointer (some ⟨b1,0,none⟩)],.func (.func 111) #[] #[.pointer (some ⟨b3,0,none⟩)],.int .i64 0,
   .func (.func 109) #[] #[.pointer (some ⟨b4,0,none⟩)],.func (.func 96) #[] #[],.int .i64 2,
   .func (.func 109) #[] #[.pointer (some ⟨b5,0,none⟩)],.func (.func 96) #[] #[],.int .i64 3,
   .func (.func 109) #[] #[.pointer (some ⟨b6,0,none⟩)],.func (.func 111) #[] #[.pointer (some ⟨b7,0,none⟩)],.int .i64 0]
def dE(b0 b1 b2 b3 b4 b5 b6 b7:Nat)(L:List (Nat×Obj)):List (Nat×Obj) :=
 (b0,Obj.cells (iO b1 b2 b3 b4 b5 b6 b7) 152 (0,0)) ::
 (b7,Obj.cells #[.func (.func 97) #[] #[]] 131 (0,0)) ::
 (b6,Obj.cells #[.string ⟨#[59]⟩] 9 (0,0)) ::
 (b5,Obj.cells #[.string ⟨#[41]⟩] 9 (0,0)) ::
 (b4,Obj.cells #[.string ⟨#[40]⟩] 9 (0,0)) ::
 (b3,Obj.cells #[.func (.func 109) #[] #[.pointer (some ⟨b1,0,none⟩)]] 131 (0,0)) ::
 (b2,Obj.cells #[.func (.func 94) #[] #[]] 131 (0,0)) ::
 (b1,Obj.cells #[.string ⟨#[9,10,13,32]⟩] 9 (0,0))::L
theorem n5A(hT9:T 9)(hT34:T 131)(hT95:T 152)(w:World)(hF:Holds d T o L w) :
 CallsC prog main (Rely d T o) (Lx.Does d T o) 76 #[] 1000 w λv w'=>∃ b0 b1 b2 b3 b4 b5 b6 b7,v = .slice (some ⟨b0,0,none⟩) 5 5/\Holds d T o (dE b0 b1 b2 b3 b4 b5 b6 b7 L) w':=by
 co_apply Go.Lx.CallsC.more
 . co_apply callsC_of_wpC func76 (by rfl) rfl;simp only[ntmps76,List.size_toArray,Qk,List.length_nil,Nat.reduceAdd,Nat.reduceSub,Array.replicate_succ,Array.replicate_zero,List.push_toArray,List.append_toArray,List.nil_append,List.cons_append]
   co_stmt terms Holds.rely hF (co_quiet terms)
   co_apply wpC_seq terms
   co_reg terms
   co_apply gH terms rfl (by rfl) rfl (n7A hT9 _ _ hF) (by simp[Act.eval];rfl);clear hF;rintro v w ⟨b1,rfl,hF⟩
   try walk_nrm
   co_op Holds.rely hF (co_quiet terms);co_apply opsC_nil terms;co_then;co_apply wpC_seq terms
   co_reg terms
   co_apply gH terms rfl (by rfl) rfl (mJA hT34 _ _ _ hF) (by simp[Act.eval];exact⟨rfl,rfl⟩);clear hF;rintro v w ⟨b2,rfl,hF⟩
   try walk_nrm
   co_op Holds.rely hF (co_quiet terms);co_op Holds.rely hF (co_quiet terms);co_op Holds.rely hF (co_quiet terms);co_apply gH terms rfl (by rfl) rfl (mJA hT34 _ _ _ hF) (by simp[Act.eval];exact⟨rfl,rfl⟩);clear hF;rintro v w ⟨b3,rfl,hF⟩
   try walk_nrm
   co_op Holds.rely hF (co_quiet terms);co_apply gH terms rfl (by rfl) rfl (n7A hT9 _ _ hF) (by simp[Act.eval];rfl);clear hF;rintro v w ⟨b4,rfl,hF⟩
   try walk_nrm
   co_op Holds.rely hF (co_quiet terms);co_apply gH terms rfl (by rfl) rfl (n7A hT9 _ _ hF) (by simp[Act.eval];rfl);clear hF;rintro v w ⟨b5,rfl,hF⟩
   try walk_nrm
   co_op Holds.rely hF (co_quiet terms);co_apply gH terms rfl (by rfl) rfl (n7A hT9 _ _ hF) (by simp[Act.eval];rfl);clear hF;rintro v w ⟨b6,rfl,hF⟩
   try walk_nrm
   co_apply gH terms rfl (by rfl) rfl (mJA hT34 _ _ _ hF) (by simp[Act.eval];exact⟨rfl,rfl⟩);clear hF;rintro v w ⟨b7,rfl,hF⟩
   try walk_nrm
   co_op Holds.rely hF (co_quiet terms)
   co_opw Holds.rely hF (skip) (refine⟨Turn.alloc hT95 hF.box,?_⟩;co_evs (skip))
   replace hF:=hF.cons (iO b1 b2 b3 b4 b5 b6 b7) hT95
   repeat (first|co_reg terms|co_op Holds.rely hF (co_quiet terms)|(co_apply opsC_unwanted terms rfl (by rfl);try walk_nrm)|(co_ctl terms;try co_then))
   exact⟨rfl,_,resultsC_tmp (by rfl) _,_,_,_,_,_,_,_,_,by simp,hF⟩
 . decide
end
noncomputable def kD:Code:=f55.body.getD .skip
noncomputable def iD:Code:=nC (nC (jA (jA (jA (jA (nC kD))))))
noncomputable def uF:Code:=nC (jA iD)
noncomputable def iR:Code:=aB (jA uF)
noncomputable def zN:Code:=nC (nC (jA iR))
def inB(l:List UInt8)(c:UInt8):Bool:=decide (0<=Lib.indexByte l c)
def e3A:Nat->UInt8->Bool
  | 0=>rM
  | 1=>inB [9,10,13,32]
  | 2=>inB [40]
  | 3=>inB [41]
  | _=>inB [59]
def goN:Nat->List UInt8->Nat
  | 0=>many rM
  | 1=>many (inB [9,10,13,32])
  | 2=>λ_=>1
  | 3=>λ_=>1
  | _=>many λc=>(c.toNat:Int) != 10
def jDA:Nat->Int
  | 0=>1
  | 1=>0
  | 2=>2
  | 3=>3
  | _=>0
def qF(s:ByteArray)(c q b0 k xb:Nat)(i:Int)(J:Nat->Value):Array Value :=
 #[.string s, .chan (some c), .chan (some q), J 3, J 4, J 5, .slice (some ⟨b0, 0, none⟩) 5 5, .int .i64 (k : Int), .pointer (some ⟨xb, 0, none⟩), J 9, J 10, J 11, J 12, J 13, J 14, J 15, J 16, J 17, J 18, J 19, J 20, .slice (some ⟨b0, 0, none⟩) 5 5, .int .i64 5, .int .i64 i, J 24, J 25, J 26, J 27, J 28, J 29, J 30, J 31, J 32, J 33, J 34, J 35, J 36, J 37, J 38, J 39, J 40, J 41, J 42, J 43, J 44, J 45, J 46, J 47, J 48, J 49, J 50, J 51, J 52, J 53, J 54, J 55, J 56, J 57, J 58, J 59, J 60, J 61, J 62, J 63, J 64, J 65, J 66, J 67, J 68, J 69, J 70, J 71, J 72, J 73, J 74, J 75]
def fCA(d:Deal)(T:TypeId->Prop)(o:Option Nat)(L:List (Nat×Obj))(g:FuncId)(caps:Array Value)(n:List UInt8->Nat):Prop :=
 ∀(s:ByteArray) (w:World),s.size<=1000000->Holds d T o L w->CallsC prog false (Rely d T o) (Lx.Does d T o) g (#[.string s]++caps) ((s.size+1) * 6001+100) w λv w'=>v = .int .i64 (n s.data.toList:Nat)/\Holds d T o L w'
section
variable {d : Deal} {T : TypeId -> Prop} {b0 xb : Nat} {df : List Deferred}
theorem p7A{R:Array Value}{L:List (Nat×Obj)}{f g:FuncId}{caps gcaps:Array Value}{kd:Int}{p:UInt8->Bool}(s:ByteArray)(c q k i:Nat)(J:Nat->Value)(hk:k < s.size)(hi:i < 5)(hT95:T 152)
    (hb0:(b0,Obj.cells R 152 (0,0))∈L) (hr0:R[i * 3]? = some (.func (.func f) #[] caps)) (hr1:R[i * 3+1]? = some (.func (.func g) #[] gcaps)) (hr2:R[i * 3+2]? = some (.int .i64 kd))
    (hW:∀ b x,qKA false d T (some xb) ((b,x)::L) f caps p) (hn:p (s[k]'hk)=false) (w:World) (hF:Holds d T (some xb) L w) :
    Code.wpC prog false (Rely d T (some xb)) (Lx.Does d T (some xb)) 55 zN 20000
      (Exit.then (λa' w'=>∃ J',a'=⟨qF s c q b0 k xb (i+1:Nat) J',df⟩/\Holds d T (some xb) L w') (λ_ _ _=>False)) ⟨qF s c q b0 k xb i J,df⟩ w:=by
  have hin:0<=(k:Int)/\(k:Int) < s.size:=by omega
  have hi5:decide ((i:Int) < 5)=true:=by simp;omega
  unfold zN iR uF iD kD;simp only[f55,Qf,aB,jA,nC,qF];have hilt:(i:Int) < 5:=by omega
  co_apply wpC_more
  . co_stmt terms Holds.rely hF (co_quiet terms)
    co_apply wpC_seq terms;co_apply wpC_cond (t:=true) terms rfl;simp only[if_true];co_ctl terms;co_then;co_apply wpC_seq terms;co_apply wpC_block terms;co_apply wpC_seq terms
    co_reg terms
    co_op Holds.rely hF (co_still terms)
    co_opw Holds.rely hF (have hc0:_=some _:=(hF.cell hb0 (i * 3)).trans hr0;have hc1:_=some _:=(hF.cell hb0 (i * 3+1)).trans hr1;have hc2:_=some _:=(hF.cell hb0 (i * 3+2)).trans hr2) (refine Does.reads ?_;intro e he;have hm:=mem_listed he;simp[go_sem, *]at hm;rcases hm with rfl|rfl|rfl<;>exact hF.read hb0 _ _)
    clear hc0 hc1 hc2
    co_opw Holds.rely hF (skip) (refine⟨Turn.alloc hT95 hF.box,?_⟩;co_evs (skip))
    have hne:∀ p∈L,p.1≠_:=λp hp=>Nat.ne_of_lt (hF.lt hp)
    have hBn:=hF.big;replace hF:=hF.cons #[.nilFunc,.nilFunc,.int .i64 0] hT95
    revert hne hF hBn
    generalize Array.size (World.heap _)=nb;intro hne hBn hF
    co_opw Holds.rely hF (have hm:(nb,Obj.cells #[.nilFunc,.nilFunc,.int .i64 0] 152 (0,0))∈(nb,Obj.cells #[.nilFunc,.nilFunc,.int .i64 0] 152 (0,0))::L:=Qn;have hc0:_=some _:=hF.cell hm 0;have hc1:_=some _:=hF.cell hm 1;have hc2:_=some _:=hF.cell hm 2;have hf0:=hF.frozen hm 0;have hf1:=hF.frozen hm 1;have hf2:=hF.frozen hm 2;have sf:=zX prog) (have ho:=hF.mine hm hBn hT95;have ef:=kBA prog;have ht:=Turn.set3 ho (hF.lt hm) hF.big (.func (.func f) #[] caps) (.func (.func g) #[] gcaps) (.int .i64 kd);refine⟨ht,?_⟩;have ho2:=ht.own_fwd (hF.lt hm) ho;clear ht ho;intro e he;have hm:=mem_listed he;simp[go_sem, *]at hm;rcases hm with rfl|rfl|rfl<;>exact bR ho2 _ _ _)
    replace hF:=hF.set3 hne (.func (.func f) #[] caps) (.func (.func g) #[] gcaps) (.int .i64 kd);clear hm hc0 hc1 hc2 hf0 hf1 hf2 sf;co_apply opsC_nil terms;co_then;co_apply wpC_seq terms;have hm:(nb,Obj.cells #[.func (.func f) #[] caps,.func (.func g) #[] gcaps,.int .i64 kd] 152 (0,0))∈(nb,Obj.cells #[.func (.func f) #[] caps,.func (.func g) #[] gcaps,.int .i64 kd] 152 (0,0))::L:=Qn;co_apply vH terms draws 500 (by omega) (S:=Holds d T (some xb) ((nb,Obj.cells #[.func (.func f) #[] caps,.func (.func g) #[] gcaps,.int .i64 kd] 152 (0,0))::L)) (by first|kernel_rfl|rfl);intro _ hR;replace hF:=Holds.rely (Holds.rely hF hR) (dP _);clear hR;simp only[List.size_toArray,Qk,List.length_nil,Nat.reduceAdd,Nat.zero_add];co_applyP iC terms (λ_ _=>Holds.rely) (λ_ _ _=>wpC_rely terms) 0 rfl (by first|kernel_rfl|decide +kernel) (by rfl) hF (λ_ hw=>⟨?_,?_⟩) ?_;rotate_left
    . intro K hK;go_simp;exact hK
    . co_quiet terms
    try walk_nrm
    co_applyP iC terms (λ_ _=>Holds.rely) (λ_ _ _=>wpC_rely terms) 1 rfl (by first|kernel_rfl|decide +kernel) (by rfl) hF (λ_ hw=>⟨?_,?_⟩) ?_;rotate_left
    . intro K hK;have hc:_=some (Value.func (.func f) #[] caps):=hw.cell hm 0;go_simp;exact hK
    . have hc:_=some (Value.func (.func f) #[] caps):=hw.cell hm 0;refine Does.reads ?_;co_evs (exact hw.read hm _ _)
    try walk_nrm
    co_applyP iC terms (λ_ _=>Holds.rely) (λ_ _ _=>wpC_rely terms) 2 rfl (by first|kernel_rfl|decide +kernel) (by rfl) hF (λ_ hw=>⟨?_,?_⟩) ?_;rotate_left
    . intro K hK;go_simp;exact hK
    . co_quiet terms
    try walk_nrm
    co_applyP iC terms (λ_ _=>Holds.rely) (λ_ _ _=>wpC_rely terms) 3 rfl (by first|kernel_rfl|decide +kernel) (by rfl) hF (λ_ hw=>⟨?_,?_⟩) ?_;rotate_left
    . intro K hK;go_simp;exact hK
    . co_quiet terms
    try walk_nrm
    co_applyP iC terms (λ_ _=>Holds.rely) (λ_ _ _=>wpC_rely terms) 4 rfl (by first|kernel_rfl|decide +kernel) (by rfl) hF (λ_ hw=>⟨?_,?_⟩) ?_;rotate_left
    . intro K hK;go_simp;exact hK
    . rw[listed_nil (by simp[go_sem,wJ _ _ _ _ underlying9 hin])];exact Terms.idle terms _
    try walk_nrm
    co_applyP qO terms (i:=5) (by first|kernel_rfl|decide +kernel) rfl (by rfl) rfl (by rfl) (hW _ _ (s[k]'hk) _ hF) (by omega) (by simp[Act.eval]);clear hF;rintro v w ⟨rfl,hF⟩;rw[hn];refine⟨hF,?_⟩
    try walk_nrm
    refine wL (by first|kernel_rfl|decide +kernel) ?_ _;co_then;co_apply wpC_cond (t:=false) terms rfl;simp only[Qs,if_false];co_ctl terms;co_then
    repeat (first|co_reg terms|co_op Holds.rely hF (co_quiet terms)|(co_apply opsC_unwanted terms rfl (by rfl);try walk_nrm)|(co_ctl terms;try co_then))
    have hwr:IntKind.i64.wrap ((i:Int)+1)=((i+1:Nat):Int):=by rw[IntWalk.i64_in _ (by omega)];omega
    rw[hwr];exact bB (by rfl) (hF.weak λp hp=>Qh _ hp)
  . decide
theorem pRA{P:Program}{main:Bool}{R:World->World->Prop}{D:World->World->Array Event->Prop}{fn:FuncId}{md:Region.Mode}{ops:Array Oper}{Q:Exit->Act->World->Prop}{S:World->Prop}{c i fuel:Nat}{listed':Array Bool}{a:Act}{w:World}{o:Oper}(hr:Region.ready md ops listed'=[i])
    (ho:ops[i]? = some o) (hw:Region.wanted o (yielded ops a.tmps)=true)
    (h:∀ w₁,R w w₁->∀ K:Act->World->Prop,(∀ a' w',D w₁ w' (listed P fn a o w₁)/\S w'/\AnyX P main R D fn md ops c Q S fuel (listed'.setIfInBounds i true) a' w'->K a' w')->uponK o a K ((execOp a.eval o).run P w₁)):AnyX P main R D fn md ops c Q S (fuel+1) listed' a w :=
  t0A hr ho hw λw₁ h₁=>h w₁ h₁ _ λ_ _ x=>x
def HoldsB(d:Deal)(T:TypeId->Prop)(xb:Nat)(L:List (Nat×Obj))(w:World):Prop:=∃ y:Array Value,y.size=4/\Holds d T (some xb) ((xb,Obj.cells y 120 (0,0))::L) w
theorem HoldsB.rely{L:List (Nat×Obj)}{w w₁:World}(h:HoldsB d T xb L w)(r:Rely d T (some xb) w w₁):HoldsB d T xb L w₁:=by
 obtain⟨y,hy,h⟩:=h;exact⟨y,hy,h.rely r⟩
theorem HoldsB.low{L:List (Nat×Obj)}{w:World}(h:HoldsB d T xb L w):Holds d T (some xb) L w:=by
 obtain⟨y,hy,h⟩:=h;exact h.weak λp hp=>Qh _ hp
theorem four{y:Array Value}(h:y.size=4):∃ a b c e,y=#[a,b,c,e]:=by
 obtain⟨l⟩:=y
 match l,h with
 | [a,b,c,e],_=>exact⟨a,b,c,e,rfl⟩
theorem l4A(s:ByteArray)(k:Nat):(s.extract k s.size).data.toList=s.data.toList.drop k:=by
 rw[ByteArray.data_extract,Array.toList_extract,List.extract_eq_take_drop,List.take_of_length_le];simp
theorem b0A{R x:Array Value}{L:List (Nat×Obj)}{f g:FuncId}{caps gcaps:Array Value}{kd:Int}{p:UInt8->Bool}{n:List UInt8->Nat}(s:ByteArray)(c q k i:Nat)(J:Nat->Value)(hk:k < s.size)(hs:s.size<=1000000)(hi:i < 5)(hT95:T 152)
    (hxs:x.size=4) (hb0:(b0,Obj.cells R 152 (0,0))∈L) (hxL:∀ p∈L,p.1≠xb) (hr0:R[i * 3]? = some (.func (.func f) #[] caps)) (hr1:R[i * 3+1]? = some (.func (.func g) #[] gcaps)) (hr2:R[i * 3+2]? = some (.int .i64 kd))
    (hW:∀ b y,qKA false d T (some xb) ((b,y)::(xb,Obj.cells x 120 (0,0))::L) f caps p) (hG:∀ b y,fCA d T (some xb) ((b,y)::(xb,Obj.cells x 120 (0,0))::L) g gcaps n)
    (hn:p (s[k]'hk)=true) {m:Nat} (hme:RowKit.Hid (n (s.data.toList.drop k)=m)) (hmn:k+m<=s.size) (w:World) (hF:Holds d T (some xb) ((xb,Obj.cells x 120 (0,0))::L) w) :
    Code.wpC prog false (Rely d T (some xb)) (Lx.Does d T (some xb)) 55 zN 1000000000000
      (Exit.then (λ_ _=>False) (λe a' w'=>e = .exit 2/\∃ J',a'=⟨qF s c q b0 k xb i J',df⟩ /\
        Holds d T (some xb) ((xb,Obj.cells #[.int .i64 kd,.int .i64 (k:Int),.string (s.extract k (k+m)),.int .i64 0] 120 (0,0))::L) w')) ⟨qF s c q b0 k xb i J,df⟩ w:=by
  have hb0':(b0,Obj.cells R 152 (0,0))∈(xb,Obj.cells x 120 (0,0))::L:=Qh _ hb0;have hin:0<=(k:Int)/\(k:Int) < s.size:=by omega
  have hi5:decide ((i:Int) < 5)=true:=by simp;omega
  unfold zN iR uF iD kD;simp only[f55,Qf,aB,jA,nC,qF];have hilt:(i:Int) < 5:=by omega
  co_apply wpC_more
  . co_stmt terms Holds.rely hF (co_quiet terms)
    co_apply wpC_seq terms;co_apply wpC_cond (t:=true) terms rfl;simp only[if_true];co_ctl terms;co_then;co_apply wpC_seq (n₂:=50) terms;co_apply wpC_block terms;co_apply wpC_seq terms
    co_reg terms
    co_op Holds.rely hF (co_still terms)
    co_opw Holds.rely hF (have hc0:_=some _:=(hF.cell hb0' (i * 3)).trans hr0;have hc1:_=some _:=(hF.cell hb0' (i * 3+1)).trans hr1;have hc2:_=some _:=(hF.cell hb0' (i * 3+2)).trans hr2) (refine Does.reads ?_;intro e he;have hm:=mem_listed he;simp[go_sem, *]at hm;rcases hm with rfl|rfl|rfl<;>exact hF.read hb0' _ _)
    clear hc0 hc1 hc2
    co_opw Holds.rely hF (skip) (refine⟨Turn.alloc hT95 hF.box,?_⟩;co_evs (skip))
    have hne:∀ p∈(xb,Obj.cells x 120 (0,0))::L,p.1≠_:=λp hp=>Nat.ne_of_lt (hF.lt hp)
    have hBn:=hF.big;replace hF:=hF.cons #[.nilFunc,.nilFunc,.int .i64 0] hT95
    revert hne hF hBn
    generalize Array.size (World.heap _)=nb;intro hne hBn hF
    co_opw Holds.rely hF (have hm:(nb,Obj.cells #[.nilFunc,.nilFunc,.int .i64 0] 152 (0,0))∈(nb,Obj.cells #[.nilFunc,.nilFunc,.int .i64 0] 152 (0,0))::(xb,Obj.cells x 120 (0,0))::L:=Qn;have hc0:_=some _:=hF.cell hm 0;have hc1:_=some _:=hF.cell hm 1;have hc2:_=some _:=hF.cell hm 2;have hf0:=hF.frozen hm 0;have hf1:=hF.frozen hm 1;have hf2:=hF.frozen hm 2;have sf:=zX prog) (have ho:=hF.mine hm hBn hT95;have ef:=kBA prog;have ht:=Turn.set3 ho (hF.lt hm) hF.big (.func (.func f) #[] caps) (.func (.func g) #[] gcaps) (.int .i64 kd);refine⟨ht,?_⟩;have ho2:=ht.own_fwd (hF.lt hm) ho;clear ht ho;intro e he;have hm:=mem_listed he;simp[go_sem, *]at hm;rcases hm with rfl|rfl|rfl<;>exact bR ho2 _ _ _)
    replace hF:=hF.set3 hne (.func (.func f) #[] caps) (.func (.func g) #[] gcaps) (.int .i64 kd);clear hm hc0 hc1 hc2 hf0 hf1 hf2 sf;co_apply opsC_nil terms;co_then;co_apply wpC_seq terms;have hm:(nb,Obj.cells #[.func (.func f) #[] caps,.func (.func g) #[] gcaps,.int .i64 kd] 152 (0,0))∈(nb,Obj.cells #[.func (.func f) #[] caps,.func (.func g) #[] gcaps,.int .i64 kd] 152 (0,0))::(xb,Obj.cells x 120 (0,0))::L:=Qn;co_apply vH terms draws 500 (by omega) (S:=Holds d T (some xb) ((nb,Obj.cells #[.func (.func f) #[] caps,.func (.func g) #[] gcaps,.int .i64 kd] 152 (0,0))::(xb,Obj.cells x 120 (0,0))::L)) (by first|kernel_rfl|rfl);intro _ hR;replace hF:=Holds.rely (Holds.rely hF hR) (dP _);clear hR;simp only[List.size_toArray,Qk,List.length_nil,Nat.reduceAdd,Nat.zero_add];co_applyP iC terms (λ_ _=>Holds.rely) (λ_ _ _=>wpC_rely terms) 0 rfl (by first|kernel_rfl|decide +kernel) (by rfl) hF (λ_ hw=>⟨?_,?_⟩) ?_;rotate_left
    . intro K hK;go_simp;exact hK
    . co_quiet terms
    try walk_nrm
    co_applyP iC terms (λ_ _=>Holds.rely) (λ_ _ _=>wpC_rely terms) 1 rfl (by first|kernel_rfl|decide +kernel) (by rfl) hF (λ_ hw=>⟨?_,?_⟩) ?_;rotate_left
    . intro K hK;have hc:_=some (Value.func (.func f) #[] caps):=hw.cell hm 0;go_simp;exact hK
    . have hc:_=some (Value.func (.func f) #[] caps):=hw.cell hm 0;refine Does.reads ?_;co_evs (exact hw.read hm _ _)
    try walk_nrm
    co_applyP iC terms (λ_ _=>Holds.rely) (λ_ _ _=>wpC_rely terms) 2 rfl (by first|kernel_rfl|decide +kernel) (by rfl) hF (λ_ hw=>⟨?_,?_⟩) ?_;rotate_left
    . intro K hK;go_simp;exact hK
    . co_quiet terms
    try walk_nrm
    co_applyP iC terms (λ_ _=>Holds.rely) (λ_ _ _=>wpC_rely terms) 3 rfl (by first|kernel_rfl|decide +kernel) (by rfl) hF (λ_ hw=>⟨?_,?_⟩) ?_;rotate_left
    . intro K hK;go_simp;exact hK
    . co_quiet terms
    try walk_nrm
    co_applyP iC terms (λ_ _=>Holds.rely) (λ_ _ _=>wpC_rely terms) 4 rfl (by first|kernel_rfl|decide +kernel) (by rfl) hF (λ_ hw=>⟨?_,?_⟩) ?_;rotate_left
    . intro K hK;go_simp;exact hK
    . rw[listed_nil (by simp[go_sem,wJ _ _ _ _ underlying9 hin])];exact Terms.idle terms _
    try walk_nrm
    co_applyP qO terms (i:=5) (by first|kernel_rfl|decide +kernel) rfl (by rfl) rfl (by rfl) (hW _ _ (s[k]'hk) _ hF) (by omega) (by simp[Act.eval]);clear hF;rintro v w ⟨rfl,hF⟩;rw[hn];refine⟨hF,?_⟩
    try walk_nrm
    refine wL (by first|kernel_rfl|decide +kernel) ?_ _;co_then;co_apply wpC_cond (t:=true) terms rfl;simp only[if_true];have hkl:k<=s.size:=Nat.le_of_lt hk;have hsz:(s.extract k s.size).size<=1000000:=by simp only[ByteArray.size_extract];omega
    co_apply wpC_seq terms;co_apply vH terms draws 7000000000 (by omega) (S:=Holds d T (some xb) ((nb,Obj.cells #[.func (.func f) #[] caps,.func (.func g) #[] gcaps,.int .i64 kd] 152 (0,0))::(xb,Obj.cells x 120 (0,0))::L)) (by first|kernel_rfl|rfl);intro _ hR;replace hF:=Holds.rely (Holds.rely hF hR) (dP _);clear hR;simp only[List.size_toArray,Qk,List.length_nil,Nat.reduceAdd,Nat.zero_add];co_applyP iC terms (λ_ _=>Holds.rely) (λ_ _ _=>wpC_rely terms) 0 rfl (by first|kernel_rfl|decide +kernel) (by rfl) hF (λ_ hw=>⟨?_,?_⟩) ?_;rotate_left
    . intro K hK;go_simp;exact hK
    . co_quiet terms
    try walk_nrm
    co_applyP iC terms (λ_ _=>Holds.rely) (λ_ _ _=>wpC_rely terms) 1 rfl (by first|kernel_rfl|decide +kernel) (by rfl) hF (λ_ hw=>⟨?_,?_⟩) ?_;rotate_left
    . intro K hK;have hc:_=some (Value.func (.func g) #[] gcaps):=hw.cell hm 1;go_simp;exact hK
    . have hc:_=some (Value.func (.func g) #[] gcaps):=hw.cell hm 1;refine Does.reads ?_;co_evs (exact hw.read hm _ _)
    try walk_nrm
    co_applyP iC terms (λ_ _=>Holds.rely) (λ_ _ _=>wpC_rely terms) 2 rfl (by first|kernel_rfl|decide +kernel) (by rfl) hF (λ_ hw=>⟨?_,?_⟩) ?_;rotate_left
    . intro K hK;go_simp;exact hK
    . co_quiet terms
    try walk_nrm
    co_applyP iC terms (λ_ _=>Holds.rely) (λ_ _ _=>wpC_rely terms) 3 rfl (by first|kernel_rfl|decide +kernel) (by rfl) hF (λ_ hw=>⟨?_,?_⟩) ?_;rotate_left
    . intro K hK;go_simp;exact hK
    . co_quiet terms
    try walk_nrm
    co_applyP iC terms (λ_ _=>Holds.rely) (λ_ _ _=>wpC_rely terms) 4 rfl (by first|kernel_rfl|decide +kernel) (by rfl) hF (λ_ hw=>⟨?_,?_⟩) ?_;rotate_left
    . intro K hK;go_simp;exact hK
    . rw[listed_nil (by simp[go_sem,pOA _ _ _ _ underlying9 (Nat.le_of_lt hk)])];exact Terms.idle terms _
    try walk_nrm
    co_applyP qO terms (i:=5) (by first|kernel_rfl|decide +kernel) rfl (by rfl) rfl (by rfl) (hG _ _ (s.extract k s.size) _ hsz hF) (by omega) (by simp[Act.eval]);clear hF;rintro v w ⟨rfl,hF⟩;refine⟨hF,?_⟩
    try walk_nrm
    rw[l4A,hme.out];co_applyP iC terms (λ_ _=>Holds.rely) (λ_ _ _=>wpC_rely terms) 6 rfl (by first|kernel_rfl|decide +kernel) (by rfl) hF (λ_ hw=>⟨?_,?_⟩) ?_;rotate_left
    . intro K hK;go_simp;exact hK
    . co_quiet terms
    try walk_nrm
    refine wL (by first|kernel_rfl|decide +kernel) ?_ _;co_then;have hwr:IntKind.i64.wrap ((k:Int)+(m:Int))=((k+m:Nat):Int):=by rw[IntWalk.i64_in _ (by omega)];omega
    have hkm:(k:Int)<=(k:Int)+(m:Int):=by omega
    have hkn:(k:Int)+(m:Int)<=s.size:=by omega
    have htn:((k:Int)+(m:Int)).toNat=k+m:=by omega
    replace hF:HoldsB d T xb ((nb,Obj.cells #[.func (.func f) #[] caps,.func (.func g) #[] gcaps,.int .i64 kd] 152 (0,0))::L) _:=⟨x,hxs,hF.weak λp hp=>by simp only[List.mem_cons]at hp ⊢;rcases hp with h|h|h<;>simp[h]⟩;have hm':(nb,Obj.cells #[.func (.func f) #[] caps,.func (.func g) #[] gcaps,.int .i64 kd] 152 (0,0))∈(nb,Obj.cells #[.func (.func f) #[] caps,.func (.func g) #[] gcaps,.int .i64 kd] 152 (0,0))::L:=Qn;co_apply wpC_seq terms;co_apply vH terms draws 500 (by omega) (S:=HoldsB d T xb ((nb,Obj.cells #[.func (.func f) #[] caps,.func (.func g) #[] gcaps,.int .i64 kd] 152 (0,0))::L)) (by first|kernel_rfl|rfl);intro _ hR;replace hF:=HoldsB.rely (HoldsB.rely hF hR) (dP _);clear hR;simp only[List.size_toArray,Qk,List.length_nil,Nat.reduceAdd,Nat.zero_add];co_applyP iC terms (λ_ _=>HoldsB.rely) (λ_ _ _=>wpC_rely terms) 0 rfl (by first|kernel_rfl|decide +kernel) (by rfl) hF (λ_ hw=>⟨?_,?_⟩) ?_;rotate_left
    . intro K hK;go_simp;exact hK
    . co_quiet terms
    try walk_nrm
    co_applyP iC terms (λ_ _=>HoldsB.rely) (λ_ _ _=>wpC_rely terms) 1 rfl (by first|kernel_rfl|decide +kernel) (by rfl) hF (λ_ hw=>⟨?_,?_⟩) ?_;rotate_left
    . intro K hK;have hc:_=some (Value.int .i64 kd):=hw.low.cell hm' 2;go_simp;exact hK
    . have hc:_=some (Value.int .i64 kd):=hw.low.cell hm' 2;refine Does.reads ?_;co_evs (exact hw.low.read hm' _ _)
    try walk_nrm
    co_applyP iC terms (λ_ _=>HoldsB.rely) (λ_ _ _=>wpC_rely terms) 2 rfl (by first|kernel_rfl|decide +kernel) (by rfl) hF (λ_ hw=>⟨?_,?_⟩) ?_;rotate_left
    . intro K hK;go_simp;exact hK
    . co_quiet terms
    try walk_nrm
    co_applyP iC terms (λ_ _=>HoldsB.rely) (λ_ _ _=>wpC_rely terms) 3 rfl (by first|kernel_rfl|decide +kernel) (by rfl) hF (λ_ hw=>⟨?_,?_⟩) ?_;rotate_left
    . intro K hK;go_simp;exact hK
    . co_quiet terms
    try walk_nrm
    co_applyP iC terms (λ_ _=>HoldsB.rely) (λ_ _ _=>wpC_rely terms) 4 rfl (by first|kernel_rfl|decide +kernel) (by rfl) hF (λ_ hw=>⟨?_,?_⟩) ?_;rotate_left
    . intro K hK;go_simp;exact hK
    . co_quiet terms
    try walk_nrm
    co_applyP iC terms (λ_ _=>HoldsB.rely) (λ_ _ _=>wpC_rely terms) 5 rfl (by first|kernel_rfl|decide +kernel) (by rfl) hF (λ_ hw=>⟨?_,?_⟩) ?_;rotate_left
    . intro K hK;go_simp;exact hK
    . co_quiet terms
    try walk_nrm
    co_applyP iC terms (λ_ _=>HoldsB.rely) (λ_ _ _=>wpC_rely terms) 6 rfl (by first|kernel_rfl|decide +kernel) (by rfl) hF (λ_ hw=>⟨?_,?_⟩) ?_;rotate_left
    . intro K hK;go_simp;exact hK
    . co_quiet terms
    try walk_nrm
    co_applyP iC terms (λ_ _=>HoldsB.rely) (λ_ _ _=>wpC_rely terms) 7 rfl (by first|kernel_rfl|decide +kernel) (by rfl) hF (λ_ hw=>⟨?_,?_⟩) ?_;rotate_left
    . intro K hK;go_simp;exact hK
    . co_quiet terms
    try walk_nrm
    co_applyP iC terms (λ_ _=>HoldsB.rely) (λ_ _ _=>wpC_rely terms) 8 rfl (by first|kernel_rfl|decide +kernel) (by rfl) hF (λ_ hw=>⟨?_,?_⟩) ?_;rotate_left
    . intro K hK;go_simp;exact hK
    . rw[listed_nil (by simp[go_sem,zKA _ _ _ _ _ _ underlying9 hin.1 hkm hkn])];exact Terms.idle terms _
    try walk_nrm
    co_applyP iC terms (λ_ _=>HoldsB.rely) (λ_ _ _=>wpC_rely terms) 9 rfl (by first|kernel_rfl|decide +kernel) (by rfl) hF (λ_ hw=>⟨?_,?_⟩) ?_;rotate_left
    . intro K hK;go_simp;exact hK
    . co_quiet terms
    try walk_nrm
    co_applyP iC terms (λ_ _=>HoldsB.rely) (λ_ _ _=>wpC_rely terms) 10 rfl (by first|kernel_rfl|decide +kernel) (by rfl) hF (λ_ hw=>⟨?_,?_⟩) ?_;rotate_left
    . intro K hK;go_simp;exact hK
    . co_quiet terms
    try walk_nrm
    co_applyP pRA (i:=11) (by first|kernel_rfl|decide +kernel) rfl (by rfl);intro w1 hR K hK;obtain⟨y,hy,hX⟩:=HoldsB.rely hF hR;clear hF hR;obtain⟨y0,y1,y2,y3,rfl⟩:=four hy;have hmx:(xb,Obj.cells #[y0,y1,y2,y3] 120 (0,0))∈(xb,Obj.cells #[y0,y1,y2,y3] 120 (0,0))::(nb,Obj.cells #[.func (.func f) #[] caps,.func (.func g) #[] gcaps,.int .i64 kd] 152 (0,0))::L:=Qn;have hc0:_=some _:=hX.cell hmx 0;have hc1:_=some _:=hX.cell hmx 1;have hc2:_=some _:=hX.cell hmx 2;have hc3:_=some _:=hX.cell hmx 3;have hf0:=hX.frozen hmx 0;have hf1:=hX.frozen hmx 1;have hf2:=hX.frozen hmx 2;have hf3:=hX.frozen hmx 3;go_simp
    try (unfold stored;go_simp)
    have ho:Lx.Own d T (some xb) w1 xb:=.inr rfl;have hnx:∀ p∈(nb,Obj.cells #[.func (.func f) #[] caps,.func (.func g) #[] gcaps,.int .i64 kd] 152 (0,0))::L,p.1≠xb:=by
     intro p hp;rcases List.mem_cons.1 hp with rfl|hp
     . exact Ne.symm (hne (xb,Obj.cells x 120 (0,0)) Qn)
     . exact hxL p hp
    have hX':=hX.set4 hnx (.int .i64 kd) (.int .i64 (k:Int)) (.string (s.extract k (k+m))) (.int .i64 0);have ht:=Turn.set4 ho (hX.lt hmx) hX.big (.int .i64 kd) (.int .i64 (k:Int)) (.string (s.extract k (k+m))) (.int .i64 0);have ho2:=ht.own_fwd (hX.lt hmx) ho;refine hK _ _ ⟨⟨ht,?_⟩,⟨_,rfl,hX'⟩,?_⟩
    . clear ht hX' ho hK;have es:=nS prog;intro e he;have hm:=mem_listed he;simp[go_sem, *]at hm;rcases hm with rfl|rfl|rfl|rfl<;>exact bR ho2 _ _ _
    clear hK K
    try walk_nrm
    refine wL (by first|kernel_rfl|decide +kernel) ?_ _;co_then;co_ctl terms;co_then;exact⟨trivial,bB (by rfl) (hX'.weak λp hp=>by simp only[List.mem_cons]at hp ⊢;rcases hp with h|h<;>simp[h])⟩
  . decide
end
section
variable {d : Deal} {T : TypeId -> Prop} {o : Option Nat} {b0 b1 b2 b3 b4 b5 b6 b7 xb : Nat} {df : List Deferred}
theorem rZ(L:List (Nat×Obj))(b:Nat)(l:List UInt8)(hb:(b,Obj.cells #[.string ⟨l.toArray⟩] 9 (0,0))∈L):qKA false d T o L 109 #[.pointer (some ⟨b,0,none⟩)] (inB l) :=
 λc w hF=>eBB (s:=⟨l.toArray⟩) hb c w hF
theorem lAA(L:List (Nat×Obj))(b:Nat){f:FuncId}{caps:Array Value}{p:UInt8->Bool}(hW:qKA false d T o L f caps p)(hb:(b,Obj.cells #[.func (.func f) #[] caps] 131 (0,0))∈L) :
 fCA d T o L 111 #[.pointer (some ⟨b,0,none⟩)] (many p) :=
 λs w hs hF=>p3A hW hb s hs w hF
theorem fUA(L:List (Nat×Obj)):fCA d T o L 96 #[] (λ_=>1) :=
 λs w _ hF=>Go.Lx.CallsC.more (qCB (.string s) w hF) (by omega)
structure Rule (d:Deal) (T:TypeId->Prop) (o:Option Nat) (b0 b1 b2 b3 b4 b5 b6 b7 i:Nat) (f g:FuncId) (caps gcaps:Array Value):Prop where
 r0:(iO b1 b2 b3 b4 b5 b6 b7)[i * 3]? = some (.func (.func f) #[] caps)
 r1:(iO b1 b2 b3 b4 b5 b6 b7)[i * 3+1]? = some (.func (.func g) #[] gcaps)
 r2:(iO b1 b2 b3 b4 b5 b6 b7)[i * 3+2]? = some (.int .i64 (jDA i))
 wish:∀ L,(∀ p∈dE b0 b1 b2 b3 b4 b5 b6 b7 [],p∈L)->qKA false d T o L f caps (e3A i)
 far:∀ L,(∀ p∈dE b0 b1 b2 b3 b4 b5 b6 b7 [],p∈L)->fCA d T o L g gcaps (goN i)
theorem rTA(d:Deal)(T:TypeId->Prop)(o:Option Nat)(b0 b1 b2 b3 b4 b5 b6 b7 i:Nat)(hi:i < 5):∃ f g caps gcaps,Rule d T o b0 b1 b2 b3 b4 b5 b6 b7 i f g caps gcaps:=by
 have hword:∀ L,qKA false d T o L 94 #[] rM:=λL c w hF=>z9A c w hF
 have hline:∀ L,qKA false d T o L 97 #[] (λc=>(c.toNat:Int) != 10):=λL c w hF=>hAB c w hF
 match i,hi with
 | 0,_=>exact⟨_,_,_,_,rfl,rfl,rfl,λL _=>hword L,λL hL=>lAA L b2 (hword L) (hL _ (by simp[dE]))⟩
 | 1,_=>exact⟨_,_,_,_,rfl,rfl,rfl,λL hL=>rZ L b1 _ (hL _ (by simp[dE])),λL hL=>lAA L b3 (rZ L b1 _ (hL _ (by simp[dE]))) (hL _ (by simp[dE]))⟩
 | 2,_=>exact⟨_,_,_,_,rfl,rfl,rfl,λL hL=>rZ L b4 _ (hL _ (by simp[dE])),λL hL=>fUA L⟩
 | 3,_=>exact⟨_,_,_,_,rfl,rfl,rfl,λL hL=>rZ L b5 _ (hL _ (by simp[dE])),λL hL=>fUA L⟩
 | 4,_=>exact⟨_,_,_,_,rfl,rfl,rfl,λL hL=>rZ L b6 _ (hL _ (by simp[dE])),λL hL=>lAA L b7 (hline L) (hL _ (by simp[dE]))⟩
def First(i:Nat)(c:UInt8):Prop:=i < 5/\e3A i c=true/\∀ j,j < i->e3A j c=false
def pFA(a:Act):Nat:=match a.tmps.getD 23 undef with|.int _ n=>(5 - n).toNat|_=>0
theorem pAA(s:ByteArray)(c q k:Nat)(i:Nat)(J:Nat->Value):pFA ⟨qF s c q b0 k xb i J,df⟩=5 - i:=by
 have:(qF s c q b0 k xb i J).getD 23 undef = .int .i64 i:=rfl;simp only[pFA,this];omega
theorem aYA{x:Array Value}(s:ByteArray)(c q k i0 m:Nat)(J:Nat->Value)(hk:k < s.size)(hs:s.size<=1000000)(hT95:T 152)(hxs:x.size=4)
    (hf:First i0 (s[k]'hk)) (hme:goN i0 (s.data.toList.drop k)=m) (hmn:k+m<=s.size) (hxL:∀ p∈dE b0 b1 b2 b3 b4 b5 b6 b7 [],p.1≠xb)
    (w:World) (hF:Holds d T (some xb) ((xb,Obj.cells x 120 (0,0))::dE b0 b1 b2 b3 b4 b5 b6 b7 []) w) :
    Code.wpC prog false (Rely d T (some xb)) (Lx.Does d T (some xb)) 55 (.block 2 (.loop zN)) 10000000000000
      (Exit.then (λa' w'=>∃ J',a'=⟨qF s c q b0 k xb i0 J',df⟩ /\
        Holds d T (some xb) ((xb,Obj.cells #[.int .i64 (jDA i0),.int .i64 (k:Int),.string (s.extract k (k+m)),.int .i64 0] 120 (0,0))::dE b0 b1 b2 b3 b4 b5 b6 b7 []) w') (λ_ _ _=>False)) ⟨qF s c q b0 k xb 0 J,df⟩ w:=by
  obtain⟨h5,hy,hn⟩:=hf;have hmem:(b0,Obj.cells (iO b1 b2 b3 b4 b5 b6 b7) 152 (0,0))∈dE b0 b1 b2 b3 b4 b5 b6 b7 []:=by simp[dE]
  have hsub:∀(b:Nat) (y:Obj),∀ p∈dE b0 b1 b2 b3 b4 b5 b6 b7 [],p∈(b,y)::(xb,Obj.cells x 120 (0,0))::dE b0 b1 b2 b3 b4 b5 b6 b7 []:=λb y p hp=>Qh _ (Qh _ hp)
  refine wpC_more (wpC_block terms (wpC_loop terms (λa w=>∃ i J,i<=i0/\a=⟨qF s c q b0 k xb (i:Nat) J,df⟩/\Holds d T (some xb) ((xb,Obj.cells x 120 (0,0))::dE b0 b1 b2 b3 b4 b5 b6 b7 []) w) (λa _=>pFA a) 1000000000000 5 ⟨0,J,Nat.zero_le _,rfl,hF⟩ ?_ ?_)) (by decide)
  . have:=pAA (df:=df) (b0:=b0) (xb:=xb) s c q k 0 J;exact Nat.le_of_eq this
  . rintro a w ⟨i,J,hi,rfl,hF⟩;rcases Nat.lt_or_ge i i0 with hlt|hge
    . obtain⟨f,g,caps,gcaps,hr⟩:=rTA d T (some xb) b0 b1 b2 b3 b4 b5 b6 b7 i (by omega);refine wpC_more (wpC_mono (p7A (p:=e3A i) s c q k i J hk (by omega) hT95 (Qh _ hmem) hr.r0 hr.r1 hr.r2 (λb y=>hr.wish _ (hsub b y)) (hn i hlt) w hF) ?_) (by decide);rintro e a' w' h
      cases e with
      | normal =>
        obtain⟨J',rfl,hF'⟩:=h;refine⟨⟨i+1,J',hlt,rfl,hF'⟩,?_⟩
        show pFA _ < pFA _
        rw[pAA,pAA];omega
      | _=>exact h.elim
    . obtain rfl:i=i0:=by omega
      obtain⟨f,g,caps,gcaps,hr⟩:=rTA d T (some xb) b0 b1 b2 b3 b4 b5 b6 b7 i h5;refine wpC_mono (b0A (p:=e3A i) s c q k i J hk hs h5 hT95 hxs hmem hxL hr.r0 hr.r1 hr.r2 (λb y=>hr.wish _ (hsub b y)) (λb y=>hr.far _ (hsub b y)) hy (aA hme) hmn w hF) ?_;rintro e a' w' h
      cases e with
      | normal=>exact h.elim
      | exit id =>
        obtain⟨he,J',rfl,hF'⟩:=h
        cases he;exact⟨J',rfl,hF'⟩
      | ret=>cases h.1
      | goto l=>cases h.1
      | panic ch=>cases h.1
      | outgrown=>cases h.1
end
end Go.Proofs.YtpkaiodmbicjiaaGreatDoor
