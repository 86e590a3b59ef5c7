/- Part 15 of what the proof rests on. -/
import Derived.Test.YtggjbblgoddnjaaGreatDoorChecked
import Derived.KernelRfl
import Derived.WalkKit
import Derived.Tactics
import Derived.LoopTactic
import Derived.OwnWalk
import Derived.Maps.AppendAt
import Derived.Deep.QuietTactic
import Derived.BigQuiet
import Derived.Deep.LoopGhost
import Derived.Lib.Hide
import Derived.Outline
import Derived.Carry
import Derived.LoopN
import Derived.Deep.RegionHeld3
import Derived.Lib.Bytealg
import Derived.Laws.Externs
import Derived.Conc.AtomicLaws
import Derived.Test.YtggjbblgoddnjaaGreatDoorM00
import Derived.Test.YtggjbblgoddnjaaGreatDoorM01
import Derived.Test.YtggjbblgoddnjaaGreatDoorM02
import Derived.Test.YtggjbblgoddnjaaGreatDoorM08
set_option linter.unusedSimpArgs false
set_option linter.unusedVariables false
set_option maxRecDepth 100000
set_option maxHeartbeats 2000000
namespace Go.Proofs.YtggjbblgoddnjaaGreatDoor
open Go.Lx Go.RowKit
theorem oDA{l:List UInt8}{k:Nat}{c:UInt8}(h:l[k]? = some c):xD k (l.drop k)=(okB k c&&xD (k+1) (l.drop (k+1))):=by
 obtain⟨hk,hc⟩:=List.getElem?_eq_some_iff.1 h;rw[List.drop_eq_getElem_cons hk,hc];rfl
theorem kH{a b:Bool}(h:a=b):Ending.returned (.bool a) = .returned (.bool b):=by rw[h]
theorem mF{k:IntKind}{a b:Int}(h:a=b):Ending.returned (.int k a) = .returned (.int k b):=by rw[h]
theorem mFA{s:ByteArray}{k:Nat}{b:Bool}(h1:Hid (xD 0 s.data.toList=xD k (s.data.toList.drop k)))(h2:Hid (xD k (s.data.toList.drop k)=(b&&xD (k+1) (s.data.toList.drop (k+1)))))(h:b=false):false=rD s:=by
 unfold rD;rw[h1.out,h2.out,h];rfl
theorem wGA{s:ByteArray}{k:Nat}{b:Bool}(h1:Hid (xD 0 s.data.toList=xD k (s.data.toList.drop k)))(h2:Hid (xD k (s.data.toList.drop k)=(b&&xD (k+1) (s.data.toList.drop (k+1)))))(h:b=true):xD 0 s.data.toList=xD (k+1) (s.data.toList.drop (k+1)):=by
 rw[h1.out,h2.out,h];rfl
theorem kUA{s:ByteArray}{k:Nat}(h1:Hid (xD 0 s.data.toList=xD k (s.data.toList.drop k)))(hk:¬ k < s.size):rD s=(!s.toList.isEmpty&&decide ((s.size:Int)≤16)):=by
 unfold rD;rw[h1.out,List.drop_eq_nil_of_le (by simp[← ByteArray.size_data]at hk ⊢;omega),ByteArray.toList_eq];have e1:decide (s.size≠0) = !s.data.toList.isEmpty:=by
  rw[← ByteArray.size_data]
  cases h:s.data.toList with
  | nil=>simp[← Array.length_toList,h]
  | cons a b=>simp[← Array.length_toList,h]
 have e2:decide (s.size≤16)=decide ((s.size:Int)≤16):=by rw[Bool.eq_iff_iff];simp;omega
 rw[e1,e2];simp[xD]
theorem eH(s:ByteArray)(w:World)(hs:s.size≤maxLen):Calls Tryz.prog 82 #[.string s] w fun e w'=>e = .returned (.bool (rD s))∧w=w':=by
 unfold maxLen at hs;go_enter Tryz.func82,Tryz.ntmps82;go_wp2
 go_loop [8] (fun i=>∃ k:Nat,k≤s.size∧i = .int .i64 k∧xD 0 s.data.toList=xD k (s.data.toList.drop k)) (fun i=>s.size - (intOf i).toNat)
 case atStart=>exact⟨0,Nat.zero_le _,rfl,by simp⟩
 case round =>
   obtain⟨k,hk,rfl,hN⟩:=hrel;have HN:=Lib.hid hN;clear hN;by_cases hlt:k < s.size
   · have hc := oDA (l := s.data.toList) (k := k) (c := s[k]) (by rw [List.getElem?_eq_getElem (by simpa using hlt)]; rfl); have HC := Lib.hid hc; clear hc; by_cases hz : k = 0
     · subst hz; go_wp2
       all_goals try (go_round
                      case measure=>simp[intOf];omega)
       all_goals first
        | exact⟨1,by omega,rfl,wGA HN HC (by unfold okB jV eGA bPA;simp at *;omega)⟩
        | (exact⟨1,by omega,rfl,wGA HN HC (by unfold okB jV eGA bPA;simp[*])⟩)
        | (go_ret;exact⟨kH (mFA HN HC (by unfold okB jV eGA bPA;simp at *;omega)),rfl⟩)
     · have hz' : (0 : Int) < k := by omega
       clear hz;go_wp2
       all_goals try (go_round
                      case measure=>simp[intOf];omega)
       all_goals first
        | exact⟨k+1,by omega,by go_num,wGA HN HC (by unfold okB jV eGA bPA;simp at *;omega)⟩
        | (go_ret;exact⟨kH (mFA HN HC (by unfold okB jV eGA bPA;simp at *;omega)),rfl⟩)
   · have he := kUA HN hlt; have HE := Lib.hid he; clear he; go_wp2
     all_goals
      go_ret;exact⟨by rw[HE.out];simp[*],rfl⟩
def qM(k n:Int):Value:=.agg #[.int .i64 k,.int .i64 n,.int .i64 0,.string ⟨#[]⟩]
def gH(k n:Int)(s:List UInt8):Value:=.agg #[.int .i64 k,.int .i64 n,.int .i64 0,.string ⟨#[]⟩,.string ⟨s.toArray⟩]
def aloneL:xG:=[(⟨#[80,114,111,112]⟩,qM 2 0),(⟨#[78,97,116]⟩,qM 10 0),(⟨#[122,101,114,111]⟩,qM 11 0),(⟨#[69,109,112,116,121]⟩,qM 14 0),(⟨#[85,110,105,116]⟩,qM 16 0),(⟨#[115,116,97,114]⟩,qM 17 0),(⟨#[116,105,99,107]⟩,qM 29 0)]
section
variable {w0 : World}
theorem pFA:Calls Tryz.prog 139 #[] w0 fun e w=>e = .returned (.map (some w0.heap.size))∧MapAt w w0.heap.size aloneL∧Under w0 w:=by
 have hmm:=@run_makeMap Tryz.prog;have hM:=eHA w0;have hU:=aA (Under.refl w0) (.map #[] 0);go_enter Tryz.func139,Tryz.ntmps139;go_wp2_with (refine vH rfl _ _ _ (.inl rfl) Tryz.underlying203 Tryz.underlying9 rfl hM rfl rfl ?_;intro w1 hM1 hT1;replace hU:=hT1.under hU (Nat.le_refl _);replace hM:=hM1;clear hM1 hT1);go_ret;exact⟨rfl,hM,hU⟩
def vPA:xG:=[(⟨#[84,121,112,101]⟩,gH 2 0 [110]),(⟨#[108,97,109]⟩,gH 4 0 [119,46,46]),(⟨#[97,112,112]⟩,gH 5 0 [46,46]),(⟨#[112,97,105,114]⟩,gH 7 0 [46,46,46]),(⟨#[102,115,116]⟩,gH 8 0 [46]),(⟨#[115,110,100]⟩,gH 9 0 [46]),(⟨#[115,117,99]⟩,gH 12 0 [46]),(⟨#[112,114,102]⟩,gH 28 0 [46]),(⟨#[114,101,99]⟩,gH 13 0 [118,46,46,118,118,46,46]),(⟨#[97,98,111,114,116]⟩,gH 15 0 [46,46]),(⟨#[101,113]⟩,gH 18 0 [46,46,46]),(⟨#[114,101,102,108]⟩,gH 19 0 [46,46]),(⟨#[99,97,115,116]⟩,gH 20 0 [46,46,46,46]),(⟨#[116,114,97,110,115,112]⟩,gH 21 0 [46,46,118,46,46,46,46]),(⟨#[113,117,111,116]⟩,gH 22 0 [46,118,118,46,46,46,46]),(⟨#[99,108,97,115,115]⟩,gH 23 0 [46,46]),(⟨#[113,101,108,105,109]⟩,gH 24 0 [46,118,46,46,46]),(⟨#[100,97,116,97]⟩,gH 25 0 [100]),(⟨#[99,111,110]⟩,gH 26 0 [100,110,42]),(⟨#[101,108,105,109]⟩,gH 27 0 [100,118,46,42,46])]
def sfx:List ByteArray:=[⟨#[]⟩,⟨#[49]⟩,⟨#[50]⟩,⟨#[51]⟩]
def eXA(ks:xG)(j:Nat):xG:=l7 (l7 ks (⟨#[112,105]⟩++sfx.getD j ⟨#[]⟩) (gH 3 j [119,46,46])) (⟨#[115,105,103]⟩++sfx.getD j ⟨#[]⟩) (gH 6 j [119,46,46])
def uN : Nat → xG
  | 0=>vPA
  | j+1=>eXA (uN j) j
def formsL:xG:=uN 4
noncomputable def sMA:Code:=Tryz.f138.body.getD .skip
noncomputable def eMA:Code:=xA (jA (jA sMA))
noncomputable def fmRound:Code:=aD (aD (jA eMA))
def jL(m b:Nat)(j:Nat)(J:Nat→Value):Array Value:=#[J 0,.map (some m),J 2,J 3,J 4,J 5,J 6,J 7,J 8,J 9,J 10,J 11,J 12,J 13,J 14,J 15,J 16,J 17,J 18,J 19,J 20,J 21,J 22,J 23,J 24,J 25,J 26,J 27,J 28,J 29,J 30,J 31,J 32,J 33,J 34,J 35,J 36,J 37,J 38,J 39,J 40,J 41,J 42,J 43,J 44,J 45,.slice (some ⟨b,0,none⟩) 4 4,.int .i64 4,.int .i64 (j:Int),J 49,J 50,J 51,J 52,J 53,J 54,J 55,J 56,J 57,J 58,J 59,J 60,J 61,J 62,J 63,J 64,J 65,J 66]
def FmI(w0:World)(b j:Nat)(a:Act)(w:World):Prop:=∃ J,a=⟨jL w0.heap.size b j J,[]⟩∧MapAt w w0.heap.size (uN j)∧BoxAt w b 9 #[.string ⟨#[]⟩,.string ⟨#[49]⟩,.string ⟨#[50]⟩,.string ⟨#[51]⟩]∧Under w0 w
def FmD(w0:World)(b:Nat)(e:Exit)(a:Act)(w:World):Prop:=e = .exit 0∧FmI w0 b 4 a w
theorem oYA{b:Nat}(J:Nat→Value)(w:World)(hM:MapAt w w0.heap.size (uN 4))(hB:BoxAt w b 9 #[.string ⟨#[]⟩,.string ⟨#[49]⟩,.string ⟨#[50]⟩,.string ⟨#[51]⟩])(hU:Under w0 w) :
 fmRound.wp Tryz.prog (Exit.then (fun _ _=>False) (FmD w0 b)) ⟨jL w0.heap.size b 4 J,[]⟩ w:=by
 have HM:=Lib.hid hM;have HB:=Lib.hid hB;have HU:=Lib.hid hU;clear hM hB hU;unfold fmRound eMA sMA;simp only[Tryz.f138,Option.getD_some,xA,jA,aD];unfold jL;go_wp2;exact⟨rfl,bB (F:=jL _ b 4) (by rfl) ⟨HM.out,HB.out,HU.out⟩⟩
theorem k3A{b j:Nat}(hj:j < 4)(J:Nat→Value)(w:World)(hM:MapAt w w0.heap.size (uN j))(hB:BoxAt w b 9 #[.string ⟨#[]⟩,.string ⟨#[49]⟩,.string ⟨#[50]⟩,.string ⟨#[51]⟩])(hbm:b≠w0.heap.size)(hU:Under w0 w) :
 fmRound.wp Tryz.prog (Exit.then (FmI w0 b (j+1)) (fun _ _ _=>False)) ⟨jL w0.heap.size b j J,[]⟩ w:=by
 have hc:w.cell? ⟨b,j,none⟩=some (.string (sfx.getD j ⟨#[]⟩)):=by
  rw[hB.cell]
  match j,hj with
  | 0,_=>rfl
  | 1,_=>rfl
  | 2,_=>rfl
  | 3,_=>rfl
 have hlt:=hB.lt;have HB:=Lib.hid hB;have hj1:(j:Int) < 4:=by omega
 have hj0:(0:Int)≤j:=Int.natCast_nonneg _;have hz:(sfx.getD j ⟨#[]⟩).size≤1:=by
  match j,hj with
  | 0,_=>decide
  | 1,_=>decide
  | 2,_=>decide
  | 3,_=>decide
 clear hB;generalize hs:sfx.getD j ⟨#[]⟩=s at *;have hf:uN (j+1)=l7 (l7 (uN j) (⟨#[112,105]⟩++s) (gH 3 j [119,46,46])) (⟨#[115,105,103]⟩++s) (gH 6 j [119,46,46]):=by
  show eXA (uN j) j=_
  unfold eXA;rw[hs]
 have HF:=Lib.hid hf;clear hf hs;unfold fmRound eMA sMA;simp only[Tryz.f138,Option.getD_some,xA,jA,aD];unfold jL;go_wp2_with (refine vH rfl _ _ _ (.inr rfl) Tryz.underlying202 Tryz.underlying9 rfl hM rfl rfl ?_;intro w1 hM1 hT1;replace hU:=hT1.under hU (Nat.le_refl _);replace hM:=hM1;replace HB:=Lib.hid (HB.out.turned hT1 (fun e=>hbm (Option.some.inj e)));try clear hc;clear hT1 hM1);refine bB (F:=jL _ b (j+1)) (by rfl) ⟨?_,HB.out,hU⟩;rw[HF.out];exact hM
theorem lTA{b:Nat}(hbm:b≠w0.heap.size)(m:Nat)(a:Act)(w:World)(h0:∃ j,m+j=4∧FmI w0 b j a w):(Code.loop fmRound).wp Tryz.prog (FmD w0 b) a w:=by
 refine wp_loop_ghost (fun m a w=>∃ j,m+j=4∧FmI w0 b j a w) m h0 ?_;clear h0;rintro m a w ⟨j,hmj,J,rfl,hM,hB,hU⟩;by_cases h4:j=4
 · subst h4; refine wp_mono (oYA J w hM hB hU) ?_; rintro e a' w' h
   cases e with
   | normal=>exact h.elim
   | _=>exact h
 · refine wp_mono (k3A (by omega) J w hM hB hbm hU) ?_; rintro e a' w' h
   cases e with
   | normal=>exact⟨m - 1,by omega,j+1,by omega,h⟩
   | _=>exact h.elim
end
section
variable {w0 : World}
theorem xFA:Calls Tryz.prog 138 #[] w0 fun e w=>e = .returned (.map (some w0.heap.size))∧MapAt w w0.heap.size formsL∧Under w0 w:=by
 have hmm:=@run_makeMap Tryz.prog;have hM:=eHA w0;have hU:=aA (Under.refl w0) (.map #[] 0);go_enter Tryz.func138,Tryz.ntmps138;go_wp2_with (refine vH rfl _ _ _ (.inl rfl) Tryz.underlying202 Tryz.underlying9 rfl hM rfl rfl ?_;intro w1 hM1 hT1;replace hU:=hT1.under hU (Nat.le_refl _);replace hM:=hM1;clear hM1 hT1);rename_i w1 K hK;have hM20:MapAt w1 w0.heap.size vPA:=hM.cast (by kernel_rfl);have hB:=qA w1 #[.string ⟨#[]⟩,.string ⟨#[49]⟩,.string ⟨#[50]⟩,.string ⟨#[51]⟩] 9;have hU1:=aA (Under.refl w1) (.cells #[.string ⟨#[]⟩,.string ⟨#[49]⟩,.string ⟨#[50]⟩,.string ⟨#[51]⟩] 9);refine wp_mono (lTA (by have:=hM.lt;omega) 4 _ _ ⟨0,rfl,bB (F:=jL _ w1.heap.size 0) (by rfl) ⟨hM20.under hU1,hB,hU.trans hU1⟩⟩) ?_;rintro e a' w' ⟨rfl,J,rfl,hM4,_,hU4⟩;simp only[Exit.inBlock,if_pos,Exit.then];refine hK _ _ ?_;have HM4:=Lib.hid hM4;have HU4:=Lib.hid hU4;clear hK hM hU hM20 hB hU1 hM4 hU4;unfold jL;go_wp2;go_ret;exact⟨rfl,HM4.out,HU4.out⟩
end
theorem aBA : ∀ {ks : xG} {k : ByteArray} {v : Value}, dK ks k = some v → (k, v) ∈ ks
  | (a, u) :: r, k, v, h => by
    simp only[dK]at h
    split at h
    · rename_i e
      cases h;subst e;exact List.mem_cons_self ..
    · exact List.mem_cons_of_mem _ (aBA h)
def kwB(s:ByteArray):Bool:=(dK formsL s).isSome||(dK aloneL s).isSome
def rWA : Value → Bool
  | .agg ⟨[.int .i64 _,.int .i64 _,.int .i64 _,.string _,.string _]⟩=>true
  | _=>false
def jYA : Value → Bool
  | .agg ⟨[.int .i64 _,.int .i64 _,.int .i64 _,.string _]⟩=>true
  | _=>false
theorem gUA:formsL.all (fun p=>rWA p.2)=true:=by kernel_rfl
theorem nSA:aloneL.all (fun p=>jYA p.2)=true:=by kernel_rfl
theorem cRA{s:ByteArray}{v:Value}(h:dK formsL s=some v):∃ k n m x y,v = .agg #[.int .i64 k,.int .i64 n,.int .i64 m,.string x,.string y]:=by
 have:=List.all_eq_true.1 gUA _ (aBA h);simp only at this;unfold rWA at this
 split at this
 · exact⟨_,_,_,_,_,rfl⟩
 · cases this
theorem lAA{s:ByteArray}{v:Value}(h:dK aloneL s=some v):∃ k n m x,v = .agg #[.int .i64 k,.int .i64 n,.int .i64 m,.string x]:=by
 have:=List.all_eq_true.1 nSA _ (aBA h);simp only at this;unfold jYA at this
 split at this
 · exact⟨_,_,_,_,rfl⟩
 · cases this
theorem xW(w:World):(zeroValue 216).run Tryz.prog w = .ok (.agg #[.int .i64 0,.int .i64 0,.int .i64 0,.string ⟨#[]⟩,.string ⟨#[]⟩]) w:=by kernel_rfl
theorem aS(w:World):(zeroValue 112).run Tryz.prog w = .ok (.agg #[.int .i64 0,.int .i64 0,.int .i64 0,.string ⟨#[]⟩]) w:=by kernel_rfl
section
variable {w0 : World}
structure Tables (w:World) (rb m1 m2:Nat):Prop where
 lt:rb < w.heap.size
 c1:w.cell? ⟨rb,2,none⟩=some (.map (some m1))
 c2:w.cell? ⟨rb,3,none⟩=some (.map (some m2))
 f:MapAt w m1 formsL
 a:MapAt w m2 aloneL
theorem nZ(s:ByteArray){rb m1 m2:Nat}(hT:Tables w0 rb m1 m2):Calls Tryz.prog 109 #[.pointer (some ⟨rb,0,none⟩),.string s] w0 fun e w=>e = .returned (.bool (kwB s))∧Under w0 w:=by
 obtain⟨hlt,c1,c2,h1,h2⟩:=hT;have hk:kwB s=((dK formsL s).isSome||(dK aloneL s).isSome):=rfl;have HK:=Lib.hid hk;have HM1:=Lib.hid h1;have HM2:=Lib.hid h2;clear hk h1 h2
 cases hf:dK formsL s with
 | none =>
   cases ha:dK aloneL s with
   | none =>
     rw [hf, ha] at HK; go_enter Tryz.func109, Tryz.ntmps109; go_wp2_with (first
       | (refine qD rfl _ _ true rfl Tryz.underlying202 Tryz.underlying9 (xW _) rfl HM1.out rfl ?_;rw[hf];simp only[Option.getD_some,Option.getD_none,Option.isSome_some,Option.isSome_none,if_true])
       | (refine qD rfl _ _ true rfl Tryz.underlying203 Tryz.underlying9 (aS _) rfl (HM2.out.under (aA (Under.refl _) _)) rfl ?_;rw[ha];simp only[Option.getD_some,Option.getD_none,Option.isSome_some,Option.isSome_none,if_true]))
     go_ret;exact⟨kH HK.out.symm,aA (aA (Under.refl _) _) _⟩
   | some v =>
     obtain ⟨k, n, m, x, rfl⟩ := lAA ha; rw [hf, ha] at HK; go_enter Tryz.func109, Tryz.ntmps109; go_wp2_with (first
       | (refine qD rfl _ _ true rfl Tryz.underlying202 Tryz.underlying9 (xW _) rfl HM1.out rfl ?_;rw[hf];simp only[Option.getD_some,Option.getD_none,Option.isSome_some,Option.isSome_none,if_true])
       | (refine qD rfl _ _ true rfl Tryz.underlying203 Tryz.underlying9 (aS _) rfl (HM2.out.under (aA (Under.refl _) _)) rfl ?_;rw[ha];simp only[Option.getD_some,Option.getD_none,Option.isSome_some,Option.isSome_none,if_true]))
     go_ret;exact⟨kH HK.out.symm,aA (aA (Under.refl _) _) _⟩
 | some u =>
   obtain⟨k1,n1,m1',x1,y1,rfl⟩:=cRA hf
   cases ha:dK aloneL s with
   | none =>
     rw [hf, ha] at HK; go_enter Tryz.func109, Tryz.ntmps109; go_wp2_with (first
       | (refine qD rfl _ _ true rfl Tryz.underlying202 Tryz.underlying9 (xW _) rfl HM1.out rfl ?_;rw[hf];simp only[Option.getD_some,Option.getD_none,Option.isSome_some,Option.isSome_none,if_true])
       | (refine qD rfl _ _ true rfl Tryz.underlying203 Tryz.underlying9 (aS _) rfl (HM2.out.under (aA (Under.refl _) _)) rfl ?_;rw[ha];simp only[Option.getD_some,Option.getD_none,Option.isSome_some,Option.isSome_none,if_true]))
     go_ret;exact⟨kH HK.out.symm,aA (aA (Under.refl _) _) _⟩
   | some v =>
     obtain ⟨k, n, m, x, rfl⟩ := lAA ha; rw [hf, ha] at HK; go_enter Tryz.func109, Tryz.ntmps109; go_wp2_with (first
       | (refine qD rfl _ _ true rfl Tryz.underlying202 Tryz.underlying9 (xW _) rfl HM1.out rfl ?_;rw[hf];simp only[Option.getD_some,Option.getD_none,Option.isSome_some,Option.isSome_none,if_true])
       | (refine qD rfl _ _ true rfl Tryz.underlying203 Tryz.underlying9 (aS _) rfl (HM2.out.under (aA (Under.refl _) _)) rfl ?_;rw[ha];simp only[Option.getD_some,Option.getD_none,Option.isSome_some,Option.isSome_none,if_true]))
     go_ret;exact⟨kH HK.out.symm,aA (aA (Under.refl _) _) _⟩
theorem o8(p1 p2:Option Addr)(n1 n2 d1 d2:Nat):Calls Tryz.prog 108 #[.agg #[.slice p1 n1 d1,.slice p2 n2 d2]] w0 fun e w=>∃ rb m1 m2,e = .returned (.pointer (some ⟨rb,0,none⟩))∧Tables w rb m1 m2∧Under w0 w:=by
 have HU0 := Lib.hid (aA (Under.refl w0) (.cells #[.slice p1 n1 d1, .slice p2 n2 d2] 52)); go_enter Tryz.func108, Tryz.ntmps108; go_wp2_with fail; go_region_held3 (fun w' => w'.cell? ⟨w0.heap.size, 0, none⟩ = some (.slice p1 n1 d1) ∧ w'.cell? ⟨w0.heap.size, 1, none⟩ = some (.slice p2 n2 d2))
   (first
     | go_keep
     | (go_split_ands
        refine⟨?_,?_⟩
        · (rw[dA hU2 (by have:=hU1.size;simp at this ⊢;omega)];assumption)
        · (rw[dA hU2 (by have:=hU1.size;simp at this ⊢;omega)];assumption))
     | (go_split_ands
        refine⟨?_,?_⟩
        · (rw[dA hU1 (by simp)];assumption)
        · (rw[dA hU1 (by simp)];assumption)))
   (first
     | (go_simp;go_at_call 138;refine(xFA (w0:=_)).mono ?_;rintro e w1 ⟨rfl,hM1,hU1⟩)
     | (go_simp;go_at_call 139;refine(pFA (w0:=_)).mono ?_;rintro e w2 ⟨rfl,hM2,hU2⟩))
 have hM1':MapAt w1 (w0.heap.size+1) formsL:=by simpa using hM1
 have hB:=qA w2 #[.slice p1 n1 d1,.slice p2 n2 d2,.map (some (w0.heap.size+1)),.map (some w1.heap.size),.slice none 0 0,.int .i64 0,.int .i64 0] 205;have hU3:=aA (Under.refl w2) (.cells #[.slice p1 n1 d1,.slice p2 n2 d2,.map (some (w0.heap.size+1)),.map (some w1.heap.size),.slice none 0 0,.int .i64 0,.int .i64 0] 205);have hT:Tables _ w2.heap.size (w0.heap.size+1) w1.heap.size:=⟨hB.lt,hB.cell 2,hB.cell 3,(hM1'.under hU2).under hU3,hM2.under hU3⟩;have hUa:=(((fA HU0.out).trans hU1).trans hU2).trans hU3;have HT:=Lib.hid hT;have HUa:=Lib.hid hUa;clear hM1 hM1' hM2 hU1 hU2 hU3 hB hT hUa;go_wp2;go_ret;exact⟨_,_,_,rfl,HT.out,HUa.out⟩
theorem eKA(s:ByteArray):Calls Tryz.prog 83 #[.string s] w0 fun e w=>e = .returned (.bool (kwB s))∧Under w0 w:=by
 have HN:=Lib.hid (o8 (w0:=w0) none none 0 0 0 0);go_enter Tryz.func83,Tryz.ntmps83;go_wp2_with fail;refine HN.out.mono ?_;rintro e w1 ⟨rb,m1,m2,rfl,hT,hU⟩;have HK:=Lib.hid (nZ s hT);have HU:=Lib.hid hU;clear hT hU;go_wp2_with fail;refine HK.out.mono ?_;rintro e w2 ⟨rfl,hU2⟩;have HU2:=Lib.hid hU2;clear hU2;go_wp2;go_ret;exact⟨rfl,HU.out.trans HU2.out⟩
end
theorem zFA{s:ByteArray}{x:List UInt8}:s=⟨x.toArray⟩↔s.data.toList=x:=by
 constructor
 · rintro rfl;simp
 · intro h; apply ByteArray.ext; apply Array.ext'
   simpa using h
def hGA(y:Int×Int×List UInt8):Value:=gH y.1 y.2.1 y.2.2
theorem uBA (s : ByteArray) : ∀ T : List (List UInt8 × Int × Int × List UInt8), dK (T.map fun t => ((⟨t.1.toArray⟩ : ByteArray), hGA t.2)) s = (xJA s.data.toList T).map hGA
  | []=>rfl
  | (x, y) :: T => by
    simp only[List.map_cons,dK,xJA,zFA]
    split
    · rfl
    · exact uBA s T
theorem gDA (s : ByteArray) : ∀ T : List (List UInt8 × Int), dK (T.map fun t => ((⟨t.1.toArray⟩ : ByteArray), qM t.2 0)) s = (lIA s.data.toList T).map fun k => qM k 0
  | []=>rfl
  | (x, y) :: T => by
    simp only[List.map_cons,dK,lIA,zFA]
    split
    · rfl
    · exact gDA s T
theorem uRA:formsL=formT.map fun t=>((⟨t.1.toArray⟩:ByteArray),hGA t.2):=by kernel_rfl
theorem sTA:aloneL=leafT.map fun t=>((⟨t.1.toArray⟩:ByteArray),qM t.2 0):=by kernel_rfl
theorem sWA(s:ByteArray):dK formsL s=(rFA s).map hGA:=by rw[uRA,uBA];rfl
theorem uFA(s:ByteArray):dK aloneL s=(yO s).map fun k=>qM k 0:=by rw[sTA,gDA];rfl
theorem o1A(s:ByteArray):kwB s=kwW s:=by
 unfold kwB kwW;rw[sWA,uFA,Option.isSome_map,Option.isSome_map]
structure ReS (W0:World) (rb m1 m2:Nat) (cv dv ov:Value) (acc:List Nd) (p e:Int) (w:World):Prop where
 box:BoxAt w rb 205 #[cv,dv,.map (some m1),.map (some m2),ov,.int .i64 p,.int .i64 e]
 f:MapAt w m1 formsL
 a:MapAt w m2 aloneL
 row:w.ownsRow W0.heap.size 112 4 ov acc.length (aC acc)
 und:Under W0 w
 lo:W0.heap.size≤rb
def xR(rb:Nat)(ov:Value)(b:Nat):Prop:=b=rb∨ov.ownBlock=some b
theorem yQ{C:Nat→Prop}{w w':World}{b:Nat}{ks:xG}(h:MapAt w b ks)(k:Ch C w w')(hc:¬ C b):MapAt w' b ks:=by
 obtain⟨es,cl,hb,he⟩:=h;exact⟨es,cl,(k.block b (Array.getElem?_eq_some_iff.1 hb).1 hc).trans hb,he⟩
section
variable {W0 w w' : World} {rb m1 m2 : Nat} {cv dv ov : Value} {acc : List Nd} {p e : Int}
theorem ReS.rb_m1(h:ReS W0 rb m1 m2 cv dv ov acc p e w):rb≠m1:=aDA h.box h.f
theorem ReS.rb_m2(h:ReS W0 rb m1 m2 cv dv ov acc p e w):rb≠m2:=aDA h.box h.a
theorem ReS.ov_rb(h:ReS W0 rb m1 m2 cv dv ov acc p e w):ov.ownBlock≠some rb:=gB h.box h.row (by decide)
theorem ReS.ov_m1(h:ReS W0 rb m1 m2 cv dv ov acc p e w):ov.ownBlock≠some m1:=fAA h.f h.row
theorem ReS.ov_m2(h:ReS W0 rb m1 m2 cv dv ov acc p e w):ov.ownBlock≠some m2:=fAA h.a h.row
theorem ReS.low(h:ReS W0 rb m1 m2 cv dv ov acc p e w):∀ b,xR rb ov b→W0.heap.size≤b:=fun b hb=>by
 rcases hb with rfl | hb
 · exact h.lo
 · exact(vB h.row hb).1
theorem ReS.under(h:ReS W0 rb m1 m2 cv dv ov acc p e w)(hU:Under w w'):ReS W0 rb m1 m2 cv dv ov acc p e w' :=
 ⟨h.box.under hU,h.f.under hU,h.a.under hU,dC h.row hU,h.und.trans hU,h.lo⟩
theorem ReS.tables(h:ReS W0 rb m1 m2 cv dv ov acc p e w):Tables w rb m1 m2:=⟨h.box.lt,h.box.cell 2,h.box.cell 3,h.f,h.a⟩
def ReOut(W0:World)(rb m1 m2:Nat)(cv dv ov:Value)(acc:List Nd)(w:World)(R:Say)(x:Ending)(w':World):Prop :=
 ∃ ov' acc' p' e',ReS W0 rb m1 m2 cv dv ov' acc' p' e' w'∧Ch (xR rb ov) w w'∧(∀ b,b < w.heap.size→ov'.ownBlock=some b→ov.ownBlock=some b) ∧
  match R with
  | .ok t=>x = .returned (.bool true)∧acc'=acc++t
  | .error (e1,p1)=>x = .returned (.bool false)∧p'=p1∧e'=e1
theorem ReS.wrong(h:ReS W0 rb m1 m2 cv dv ov acc p e w)(p' e':Int):ReS W0 rb m1 m2 cv dv ov acc p' e' ((w.setCell ⟨rb,6,none⟩ (.int .i64 e')).setCell ⟨rb,5,none⟩ (.int .i64 p'))∧Ch (xR rb ov) w ((w.setCell ⟨rb,6,none⟩ (.int .i64 e')).setCell ⟨rb,5,none⟩ (.int .i64 p')):=by
 have hc:Ch (fun b=>b=rb) w ((w.setCell ⟨rb,6,none⟩ (.int .i64 e')).setCell ⟨rb,5,none⟩ (.int .i64 p')):=((Ch.refl (C:=fun b=>b=rb) w).set (g:=rb) (fun _=>rfl) 6 _).set (g:=rb) (fun _=>rfl) 5 _;refine⟨⟨?_,yQ h.f hc (fun e=>h.rb_m1 e.symm),yQ h.a hc (fun e=>h.rb_m2 e.symm),qO h.row hc (fun g hg e=>by subst e;exact h.ov_rb hg),uK h.und hc (fun b e=>by subst e;exact h.lo),h.lo⟩,hc.weak fun b _ e=>.inl e⟩;exact(h.box.set 6 _).set 5 _
theorem zY(h:ReS W0 rb m1 m2 cv dv ov acc p e w)(p' e':Int):Calls Tryz.prog 151 #[.pointer (some ⟨rb,0,none⟩),.int .i64 e',.int .i64 p'] w (ReOut W0 rb m1 m2 cv dv ov acc w (.error (e',p'))):=by
 have H:=Lib.hid (h.wrong p' e');have hl:=h.box.lt;have c5:=h.box.cell 5;have c6:=h.box.cell 6;have f5:=h.box.free 5;have f6:=h.box.free 6;have f5':(w.setCell ⟨rb,6,none⟩ (.int .i64 e')).frozen? ⟨rb,5,none⟩=false:=(h.box.set 6 (.int .i64 e')).free 5;have c5':(w.setCell ⟨rb,6,none⟩ (.int .i64 e')).cell? ⟨rb,5,none⟩=some (.int .i64 p):=(h.box.set 6 (.int .i64 e')).cell 5;clear h;go_enter Tryz.func151,Tryz.ntmps151;go_wp2;go_ret;exact⟨ov,acc,p',e',H.out.1,H.out.2,fun b _ e=>e,rfl,rfl,rfl⟩
end
end Go.Proofs.YtggjbblgoddnjaaGreatDoor
namespace Go.Proofs.YtggjbblgoddnjaaGreatDoor
open Go.Conc Go.Lx
def r2A(c:UInt8):Int:=bits BinOp.or IntKind.u8 (c.toNat:Int) 32
def sK(c:UInt8):Bool:=decide (97≤r2A c)&&decide (r2A c≤122)||decide ((48:Int)≤(c.toNat:Int))&&decide ((c.toNat:Int)≤57)||(c.toNat:Int)==95
section
variable {main : Bool} {d : Deal} {T : TypeId → Prop} {o : Option Nat} {L : List (Nat × Obj)}
theorem f5A(s:Value)(w:World)(hF:Holds d T o L w):CallsC Tryz.prog main (Rely d T o) (Lx.Does d T o) 170 #[s] 100 w fun v w'=>v = .int .i64 1∧Holds d T o L w':=by
 co_apply Go.Lx.CallsC.more
 · co_apply callsC_of_wpC Tryz.func170 (by rfl) rfl; simp only [Tryz.ntmps170, List.size_toArray, List.length_cons, List.length_nil, Nat.reduceAdd, Nat.reduceSub, Array.replicate_succ, Array.replicate_zero, List.push_toArray, List.append_toArray, List.nil_append, List.cons_append]
   repeat (first | co_reg terms | co_op Holds.rely hF (co_quiet terms) | (co_apply opsC_unwanted terms rfl (by rfl);try walk_nrm) | (co_ctl terms;try co_then))
   exact⟨rfl,_,resultsC_tmp (by rfl) _,by simp,hF⟩
 · decide
theorem g3A(c:UInt8)(w:World)(hF:Holds d T o L w):CallsC Tryz.prog main (Rely d T o) (Lx.Does d T o) 171 #[.int .u8 c.toNat] 100 w fun v w'=>v = .bool ((c.toNat:Int) != 10)∧Holds d T o L w':=by
 co_apply Go.Lx.CallsC.more
 · co_apply callsC_of_wpC Tryz.func171 (by rfl) rfl; simp only [Tryz.ntmps171, List.size_toArray, List.length_cons, List.length_nil, Nat.reduceAdd, Nat.reduceSub, Array.replicate_succ, Array.replicate_zero, List.push_toArray, List.append_toArray, List.nil_append, List.cons_append]
   repeat (first | co_reg terms | co_op Holds.rely hF (co_quiet terms) | (co_apply opsC_unwanted terms rfl (by rfl);try walk_nrm) | (co_ctl terms;try co_then))
   exact⟨rfl,_,resultsC_tmp (by rfl) _,by simp,hF⟩
 · decide
theorem e3A(c:UInt8)(w:World)(hF:Holds d T o L w):CallsC Tryz.prog main (Rely d T o) (Lx.Does d T o) 168 #[.int .u8 c.toNat] 100 w fun v w'=>v = .bool (sK c)∧Holds d T o L w':=by
 by_cases h1:97≤bits BinOp.or IntKind.u8 (c.toNat:Int) 32<;>by_cases h2:bits BinOp.or IntKind.u8 (c.toNat:Int) 32≤122<;>by_cases h3:(48:Int)≤(c.toNat:Int)<;>by_cases h4:(c.toNat:Int)≤57
 all_goals
  co_apply Go.Lx.CallsC.more
  · co_apply callsC_of_wpC Tryz.func168 (by rfl) rfl; simp only [Tryz.ntmps168, List.size_toArray, List.length_cons, List.length_nil, Nat.reduceAdd, Nat.reduceSub, Array.replicate_succ, Array.replicate_zero, List.push_toArray, List.append_toArray, List.nil_append, List.cons_append]
    repeat (first | co_reg terms | co_op Holds.rely hF (co_quiet terms) | (co_apply opsC_unwanted terms rfl (by rfl);try walk_nrm) | (co_ctl terms;try co_then))
    refine⟨rfl,_,resultsC_tmp (by rfl) _,?_,hF⟩;simp only[sK,r2A,h1,h2,h3,h4,decide_true,decide_false,Bool.and_true,Bool.and_false,Bool.or_true,Bool.or_false,Bool.true_or,Bool.false_or,Bool.true_and,Bool.false_and];rfl
  · decide
end
section
variable {main : Bool} {d : Deal} {T : TypeId → Prop} {o : Option Nat} {L : List (Nat × Obj)}
theorem v0A(s:ByteArray)(c:UInt8)(w:World):(callFunc 194 #[.string s,.int .u8 c.toNat]).run Tryz.prog w = .ok (.value (.int .i64 (Lib.indexByte s.data.toList c))) w:=by
 rw[run_callFunc_extern Tryz.func194 (by kernel_rfl) (by kernel_rfl) (by kernel_rfl) (e:=Extern.BytealgIndexByte.indexByte) (by kernel_rfl),Lib.run_indexByteString];simp[Result.andThen]
theorem p1A(s:ByteArray)(c:UInt8)(w:World)(es:Array Event):(callFunc 194 #[.string s,.int .u8 c.toNat]).events Tryz.prog w es=es.push ⟨.mark (.extern 194),false,true⟩:=by
 rw[events_callFunc_extern Tryz.func194 (by kernel_rfl) (by kernel_rfl) (by kernel_rfl) (e:=Extern.BytealgIndexByte.indexByte) (by kernel_rfl)];have e:Extern.BytealgIndexByte.indexByte #[.string s,.int .u8 c.toNat]=(match (List.range s.size).find? (fun i=>s[i]! == (c.toNat:Int).toNat.toUInt8) with | some i=>pure (goInt i) | none=>pure (goInt (-1))):=rfl;rw[e]
 split<;>rfl
theorem l3A(s:ByteArray)(c:UInt8)(w:World)(hF:Holds d T o L w):CallsC Tryz.prog main (Rely d T o) (Lx.Does d T o) 191 #[.string s,.int .u8 c.toNat] 20 w fun v w'=>v = .int .i64 (Lib.indexByte s.data.toList c)∧Holds d T o L w':=by
 have hr:=v0A s c;have hv:=p1A s c;co_apply Go.Lx.CallsC.more
 · co_apply callsC_of_wpC Tryz.func191 (by rfl) rfl; simp only [Tryz.ntmps191, List.size_toArray, List.length_cons, List.length_nil, Nat.reduceAdd, Nat.reduceSub, Array.replicate_succ, Array.replicate_zero, List.push_toArray, List.append_toArray, List.nil_append, List.cons_append]
   co_stmt terms Holds.rely hF (co_quiet terms)
   co_apply wpC_seq terms
   co_reg terms
   co_op Holds.rely hF (co_quiet terms);co_op Holds.rely hF (co_quiet terms)
   co_opw Holds.rely hF (skip) (refine Does.reads fun e he=>?_;have hm:=mem_listed he;simp[go_sem,hv]at hm;subst hm;exact aJA _ _ _)
   repeat (first | co_reg terms | co_op Holds.rely hF (co_quiet terms) | (co_apply opsC_unwanted terms rfl (by rfl);try walk_nrm) | (co_ctl terms;try co_then))
   exact⟨rfl,_,resultsC_tmp (by rfl) _,by simp,hF⟩
 · decide
theorem t4A(s:ByteArray)(c:UInt8)(w:World)(hF:Holds d T o L w):CallsC Tryz.prog main (Rely d T o) (Lx.Does d T o) 184 #[.string s,.int .u8 c.toNat] 50 w fun v w'=>v = .int .i64 (Lib.indexByte s.data.toList c)∧Holds d T o L w':=by
 co_apply Go.Lx.CallsC.more
 · co_apply callsC_of_wpC Tryz.func184 (by rfl) rfl; simp only [Tryz.ntmps184, List.size_toArray, List.length_cons, List.length_nil, Nat.reduceAdd, Nat.reduceSub, Array.replicate_succ, Array.replicate_zero, List.push_toArray, List.append_toArray, List.nil_append, List.cons_append]
   co_stmt terms Holds.rely hF (co_quiet terms)
   co_apply wpC_seq terms
   co_reg terms
   co_op Holds.rely hF (co_quiet terms);co_op Holds.rely hF (co_quiet terms);co_apply nG terms rfl (by rfl) rfl (l3A s c _ hF) (by simp[Act.eval]);clear hF;rintro v w ⟨rfl,hF⟩
   try walk_nrm
   repeat (first | co_reg terms | co_op Holds.rely hF (co_quiet terms) | (co_apply opsC_unwanted terms rfl (by rfl);try walk_nrm) | (co_ctl terms;try co_then))
   exact⟨rfl,_,resultsC_tmp (by rfl) _,by simp,hF⟩
 · decide
theorem q4A{b:Nat}{s:ByteArray}(hb:(b,Obj.cells #[.string s] 9 (0,0))∈L)(c:UInt8)(w:World)(hF:Holds d T o L w) :
 CallsC Tryz.prog main (Rely d T o) (Lx.Does d T o) 183 #[.int .u8 c.toNat,.pointer (some ⟨b,0,none⟩)] 100 w fun v w'=>v = .bool (decide (0≤Lib.indexByte s.data.toList c))∧Holds d T o L w':=by
 co_apply Go.Lx.CallsC.more
 · co_apply callsC_of_wpC Tryz.func183 (by rfl) rfl; simp only [Tryz.ntmps183, List.size_toArray, List.length_cons, List.length_nil, Nat.reduceAdd, Nat.reduceSub, Array.replicate_succ, Array.replicate_zero, List.push_toArray, List.append_toArray, List.nil_append, List.cons_append]
   co_stmt terms Holds.rely hF (co_quiet terms)
   co_apply wpC_seq terms
   co_reg terms
   co_opw Holds.rely hF (have hc:_=some (Value.string s):=hF.cell hb 0) (refine Does.reads ?_;co_evs (exact hF.read hb _ _))
   clear hc;co_op Holds.rely hF (co_quiet terms);co_apply nG terms rfl (by rfl) rfl (t4A s c _ hF) (by simp[Act.eval]);clear hF;rintro v w ⟨rfl,hF⟩
   try walk_nrm
   repeat (first | co_reg terms | co_op Holds.rely hF (co_quiet terms) | (co_apply opsC_unwanted terms rfl (by rfl);try walk_nrm) | (co_ctl terms;try co_then))
   exact⟨rfl,_,resultsC_tmp (by rfl) _,by simp,hF⟩
 · decide
end
end Go.Proofs.YtggjbblgoddnjaaGreatDoor
