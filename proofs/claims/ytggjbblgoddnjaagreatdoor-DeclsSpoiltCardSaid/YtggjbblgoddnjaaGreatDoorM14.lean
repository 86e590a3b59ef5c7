/- Part 14 of what the proof rests on. -/
import Derived.Laws.IdiomStrings
import Derived.Deep.QuietTactic
import Derived.Deep.AppendLies
import Derived.Test.YtggjbblgoddnjaaGreatDoorM04
import Derived.Test.YtggjbblgoddnjaaGreatDoorM05
import Derived.Test.YtggjbblgoddnjaaGreatDoorM09
import Derived.Test.YtggjbblgoddnjaaGreatDoorM10
import Derived.Test.YtggjbblgoddnjaaGreatDoorM11
import Derived.Test.YtggjbblgoddnjaaGreatDoorM12
import Derived.Test.YtggjbblgoddnjaaGreatDoorM13
import Derived.Test.YtggjbblgoddnjaaGreatDoorM00
set_option linter.unusedSimpArgs false
set_option linter.unusedVariables false
set_option maxRecDepth 100000
set_option maxHeartbeats 16000000
namespace Go.Proofs.YtggjbblgoddnjaaGreatDoor
open Go.Lx Go.RowKit
def eVA(k:Int)(l:List Int):Bool:=l.any fun x=>x==k
theorem rZA{k:Int}{l:List Int}{j:Nat}(hj:j < l.length):eVA k (l.drop j)=(l[j]==k||eVA k (l.drop (j+1))):=by
 rw[List.drop_eq_getElem_cons hj];rfl
section
variable {w0 : World}
theorem aLA(k:Int)(l:List Int){p:Option Addr}{c:Nat}(hl:l.length≤100)(hp:RowArg w0 p (l.map (.int .i64))):Calls Tryz.prog 146 #[.int .i64 k,.slice p l.length c] w0 fun e w=>e = .returned (.bool (eVA k l))∧w=w0:=by
 have HP:=aA hp;have hn0:(0:Int)≤(l.length:Int):=by omega
 have hn9:(l.length:Int)≤100:=by omega
 clear hp hl;go_enter Tryz.func146,Tryz.ntmps146;go_wp2;go_loopw [5] (fun i wr=>(∃ j:Nat,j≤l.length∧i = .int .i64 (j:Int)∧eVA k l=eVA k (l.drop j))∧w0=wr) (fun i _=>l.length - (intOf i).toNat)
 case atStart=>exact⟨⟨0,Nat.zero_le _,rfl,by simp⟩,rfl⟩
 case round =>
   obtain⟨⟨j,hj,rfl,hN⟩,rfl⟩:=hrel;have HN:=aA hN;have hj0:(0:Int)≤(j:Int):=by omega
   clear hN;by_cases hlt:j < l.length
   · have hlt' : (j : Int) < (l.length : Int) := by omega
     have HD:=aA (rZA (k:=k) hlt);obtain⟨b,off,rfl,hb,hc⟩:=HP.out (fun e=>by rw[List.map_eq_nil_iff]at e;rw[e]at hlt;simp at hlt);have cc:=hc j (.int .i64 l[j]) (by simp[List.getElem?_eq_getElem hlt]);clear hc;generalize l[j]=x at *
     cases hx:(x==k)
     · rw [hx] at HD; have hx' : ¬ x = k := by simpa using hx
       go_wp2;go_roundw
       case rel=>exact⟨⟨j+1,by omega,by go_num,by rw[HN.out,HD.out];rfl⟩,trivial⟩
       case measure=>simp[intOf];omega
     · rw[hx]at HD;go_wp2;go_ret;exact⟨by rw[HN.out,HD.out];rfl,rfl⟩
   · obtain rfl : j = l.length := by omega
     go_wp2;go_ret;exact⟨by rw[HN.out,List.drop_length];rfl,rfl⟩
theorem uBB(k:Nat)(hk:k < 256):eVA k [0,2,3,6,26]=fN k:=by revert hk;revert k;decide +kernel
theorem lCB(k:Nat)(hk:k < 256):((k:Int)==26||(k:Int)==27)=fM k:=by revert hk;revert k;decide +kernel
theorem pBB(k:Nat)(hk:k < 256):eVA k [1,25,26,27]=fS k:=by revert hk;revert k;decide +kernel
theorem pFA(k:Nat)(hk:k < 256):Calls Tryz.prog 119 #[.int .i64 k] w0 fun e w=>e = .returned (.bool (fN k))∧Under w0 w:=by
 have HH:=aA (aLA (w0:=w0.alloc (.cells #[.int .i64 0,.int .i64 2,.int .i64 3,.int .i64 6,.int .i64 26] 3)) (k:Int) [0,2,3,6,26] (c:=5) (p:=some ⟨w0.heap.size,0,none⟩) (by decide) (cO w0 _ _ (0,0)));rw[uBB k hk]at HH;clear hk;go_enter Tryz.func119,Tryz.ntmps119;go_wp2_with fail;refine HH.out.mono ?_;rintro e w ⟨rfl,rfl⟩;go_wp2;go_ret;exact⟨rfl,bA (Under.refl _) _⟩
theorem dFA(k:Nat)(hk:k < 256):Calls Tryz.prog 121 #[.int .i64 k] w0 fun e w=>e = .returned (.bool (fS k))∧Under w0 w:=by
 have HH:=aA (aLA (w0:=w0.alloc (.cells #[.int .i64 1,.int .i64 25,.int .i64 26,.int .i64 27] 3)) (k:Int) [1,25,26,27] (c:=4) (p:=some ⟨w0.heap.size,0,none⟩) (by decide) (cO w0 _ _ (0,0)));rw[pBB k hk]at HH;clear hk;go_enter Tryz.func121,Tryz.ntmps121;go_wp2_with fail;refine HH.out.mono ?_;rintro e w ⟨rfl,rfl⟩;go_wp2;go_ret;exact⟨rfl,bA (Under.refl _) _⟩
theorem qEA(k:Nat)(hk:k < 256):Calls Tryz.prog 120 #[.int .i64 k] w0 fun e w=>e = .returned (.bool (fM k))∧w=w0:=by
 have HH:=aA (lCB k hk);clear hk
 cases h1:((k:Int)==26)
 · go_enter Tryz.func120,Tryz.ntmps120;go_wp2;go_ret;exact⟨by rw[← HH.out,h1];rfl,rfl⟩
 · go_enter Tryz.func120,Tryz.ntmps120;go_wp2;go_ret;exact⟨by rw[← HH.out,h1];rfl,rfl⟩
theorem yDA(y:Int):((iE y).toNat:Int)=y % 256:=by
 unfold iE;rw[UInt8.toNat_ofNat'];omega
theorem rJ(w:World)(g:Nat)(y:Int)(hg:g=w.heap.size):(convert 115 9 (.slice (some ⟨g,0,none⟩) 1 1)).run Tryz.prog (w.alloc (.cells #[.int .u8 (y % 256)] 5)) = .ok (.string ⟨#[iE y]⟩) (w.alloc (.cells #[.int .u8 (y % 256)] 5)):=by
 subst hg;refine run_convert_bytes_back _ _ _ 5 ⟨w.heap.size,0,none⟩ 1 [iE y] Tryz.underlying115 Tryz.underlying5 Tryz.underlying9 fun j hj=>?_
 match j,hj with
 | 0,_=>simp[Addr.add,yDA]
theorem gXA(w:World)(g:Nat)(y z:Int)(hg:g=w.heap.size):(convert 115 9 (.slice (some ⟨g,0,none⟩) 2 2)).run Tryz.prog (w.alloc (.cells #[.int .u8 (y % 256),.int .u8 (z % 256)] 5)) = .ok (.string ⟨#[iE y,iE z]⟩) (w.alloc (.cells #[.int .u8 (y % 256),.int .u8 (z % 256)] 5)):=by
 subst hg;refine run_convert_bytes_back _ _ _ 5 ⟨w.heap.size,0,none⟩ 2 [iE y,iE z] Tryz.underlying115 Tryz.underlying5 Tryz.underlying9 fun j hj=>?_
 match j,hj with
 | 0,_=>simp[Addr.add,yDA]
 | 1,_=>simp[Addr.add,yDA]
theorem yKA(n:Nat)(hn:n≤1000000):Calls Tryz.prog 97 #[.int .i64 n] w0 fun e w=>e = .returned (.string ⟨(yJ n).toArray⟩)∧Under w0 w:=by
 have hn0:(0:Int)≤(n:Int):=by omega
 have hn9:(n:Int)≤1000000:=by omega
 go_enter Tryz.func97, Tryz.ntmps97; have hb := gXA w0 w0.heap.size (n : Int) ((n : Int) / 256) rfl; have HT := aA (show (⟨#[iE (n : Int), iE ((n : Int) / 256)]⟩ : ByteArray) = ⟨(yJ n).toArray⟩ by
   have e1:iE (n:Int)=tF n:=by unfold iE tF;apply UInt8.toNat_inj.1;rw[UInt8.toNat_ofNat',UInt8.toNat_ofNat'];omega
   have e2:iE ((n:Int) / 256)=tF (n / 256):=by unfold iE tF;apply UInt8.toNat_inj.1;rw[UInt8.toNat_ofNat',UInt8.toNat_ofNat'];omega
   rw[e1,e2];rfl)
 go_wp2;go_ret;exact⟨by rw[← HT.out];rfl,bA (Under.refl _) _⟩
end
theorem BOut.empty{w0 w:World}{b:Bool}(a:Nat)(h:Under w0 w):BOut w0 [] b (.returned (.tuple #[.slice (some ⟨a,0,none⟩) 0 0,.bool b])) w:=⟨_,_,rfl,Nat.le_refl _,RowArg.nil,h⟩
section
variable {w0 : World}
theorem y9A(k n m:Int)(s:ByteArray)(h:k=10∨k=11∨k=14∨k=16∨k=17∨k=29):Calls Tryz.prog 142 #[ndV ⟨k,n,m,s⟩] w0 (BOut w0 [] (lT ⟨k,n,m,s⟩)):=by
 have HPl:=aA (fun w=>bLA (w0:=w) ⟨k,n,m,s⟩);generalize lT ⟨k,n,m,s⟩=pb at *;unfold ndV at *;simp only at HPl ⊢;rcases h with rfl | rfl | rfl | rfl | rfl | rfl
 all_goals
  go_enter Tryz.func142,Tryz.ntmps142;go_wp2_with fail;refine(HPl.out _).mono ?_;rintro e w3 ⟨rfl,rfl⟩;go_wp2;go_ret2;exact BOut.empty _ (bA (bA (bA (Under.refl _) _) _) _)
theorem l6A(k n m:Int)(s:ByteArray)(h:k=1∨k=25):Calls Tryz.prog 142 #[ndV ⟨k,n,m,s⟩] w0 (BOut w0 [] ((n==0)&&(m==0)&&uD s)):=by
 have HNm:=aA (fun w=>uO (w0:=w) s);generalize uD s=nb at *;unfold ndV;rcases h with rfl | rfl<;>cases h1:(n==0)<;>cases h2:(m==0)
 all_goals
  go_enter Tryz.func142,Tryz.ntmps142
  first
   | (go_wp2_with fail
      refine(HNm.out _).mono ?_;rintro e w3 ⟨rfl,rfl⟩;go_wp2;go_ret2;exact BOut.empty _ (bA (bA (Under.refl _) _) _))
   | (go_wp2
      go_ret2;exact BOut.empty _ (bA (bA (Under.refl _) _) _))
end
section
variable {w0 : World}
theorem b4A(n m:Int)(s:ByteArray)(h:uD s=false∨n < 0∨6≤n∨m < 0∨6 < m):Calls Tryz.prog 142 #[ndV ⟨26,n,m,s⟩] w0 (BOut w0 [] false):=by
 have HNm:=aA (fun w=>uO (w0:=w) s);unfold ndV;generalize uD s=nb at *
 cases nb
 · clear h;go_enter Tryz.func142,Tryz.ntmps142;go_wp2_with fail;refine(HNm.out _).mono ?_;rintro e w3 ⟨rfl,rfl⟩;go_wp2;go_ret2;exact BOut.empty _ (bA (bA (Under.refl _) _) _)
 · by_cases h1 : n < 0
   · clear h;go_enter Tryz.func142,Tryz.ntmps142;go_wp2_with fail;refine(HNm.out _).mono ?_;rintro e w3 ⟨rfl,rfl⟩;go_wp2;go_ret2;exact BOut.empty _ (bA (bA (Under.refl _) _) _)
   · by_cases h2 : 6 ≤ n
     · clear h;go_enter Tryz.func142,Tryz.ntmps142;go_wp2_with fail;refine(HNm.out _).mono ?_;rintro e w3 ⟨rfl,rfl⟩;go_wp2;go_ret2;exact BOut.empty _ (bA (bA (Under.refl _) _) _)
     · by_cases h3 : m < 0
       · clear h;go_enter Tryz.func142,Tryz.ntmps142;go_wp2_with fail;refine(HNm.out _).mono ?_;rintro e w3 ⟨rfl,rfl⟩;go_wp2;go_ret2;exact BOut.empty _ (bA (bA (Under.refl _) _) _)
       · have h4 : 6 < m := by simp at h; omega
         clear h;go_enter Tryz.func142,Tryz.ntmps142;go_wp2_with fail;refine(HNm.out _).mono ?_;rintro e w3 ⟨rfl,rfl⟩;go_wp2;go_ret2;exact BOut.empty _ (bA (bA (Under.refl _) _) _)
theorem uXA(n:Int)(m:Nat)(s:ByteArray)(hs:uD s=true)(h1:0≤n)(h2:n < 6)(h3:m≤6):Calls Tryz.prog 142 #[ndV ⟨26,n,m,s⟩] w0 (BOut w0 (List.replicate m 0) true):=by
 have HNm:=aA (fun w=>uO (w0:=w) s);rw[hs]at HNm;obtain⟨i0,hi,hz0,hz1,hz2⟩:=info_parts Tryz.infoInt;unfold ndV;have m0:(0:Int)≤m:=Int.natCast_nonneg _;have m6:(m:Int)≤6:=by omega
 clear hs;go_enter Tryz.func142,Tryz.ntmps142;go_wp2_with fail;refine(HNm.out _).mono ?_;rintro e w3 ⟨rfl,rfl⟩;obtain⟨W1,hW1⟩:∃ W,W=(w0.alloc (.cells #[.int .i64 26,.int .i64 n,.int .i64 m,.string s] 112)).alloc (.cells #[] 3):=⟨_,rfl⟩;have c1:W1.cell? ⟨w0.heap.size,1,none⟩=some (.int .i64 n):=by rw[hW1];exact((rA w0 _ _).alloc _).cell 1
 have c2:W1.cell? ⟨w0.heap.size,2,none⟩=some (.int .i64 m):=by rw[hW1];exact((rA w0 _ _).alloc _).cell 2
 have hsz:w0.heap.size < W1.heap.size:=by rw[hW1];simp;omega
 have HU:=aA (show Under w0 W1 by rw[hW1];exact bA (bA (Under.refl _) _) _);rw[← hW1];clear hW1;go_wp2_with (at_make;refine wpList_make_full _ rfl _ _ _ rfl w0.heap.size 3 i0 _ 1 Tryz.underlying123 hi hz0 hz1 .i64 .i64 _ _ m rfl rfl rfl rfl ?c1 ?c2 ?c3 ?_)
 case c1=>rw[hz2];omega
 case c2=>simp only[maxLen];omega
 case c3=>omega
 intro w2 hown hgrow;have HO:=aA hown;have HU2:=aA (xA HU.out hgrow fun g e=>by cases e);clear hown hgrow;go_wp2;go_ret2;have hcs:(madeCells #[Value.int .i64 0] m).toList=uE (List.replicate m 0):=by
  apply List.ext_getElem
  · simp[uE,madeCells]
  · intro j h1 h2;simp[uE,madeCells,Nat.mod_one]
 obtain⟨q,c,hv,hc,hr⟩:=RowArg.of_own HO.out
 cases hv;exact⟨_,_,by rw[List.length_replicate];rfl,by rw[List.length_replicate];exact hc,by rw[← hcs];exact hr,HU2.out⟩
theorem e9A(k n m:Int)(s:ByteArray)(h:k < 0∨29 < k):Calls Tryz.prog 142 #[ndV ⟨k,n,m,s⟩] w0 (BOut w0 [] false):=by
 unfold ndV;have e:∀ j:Int,0≤j→j≤29→(k==j)=false:=fun j h1 h2=>by simp;omega
 have e0:=e 0 (by decide) (by decide);have e1:=e 1 (by decide) (by decide);have e2:=e 2 (by decide) (by decide);have e3:=e 3 (by decide) (by decide);have e4:=e 4 (by decide) (by decide);have e5:=e 5 (by decide) (by decide);have e6:=e 6 (by decide) (by decide);have e7:=e 7 (by decide) (by decide);have e8:=e 8 (by decide) (by decide);have e9:=e 9 (by decide) (by decide);have e10:=e 10 (by decide) (by decide);have e11:=e 11 (by decide) (by decide);have e12:=e 12 (by decide) (by decide);have e13:=e 13 (by decide) (by decide);have e14:=e 14 (by decide) (by decide);have e15:=e 15 (by decide) (by decide);have e16:=e 16 (by decide) (by decide);have e17:=e 17 (by decide) (by decide);have e18:=e 18 (by decide) (by decide);have e19:=e 19 (by decide) (by decide);have e20:=e 20 (by decide) (by decide);have e21:=e 21 (by decide) (by decide);have e22:=e 22 (by decide) (by decide);have e23:=e 23 (by decide) (by decide);have e24:=e 24 (by decide) (by decide);have e25:=e 25 (by decide) (by decide);have e26:=e 26 (by decide) (by decide);have e27:=e 27 (by decide) (by decide);have e28:=e 28 (by decide) (by decide);have e29:=e 29 (by decide) (by decide);clear e h;go_enter Tryz.func142,Tryz.ntmps142;go_wp2;go_ret2;exact BOut.empty _ (bA (bA (Under.refl _) _) _)
end
def z3A(n m:Int)(s:ByteArray):Bool:=((decide (0≤n)&&decide (n≤99))&&(m==0))&&s.toList.isEmpty
section
variable {w0 : World}
theorem qEB(n m:Int)(s:ByteArray):Calls Tryz.prog 142 #[ndV ⟨0,n,m,s⟩] w0 (BOut w0 [] (z3A n m s)):=by
 have HO:RowKit.Hid (z3A n m s=(((decide (0≤n)&&decide (n≤99))&&(m==0))&&s.toList.isEmpty)):=aA rfl;generalize z3A n m s=vb at *;unfold ndV;by_cases h1:0≤n
 · by_cases h2 : n ≤ 99
   · cases h3 : (m == 0)
     · have HO:RowKit.Hid (vb=false):=aA (by rw[HO.out,h3];simp);go_enter Tryz.func142,Tryz.ntmps142;go_wp2_with fail;go_quiet (fail);go_wp2;go_ret2;rw[HO.out];exact BOut.empty _ (bB (bA (bA (Under.refl _) _) _) _)
     · cases h4 : s.toList.isEmpty
       · have HO:RowKit.Hid (vb=false):=aA (by rw[HO.out,h4];simp);go_enter Tryz.func142,Tryz.ntmps142;go_wp2_with fail;go_quiet (fail);go_wp2;go_ret2;rw[HO.out];exact BOut.empty _ (bB (bA (bA (Under.refl _) _) _) _)
       · have HO:RowKit.Hid (vb=true):=aA (by rw[HO.out,h3,h4];simp[h1,h2]);go_enter Tryz.func142,Tryz.ntmps142;go_wp2_with fail;go_quiet (fail);go_wp2;go_ret2;rw[HO.out];exact BOut.empty _ (bB (bA (bA (Under.refl _) _) _) _)
   · have HO:RowKit.Hid (vb=false):=aA (by rw[HO.out];simp[h2]);go_enter Tryz.func142,Tryz.ntmps142;go_wp2_with fail;have hb:(n≤99)=False:=eq_false (by omega);go_quiet (fail);go_wp2;go_ret2;rw[HO.out];exact BOut.empty _ (bB (bA (bA (Under.refl _) _) _) _)
 · have HO:RowKit.Hid (vb=false):=aA (by rw[HO.out];simp[h1]);go_enter Tryz.func142,Tryz.ntmps142;go_wp2_with fail;have hb:(0≤n)=False:=eq_false (by omega);go_quiet (fail);go_wp2;go_ret2;rw[HO.out];exact BOut.empty _ (bB (bA (bA (Under.refl _) _) _) _)
theorem tEB(n m:Int)(s:ByteArray):Calls Tryz.prog 142 #[ndV ⟨2,n,m,s⟩] w0 (BOut w0 [] ((wDA n&&(m==0))&&s.toList.isEmpty)):=by
 have HO:RowKit.Hid (((wDA n&&(m==0))&&s.toList.isEmpty)=((wDA n&&(m==0))&&s.toList.isEmpty)):=aA rfl;have HC:=aA (fun w=>jNA (w0:=w) n);generalize hvb:((wDA n&&(m==0))&&s.toList.isEmpty)=vb at HO ⊢;have HV:=aA hvb;clear hvb HO;unfold ndV;generalize wDA n=lb at *
 cases lb
 · have HO:RowKit.Hid (vb=false):=aA (by rw[← HV.out];simp);rw[if_neg (by decide)]at HC;go_enter Tryz.func142,Tryz.ntmps142;go_wp2_with fail;go_quiet (first | (go_at_call 163;exact Calls.quiet_of_same (HC.out _)));go_wp2;go_ret2;rw[HO.out];exact BOut.empty _ (bB (bA (bA (Under.refl _) _) _) _)
 · rw [if_pos rfl] at HC
   cases h3:(m==0)
   · have HO:RowKit.Hid (vb=false):=aA (by rw[← HV.out,h3];simp);go_enter Tryz.func142,Tryz.ntmps142;go_wp2_with fail;go_quiet (first | (go_at_call 163;exact Calls.quiet_of_same (HC.out _)));go_wp2;go_ret2;rw[HO.out];exact BOut.empty _ (bB (bA (bA (Under.refl _) _) _) _)
   · cases h4 : s.toList.isEmpty
     · have HO:RowKit.Hid (vb=false):=aA (by rw[← HV.out,h4];simp);go_enter Tryz.func142,Tryz.ntmps142;go_wp2_with fail;go_quiet (first | (go_at_call 163;exact Calls.quiet_of_same (HC.out _)));go_wp2;go_ret2;rw[HO.out];exact BOut.empty _ (bB (bA (bA (Under.refl _) _) _) _)
     · have HO:RowKit.Hid (vb=true):=aA (by rw[← HV.out,h3,h4];rfl);go_enter Tryz.func142,Tryz.ntmps142;go_wp2_with fail;go_quiet (first | (go_at_call 163;exact Calls.quiet_of_same (HC.out _)));go_wp2;go_ret2;rw[HO.out];exact BOut.empty _ (bB (bA (bA (Under.refl _) _) _) _)
end
def piB(n m:Int)(s:ByteArray):Bool:=((decide (0≤n)&&decide (n≤3))&&(m==0))&&s.toList.isEmpty
section
variable {w0 : World}
theorem cDB(k n m:Int)(s:ByteArray)(h:k=3∨k=6):Calls Tryz.prog 142 #[ndV ⟨k,n,m,s⟩] w0 (BOut w0 [0,1] (piB n m s)):=by
 obtain⟨i0,hi,hz0,hz1,hz2⟩:=info_parts Tryz.infoInt;obtain⟨x,Hx⟩:∃ x,RowKit.Hid (x=k):=⟨k,aA rfl⟩;obtain⟨B,hB⟩:∃ B,piB n m s=B:=⟨_,rfl⟩;have hC:((0≤n)=False∧B=false)∨((0≤n)∧(n≤3)=False∧B=false)∨((0≤n)∧(n≤3)∧(m==0)=false∧B=false)∨((0≤n)∧(n≤3)∧(m==0)=true∧s.toList.isEmpty=false∧B=false)∨((0≤n)∧(n≤3)∧(m==0)=true∧s.toList.isEmpty=true∧B=true):=by
  subst hB;unfold piB;by_cases h1:0≤n<;>by_cases h2:n≤3<;>cases h3:(m==0)<;>cases h4:s.toList.isEmpty<;>simp[h1,h2]
 rw[hB];clear hB;unfold ndV at *;simp only;obtain⟨WN,HW⟩:∃ WN,RowKit.Hid (WN=w0.alloc (.cells #[.int .i64 x,.int .i64 n,.int .i64 m,.string s] 112)):=⟨_,aA rfl⟩;obtain⟨hs,HBx,HU⟩:WN.heap.size=w0.heap.size+1∧RowKit.Hid (BoxAt (WN.alloc (.cells #[] 3)) w0.heap.size 112 #[.int .i64 x,.int .i64 n,.int .i64 m,.string s])∧RowKit.Hid (Under w0 (WN.alloc (.cells #[] 3))):=by
  rw[HW.out];exact⟨by simp,(rA w0 _ _).alloc _,bA (bA (Under.refl _) _) _⟩
 have HR:=aA (hs▸gM WN (w0.heap.size+1) 3 1 (by omega));rcases h with rfl | rfl<;>rcases hC with⟨h1,rfl⟩ | ⟨h1,h2,rfl⟩ | ⟨h1,h2,h3,rfl⟩ | ⟨h1,h2,h3,h4,rfl⟩ | ⟨h1,h2,h3,h4,rfl⟩
 all_goals
  go_enter Tryz.func142,Tryz.ntmps142;go_wp2_with fail;rw[Hx.out]at HW;rw[← HW.out];have Hs:=aA hs;clear hs Hx HW;generalize WN.alloc (.cells #[] 3)=W1 at *;have c0:=HBx.out.cell 0;have c1:=HBx.out.cell 1;have c2:=HBx.out.cell 2;have c3:=HBx.out.cell 3;refine wp_region_noPanic ?_;refine wp_region_held_drew (S:=(fun w'=>w'.cell? ⟨w0.heap.size,0,none⟩=some (.int .i64 x)∧w'.cell? ⟨w0.heap.size,1,none⟩=some (.int .i64 n)∧w'.cell? ⟨w0.heap.size,2,none⟩=some (.int .i64 m)∧w'.cell? ⟨w0.heap.size,3,none⟩=some (.string s))) (by kernel_rfl) ⟨c0,c1,c2,c3⟩ (fun hHeld=>?_)
  repeat (
    first
    | (first
        | refine qD 0 (v:=?_) rfl (by decide +kernel) (fun _ _ _ h=>h) ?_ (by assumption) ?_ | refine qD 3 (v:=?_) rfl (by decide +kernel) (fun _ _ _ h=>h) ?_ (by assumption) ?_ | refine qD 4 (v:=?_) rfl (by decide +kernel) (fun _ _ _ h=>h) ?_ (by assumption) ?_ | refine qD 5 (v:=?_) rfl (by decide +kernel) (fun _ _ _ h=>h) ?_ (by assumption) ?_ | refine qD 6 (v:=?_) rfl (by decide +kernel) (fun _ _ _ h=>h) ?_ (by assumption) ?_ | refine qD 7 (v:=?_) rfl (by decide +kernel) (fun _ _ _ h=>h) ?_ (by assumption) ?_ | refine qD 8 (v:=?_) rfl (by decide +kernel) (fun _ _ _ h=>h) ?_ (by assumption) ?_ | refine qD 9 (v:=?_) rfl (by decide +kernel) (fun _ _ _ h=>h) ?_ (by assumption) ?_ | refine qD 10 (v:=?_) rfl (by decide +kernel) (fun _ _ _ h=>h) ?_ (by assumption) ?_ | refine qD 11 (v:=?_) rfl (by decide +kernel) (fun _ _ _ h=>h) ?_ (by assumption) ?_ | refine qD 12 (v:=?_) rfl (by decide +kernel) (fun _ _ _ h=>h) ?_ (by assumption) ?_ | refine qD 13 (v:=?_) rfl (by decide +kernel) (fun _ _ _ h=>h) ?_ (by assumption) ?_ | refine qD 14 (v:=?_) rfl (by decide +kernel) (fun _ _ _ h=>h) ?_ (by assumption) ?_ | refine qD 15 (v:=?_) rfl (by decide +kernel) (fun _ _ _ h=>h) ?_ (by assumption) ?_ | refine qD 16 (v:=?_) rfl (by decide +kernel) (fun _ _ _ h=>h) ?_ (by assumption) ?_ | refine qD 17 (v:=?_) rfl (by decide +kernel) (fun _ _ _ h=>h) ?_ (by assumption) ?_ | refine qD 18 (v:=?_) rfl (by decide +kernel) (fun _ _ _ h=>h) ?_ (by assumption) ?_ | refine qD 19 (v:=?_) rfl (by decide +kernel) (fun _ _ _ h=>h) ?_ (by assumption) ?_ | refine qD 20 (v:=?_) rfl (by decide +kernel) (fun _ _ _ h=>h) ?_ (by assumption) ?_ | refine qD 21 (v:=?_) rfl (by decide +kernel) (fun _ _ _ h=>h) ?_ (by assumption) ?_ | refine qD 22 (v:=?_) rfl (by decide +kernel) (fun _ _ _ h=>h) ?_ (by assumption) ?_
       rotate_left
       (first | (refine Or.inl ⟨by rfl,?_⟩;intro w hSw;(try dsimp only at hSw);go_simp;with_reducible rfl) | (refine Or.inr ⟨by rfl,?_⟩;with_reducible rfl)))
    | (refine wpAnyH_ready (rs := [1]) (by decide +kernel) (by simp) (AllReadyH.cons rfl (fun K hK => ?_) AllReadyH.nil)
       go_simp;refine hK.out _ _ ⟨(HBx.out.alloc _).drew.cell 0,(HBx.out.alloc _).drew.cell 1,(HBx.out.alloc _).drew.cell 2,(HBx.out.alloc _).drew.cell 3⟩ (fun hHeld'=>?_);clear hK K)
    | (refine wpAnyH_ready (rs := [2]) (by decide +kernel) (by simp) (AllReadyH.cons rfl (fun K hK => ?_) AllReadyH.nil)
       refine step_append_lies _ (by rfl) _ _ _ (by rfl) (w0.heap.size+1) 3 i0 _ 1 8 Tryz.underlying123 hi hz0 hz1 hz2 rfl (by omega) _ 0 [] (by rfl) (HR.out.alloc _).drew ⟨W1.heap.size,0,none⟩ _ _ _ (by rfl) (by rfl) (World.news_of_block (fr:=(0,0)) (heap_alloc_new W1 _)) (by simp[Value.oneCell']) (by omega) (by simp[maxLen]) (by simp) (by have:=HBx.out.lt;simp;omega) (W1.heap.size+1) (by simp) ?_;intro gg cc w2 hown2 hgrow hat hlt;have HB2:=aA (BoxAt.grown ((HBx.out.alloc (.cells _ 3)).drew) hgrow (fun e=>by simp[Value.ownBlock]at e));have HU2:=aA (xA (nA (bA HU.out (.cells _ 3))) hgrow (fun g e=>by have:=HBx.out.lt;simp[Value.ownBlock]at e;omega));have HO2:=aA hown2;clear hown2 hgrow hat hlt;refine hK.out _ _ ⟨HB2.out.cell 0,HB2.out.cell 1,HB2.out.cell 2,HB2.out.cell 3⟩ (fun hHeld'=>?_);clear hK K)
    try simp only[Act.put,List.getElem_toArray,List.getElem_cons_succ,List.getElem_cons_zero,List.setIfInBounds_toArray,List.set_cons_zero,List.set_cons_succ])
  refine wpAnyH_done (by decide +kernel) ?_ _;refine NoPanic.normal ?_;obtain⟨q,c,hv,hc,hr⟩:=RowArg.of_own HO2.out
  cases hv;go_wp2;go_ret2;exact⟨_,_,rfl,hc,hr,HU2.out⟩
end
section
variable {w0 : World}
theorem y1A(n m:Int)(s:ByteArray)(h:uD s=false∨n≠0∨m < 0∨6 < m):Calls Tryz.prog 142 #[ndV ⟨27,n,m,s⟩] w0 (BOut w0 [] false):=by
 have HNm:=aA (fun w=>uO (w0:=w) s);unfold ndV;generalize uD s=nb at *
 cases nb
 · clear h;go_enter Tryz.func142,Tryz.ntmps142;go_wp2_with fail;refine(HNm.out _).mono ?_;rintro e w3 ⟨rfl,rfl⟩;go_wp2;go_ret2;exact BOut.empty _ (bA (bA (Under.refl _) _) _)
 · by_cases h1 : n = 0
   · subst h1; by_cases h3 : m < 0
     · clear h;go_enter Tryz.func142,Tryz.ntmps142;go_wp2_with fail;refine(HNm.out _).mono ?_;rintro e w3 ⟨rfl,rfl⟩;go_wp2;go_ret2;exact BOut.empty _ (bA (bA (Under.refl _) _) _)
     · have h4 : 6 < m := by
         simp at h;omega
       clear h;go_enter Tryz.func142,Tryz.ntmps142;go_wp2_with fail;refine(HNm.out _).mono ?_;rintro e w3 ⟨rfl,rfl⟩;go_wp2;go_ret2;exact BOut.empty _ (bA (bA (Under.refl _) _) _)
   · clear h;go_enter Tryz.func142,Tryz.ntmps142;go_wp2_with fail;refine(HNm.out _).mono ?_;rintro e w3 ⟨rfl,rfl⟩;go_wp2;go_ret2;exact BOut.empty _ (bA (bA (Under.refl _) _) _)
theorem hZA(m:Nat)(s:ByteArray)(hs:uD s=true)(h3:m≤6):Calls Tryz.prog 142 #[ndV ⟨27,0,m,s⟩] w0 (BOut w0 (1::List.replicate (m+1) 0) true):=by
 have HNm:=aA (fun w=>uO (w0:=w) s);rw[hs]at HNm;obtain⟨i0,hi,hz0,hz1,hz2⟩:=info_parts Tryz.infoInt;unfold ndV;have HE:=aA (gM (w0.alloc (.cells #[.int .i64 27,.int .i64 0,.int .i64 m,.string s] 112)) (w0.heap.size+1) 3 1 (by simp));rw[show(w0.alloc (.cells #[.int .i64 27,.int .i64 0,.int .i64 m,.string s] 112)).heap.size=w0.heap.size+1 by simp]at HE;have m0:(0:Int)≤m:=Int.natCast_nonneg _;have m6:(m:Int)≤6:=by omega
 clear hs;go_enter Tryz.func142,Tryz.ntmps142;go_wp2_with fail;refine(HNm.out _).mono ?_;rintro e w3 ⟨rfl,rfl⟩;obtain⟨W1,hW1⟩:∃ W,W=(w0.alloc (.cells #[.int .i64 27,.int .i64 0,.int .i64 m,.string s] 112)).alloc (.cells #[] 3):=⟨_,rfl⟩;have HB:=aA (show BoxAt W1 w0.heap.size 112 #[.int .i64 27,.int .i64 0,.int .i64 m,.string s] by rw[hW1];exact(rA w0 _ _).alloc _);have c1:=HB.out.cell 1;have c2:=HB.out.cell 2;have hsz:w0.heap.size+2=W1.heap.size:=by rw[hW1];simp
 have HU:=aA (show Under w0 W1 by rw[hW1];exact bA (bA (Under.refl _) _) _);have HR:=aA (show W1.ownsRow (w0.heap.size+1) 3 1 (.slice (some ⟨w0.heap.size+1,0,none⟩) 0 0) 0 [] by rw[hW1];exact HE.out);rw[← hW1];clear hW1 HE;have HS:=aA hsz;clear hsz;go_wp2_with (at_builtin;refine wpList_append_lies _ rfl _ _ 123 rfl (w0.heap.size+1) 3 i0 _ 1 8 Tryz.underlying123 hi hz0 hz1 hz2 rfl (by decide) _ _ _ rfl (HR.out.alloc _) ⟨W1.heap.size,0,none⟩ 1 1 [.int .i64 1] rfl rfl ?c1 ?c2 (by decide) (by simp[maxLen]) (by simp) ?c5 (W1.heap.size+1) (by simp) ?_)
 case c1=>exact cell_one_new _ _ _
 case c2=>simp[Value.oneCell']
 case c5=>have:=HS.out;simp;omega
 intro g cap w2 hown hgrow hat hlt;have HO:=aA hown;have HB2:=aA (BoxAt.grown (HB.out.alloc (.cells #[.int .i64 1] 3)) hgrow (fun e=>by simp[Value.ownBlock]at e));have HU2:=aA (xA (bA HU.out (.cells #[.int .i64 1] 3)) hgrow (fun g e=>by simp[Value.ownBlock]at e;omega));have HS2:=aA hlt;have d2:=HB2.out.cell 2;have HZ:=aA (show w0.heap.size+1≤w2.heap.size from Nat.le_of_lt (Nat.lt_of_le_of_lt (HO.out.lt _ rfl).1 HS2.out));clear hown hgrow hat hlt c1 c2;go_wp2_with (at_builtin;refine kS rfl _ _ (w0.heap.size+1) 123 3 3 rfl i0 Tryz.underlying123 Tryz.underlying3 hi hz0 hz1 hz2 _ _ _ (m+1) rfl ?c0 HO.out (by decide) (by omega) (by omega) HZ.out ?_)
 case c0=>exact congrArg (Value.int .i64) (by omega)
 intro v w4 hown hgrow;have HO4:=aA hown;have HU4:=aA (xA HU2.out hgrow fun k e=>by have:=(HO.out.lt k e).1;omega);clear hown hgrow;obtain⟨q,c,hv,hc,hr⟩:=RowArg.of_own HO4.out
 cases hv;go_wp2;go_ret2;have hcs:[]++[Value.int .i64 1]++List.replicate (m+1) (.int .i64 0)=uE (1::List.replicate (m+1) 0):=by simp[uE]
 have hl:(1::List.replicate (m+1) 0).length=1+(m+1):=by simp;omega
 exact⟨_,_,by rw[hl];rfl,by rw[hl];exact hc,by rw[← hcs];exact hr,HU4.out⟩
end
theorem kDA{k n m:Int}{s:ByteArray}(h1:¬(k < 0∨30≤k))(h2:fN k.toNat=false)(h3:fM k.toNat=false)(h4:fS k.toNat=false)(h5:k≠2)(h6:k≠26)(h7:k≠27):zA ⟨k,n,m,s⟩=lT ⟨k,n,m,s⟩:=by
 unfold zA lT;rw[jL,if_neg h1];simp only[h2,h3,h4,if_neg h5,if_neg h6,if_neg h7];by_cases a:n=0<;>by_cases b:m=0<;>by_cases c:s.size=0<;>simp[a,b,c]
theorem vXA{n m:Int}{s:ByteArray}:zA ⟨0,n,m,s⟩=z3A n m s:=by
 unfold zA z3A;rw[jL];by_cases b:m=0<;>by_cases c:s.size=0<;>simp[fN,fM,fS,tV,b,c]
theorem n5A{k n m:Int}{s:ByteArray}(hk:k=3∨k=6):zA ⟨k,n,m,s⟩=piB n m s:=by
 unfold zA piB;rw[jL];rcases hk with rfl | rfl<;>by_cases b:m=0<;>by_cases c:s.size=0<;>simp[fN,fM,fS,tV,b,c]
theorem uRA{n m:Int}{s:ByteArray}:zA ⟨2,n,m,s⟩=((wDA n&&(m==0))&&s.toList.isEmpty):=by
 unfold zA wDA;rw[jL];by_cases b:m=0<;>by_cases c:s.size=0<;>simp[fN,fM,fS,b,c]
theorem qPA{k n m:Int}{s:ByteArray}(hk:k=1∨k=25):zA ⟨k,n,m,s⟩=((n==0)&&(m==0)&&uD s):=by
 unfold zA;rcases hk with rfl | rfl<;>by_cases a:n=0<;>by_cases b:m=0<;>cases c:uD s<;>simp[fN,fM,fS,a,b,c]
theorem lKA{n m:Int}{s:ByteArray}:zA ⟨26,n,m,s⟩=(uD s&&(decide (0≤n)&&decide (n≤5)&&decide (0≤m)&&decide (m≤6))):=by
 unfold zA
 cases c:uD s<;>simp[fN,fM,fS,c]
theorem sEA{n m:Int}{s:ByteArray}:zA ⟨27,n,m,s⟩=(uD s&&(n==0)&&(decide (0≤m)&&decide (m≤6))):=by
 unfold zA
 cases c:uD s<;>by_cases a:n=0<;>simp[fN,fM,fS,a,c]
def ROut(w0:World)(x:Nd)(e:Ending)(w:World):Prop:=∃ l,(zA x=true→l=binds x)∧BOut w0 l (zA x) e w
section
variable {w0 : World}
theorem ROut.of{w:World}{e:Ending}{x:Nd}{l:List Nat}{b:Bool}(h:BOut w0 l b e w)(hb:zA x=b)(hl:b=true→l=binds x):ROut w0 x e w:=⟨l,fun h=>hl (hb▸h),by rw[hb];exact h⟩
theorem aEB(n m:Int)(s:ByteArray):Calls Tryz.prog 142 #[ndV ⟨26,n,m,s⟩] w0 (ROut w0 ⟨26,n,m,s⟩):=by
 by_cases h:uD s=false∨n < 0∨6≤n∨m < 0∨6 < m
 · refine (b4A n m s h).mono fun e w hb => ROut.of hb ?_ (fun h => by cases h)
   rw[lKA];rcases h with h | h | h | h | h
   · rw[h];rfl
   all_goals
    rw[Bool.and_eq_false_iff]
    right
    rw[Bool.eq_false_iff];intro c;simp only[Bool.and_eq_true,decide_eq_true_eq]at c;omega
 · have hs : uD s = true := by cases c : uD s; exact (h (.inl c)).elim; rfl
   have h':0≤n∧n < 6∧0≤m∧m≤6:=by
    refine⟨?_,?_,?_,?_⟩<;>(refine Classical.byContradiction fun c=>h ?_;omega)
   obtain⟨m',rfl⟩:∃ m':Nat,m=m':=⟨m.toNat,by omega⟩;refine(uXA n m' s hs h'.1 h'.2.1 (by omega)).mono fun e w hb=>ROut.of hb ?_ (fun _=>?_)
   · rw[lKA,hs];simp only[Bool.true_and,Bool.and_eq_true,decide_eq_true_eq];omega
   · unfold binds;rw[if_pos rfl];rfl
theorem sDB(n m:Int)(s:ByteArray):Calls Tryz.prog 142 #[ndV ⟨27,n,m,s⟩] w0 (ROut w0 ⟨27,n,m,s⟩):=by
 by_cases h:uD s=false∨n≠0∨m < 0∨6 < m
 · refine (y1A n m s h).mono fun e w hb => ROut.of hb ?_ (fun h => by cases h)
   rw[sEA];rcases h with h | h | h | h
   · rw[h];rfl
   · have : (n == 0) = false := by simpa using h
     rw[this];simp
   all_goals
    rw[Bool.and_eq_false_iff]
    right
    rw[Bool.eq_false_iff];intro c;simp only[Bool.and_eq_true,decide_eq_true_eq]at c;omega
 · have hs : uD s = true := by cases c : uD s; exact (h (.inl c)).elim; rfl
   have h':n=0∧0≤m∧m≤6:=by
    refine⟨?_,?_,?_⟩<;>(refine Classical.byContradiction fun c=>h ?_;omega)
   obtain⟨m',rfl⟩:∃ m':Nat,m=m':=⟨m.toNat,by omega⟩;obtain rfl:=h'.1;refine(hZA m' s hs (by omega)).mono fun e w hb=>ROut.of hb ?_ (fun _=>?_)
   · rw[sEA,hs];simp;omega
   · unfold binds;rw[if_neg (by simp),if_pos rfl];rfl
theorem uP(x:Nd):Calls Tryz.prog 142 #[ndV x] w0 (ROut w0 x):=by
 obtain⟨k,n,m,s⟩:=x;by_cases h:k < 0∨29 < k
 · refine (e9A k n m s h).mono fun e w hb => ROut.of hb ?_ (fun h => by cases h)
   unfold zA;rw[if_pos (by simp only;omega)]
 have hk:k=0∨k=2∨k=26∨k=27∨(k=3∨k=6)∨(k=1∨k=25)∨(k=10∨k=11∨k=14∨k=16∨k=17∨k=29)∨(k=4∨k=5∨k=7∨k=8∨k=9∨k=12∨k=13∨k=15∨k=18∨k=19∨k=20∨k=21∨k=22∨k=23∨k=24∨k=28):=by omega
 rcases hk with rfl | rfl | rfl | rfl | hk | hk | hk | hk
 · exact(qEB n m s).mono fun e w h=>ROut.of h vXA (fun _=>rfl)
 · exact(tEB n m s).mono fun e w h=>ROut.of h uRA (fun _=>rfl)
 · exact aEB n m s
 · exact sDB n m s
 · refine (cDB k n m s hk).mono fun e w h => ROut.of h (n5A hk) ?_
   rcases hk with rfl | rfl<;>exact fun _=>rfl
 · refine (l6A k n m s hk).mono fun e w h => ROut.of h (qPA hk) ?_
   rcases hk with rfl | rfl<;>exact fun _=>rfl
 · refine (y9A k n m s hk).mono fun e w h => ?_
   rcases hk with rfl | rfl | rfl | rfl | rfl | rfl<;>exact ROut.of (l:=[]) h (kDA (by decide) rfl rfl rfl (by decide) (by decide) (by decide)) (fun _=>rfl)
 · rcases hk with rfl | rfl | rfl | rfl | rfl | rfl | rfl | rfl | rfl | rfl | rfl | rfl | rfl | rfl | rfl | rfl
   all_goals exact(p9A _ n m s _ (by simp only[g7A,List.mem_cons,Prod.mk.injEq,Int.reduceEq,true_and,false_and,false_or,List.not_mem_nil,or_false];rfl)).mono fun e w h=>ROut.of h (kDA (by decide) rfl rfl rfl (by decide) (by decide) (by decide)) (fun _=>rfl)
end
def vF : List Nd → Nat → Bool
  | [],d=>d==1
  | x::t,d=>if zA x=false∨d < (binds x).length then false else vF t (d - (binds x).length+1)
def iEB(w0:World)(t:List Nd)(d i:Value)(wr:World):Prop:=∃ k D:Nat,k≤t.length∧D≤k∧d = .int .i64 (D:Int)∧i = .int .i64 (k:Int)∧(vF t 0=vF (t.drop k) D)∧Under w0 wr
section
variable {w0 : World}
theorem qYA(t:List Nd){v:Value}(hn:t.length≤1000000)(hv:TermV w0 v t):Calls Tryz.prog 136 #[v] w0 fun e w=>e = .returned (.bool (vF t 0))∧Under w0 w:=by
 obtain⟨p,c,rfl,_,_,hr⟩:=hv;have HR:=aA hr;have HN:=aA hn;have hn':(t.length:Int)≤1000000:=by omega
 have hn0:(0:Int)≤(t.length:Int):=by omega
 clear hr hn;go_enter Tryz.func136,Tryz.ntmps136;go_wp2;go_loopw [3,4] (fun d i wr=>iEB w0 t d i wr) (fun _ i _=>t.length - (intOf i).toNat)
 case atStart=>exact⟨0,0,Nat.zero_le _,Nat.le_refl _,rfl,rfl,by simp,Under.refl _⟩
 case round =>
   obtain⟨k,D,hk,hD,rfl,rfl,hG,hU⟩:=hrel;have HG:=aA hG;clear hG;have hD0:(0:Int)≤(D:Int):=by omega
   have hk0:(0:Int)≤(k:Int):=by omega
   have hDk:(D:Int)≤(k:Int):=by omega
   by_cases hlt:k < t.length
   · obtain ⟨b1, off1, rfl, hb1, c0, c1, c2, c3⟩ := RowArg.node HR.out (List.getElem?_eq_getElem hlt); rw [← fA hU hb1] at c0 c1 c2 c3; have hb1' := Nat.lt_of_lt_of_le hb1 hU.size; have HD := aA (show vF (t.drop k) D = if zA t[k] = false ∨ D < (binds t[k]).length then false else vF (t.drop (k + 1)) (D - (binds t[k]).length + 1) by rw [List.drop_eq_getElem_cons hlt]; rfl); have HU := aA hU; clear hU; generalize t[k] = x at *; have HC := aA (fun w => uP (w0 := w) x); have hlt' : (k : Int) < (t.length : Int) := by omega
     go_wp2_with fail;refine(HC.out _).mono ?_;rintro e w1 ⟨l,hl,q,c',rfl,hlc,hrl,hU1⟩;have HU1:=aA (HU.out.trans hU1);clear hU1 hlc hrl HC c0 c1 c2 c3
     cases hx:zA x
     · have HF:RowKit.Hid (vF t 0=false):=aA (by rw[HG.out,HD.out,if_pos (.inl hx)]);clear hl hx;go_wp2;go_ret;exact⟨by rw[HF.out];rfl,HU1.out⟩
     · obtain rfl := hl hx; have HX := aA hx; have hB8 := aM hx; clear hl hx; generalize (binds x).length = N at *; have hN0 : (0 : Int) ≤ (N : Int) := by omega
       have hN8:(N:Int)≤8:=by omega
       by_cases hc:D < N
       · have hc' : (D : Int) < (N : Int) := by omega
         have HF:RowKit.Hid (vF t 0=false):=aA (by rw[HG.out,HD.out,if_pos (.inr hc)]);clear hc;go_wp2;go_ret;exact⟨by rw[HF.out];rfl,HU1.out⟩
       · have hc' : (N : Int) ≤ (D : Int) := by omega
         have HF:RowKit.Hid (vF t 0=vF (t.drop (k+1)) (D - N+1)):=aA (by rw[HG.out,HD.out,if_neg (by rw[HX.out];simp;omega)]);clear hc;go_wp2;go_roundw
         case rel=>exact⟨k+1,D - N+1,by omega,by omega,by go_num,by go_num,HF.out,HU1.out⟩
         case measure=>simp[intOf];omega
   · obtain rfl : k = t.length := by omega
     have HF:RowKit.Hid (vF t 0=(D==1)):=aA (by rw[HG.out,List.drop_length];rfl);have HU:=aA hU;clear hU;by_cases h1:D=1
     · subst h1;have HF:RowKit.Hid (vF t 0=true):=aA (by rw[HF.out];rfl);go_wp2;go_ret;exact⟨by rw[HF.out];rfl,HU.out⟩
     · have h1' : ((D : Int) == 1) = false := by simp; omega
       have HF:RowKit.Hid (vF t 0=false):=aA (by rw[HF.out];simpa using h1);clear h1;go_wp2;go_ret;exact⟨by rw[HF.out];rfl,HU.out⟩
end
def bQ(l:List Nat):Nat:=l.foldr max 0
theorem n9A{l:List Nat}{b:Nat}(h:∀ a∈l,a≤b):bQ l≤b:=by
 induction l with
 | nil=>exact Nat.zero_le _
 | cons a l ih =>
   have:=ih fun x hx=>h x (List.mem_cons_of_mem _ hx)
   have:=h a (List.mem_cons_self ..)
   show max a (bQ l)≤b
   omega
def lH : List Nd → List Nat → Bool
  | [],_=>false
  | x::t,st=>if 60 < bQ (st.drop (st.length - (binds x).length))+1 then true else lH t (st.take (st.length - (binds x).length)++[bQ (st.drop (st.length - (binds x).length))+1])
structure DpRel (w0:World) (t:List Nd) (st:List Nat) (k g c:Nat) (wr:World):Prop where
 len:st.length≤k
 low:∀ a∈st,a≤60
 whole:vF (t.drop k) st.length=true
 deep:lH t []=lH (t.drop k) st
 own:wr.ownsRow w0.heap.size 3 1 (.slice (some ⟨g,0,none⟩) st.length c) st.length (uE st)
 under:Under w0 wr
def DpR(w0:World)(t:List Nd)(l i:Value)(wr:World):Prop:=∃(k:Nat) (st:List Nat) (g c:Nat),k≤t.length∧l = .slice (some ⟨g,0,none⟩) st.length c∧i = .int .i64 (k:Int)∧DpRel w0 t st k g c wr
def DiR(W:World)(st:List Nat)(g c N:Nat)(l n i:Value)(wr:World):Prop:=W=wr∧∃ j M:Nat,j≤N∧j+M=st.length∧l = .slice (some ⟨g,0,none⟩) M c∧n = .int .i64 (bQ (st.drop M):Nat)∧i = .int .i64 (j:Int)
theorem rOA{l:List Nat}{k n:Nat}(h:l[k]? = some n):(uE l)[k]? = some (.int .i64 (n:Int)):=by
 unfold uE;rw[List.getElem?_map,h];rfl
section
variable {w0 : World}
theorem nRA(t:List Nd){v:Value}(hn:t.length≤1000000)(hv:TermV w0 v t)(hw:vF t 0=true):Calls Tryz.prog 137 #[v] w0 fun e w=>e = .returned (.bool (lH t []))∧Under w0 w:=by
 obtain⟨p,c,rfl,_,_,hr⟩:=hv;obtain⟨i0,hi,hz0,hz1,hz2⟩:=info_parts Tryz.infoInt;have HR:=aA hr;have HN:=aA hn;have HW:=aA hw;have hn':(t.length:Int)≤1000000:=by omega
 have hn0:(0:Int)≤(t.length:Int):=by omega
 clear hr hn hw;go_enter Tryz.func137,Tryz.ntmps137;go_wp2;go_loopw [3,4] (fun l i wr=>DpR w0 t l i wr) (fun _ i _=>t.length - (intOf i).toNat)
 case atStart=>exact⟨0,[],w0.heap.size,0,Nat.zero_le _,rfl,rfl,⟨Nat.le_refl _,by simp,HW.out,by simp,gM w0 _ _ _ (Nat.le_refl _),bA (Under.refl _) _⟩⟩
 case round =>
   obtain⟨k,st,g,c2,hk,rfl,rfl,hD⟩:=hrel;have hL:=hD.len;have HD:=aA hD;clear hD;have hk0:(0:Int)≤(k:Int):=by omega
   have hL0:(0:Int)≤(st.length:Int):=by omega
   have hLk:(st.length:Int)≤(k:Int):=by omega
   by_cases hlt:k < t.length
   · obtain ⟨b1, off1, rfl, hb1, c0, c1, c2', c3⟩ := RowArg.node HR.out (List.getElem?_eq_getElem hlt); rw [← fA HD.out.under hb1] at c0 c1 c2' c3; have hb1' := Nat.lt_of_lt_of_le hb1 HD.out.under.size; have hlt' : (k : Int) < (t.length : Int) := by omega
     have HX:=aA (show vF (t[k]::t.drop (k+1)) st.length=true by rw[← List.drop_eq_getElem_cons hlt];exact HD.out.whole);have HG:=aA (show lH t []=lH (t[k]::t.drop (k+1)) st by rw[← List.drop_eq_getElem_cons hlt];exact HD.out.deep);generalize t[k]=x at *;have HC:=aA (fun w=>uP (w0:=w) x);have hx:zA x=true∧(binds x).length≤st.length∧vF (t.drop (k+1)) (st.length - (binds x).length+1)=true:=by
      have:=HX.out;unfold vF at this
      split at this
      · cases this
      · rename_i h;exact⟨by cases hh:zA x;exact(h (.inl hh)).elim;rfl,by omega,this⟩
     obtain⟨hx1,hx2,hx3⟩:=hx;have HX1:=aA hx1;have HX3:=aA hx3;have hB8:=aM hx1;clear hx1 hx3 HX;go_wp2_with fail;refine(HC.out _).mono ?_;rintro e w1 ⟨l,hl,q,c',rfl,hlc,hrl,hU1⟩;obtain rfl:=hl HX1.out;have HU1:=aA hU1;clear hU1 hlc hrl HC c0 c1 c2' c3 hl;have HO:=aA (uA HD.out.own HU1.out);have hG:lH t []=if 60 < bQ (st.drop (st.length - (binds x).length))+1 then true else lH (t.drop (k+1)) (st.take (st.length - (binds x).length)++[bQ (st.drop (st.length - (binds x).length))+1]):=by rw[HG.out];rfl
     have HG:=aA hG;clear hG;generalize (binds x).length=N at *;have hN0:(0:Int)≤(N:Int):=by omega
     have hN8:(N:Int)≤8:=by omega
     obtain⟨_,_,hge,_,hgb,hgl,hgc,hcm⟩:∃ g' cap,(Value.slice (some ⟨g,0,none⟩) st.length c2 = .slice (some ⟨g',0,none⟩) st.length cap)∧w0.heap.size≤g∧w0.heap.size≤g∧g < w1.heap.size∧st.length≤c2∧c2≤maxLen:=by
      rcases HO.out.2 with⟨h0,_⟩ | ⟨g',cap,cur,h0,hb,hg,h1,h2,_⟩
      · cases h0
      · cases h0;exact⟨_,_,rfl,hb,hb,(Array.getElem?_eq_some_iff.1 hg).1,h1,h2⟩
     clear hge;have hgc':(st.length:Int)≤(c2:Int):=by omega
     go_wp2;go_loopw [3,7,8] (fun l n i wr=>DiR w1 st g c2 N l n i wr) (fun _ _ i _=>N - (intOf i).toNat)
     case atStart=>exact⟨rfl,0,st.length,Nat.zero_le _,by omega,rfl,by rw[List.drop_length];rfl,rfl⟩
     case round =>
       obtain⟨rfl,j,M,hj,hjM,rfl,rfl,rfl⟩:=hrel;have hj0:(0:Int)≤(j:Int):=by omega
       have hM0:(0:Int)≤(M:Int):=by omega
       have HMX:=aA (n9A (l:=st.drop M) (b:=60) fun a ha=>HD.out.low a (List.mem_of_mem_drop ha));by_cases hjN:j < N
       · obtain ⟨M, rfl⟩ : ∃ m, M = m + 1 := ⟨M - 1, by omega⟩; have hst : M < st.length := by omega
         have HMC:=aA (show bQ (st.drop M)=max st[M] (bQ (st.drop (M+1))) by rw[List.drop_eq_getElem_cons hst];rfl);have hcell:=eD HO.out (g:=g) rfl (rOA (List.getElem?_eq_getElem hst));have ha60:=HD.out.low _ (List.getElem_mem hst);generalize st[M]=a at *;have hjN':(j:Int) < (N:Int):=by omega
         have hMc:(M:Int)≤(c2:Int):=by omega
         have hm60:=HMX.out;generalize bQ (st.drop (M+1))=mx at *;clear HMX;have hMe:((M:Int)+1 - 1)=(M:Int):=by omega
         by_cases hma:a≤mx
         · have hma' : (a : Int) ≤ (mx : Int) := by omega
           go_wp2
           all_goals
            go_roundw
            case rel=>exact⟨rfl,j+1,M,by omega,by omega,by go_num,by rw[HMC.out];exact congrArg (Value.int .i64) (by omega),by go_num⟩
            case measure=>simp[intOf];omega
         · have hma' : (mx : Int) < (a : Int) := by omega
           go_wp2
           all_goals
            go_roundw
            case rel=>exact⟨rfl,j+1,M,by omega,by omega,by go_num,by rw[HMC.out];exact congrArg (Value.int .i64) (by omega),by go_num⟩
            case measure=>simp[intOf];omega
       · obtain rfl : j = N := by omega
         have hMe:M=st.length - j:=by omega
         have HMe:=aA hMe;rw[← hMe]at HG HX3;clear hMe;have hm60:=HMX.out;have HMv:RowKit.Hid (bQ (st.drop M)=bQ (st.drop M)):=aA rfl;generalize hmx:bQ (st.drop M)=mx at *;clear hmx HMv HMX;have hmx0:(0:Int)≤(mx:Int):=by omega
         by_cases hd:60 < mx+1
         · have hd' : (60 : Int) < (mx : Int) + 1 := by omega
           have HF:RowKit.Hid (lH t []=true):=aA (by rw[HG.out,if_pos hd]);clear hd;go_wp2;go_ret;exact⟨by rw[HF.out];rfl,HD.out.under.trans HU1.out⟩
         · have hd' : (mx : Int) + 1 ≤ 60 := by omega
           have HF:RowKit.Hid (lH t []=lH (t.drop (k+1)) (st.take M++[mx+1])):=aA (by rw[HG.out,if_neg hd]);have HMs:=aA (show M≤st.length by omega);have hM1:M≤1000000:=by omega
           clear hd;go_wp2_with (at_builtin;refine wpList_append_lies _ rfl _ _ 123 rfl w0.heap.size 3 i0 _ 1 8 Tryz.underlying123 hi hz0 hz1 hz2 rfl (by decide) _ _ _ rfl ((pQ HO.out HMs.out).alloc _) ⟨w1.heap.size,0,none⟩ 1 1 [.int .i64 ((mx+1:Nat):Int)] rfl rfl ?c1 ?c2 (by decide) (by simp only[maxLen];omega) (by omega) ?c5 (w1.heap.size+1) (by simp) ?_)
           case c1=>exact cell_one_new _ _ _
           case c2=>simp[Value.oneCell']
           case c5=>have:=(HD.out.under.trans HU1.out).size;simp;omega
           intro g3 c3 w3 hown hgrow hat hlt3;have HO3:=aA hown;have HU3:=aA (xA (bA (HD.out.under.trans HU1.out) _) hgrow fun z e=>by cases e;exact hgb);clear hown hgrow hat hlt3;go_wp2;go_roundw
           case rel =>
             have hlen:(st.take M++[mx+1]).length=M+1:=by rw[List.length_append,List.length_take,Nat.min_eq_left HMs.out];rfl
             have hcs:(uE st).take M++[Value.int .i64 ((mx:Int)+1)]=uE (st.take M++[mx+1]):=by simp[uE,List.map_take]
             refine⟨k+1,st.take M++[mx+1],g3,c3,by omega,by rw[hlen],by go_num,⟨by rw[hlen];omega,?_,by rw[hlen];exact HX3.out,HF.out,by rw[hlen,← hcs];exact HO3.out,HU3.out⟩⟩;intro a ha;rcases List.mem_append.1 ha with ha | ha
             · exact HD.out.low a (List.mem_of_mem_take ha)
             · rw[List.mem_singleton.1 ha];omega
           case measure=>simp[intOf];omega
   · obtain rfl : k = t.length := by omega
     have HF:RowKit.Hid (lH t []=false):=aA (by rw[HD.out.deep,List.drop_length];rfl);go_wp2;go_ret;exact⟨by rw[HF.out];rfl,HD.out.under⟩
end
theorem vCA : ∀ (l : List Tm) (d : Nat), 1 ≤ d → eZ d l = max d (bQ (l.map aG) + 1)
  | [],d,h=>by show d=max d (0+1);omega
  | a :: l, d, h => by
    show eZ (max d (aG a+1)) l=max d (max (aG a) (bQ (l.map aG))+1)
    rw[vCA l _ (by omega)];omega
theorem fSA(x:Nd)(l:List Tm):aG (.mk x l)=bQ (l.map aG)+1:=by
 show eZ 1 l=_
 rw[vCA l 1 (Nat.le_refl _)];omega
theorem tNA:∀(T:Tm),okT T→∀(rest:List Nd) (st:List Nat),lH (flat T++rest) st=if 60 < aG T then true else lH rest (st++[aG T]):=by
 intro T
 induction T using Tm.rec (motive_2:=fun l=>gT l→∀(rest:List Nd) (st:List Nat),lH (zB l++rest) st=if 60 < bQ (l.map aG) then true else lH rest (st++l.map aG)) with
 | mk x l ih =>
   rintro⟨hx,hl,hls⟩ rest st;rw[flat,List.append_assoc,ih hls,fSA]
   show(if 60 < bQ (l.map aG) then true else lH (x::rest) (st++l.map aG))=_
   have hk:(st++l.map aG).length - (binds x).length=st.length:=by rw[List.length_append,List.length_map];omega
   unfold lH;rw[hk,List.drop_left,List.take_left];by_cases h:60 < bQ (l.map aG)
   · rw[if_pos h,if_pos (by omega)]
   · rw [if_neg h]
     cases rest<;>rfl
 | nil=>rename_i hh rest st;simp[zB,bQ]
 | cons a l iha ihl =>
   rename_i hh rest st;obtain⟨ha,hl⟩:=hh;rw[zB,List.append_assoc,iha ha,ihl hl]
   show _=if 60 < max (aG a) (bQ (l.map aG)) then true else lH rest (st++aG a::l.map aG)
   rw[List.append_assoc];by_cases h:60 < aG a
   · rw[if_pos h,if_pos (by omega)]
   · rw [if_neg h]; by_cases h2 : 60 < bQ (l.map aG)
     · rw[if_pos h2,if_pos (by omega)]
     · rw[if_neg h2,if_neg (by omega)];rfl
theorem wEA : ∀ (t : List Nd) (i : Nat) (all op : List (Nat × Nat)), vF t op.length = match yC t i all op with | none => false | some r => r.2.length == 1
  | [],i,all,op=>rfl
  | x :: t, i, all, op => by
    unfold vF yC;by_cases h:zA x=false∨op.length < (binds x).length
    · rw[if_pos h,if_pos h]
    · rw [if_neg h, if_neg h]; simp only; rw [← wEA t (i + 1)]; congr 1
      rw[List.length_append,List.length_take,Nat.min_eq_left (Nat.sub_le _ _)];rfl
theorem y6A(t:List Nd):gB t=if 4000 < t.length then 21 else if vF t 0=false then 20 else if lH t [] then 22 else 0:=by
 unfold gB
 split
 · rfl
 have hw:=wEA t 0 [] [];rw[List.length_nil]at hw;rw[hw]
 cases hm:yC t 0 [] [] with
 | none=>rfl
 | some r =>
   obtain⟨all,op⟩:=r;simp only;by_cases h1:op.length=1
   · have e1 : ¬ (op.length ≠ 1) := by simpa using h1
     have e2:¬((op.length==1)=false):=by simp[h1]
     rw[if_neg e1,if_neg e2];clear e1 e2;obtain⟨Gs,g1,g2,g3⟩:=kR t [] [] (by simp[gT]) hm;simp only at g3;rw[g3,sO]at h1
     match Gs,h1 with
     | [T], _ =>
       simp only[zB,List.nil_append,List.append_nil]at g2;obtain⟨a',q1,q2,q3⟩:=qV T g1.1 [] [];rw[g2]at q1;rw[show yC t (zB []).length [] (rF 0 [])=yC t 0 [] [] from rfl,hm]at q1;simp only[Option.some.injEq,Prod.mk.injEq]at q1;have hl:a'.getLastD (0,0)=((zB []).length,aG T):=by rw[List.getLastD_eq_getLast?,q3];rfl
       rw[q1.1,List.nil_append,hl];have hd:=tNA T g1.1 [] [];rw[List.append_nil,g2]at hd;rw[hd];by_cases h:60 < aG T
       · rw[if_pos h,if_pos h];rfl
       · rw[if_neg h,if_neg h];rfl
   · rw[if_pos (by simpa using h1),if_pos (by simpa using h1)]
section
variable {w0 : World}
theorem kT(t:List Nd){v:Value}(hn:t.length≤maxLen)(hv:TermV w0 v t):Calls Tryz.prog 106 #[v] w0 fun e w=>e = .returned (.int .i64 (gB t))∧Under w0 w:=by
 have HV:=aA hv;obtain⟨p,c,rfl,_,_,_⟩:=hv;have HE:=aA (y6A t);by_cases h:4000 < t.length
 · have h' : (4000 : Int) < (t.length : Int) := by omega
   have HE:=aA (HE.out.trans (if_pos h));clear h;go_enter Tryz.func106,Tryz.ntmps106;go_wp2;go_ret;exact⟨kG HE.out.symm,Under.refl _⟩
 · have h' : (t.length : Int) ≤ 4000 := by omega
   have HE:=aA (HE.out.trans (if_neg h));have HW:=aA (qYA t (by omega) HV.out)
   cases hw:vF t 0
   · have HE:=aA (HE.out.trans (if_pos hw));rw[hw]at HW;clear h hw;go_enter Tryz.func106,Tryz.ntmps106;go_wp2_with fail;refine HW.out.mono ?_;rintro e w1 ⟨rfl,hU1⟩;have HU1:=aA hU1;clear hU1;go_wp2;go_ret;exact⟨kG HE.out.symm,HU1.out⟩
   · have HE := aA (HE.out.trans (if_neg (by rw [hw]; decide))); have HD := aA (fun w1 (hU : Under w0 w1) => nRA (w0 := w1) t (by omega) (TermV.mono _ _ _ _ hU HV.out) hw); rw [hw] at HW; clear h hw
     cases hd:lH t []
     all_goals
      rw[hd]at HD HE;clear hd;go_enter Tryz.func106,Tryz.ntmps106;go_wp2_with fail;refine HW.out.mono ?_;rintro e w1 ⟨rfl,hU1⟩;have HU1:=aA hU1;clear hU1;go_wp2_with fail;refine(HD.out _ HU1.out).mono ?_;rintro e w2 ⟨rfl,hU2⟩;have HU2:=aA (HU1.out.trans hU2);clear hU2;go_wp2;go_ret;exact⟨kG HE.out.symm,HU2.out⟩
end
structure AtN (W:World) (xb:Nat) (x:Nd) (w:World):Prop where
 und:Under W w
 box:BoxAt w xb 112 #[.int .i64 x.k,.int .i64 x.n,.int .i64 x.m,.string x.s]
section
variable {W w w' : World} {xb : Nat} {x : Nd}
theorem AtN.cells(h:AtN W xb x w):w.cell? ⟨xb,0,none⟩=some (.int .i64 x.k)∧w.cell? ⟨xb,1,none⟩=some (.int .i64 x.n)∧w.cell? ⟨xb,2,none⟩=some (.int .i64 x.m)∧w.cell? ⟨xb,3,none⟩=some (.string x.s)∧xb < w.heap.size :=
 ⟨h.box.cell 0,h.box.cell 1,h.box.cell 2,h.box.cell 3,h.box.lt⟩
theorem AtN.alloc(h:AtN W xb x w)(o:Obj):AtN W xb x (w.alloc o):=⟨bA h.und o,h.box.alloc o⟩
theorem AtN.under(h:AtN W xb x w)(hU:Under w w'):AtN W xb x w':=⟨h.und.trans hU,h.box.under hU⟩
end
theorem uS(n:Nat):iE (n:Int)=tF n:=by
 unfold iE tF;apply UInt8.toNat_inj.1;rw[UInt8.toNat_ofNat',UInt8.toNat_ofNat'];omega
section
variable {w0 : World}
theorem fMA(t:List Nd){v:Value}(hn:t.length≤maxLen)(hv:TermV w0 v t) :
 Calls Tryz.prog 96 #[v] w0 fun e w=>e=wU t∧Under w0 w:=by
 have HC:=aA (kT (w0:=w0) t hn hv);obtain⟨p,c,rfl,_,_,hp⟩:=hv;have HP:=aA hp;have hO:wU t=if gB t=0 then .returned (.tuple #[.string ⟨(kN t).toArray⟩,.int .i64 0]) else .returned (.tuple #[.string ⟨#[]⟩,.int .i64 (gB t)]):=rfl
 have HO:=aA hO;clear hp hO;by_cases hc:gB t=0
 · have HO : RowKit.Hid (wU t = .returned (.tuple #[.string ⟨(kN t).toArray⟩, .int .i64 0])) := aA (by rw [HO.out, if_pos hc]); have HR := aA (uK hc); have hn4 := (sW hc).2; have HT := aA hn4; rw [hc] at HC; clear hc; have H2w := aA (fun w => yKA (w0 := w) t.length (by omega)); have h0 : (0 : Int) ≤ (t.length : Int) := by omega
   have h4:(t.length:Int)≤4000:=by omega
   clear hn4;go_enter Tryz.func96,Tryz.ntmps96;go_wp2_with fail;refine HC.out.mono ?_;rintro e w1 ⟨rfl,hU1⟩;have HU1:=aA hU1;clear hU1;go_wp2_with fail;refine(H2w.out _).mono ?_;rintro e w2 ⟨rfl,hU2⟩;have HU2:=aA (HU1.out.trans hU2);clear hU2;go_wp2;go_loopw [6,5] (fun i s wr=>∃ k S,k≤t.length∧i = .int .i64 (k:Nat)∧s = .string S∧S.data.toList.length≤2+k * 20∧kN t=S.data.toList++((t.drop k).map qE).flatten∧Under w0 wr) (fun i _ _=>t.length - (intOf i).toNat)
   case atStart=>exact⟨0,_,Nat.zero_le _,rfl,rfl,by simp[yJ],by simp[kN],HU2.out⟩
   case round =>
     obtain⟨k,S,hk,rfl,rfl,hacc,hN,hU⟩:=hrel;have HN:=aA hN;have HU:=aA hU;clear hN hU;by_cases hlt:k < t.length
     · have HA' := aA hacc; have eS : S.data.toList.length = S.size := by rw [Array.length_toList]; rfl
       have hS:S.size≤100000:=by have:=HT.out;omega
       have HRx : RowKit.Hid (zA t[k] = true) := aA (HR.out _ (List.getElem_mem hlt)); have HJ : RowKit.Hid (∀ l, l = S.data.toList ++ qE t[k] → S.data.toList ++ ((t.drop k).map qE).flatten = l ++ ((t.drop (k + 1)).map qE).flatten) := aA (by
         rintro l rfl;rw[List.drop_eq_getElem_cons hlt,List.map_cons,List.flatten_cons,List.append_assoc])
       obtain⟨bb,off,rfl,hb,cc0,cc1,cc2,cc3⟩:=RowArg.node HP.out (List.getElem?_eq_getElem hlt);rw[← fA HU.out hb]at cc0 cc1 cc2 cc3;have hb':=Nat.lt_of_lt_of_le hb HU.out.size;have HKx:=pV HRx.out;have hk0:=HKx.1;have hK:t[k].k.toNat < 30:=by omega
       have hk1:t[k].k < 256:=by omega
       have hlt':(k:Int) < (t.length:Int):=by omega
       have H1:RowKit.Hid (AtN w0 wr.heap.size t[k] (wr.alloc (.cells #[.int .i64 t[k].k,.int .i64 t[k].n,.int .i64 t[k].m,.string t[k].s] 112))) :=
        aA ⟨bA HU.out _,rA _ _ _⟩
       obtain⟨c0,c1,c2,c3,hxb⟩:=H1.out.cells;generalize t[k]=x at *;have HNn:=aA (fun w=>pFA (w0:=w) x.k.toNat (by omega));have HMm:=aA (fun w=>qEA (w0:=w) x.k.toNat (by omega));have HSs:=aA (fun w=>dFA (w0:=w) x.k.toNat (by omega));rw[Int.toNat_of_nonneg hk0]at HNn HMm HSs;have hb1:=rJ;have hbk:=fun w g=>rJ w g x.k
       rw[Int.emod_eq_of_lt hk0 hk1]at hbk;clear HKx;rcases tQ x.k.toNat hK with hV | hV | hV | hV | hV
       all_goals
        rw[hV.1]at HNn;rw[hV.2.1]at HMm;rw[hV.2.2.1]at HSs;have hxs:=fun h:fS x.k.toNat=true=>(vS HRx.out).resolve_right (by rw[h];decide)
       · have HV2 : RowKit.Hid ((S ++ ⟨#[iE x.k]⟩ : ByteArray).data.toList = S.data.toList ++ qE x) := aA (by simp [qE, hV.1, hV.2.1, hV.2.2.1, ByteArray.data_append, uS]); clear hV hK hxs; go_wp2_with fail; refine (HNn.out _).mono ?_; rintro e w2 ⟨rfl, hU⟩; have H2 := aA (AtN.under (by first | exact H1.out | exact H1.out.alloc _) hU); clear hU c0 c1 c2 c3 hxb; obtain ⟨c0, c1, c2, c3, hxb⟩ := H2.out.cells; go_wp2_with fail; refine (HMm.out _).mono ?_; rintro e w2 ⟨rfl, hW⟩; have H3 := aA (show AtN w0 wr.heap.size x w2 by subst hW; first | exact H2.out | exact H2.out.alloc _); clear hW c0 c1 c2 c3 hxb; obtain ⟨c0, c1, c2, c3, hxb⟩ := H3.out.cells; go_wp2_with fail; refine (HSs.out _).mono ?_; rintro e w2 ⟨rfl, hU⟩; have H4 := aA (AtN.under (by first | exact H3.out | exact H3.out.alloc _) hU); clear hU c0 c1 c2 c3 hxb; obtain ⟨c0, c1, c2, c3, hxb⟩ := H4.out.cells; go_wp2; go_roundw
         case rel=>exact⟨k+1,_,by omega,by go_num,rfl,by rw[HV2.out];exact rM HA'.out HRx.out,(by rw[HN.out];exact HJ.out _ HV2.out),by first | exact H4.out.und | exact(H4.out.alloc _).und⟩
         case measure=>simp[intOf];omega
       · have HV2 : RowKit.Hid (((S ++ ⟨#[iE x.k]⟩ : ByteArray) ++ ⟨#[iE x.n]⟩ : ByteArray).data.toList = S.data.toList ++ qE x) := aA (by simp [qE, hV.1, hV.2.1, hV.2.2.1, ByteArray.data_append, uS]); clear hV hK hxs; go_wp2_with fail; refine (HNn.out _).mono ?_; rintro e w2 ⟨rfl, hU⟩; have H2 := aA (AtN.under (by first | exact H1.out | exact H1.out.alloc _) hU); clear hU c0 c1 c2 c3 hxb; obtain ⟨c0, c1, c2, c3, hxb⟩ := H2.out.cells; go_wp2_with fail; refine (HMm.out _).mono ?_; rintro e w2 ⟨rfl, hW⟩; have H3 := aA (show AtN w0 wr.heap.size x w2 by subst hW; first | exact H2.out | exact H2.out.alloc _); clear hW c0 c1 c2 c3 hxb; obtain ⟨c0, c1, c2, c3, hxb⟩ := H3.out.cells; go_wp2_with fail; refine (HSs.out _).mono ?_; rintro e w2 ⟨rfl, hU⟩; have H4 := aA (AtN.under (by first | exact H3.out | exact H3.out.alloc _) hU); clear hU c0 c1 c2 c3 hxb; obtain ⟨c0, c1, c2, c3, hxb⟩ := H4.out.cells; go_wp2; go_roundw
         case rel=>exact⟨k+1,_,by omega,by go_num,rfl,by rw[HV2.out];exact rM HA'.out HRx.out,(by rw[HN.out];exact HJ.out _ HV2.out),by first | exact H4.out.und | exact(H4.out.alloc _).und⟩
         case measure=>simp[intOf];omega
       · have HV2 : RowKit.Hid (((S ++ ⟨#[iE x.k]⟩ : ByteArray) ++ ⟨#[iE (x.s.size : Int)]⟩ ++ x.s : ByteArray).data.toList = S.data.toList ++ qE x) := aA (by simp [qE, hV.1, hV.2.1, hV.2.2.1, ByteArray.data_append, uS]); have hs16 := hxs hV.2.2.1; have hbs := fun w g => rJ w g (x.s.size : Int)
         rw[Int.emod_eq_of_lt (by omega) (by omega)]at hbs;clear hV hK hxs;go_wp2_with fail;refine(HNn.out _).mono ?_;rintro e w2 ⟨rfl,hU⟩;have H2:=aA (AtN.under (by first | exact H1.out | exact H1.out.alloc _) hU);clear hU c0 c1 c2 c3 hxb;obtain⟨c0,c1,c2,c3,hxb⟩:=H2.out.cells;go_wp2_with fail;refine(HMm.out _).mono ?_;rintro e w2 ⟨rfl,hW⟩;have H3:=aA (show AtN w0 wr.heap.size x w2 by subst hW;first | exact H2.out | exact H2.out.alloc _);clear hW c0 c1 c2 c3 hxb;obtain⟨c0,c1,c2,c3,hxb⟩:=H3.out.cells;go_wp2_with fail;refine(HSs.out _).mono ?_;rintro e w2 ⟨rfl,hU⟩;have H4:=aA (AtN.under (by first | exact H3.out | exact H3.out.alloc _) hU);clear hU c0 c1 c2 c3 hxb;obtain⟨c0,c1,c2,c3,hxb⟩:=H4.out.cells;go_wp2;go_roundw
         case rel=>exact⟨k+1,_,by omega,by go_num,rfl,by rw[HV2.out];exact rM HA'.out HRx.out,(by rw[HN.out];exact HJ.out _ HV2.out),by first | exact H4.out.und | exact(H4.out.alloc _).und⟩
         case measure=>simp[intOf];omega
       · have HV2 : RowKit.Hid (((((S ++ ⟨#[iE x.k]⟩ : ByteArray) ++ ⟨#[iE x.n]⟩ : ByteArray) ++ ⟨#[iE x.m]⟩ : ByteArray) ++ ⟨#[iE (x.s.size : Int)]⟩ ++ x.s : ByteArray).data.toList = S.data.toList ++ qE x) := aA (by simp [qE, hV.1, hV.2.1, hV.2.2.1, ByteArray.data_append, uS]); have hs16 := hxs hV.2.2.1; have hbs := fun w g => rJ w g (x.s.size : Int)
         rw[Int.emod_eq_of_lt (by omega) (by omega)]at hbs;clear hV hK hxs;go_wp2_with fail;refine(HNn.out _).mono ?_;rintro e w2 ⟨rfl,hU⟩;have H2:=aA (AtN.under (by first | exact H1.out | exact H1.out.alloc _) hU);clear hU c0 c1 c2 c3 hxb;obtain⟨c0,c1,c2,c3,hxb⟩:=H2.out.cells;go_wp2_with fail;refine(HMm.out _).mono ?_;rintro e w2 ⟨rfl,hW⟩;have H3:=aA (show AtN w0 wr.heap.size x w2 by subst hW;first | exact H2.out | exact H2.out.alloc _);clear hW c0 c1 c2 c3 hxb;obtain⟨c0,c1,c2,c3,hxb⟩:=H3.out.cells;go_wp2_with fail;refine(HSs.out _).mono ?_;rintro e w2 ⟨rfl,hU⟩;have H4:=aA (AtN.under (by first | exact H3.out | exact H3.out.alloc _) hU);clear hU c0 c1 c2 c3 hxb;obtain⟨c0,c1,c2,c3,hxb⟩:=H4.out.cells;go_wp2;go_roundw
         case rel=>exact⟨k+1,_,by omega,by go_num,rfl,by rw[HV2.out];exact rM HA'.out HRx.out,(by rw[HN.out];exact HJ.out _ HV2.out),by first | exact H4.out.und | exact(H4.out.alloc _).und⟩
         case measure=>simp[intOf];omega
       · have HV2 : RowKit.Hid ((((S ++ ⟨#[iE x.k]⟩ : ByteArray) ++ ⟨#[iE x.m]⟩ : ByteArray) ++ ⟨#[iE (x.s.size : Int)]⟩ ++ x.s : ByteArray).data.toList = S.data.toList ++ qE x) := aA (by simp [qE, hV.1, hV.2.1, hV.2.2.1, ByteArray.data_append, uS]); have hs16 := hxs hV.2.2.1; have hbs := fun w g => rJ w g (x.s.size : Int)
         rw[Int.emod_eq_of_lt (by omega) (by omega)]at hbs;clear hV hK hxs;go_wp2_with fail;refine(HNn.out _).mono ?_;rintro e w2 ⟨rfl,hU⟩;have H2:=aA (AtN.under (by first | exact H1.out | exact H1.out.alloc _) hU);clear hU c0 c1 c2 c3 hxb;obtain⟨c0,c1,c2,c3,hxb⟩:=H2.out.cells;go_wp2_with fail;refine(HMm.out _).mono ?_;rintro e w2 ⟨rfl,hW⟩;have H3:=aA (show AtN w0 wr.heap.size x w2 by subst hW;first | exact H2.out | exact H2.out.alloc _);clear hW c0 c1 c2 c3 hxb;obtain⟨c0,c1,c2,c3,hxb⟩:=H3.out.cells;go_wp2_with fail;refine(HSs.out _).mono ?_;rintro e w2 ⟨rfl,hU⟩;have H4:=aA (AtN.under (by first | exact H3.out | exact H3.out.alloc _) hU);clear hU c0 c1 c2 c3 hxb;obtain⟨c0,c1,c2,c3,hxb⟩:=H4.out.cells;go_wp2;go_roundw
         case rel=>exact⟨k+1,_,by omega,by go_num,rfl,by rw[HV2.out];exact rM HA'.out HRx.out,(by rw[HN.out];exact HJ.out _ HV2.out),by first | exact H4.out.und | exact(H4.out.alloc _).und⟩
         case measure=>simp[intOf];omega
     · obtain rfl : k = t.length := by omega
       have hN2:=HN.out;rw[List.drop_length]at hN2;have HN2:=aA (show(⟨(kN t).toArray⟩:ByteArray)=S by rw[hN2];simp);clear hN2;go_wp2;go_ret2;exact⟨by rw[HO.out,HN2.out];rfl,HU.out⟩
 · have HCc := aA hc; generalize gB t = ce at *; have hce : (ce == 0) = false := by simpa using HCc.out
   clear hc;go_enter Tryz.func96,Tryz.ntmps96;go_wp2_with fail;refine HC.out.mono ?_;rintro e w1 ⟨rfl,hU1⟩;have HU1:=aA hU1;clear hU1;go_wp2;go_ret2;exact⟨by rw[HO.out,if_neg HCc.out];rfl,HU1.out⟩
end
section
variable {w0 : World}
theorem aZ(ss:List ByteArray){p:Option Addr}{c:Nat}(hn:ss.length≤100000)(hp:RowArg w0 p (ss.map .string)) :
 Calls Tryz.prog 61 #[.slice p ss.length c] w0 fun e w=>e=nLA (gG ss)∧Under w0 w:=by
 have HP:=aA hp;have hO:gG ss=if 255 < ss.length then none else cK [tF ss.length] ss:=rfl
 clear hp;by_cases h255:255 < ss.length
 · rw [if_pos h255] at hO; have HO := aA hO; have h' : (255 : Int) < (ss.length : Int) := by omega
   clear hO h255;go_enter Tryz.func61,Tryz.ntmps61;go_wp2;go_ret2;exact⟨by rw[HO.out];rfl,Under.refl _⟩
 rw[if_neg h255]at hO;have HO:=aA hO;have h':¬(255:Int) < (ss.length:Int):=by omega
 have h0:(0:Int)≤(ss.length:Int):=by omega
 have h4:(ss.length:Int) < 256:=by omega
 have hbs:=fun w g=>rJ w g (ss.length:Int)
 rw[Int.emod_eq_of_lt h0 h4]at hbs;rw[uS]at hbs;clear hO;go_enter Tryz.func61,Tryz.ntmps61;go_wp2;go_loopw [5,4] (fun i s wr=>∃ k S,k≤ss.length∧i = .int .i64 (k:Nat)∧s = .string S∧S.data.toList.length≤1+k * 20002∧gG ss=cK S.data.toList (ss.drop k)∧Under w0 wr) (fun i _ _=>ss.length - (intOf i).toNat)
 case atStart=>exact⟨0,_,Nat.zero_le _,rfl,rfl,by simp,by rw[HO.out];simp,bA (Under.refl _) _⟩
 case round =>
   obtain⟨k,S,hk,rfl,rfl,hacc,hN,hU⟩:=hrel;have HN:=aA hN;have HU:=aA hU;have HA:=aA hacc;have eS:S.data.toList.length=S.size:=by rw[Array.length_toList];rfl
   have hS:S.size≤10000000:=by omega
   clear hN hU hacc eS;by_cases hlt:k < ss.length
   · have hd := bY hlt S.data.toList; obtain ⟨b, off, rfl, hb, hcs⟩ := HP.out (fun e => by rw [List.map_eq_nil_iff] at e; rw [e] at hlt; simp at hlt); have cc := hcs k (.string ss[k]) (by simp [List.getElem?_eq_getElem hlt]); rw [← fA HU.out hb] at cc; have hb' := Nat.lt_of_lt_of_le hb HU.out.size; have hlt' : (k : Int) < (ss.length : Int) := by omega
     have HD:=aA hd;have HCs:=aA hcs;clear hd hcs;generalize ss[k]=s at *;by_cases hs:20000 < s.size
     · have hs' : (20000 : Int) < (s.size : Int) := by omega
       have HS:=aA hs;clear hs;go_wp2;go_ret2;exact⟨by rw[HN.out,HD.out,if_pos HS.out];rfl,HU.out⟩
     · have hs' : ¬ (20000 : Int) < (s.size : Int) := by omega
       have HS := aA hs; have H2 := aA (fun w => yKA (w0 := w) s.size (by omega)); have HT : RowKit.Hid ((S ++ ⟨(yJ s.size).toArray⟩ ++ s : ByteArray).data.toList = S.data.toList ++ yJ s.size ++ s.data.toList) := aA (by simp [ByteArray.data_append]); have e2 : (yJ s.size).length = 2 := rfl; generalize hT2 : (yJ s.size) = T2 at *; have hlen := lQA (acc := S.data.toList) (k := k) (s := s) HA.out hs; rw [hT2] at hlen; have HL := aA hlen; have z1 : ¬ 9223372036854775807 < S.size + 2 := (by omega); have z2 : ¬ 9223372036854775807 < S.size + 2 + s.size := (by omega); clear hs hlen hT2; go_wp2_with fail; go_region_held3 (fun w' => w'.cell? ⟨b, off + k, none⟩ = some (.string s))
         (first
           | go_keep
           | (rw[fA hU2 hb'];assumption))
         ((go_simp;go_at_call 97;refine(H2.out _).mono ?_;rintro e w2 ⟨rfl,hU2⟩))
       have HU2:=aA ((nA HU.out).trans hU2);go_wp2;go_roundw
       case rel=>exact⟨k+1,_,by omega,by go_num,rfl,by rw[HT.out];exact HL.out,by rw[HN.out,HD.out,if_neg HS.out,HT.out],HU2.out⟩
       case measure=>simp[intOf];omega
   · obtain rfl : k = ss.length := by omega
     have hN2:=HN.out;rw[List.drop_length]at hN2;have HN2:=aA (show gG ss=some S.data.toList from hN2);clear hN2;go_wp2;go_ret2;exact⟨by rw[HN2.out];rfl,HU.out⟩
end
theorem mSA(s:ByteArray)(k:Nat)(h:k < s.size):s.data.toList.drop k=s[k]'h::s.data.toList.drop (k+1):=by
 have h':k < s.data.toList.length:=by rw[Array.length_toList];exact h
 rw[List.drop_eq_getElem_cons h',Array.getElem_toList];rfl
theorem at_len(s:ByteArray)(k:Nat):(s.data.toList.drop k).length=s.size - k:=by
 rw[List.length_drop,Array.length_toList];rfl
theorem lJ(s:ByteArray)(k:Nat)(h:k < s.size):iB 1 (some (s.data.toList.drop k))=(s[k]'h).toNat∧iA 1 (some (s.data.toList.drop k))=some (s.data.toList.drop (k+1)):=by
 rw[mSA s k h];constructor
 · simp[iB,takeB,zZ]
 · simp[iA,takeB]
theorem l2A(s:ByteArray)(k:Nat)(h:k+1 < s.size):iB 2 (some (s.data.toList.drop k))=(s[k]'(by omega)).toNat+256 * (s[k+1]'h).toNat∧iA 2 (some (s.data.toList.drop k))=some (s.data.toList.drop (k+2)):=by
 rw[mSA s k (by omega),mSA s (k+1) h];constructor
 · simp[iB,takeB,zZ]
 · simp[iA,takeB]
theorem jN(s:ByteArray)(k q:Nat)(h:k+q≤s.size):iF q (some (s.data.toList.drop k))=s.extract k (k+q)∧iA q (some (s.data.toList.drop k))=some (s.data.toList.drop (k+q)):=by
 have e:q≤(s.data.toList.drop k).length:=by rw[at_len];omega
 constructor
 · apply ByteArray.ext;apply Array.ext';rw[ByteArray.data_extract,Array.toList_extract,List.extract_eq_take_drop];simp only[iF,takeB,if_pos e];rw[show k+q - k=q by omega]
 · simp only[iA,takeB,if_pos e,List.drop_drop]
theorem uJ(s:ByteArray)(k q:Nat)(h:s.size < k+q)(hk:k≤s.size):iB q (some (s.data.toList.drop k))=0∧iA q (some (s.data.toList.drop k))=none:=by
 have e:¬ q≤(s.data.toList.drop k).length:=by rw[at_len];omega
 constructor<;>simp only[iB,iA,takeB,if_neg e]<;>rfl
theorem left_at(s:ByteArray)(k:Nat)(h:k≤s.size):zF (some (s.data.toList.drop k))=(s.size:Int) - k:=by
 show((s.data.toList.drop k).length:Int)=_
 rw[at_len];omega
theorem xKA(m:Nat)(acc:List ByteArray):xG (bI m none acc)=none:=by
 cases m with
 | zero=>rfl
 | succ m=>show xG (some (acc,none))=none;rfl
theorem b8A(s:ByteArray)(k m:Nat)(acc:List ByteArray)(hk:k≤s.size) :
 (s.size < k+2→xG (bI (m+1) (some (s.data.toList.drop k)) acc)=none) ∧
 (∀ k1, (e1 : k1 = k + 1) → (hkk : k < s.size) → (h : k1 < s.size) → ∀ q, q = (s[k]'hkk).toNat + 256 * (s[k1]'h).toNat → (20000 < q → xG (bI (m + 1) (some (s.data.toList.drop k)) acc) = none) ∧
   (¬ 20000 < q→s.size < k+2+q→xG (bI (m+1) (some (s.data.toList.drop k)) acc)=none) ∧
   (¬ 20000 < q→k+2+q≤s.size→bI (m+1) (some (s.data.toList.drop k)) acc=bI m (some (s.data.toList.drop (k+2+q))) (acc++[s.extract (k+2) (k+2+q)]))):=by
 have hl:¬ zF (some (s.data.toList.drop k)) < 0:=by rw[left_at s k hk];omega
 have hu:bI (m+1) (some (s.data.toList.drop k)) acc=if 20000 < iB 2 (some (s.data.toList.drop k)) then none else bI m (iA (iB 2 (some (s.data.toList.drop k))) (iA 2 (some (s.data.toList.drop k)))) (acc++[iF (iB 2 (some (s.data.toList.drop k))) (iA 2 (some (s.data.toList.drop k)))]):=if_neg hl
 rw[hu];refine⟨fun h=>?_,fun k1 ek hkk h q hq=>?_⟩
 · obtain⟨e1,e2⟩:=uJ s k 2 h hk;rw[e1,e2,if_neg (by decide)];exact xKA _ _
 · subst ek; obtain ⟨e1, e2⟩ := l2A s k h; rw [← hq] at e1; rw [e1, e2]; refine ⟨fun hb => by rw [if_pos hb]; rfl, fun hb h2 => ?_, fun hb h2 => ?_⟩
   · rw[if_neg hb,(uJ s (k+2) q h2 (by omega)).2];exact xKA _ _
   · rw[if_neg hb,(jN s (k+2) q h2).2,(jN s (k+2) q h2).1]
def mDB(w0:World)(PD:Option (List ByteArray))(s:ByteArray)(M:Nat)(v a i:Value)(wr:World):Prop:=∃(k j n:Nat) (acc:List ByteArray),a = .int .i64 (k:Int)∧i = .int .i64 (j:Int)∧k≤s.size∧j+n=M∧acc.length=j∧PD=xG (bI n (some (s.data.toList.drop k)) acc)∧wr.ownsRow w0.heap.size 9 1 v acc.length (acc.map .string)∧Under w0 wr
section
variable {w0 : World}
theorem l8(s:ByteArray)(hs:s.size≤1000000):Calls Tryz.prog 63 #[.string s] w0 (v1A w0 (zC s)):=by
 by_cases hz:s.size=0
 · obtain rfl:=yAA hz;go_enter Tryz.func63,Tryz.ntmps63;go_wp2;go_ret2;rw[show zC ⟨#[]⟩=none from if_pos (by first | rfl | decide | kernel_rfl)];exact⟨Under.refl _,rfl⟩
 · have he := (yG hz).1; have hs0 : 0 < s.size := by omega
   have hd0:iB 1 (some s.data.toList)=(s[0]'hs0).toNat∧iA 1 (some s.data.toList)=some (s.data.toList.drop 1):=lJ s 0 hs0;have HD:RowKit.Hid (zC s=xG (bI (s[0]'hs0).toNat (some (s.data.toList.drop 1)) [])):=aA (by rw[← hd0.1,← hd0.2];exact if_neg he);obtain⟨i0,hi,hz0,hz1,hz2⟩:=info_parts Tryz.infoStrK;generalize zC s=PD at *;have hlt0:¬(s.size:Int) < 1:=by omega
   have hlt1:(0:Int) < (s.size:Int):=by omega
   have hm:=(s[0]'hs0).toNat_lt;clear hd0 he;go_enter Tryz.func63,Tryz.ntmps63;go_wp2;go_loopw [4,5,6] (fun v a i wr=>mDB w0 PD s (s[0]'hs0).toNat v a i wr) (fun _ _ i _=>256 - (intOf i).toNat)
   case atStart=>exact⟨1,0,_,[],rfl,rfl,by omega,by omega,rfl,HD.out,uR w0 _ _ _ (Nat.le_refl _),bA (Under.refl _) _⟩
   case round =>
     obtain⟨k,j,n,acc,rfl,rfl,hk,hjn,hal,hpd,hrow,hU⟩:=hrel;have HRow:=aA hrow;have HU:=aA hU;have HPd:=aA hpd;have hk0:(0:Int)≤(k:Int):=by omega
     have hj0:(0:Int)≤(j:Int):=by omega
     have hk9:(k:Int)≤(s.size:Int):=by omega
     have hs9:(s.size:Int)≤1000000:=by omega
     have HAl:=aA hal;clear hrow hU hpd hal
     cases n with
     | zero =>
       have hjm:¬(j:Int) < (s[0]'hs0).toNat:=by omega
       have HPE:=aA (show PD=if zF (some (s.data.toList.drop k))≠0 then none else some acc from HPd.out);by_cases hks:k=s.size
       · have HPF := aA (show PD = some acc by rw [HPE.out, left_at s k hk, if_neg (by omega)]); have hks' : (k : Int) = (s.size : Int) := by omega
         subst hks;go_wp2;go_ret2;rw[HPF.out];exact⟨HU.out,_,rfl,HRow.out⟩
       · have HPF := aA (show PD = none by rw [HPE.out, left_at s k hk, if_pos (by omega)]); have hks' : ((k : Int) != (s.size : Int)) = true := by simp; omega
         go_wp2;go_ret2;rw[HPF.out];exact⟨HU.out,rfl⟩
     | succ n =>
       have hjm:(j:Int) < (s[0]'hs0).toNat:=by omega
       obtain⟨g1,g2⟩:=b8A s k n acc hk;have HG1:=aA g1;have HG2:=aA g2;clear g1 g2;obtain⟨k1,ek⟩:∃ k1,k1=k+1:=⟨_,rfl⟩;have EK:=aA ek;have hki:(k:Int)+1=(k1:Int):=by omega
       have hk10:(0:Int)≤(k1:Int):=by omega
       by_cases h2:k1 < s.size
       · have hkk : k < s.size := by have := EK.out; omega
         have h2':¬(s.size:Int) < (k:Int)+2:=by omega
         obtain⟨r1,r2,r3⟩:=HG2.out k1 ek hkk h2 _ rfl;have hq9:(s[k]'hkk).toNat+256 * (s[k1]'h2).toNat < 65536:=by have:=(s[k]'hkk).toNat_lt;have:=(s[k1]'h2).toNat_lt;omega
         have hlk:(k:Int) < (s.size:Int):=by omega
         have hlk1:(k1:Int) < (s.size:Int):=by omega
         generalize hq:(s[k]'hkk).toNat+256 * (s[k1]'h2).toNat=q at *;have hq':(((s[k]'hkk).toNat:Int)+256 * ((s[k1]'h2).toNat:Int))=(q:Int):=by omega
         have R1:=aA r1;have R2:=aA r2;have R3:=aA r3;have HQ:=aA hq;have hq0:(0:Int)≤(q:Int):=by omega
         have hq99:(q:Int) < 65536:=by omega
         clear r1 r2 r3 hq ek;have hw1:IntKind.i64.wrap (k1:Int)=(k1:Int):=by rw[IntKind.wrap_i64];omega
         have hw2:∀ c:UInt8,IntKind.i64.wrap (c.toNat:Int)=(c.toNat:Int):=fun c=>by have:=c.toNat_lt;rw[IntKind.wrap_i64];omega
         have hw3:∀ c:UInt8,IntKind.i64.wrap (256 * (c.toNat:Int))=256 * (c.toNat:Int):=fun c=>by have:=c.toNat_lt;rw[IntKind.wrap_i64];omega
         have hw4:IntKind.i64.wrap (q:Int)=(q:Int):=by rw[IntKind.wrap_i64];omega
         go_wp2_with fail;go_quiet (fail);have HU3:=aA (bB HU.out nq);have HRow3:=aA (uA HRow.out (bB (Under.refl _) nq));generalize wr.drewN nq=w3 at *;clear HU HRow;have HU:=HU3;have HRow:=HRow3;clear HU3 HRow3;by_cases hb:20000 < q
         · have hb' : (20000 : Int) < (q : Int) := by omega
           have HPE:=aA (show PD=none by rw[HPd.out,R1.out hb]);go_wp2;go_ret2;rw[HPE.out];exact⟨HU.out,rfl⟩
         · have hb' : ¬ (20000 : Int) < (q : Int) := by omega
           by_cases hl:s.size < k+2+q
           · have hl' : (s.size : Int) < (k : Int) + 2 + (q : Int) := by omega
             have HPE:=aA (show PD=none by rw[HPd.out,R2.out hb hl]);go_wp2;go_ret2;rw[HPE.out];exact⟨HU.out,rfl⟩
           · have hl' : ¬ (s.size : Int) < (k : Int) + 2 + (q : Int) := by omega
             have HPE:=aA (show PD=xG (bI n (some (s.data.toList.drop (k+2+q))) (acc++[s.extract (k+2) (k+2+q)])) by rw[HPd.out,R3.out hb (by omega)]);obtain⟨k2,ek2⟩:∃ k2,k2=k+2:=⟨_,rfl⟩;obtain⟨k3,ek3⟩:∃ k3,k3=k2+q:=⟨_,rfl⟩;rw[← ek2,← ek3]at HPE;have hi2:(k:Int)+2=(k2:Int):=by omega
             have hi3:(k2:Int)+(q:Int)=(k3:Int):=by omega
             have hk2:(0:Int)≤(k2:Int):=by omega
             have hk23:(k2:Int)≤(k3:Int):=by omega
             have hk3:(k3:Int)≤(s.size:Int):=by omega
             have hk3n:k3≤s.size:=by omega
             have HW2:=aA ek2;have HW3:=aA ek3;have hk3l:¬(s.size:Int) < (k3:Int):=by omega
             have hk2w:(k2:Int)≤1000000:=by omega
             have hk3w:(k3:Int)≤1000000:=by omega
             clear ek2 ek3 hl' h2' hki hw1 hw2 hw3 hw4 hq';have hal:acc.length≤255:=by have:=HAl.out;omega
             have hmx:acc.length+1≤maxLen:=by simp only[maxLen];omega
             have hby:(acc.length+1) * 16≤140737488355328:=by omega
             go_wp2_with (at_builtin;refine wpList_append_own_at _ rfl _ _ 50 rfl w0.heap.size 9 i0 _ 1 16 Tryz.underlying50 hi hz0 hz1 hz2 rfl (by decide) _ _ _ rfl (uA HRow.out (bA (Under.refl _) _)) ⟨w3.heap.size,0,none⟩ 1 1 [.string (s.extract k2 k3)] rfl rfl ?c1 ?c2 hmx hby ?c5 ?_)
             try case c1=>exact tH (by simp) _ _
             case c2=>first | rfl | exact⟨rfl,trivial⟩ | (intro u hu;simp at hu;subst hu;rfl)
             case c5=>have:=HU.out.size;first | omega | (simp;omega)
             intro v' w' hown hgrow hnil hat;have HU2:=aA (xA (bA HU.out _) hgrow fun g e=>(jB HRow.out e).1);have HO':=aA (show w'.ownsRow w0.heap.size 9 1 v' (acc++[s.extract k2 k3]).length ((acc++[s.extract k2 k3]).map .string) by rw[List.map_append,List.length_append];exact hown);clear hown hgrow hnil hat;go_wp2;go_roundw
             case rel=>exact⟨k3,j+1,n,_,by go_num,by go_num,by omega,by omega,by have:=HAl.out;simp;omega,HPE.out,HO'.out,HU2.out⟩
             case measure=>simp[intOf];omega
       · have h2' : (s.size : Int) < (k : Int) + 2 := by omega
         have HPE:=aA (show PD=none by rw[HPd.out,HG1.out (by omega)]);clear ek hki;go_wp2;go_ret2;rw[HPE.out];exact⟨HU.out,rfl⟩
end
end Go.Proofs.YtggjbblgoddnjaaGreatDoor
