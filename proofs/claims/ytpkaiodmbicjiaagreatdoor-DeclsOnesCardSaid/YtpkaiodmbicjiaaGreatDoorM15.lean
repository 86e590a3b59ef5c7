/- Part 15 of what the proof rests on. -/
import Derived.Deep.QuietTactic
import Derived.Deep.AppendLies
import Derived.Deep.RegionHeld3
import Derived.Laws.ResultCell
import Derived.Test.YtpkaiodmbicjiaaGreatDoorM00
import Derived.Test.YtpkaiodmbicjiaaGreatDoorM04
import Derived.Test.YtpkaiodmbicjiaaGreatDoorM05
import Derived.Test.YtpkaiodmbicjiaaGreatDoorM06
import Derived.Test.YtpkaiodmbicjiaaGreatDoorM08
import Derived.Test.YtpkaiodmbicjiaaGreatDoorM09
import Derived.Test.YtpkaiodmbicjiaaGreatDoorM11
import Derived.Test.YtpkaiodmbicjiaaGreatDoorM12
import Derived.Test.YtpkaiodmbicjiaaGreatDoorM14
set_option linter.unusedSimpArgs false
set_option linter.unusedVariables false
set_option maxRecDepth 100000
set_option maxHeartbeats 16000000
namespace Go.Proofs.YtpkaiodmbicjiaaGreatDoor
open Go.Proofs.Tryz
open Go.Conc Go.Lx Go.RowKit
theorem sJ{w0:World}{cap:Nat}(row:List Sx){p:Option Addr}(hn:row.length<=1000000)(hcap:row.length<=cap)(hp:SxArg w0 p row) :
 Calls prog 17 #[.slice p row.length cap] w0 λe w1=>∃ q c,e = .returned (.tuple #[.slice q ((qC row).getD []).length c,.bool (qC row).isSome])/\RowsArg w1 q ((qC row).getD [])/\Under w0 w1:=by
 refine(qN row hn hcap hp).mono ?_;rintro e w' ⟨hU,h⟩
 cases hR:qC row with
 | none=>rw[hR]at h;exact⟨none,0,h,λh=>absurd rfl h,hU⟩
 | some ls =>
   rw[hR]at h;obtain⟨g,c,vs,rfl,h1,h2⟩:=h;refine⟨_,_,rfl,λhne=>⟨g,0,rfl,(xB h1 rfl).2,λi l hi=>?_⟩,hU⟩;obtain⟨q,c',h3,h4,h5⟩:=h2.at hi;rw[Nat.zero_add];exact⟨q,c',rD h1 rfl h3,h4,h5.under hU⟩
def vJA(w0:World)(R:Option (List (List Sx)))(e:Ending)(w1:World):Prop:=∃ q c,e = .returned (.tuple #[.slice q (R.getD []).length c,.bool R.isSome])/\RowsArg w1 q (R.getD [])/\Under w0 w1
section
variable {w0 : World} {b off cap : Nat}
theorem oGA(init:List Sx)(x:Sx)(hn:init.length+1<=1000000)(hcap:init.length+1<=cap)(hb0:b < w0.heap.size)(ht:wDA w0 b off (init++[x])) :
 Calls prog 36 #[.slice (some ⟨b,off,none⟩) (init.length+1) cap] w0 (vJA w0 (yG (init++[x]))):=by
 have hl:(init++[x]).length=init.length+1:=by simp
 have C1:=sJ (w0:=w0) (cap:=cap) (p:=some ⟨b,off,none⟩) (init++[x]) (by omega) (by omega) (λ_=>⟨b,off,rfl,hb0,ht⟩);rw[hl]at C1;have C1:=aA C1;have C2:=aA (λw1 (hU1:Under w0 w1)=>sJ (w0:=w1) (cap:=cap) (p:=some ⟨b,off,none⟩) init (by omega) (by omega) (SxArg.under (a:=w0) (λ_=>⟨b,off,rfl,hb0,λk y hk=>ht k y (by rw[List.getElem?_append_left (Qo.1 hk).1];exact hk)⟩) hU1));have c2:=(ht init.length x (by simp)).2.2;have N0:qC (init++[x])=none->yG (init++[x])=none:=by
  intro h;unfold qC at h;rw[aH]
  cases hb:jC (init++[x]) 0 [] with
  | none=>rfl
  | some st=>rw[hb]at h;cases h
 have N1:∀ ls,qC (init++[x])=some ls->ls.length≠1->yG (init++[x])=none:=by
  intro ls h hs;unfold qC at h;rw[aH]
  cases hb:jC (init++[x]) 0 [] with
  | none=>rfl
  | some st =>
    rw[hb]at h;cases h;rw[xO]at hs
    match st,hs with
    | [],_=>rfl
    | [_],h=>exact absurd rfl h
    | _::_::_,_=>rfl
 have N2:∀ ls,qC (init++[x])=some ls->ls.length=1->yG (init++[x])=if x.word.size=0 then qC init else none:=by
  intro ls h hs;unfold qC at h;rw[aH]
  cases hb:jC (init++[x]) 0 [] with
  | none=>rw[hb]at h;cases h
  | some st =>
    rw[hb]at h;cases h;rw[xO]at hs
    match st,hs with
    | [_],_=>rfl
 have N0:=aA N0;have N1:=aA N1;have N2:=aA N2;clear ht hl;generalize yG (init++[x])=PR at *;generalize qC (init++[x])=R at *;have a1:(init.length:Int)<=cap:=by omega
 have a2:(init.length:Int) < (init.length:Int)+1:=by omega
 have a3:(0:Int)<=init.length:=by omega
 have a4:(init.length:Int)+1<=1000000:=by omega
 obtain⟨xm,xp,xw⟩:=x;simp only at c2 N2;go_enter func36,ntmps36;go_wp2_with fail;refine C1.out.mono ?_;rintro e w1 ⟨q,c,rfl,hr,hU1⟩;rw[<- iA hU1 hb0]at c2;clear hr
 cases R with
 | none =>
   simp only[Option.getD_none,Option.isSome_none];have HU1:=aA hU1;have N0':=aA (N0.out rfl);clear hU1 N0 N1 N2;go_wp2;go_ret2
   try rw[N0'.out]
   exact⟨none,0,rfl,λh=>absurd rfl h,HU1.out⟩
 | some ls =>
   simp only[Qf,Option.isSome_some];have HU1:=aA hU1;clear hU1;by_cases hs:ls.length=1
   . have N2':=aA (N2.out ls rfl hs);clear N0 N1 N2 C1;rw[hs];clear hs;by_cases hB:xw.size=0
     . have e0:xw=⟨#[]⟩:=ByteArray.ext (Array.eq_empty_of_size_eq_zero hB);subst e0;clear hB;go_wp2_with fail;refine(C2.out w1 HU1.out).mono ?_;rintro e w2 ⟨q2,c2',rfl,hr2,hU2⟩;have hPR:=N2'.out;simp only[show(⟨#[]⟩:ByteArray).size=0 from rfl,if_true]at hPR;subst hPR;generalize qC init=R2 at *;have HU2:=aA hU2;have HR2:=aA hr2;clear hU2 hr2 N2' C2;go_wp2;go_ret2;exact⟨q2,c2',rfl,HR2.out,HU1.out.trans HU2.out⟩
     . obtain⟨e1,e2⟩:=nJ hB;have hPR:=N2'.out;rw[if_neg hB]at hPR;subst hPR;clear hB N2';go_wp2;go_ret2;exact⟨none,0,rfl,λh=>absurd rfl h,HU1.out⟩
   . have e1:((ls.length:Int) != 1)=true:=by simp;omega
     have N1':=aA (N1.out ls rfl hs);clear N0 N1 N2 C1 C2 hs;go_wp2;go_ret2
     try rw[N1'.out]
     exact⟨none,0,rfl,λh=>absurd rfl h,HU1.out⟩
theorem kJA{p:Option Addr}:Calls prog 36 #[.slice p 0 cap] w0 (vJA w0 none):=by
 have C1:=aA (sJ (w0:=w0) (cap:=cap) (p:=p) [] (by simp) (by simp) (λh=>absurd rfl h));go_enter func36,ntmps36;go_wp2_with fail;refine C1.out.mono ?_;rintro e w1 ⟨q,c,rfl,_,hU1⟩;have HU1:=aA hU1;clear hU1;have e0:qC []=some []:=rfl;rw[e0];simp only[Qf,Option.isSome_some,List.length_nil];clear e0;go_wp2;go_ret2;exact⟨none,0,rfl,λh=>absurd rfl h,HU1.out⟩
theorem qZ(row:List Sx){p:Option Addr}(hn:row.length<=1000000)(hcap:row.length<=cap)(hp:SxArg w0 p row) :
 Calls prog 36 #[.slice p row.length cap] w0 (vJA w0 (yG row)):=by
 by_cases hne:row=[]
 . subst hne;exact kJA
 obtain⟨init,x,rfl⟩:∃ init x,row=init++[x]:=⟨row.dropLast,row.getLast hne,(List.dropLast_concat_getLast hne).symm⟩;obtain⟨b,off,rfl,hb0,ht⟩:=hp hne;rw[Qc]at hn hcap ⊢;exact oGA init x hn hcap hb0 ht
end
end Go.Proofs.YtpkaiodmbicjiaaGreatDoor
namespace Go.Proofs.YtpkaiodmbicjiaaGreatDoor
open Go.Proofs.Tryz
open Go.Lx Go.RowKit
theorem BOut.empty{w0 w:World}{b:Bool}(a:Nat)(h:Under w0 w):BOut w0 [] b (.returned (.tuple #[.slice (some ⟨a,0,none⟩) 0 0,.bool b])) w:=⟨_,_,rfl,Qd _,RowArg.nil,h⟩
section
variable {w0 : World}
theorem j5A(k n m:Int)(s:ByteArray)(h:k=10∨k=11∨k=14∨k=16∨k=17∨k=29):Calls prog 92 #[ndV ⟨k,n,m,s⟩] w0 (BOut w0 [] (uR ⟨k,n,m,s⟩)):=by
 have HPl:=aA (λw=>hIA (w0:=w) ⟨k,n,m,s⟩);generalize uR ⟨k,n,m,s⟩=pb at *;unfold ndV at *;simp only at HPl ⊢;rcases h with rfl|rfl|rfl|rfl|rfl|rfl
 all_goals
  go_enter func92,ntmps92;go_wp2_with fail;refine(HPl.out _).mono ?_;rintro e w3 ⟨rfl,rfl⟩;go_wp2;go_ret2;exact BOut.empty _ (bA (bA (bA (Qu _) _) _) _)
theorem g4A(k n m:Int)(s:ByteArray)(h:k=1∨k=25):Calls prog 92 #[ndV ⟨k,n,m,s⟩] w0 (BOut w0 [] ((n==0)&&(m==0)&&fD s)):=by
 have HNm:=aA (λw=>lJ (w0:=w) s);generalize fD s=nb at *;unfold ndV;rcases h with rfl|rfl<;>cases h1:(n==0)<;>cases h2:(m==0)
 all_goals
  go_enter func92,ntmps92
  first
   | (go_wp2_with fail
      refine(HNm.out _).mono ?_;rintro e w3 ⟨rfl,rfl⟩;go_wp2;go_ret2;exact BOut.empty _ (bA (bA (Qu _) _) _))
   | (go_wp2
      go_ret2;exact BOut.empty _ (bA (bA (Qu _) _) _))
end
section
variable {w0 : World}
theorem d2A(n m:Int)(s:ByteArray)(h:fD s=false∨n < 0∨6<=n∨m < 0∨6 < m):Calls prog 92 #[ndV ⟨26,n,m,s⟩] w0 (BOut w0 [] false):=by
 have HNm:=aA (λw=>lJ (w0:=w) s);unfold ndV;generalize fD s=nb at *
 cases nb
 . clear h;go_enter func92,ntmps92;go_wp2_with fail;refine(HNm.out _).mono ?_;rintro e w3 ⟨rfl,rfl⟩;go_wp2;go_ret2;exact BOut.empty _ (bA (bA (Qu _) _) _)
 . by_cases h1 : n < 0
   . clear h;go_enter func92,ntmps92;go_wp2_with fail;refine(HNm.out _).mono ?_;rintro e w3 ⟨rfl,rfl⟩;go_wp2;go_ret2;exact BOut.empty _ (bA (bA (Qu _) _) _)
   . by_cases h2 : 6 <= n
     . clear h;go_enter func92,ntmps92;go_wp2_with fail;refine(HNm.out _).mono ?_;rintro e w3 ⟨rfl,rfl⟩;go_wp2;go_ret2;exact BOut.empty _ (bA (bA (Qu _) _) _)
     . by_cases h3 : m < 0
       . clear h;go_enter func92,ntmps92;go_wp2_with fail;refine(HNm.out _).mono ?_;rintro e w3 ⟨rfl,rfl⟩;go_wp2;go_ret2;exact BOut.empty _ (bA (bA (Qu _) _) _)
       . have h4:6 < m:=by simp at h;omega
         clear h;go_enter func92,ntmps92;go_wp2_with fail;refine(HNm.out _).mono ?_;rintro e w3 ⟨rfl,rfl⟩;go_wp2;go_ret2;exact BOut.empty _ (bA (bA (Qu _) _) _)
theorem iUA(n:Int)(m:Nat)(s:ByteArray)(hs:fD s=true)(h1:0<=n)(h2:n < 6)(h3:m<=6):Calls prog 92 #[ndV ⟨26,n,m,s⟩] w0 (BOut w0 (List.replicate m 0) true):=by
 have HNm:=aA (λw=>lJ (w0:=w) s);rw[hs]at HNm;obtain⟨i0,hi,hz0,hz1,hz2⟩:=info_parts Tryz.infoInt;unfold ndV;have m0:(0:Int)<=m:=Int.natCast_nonneg _;have m6:(m:Int)<=6:=by omega
 clear hs;go_enter func92,ntmps92;go_wp2_with fail;refine(HNm.out _).mono ?_;rintro e w3 ⟨rfl,rfl⟩;obtain⟨W1,hW1⟩:∃ W,W=(w0.alloc (.cells #[.int .i64 26,.int .i64 n,.int .i64 m,.string s] 96)).alloc (.cells #[] 3):=⟨_,rfl⟩;have c1:W1.cell? ⟨w0.heap.size,1,none⟩=some (.int .i64 n):=by rw[hW1];exact((zA w0 _ _).alloc _).cell 1
 have c2:W1.cell? ⟨w0.heap.size,2,none⟩=some (.int .i64 m):=by rw[hW1];exact((zA w0 _ _).alloc _).cell 2
 have hsz:w0.heap.size < W1.heap.size:=by rw[hW1];simp;omega
 have HU:=aA (show Under w0 W1 by rw[hW1];exact bA (bA (Qu _) _) _);rw[<- hW1];clear hW1;go_wp2_with (at_make;refine wpList_make_full _ rfl _ _ _ rfl w0.heap.size 3 i0 _ 1 underlying66 hi hz0 hz1 .i64 .i64 _ _ m rfl rfl rfl rfl ?c1 ?c2 ?c3 ?_)
 case c1=>rw[hz2];omega
 case c2=>simp only[maxLen];omega
 case c3=>omega
 intro w2 hown hgrow;have HO:=aA hown;have HU2:=aA (eB HU.out hgrow λg e=>by cases e);clear hown hgrow;go_wp2;go_ret2;have hcs:(madeCells #[Value.int .i64 0] m).toList=jN (List.replicate m 0):=by
  apply List.ext_getElem
  . simp[jN,madeCells]
  . intro j h1 h2;simp[jN,madeCells,Nat.mod_one]
 obtain⟨q,c,hv,hc,hr⟩:=RowArg.of_own HO.out
 cases hv;exact⟨_,_,by rw[List.length_replicate];rfl,by rw[List.length_replicate];exact hc,by rw[<- hcs];exact hr,HU2.out⟩
theorem l6A(k n m:Int)(s:ByteArray)(h:k < 0∨29 < k):Calls prog 92 #[ndV ⟨k,n,m,s⟩] w0 (BOut w0 [] false):=by
 unfold ndV;have e:∀ j:Int,0<=j->j<=29->(k==j)=false:=λj h1 h2=>by simp;omega
 have e0:=e 0 (by decide) (by decide);have e1:=e 1 (by decide) (by decide);have e2:=e 2 (by decide) (by decide);have e3:=e 3 (by decide) (by decide);have e4:=e 4 (by decide) (by decide);have e5:=e 5 (by decide) (by decide);have e6:=e 6 (by decide) (by decide);have e7:=e 7 (by decide) (by decide);have e8:=e 8 (by decide) (by decide);have e9:=e 9 (by decide) (by decide);have e10:=e 10 (by decide) (by decide);have e11:=e 11 (by decide) (by decide);have e12:=e 12 (by decide) (by decide);have e13:=e 13 (by decide) (by decide);have e14:=e 14 (by decide) (by decide);have e15:=e 15 (by decide) (by decide);have e16:=e 16 (by decide) (by decide);have e17:=e 17 (by decide) (by decide);have e18:=e 18 (by decide) (by decide);have e19:=e 19 (by decide) (by decide);have e20:=e 20 (by decide) (by decide);have e21:=e 21 (by decide) (by decide);have e22:=e 22 (by decide) (by decide);have e23:=e 23 (by decide) (by decide);have e24:=e 24 (by decide) (by decide);have e25:=e 25 (by decide) (by decide);have e26:=e 26 (by decide) (by decide);have e27:=e 27 (by decide) (by decide);have e28:=e 28 (by decide) (by decide);have e29:=e 29 (by decide) (by decide);clear e h;go_enter func92,ntmps92;go_wp2;go_ret2;exact BOut.empty _ (bA (bA (Qu _) _) _)
end
def vZA(n m:Int)(s:ByteArray):Bool:=((decide (0<=n)&&decide (n<=99))&&(m==0))&&s.toList.isEmpty
section
variable {w0 : World}
theorem kDB(n m:Int)(s:ByteArray):Calls prog 92 #[ndV ⟨0,n,m,s⟩] w0 (BOut w0 [] (vZA n m s)):=by
 have HO:RowKit.Hid (vZA n m s=(((decide (0<=n)&&decide (n<=99))&&(m==0))&&s.toList.isEmpty)):=aA rfl;generalize vZA n m s=vb at *;unfold ndV;by_cases h1:0<=n
 . by_cases h2 : n <= 99
   . cases h3:(m==0)
     . have HO:RowKit.Hid (vb=false):=aA (by rw[HO.out,h3];simp);go_enter func92,ntmps92;go_wp2_with fail;go_quiet (fail);go_wp2;go_ret2;rw[HO.out];exact BOut.empty _ (iB (bA (bA (Qu _) _) _) _)
     . cases h4:s.toList.isEmpty
       . have HO:RowKit.Hid (vb=false):=aA (by rw[HO.out,h4];simp);go_enter func92,ntmps92;go_wp2_with fail;go_quiet (fail);go_wp2;go_ret2;rw[HO.out];exact BOut.empty _ (iB (bA (bA (Qu _) _) _) _)
       . have HO:RowKit.Hid (vb=true):=aA (by rw[HO.out,h3,h4];simp[h1,h2]);go_enter func92,ntmps92;go_wp2_with fail;go_quiet (fail);go_wp2;go_ret2;rw[HO.out];exact BOut.empty _ (iB (bA (bA (Qu _) _) _) _)
   . have HO:RowKit.Hid (vb=false):=aA (by rw[HO.out];simp[h2]);go_enter func92,ntmps92;go_wp2_with fail;have hb:(n<=99)=False:=eq_false (by omega);go_quiet (fail);go_wp2;go_ret2;rw[HO.out];exact BOut.empty _ (iB (bA (bA (Qu _) _) _) _)
 . have HO:RowKit.Hid (vb=false):=aA (by rw[HO.out];simp[h1]);go_enter func92,ntmps92;go_wp2_with fail;have hb:(0<=n)=False:=eq_false (by omega);go_quiet (fail);go_wp2;go_ret2;rw[HO.out];exact BOut.empty _ (iB (bA (bA (Qu _) _) _) _)
theorem oDB(n m:Int)(s:ByteArray):Calls prog 92 #[ndV ⟨2,n,m,s⟩] w0 (BOut w0 [] ((rBA n&&(m==0))&&s.toList.isEmpty)):=by
 have HO:RowKit.Hid (((rBA n&&(m==0))&&s.toList.isEmpty)=((rBA n&&(m==0))&&s.toList.isEmpty)):=aA rfl;have HC:=aA (λw=>pLA (w0:=w) n);generalize hvb:((rBA n&&(m==0))&&s.toList.isEmpty)=vb at HO ⊢;have HV:=aA hvb;clear hvb HO;unfold ndV;generalize rBA n=lb at *
 cases lb
 . have HO:RowKit.Hid (vb=false):=aA (by rw[<- HV.out];simp);rw[if_neg (by decide)]at HC;go_enter func92,ntmps92;go_wp2_with fail;go_quiet (first|(go_at_call 107;exact Calls.quiet_of_same (HC.out _)));go_wp2;go_ret2;rw[HO.out];exact BOut.empty _ (iB (bA (bA (Qu _) _) _) _)
 . rw[if_pos rfl]at HC
   cases h3:(m==0)
   . have HO:RowKit.Hid (vb=false):=aA (by rw[<- HV.out,h3];simp);go_enter func92,ntmps92;go_wp2_with fail;go_quiet (first|(go_at_call 107;exact Calls.quiet_of_same (HC.out _)));go_wp2;go_ret2;rw[HO.out];exact BOut.empty _ (iB (bA (bA (Qu _) _) _) _)
   . cases h4:s.toList.isEmpty
     . have HO:RowKit.Hid (vb=false):=aA (by rw[<- HV.out,h4];simp);go_enter func92,ntmps92;go_wp2_with fail;go_quiet (first|(go_at_call 107;exact Calls.quiet_of_same (HC.out _)));go_wp2;go_ret2;rw[HO.out];exact BOut.empty _ (iB (bA (bA (Qu _) _) _) _)
     . have HO:RowKit.Hid (vb=true):=aA (by rw[<- HV.out,h3,h4];rfl);go_enter func92,ntmps92;go_wp2_with fail;go_quiet (first|(go_at_call 107;exact Calls.quiet_of_same (HC.out _)));go_wp2;go_ret2;rw[HO.out];exact BOut.empty _ (iB (bA (bA (Qu _) _) _) _)
end
def piB(n m:Int)(s:ByteArray):Bool:=((decide (0<=n)&&decide (n<=3))&&(m==0))&&s.toList.isEmpty
section
variable {w0 : World}
theorem hCB(k n m:Int)(s:ByteArray)(h:k=3∨k=6):Calls prog 92 #[ndV ⟨k,n,m,s⟩] w0 (BOut w0 [0,1] (piB n m s)):=by
 obtain⟨i0,hi,hz0,hz1,hz2⟩:=info_parts Tryz.infoInt;obtain⟨x,Hx⟩:∃ x,RowKit.Hid (x=k):=⟨k,aA rfl⟩;obtain⟨B,hB⟩:∃ B,piB n m s=B:=⟨_,rfl⟩;have hC:((0<=n)=False/\B=false)∨((0<=n)/\(n<=3)=False/\B=false)∨((0<=n)/\(n<=3)/\(m==0)=false/\B=false)∨((0<=n)/\(n<=3)/\(m==0)=true/\s.toList.isEmpty=false/\B=false)∨((0<=n)/\(n<=3)/\(m==0)=true/\s.toList.isEmpty=true/\B=true):=by
  subst hB;unfold piB;by_cases h1:0<=n<;>by_cases h2:n<=3<;>cases h3:(m==0)<;>cases h4:s.toList.isEmpty<;>simp[h1,h2]
 rw[hB];clear hB;unfold ndV at *;simp only;obtain⟨WN,HW⟩:∃ WN,RowKit.Hid (WN=w0.alloc (.cells #[.int .i64 x,.int .i64 n,.int .i64 m,.string s] 96)):=⟨_,aA rfl⟩;obtain⟨hs,HBx,HU⟩:WN.heap.size=w0.heap.size+1/\RowKit.Hid (BoxAt (WN.alloc (.cells #[] 3)) w0.heap.size 96 #[.int .i64 x,.int .i64 n,.int .i64 m,.string s])/\RowKit.Hid (Under w0 (WN.alloc (.cells #[] 3))):=by
  rw[HW.out];exact⟨by simp,(zA w0 _ _).alloc _,bA (bA (Qu _) _) _⟩
 have HR:=aA (hs▸vO WN (w0.heap.size+1) 3 1 (by omega));rcases h with rfl|rfl<;>rcases hC with⟨h1,rfl⟩|⟨h1,h2,rfl⟩|⟨h1,h2,h3,rfl⟩|⟨h1,h2,h3,h4,rfl⟩|⟨h1,h2,h3,h4,rfl⟩
 all_goals
  go_enter func92,ntmps92;go_wp2_with fail;rw[Hx.out]at HW;rw[<- HW.out];have Hs:=aA hs;clear hs Hx HW;generalize WN.alloc (.cells #[] 3)=W1 at *;have c0:=HBx.out.cell 0;have c1:=HBx.out.cell 1;have c2:=HBx.out.cell 2;have c3:=HBx.out.cell 3;refine wp_region_noPanic ?_;refine wp_region_held_drew (S:=(λw'=>w'.cell? ⟨w0.heap.size,0,none⟩=some (.int .i64 x)/\w'.cell? ⟨w0.heap.size,1,none⟩=some (.int .i64 n)/\w'.cell? ⟨w0.heap.size,2,none⟩=some (.int .i64 m)/\w'.cell? ⟨w0.heap.size,3,none⟩=some (.string s))) (by kernel_rfl) ⟨c0,c1,c2,c3⟩ (λhHeld=>?_)
  repeat (
    first
    | (first
        | refine lD 0 (v:=?_) rfl (by decide +kernel) (λ_ _ _ h=>h) ?_ (by assumption) ?_|refine lD 3 (v:=?_) rfl (by decide +kernel) (λ_ _ _ h=>h) ?_ (by assumption) ?_|refine lD 4 (v:=?_) rfl (by decide +kernel) (λ_ _ _ h=>h) ?_ (by assumption) ?_|refine lD 5 (v:=?_) rfl (by decide +kernel) (λ_ _ _ h=>h) ?_ (by assumption) ?_|refine lD 6 (v:=?_) rfl (by decide +kernel) (λ_ _ _ h=>h) ?_ (by assumption) ?_|refine lD 7 (v:=?_) rfl (by decide +kernel) (λ_ _ _ h=>h) ?_ (by assumption) ?_|refine lD 8 (v:=?_) rfl (by decide +kernel) (λ_ _ _ h=>h) ?_ (by assumption) ?_|refine lD 9 (v:=?_) rfl (by decide +kernel) (λ_ _ _ h=>h) ?_ (by assumption) ?_|refine lD 10 (v:=?_) rfl (by decide +kernel) (λ_ _ _ h=>h) ?_ (by assumption) ?_|refine lD 11 (v:=?_) rfl (by decide +kernel) (λ_ _ _ h=>h) ?_ (by assumption) ?_|refine lD 12 (v:=?_) rfl (by decide +kernel) (λ_ _ _ h=>h) ?_ (by assumption) ?_|refine lD 13 (v:=?_) rfl (by decide +kernel) (λ_ _ _ h=>h) ?_ (by assumption) ?_|refine lD 14 (v:=?_) rfl (by decide +kernel) (λ_ _ _ h=>h) ?_ (by assumption) ?_|refine lD 15 (v:=?_) rfl (by decide +kernel) (λ_ _ _ h=>h) ?_ (by assumption) ?_|refine lD 16 (v:=?_) rfl (by decide +kernel) (λ_ _ _ h=>h) ?_ (by assumption) ?_|refine lD 17 (v:=?_) rfl (by decide +kernel) (λ_ _ _ h=>h) ?_ (by assumption) ?_|refine lD 18 (v:=?_) rfl (by decide +kernel) (λ_ _ _ h=>h) ?_ (by assumption) ?_|refine lD 19 (v:=?_) rfl (by decide +kernel) (λ_ _ _ h=>h) ?_ (by assumption) ?_|refine lD 20 (v:=?_) rfl (by decide +kernel) (λ_ _ _ h=>h) ?_ (by assumption) ?_|refine lD 21 (v:=?_) rfl (by decide +kernel) (λ_ _ _ h=>h) ?_ (by assumption) ?_|refine lD 22 (v:=?_) rfl (by decide +kernel) (λ_ _ _ h=>h) ?_ (by assumption) ?_
       rotate_left
       (first|(refine Or.inl ⟨by rfl,?_⟩;intro w hSw;(try dsimp only at hSw);go_simp;with_reducible rfl)|(refine Or.inr ⟨by rfl,?_⟩;with_reducible rfl)))
    | (refine wpAnyH_ready (rs := [1]) (by decide +kernel) (by simp) (AllReadyH.cons rfl (λK hK => ?_) AllReadyH.nil)
       go_simp;refine hK.out _ _ ⟨(HBx.out.alloc _).drew.cell 0,(HBx.out.alloc _).drew.cell 1,(HBx.out.alloc _).drew.cell 2,(HBx.out.alloc _).drew.cell 3⟩ (λhHeld'=>?_);clear hK K)
    | (refine wpAnyH_ready (rs := [2]) (by decide +kernel) (by simp) (AllReadyH.cons rfl (λK hK => ?_) AllReadyH.nil)
       refine step_append_lies _ (by rfl) _ _ _ (by rfl) (w0.heap.size+1) 3 i0 _ 1 8 underlying66 hi hz0 hz1 hz2 rfl (by omega) _ 0 [] (by rfl) (HR.out.alloc _).drew ⟨W1.heap.size,0,none⟩ _ _ _ (by rfl) (by rfl) (World.news_of_block (fr:=(0,0)) (heap_alloc_new W1 _)) (by simp[Value.oneCell']) (by omega) (by simp[maxLen]) (by simp) (by have:=HBx.out.lt;simp;omega) (W1.heap.size+1) (by simp) ?_;intro gg cc w2 hown2 hgrow hat hlt;have HB2:=aA (BoxAt.grown ((HBx.out.alloc (.cells _ 3)).drew) hgrow (λe=>by simp[Value.ownBlock]at e));have HU2:=aA (eB (fA (bA HU.out (.cells _ 3))) hgrow (λg e=>by have:=HBx.out.lt;simp[Value.ownBlock]at e;omega));have HO2:=aA hown2;clear hown2 hgrow hat hlt;refine hK.out _ _ ⟨HB2.out.cell 0,HB2.out.cell 1,HB2.out.cell 2,HB2.out.cell 3⟩ (λhHeld'=>?_);clear hK K)
    try simp only[Act.put,List.getElem_toArray,List.getElem_cons_succ,List.getElem_cons_zero,List.setIfInBounds_toArray,List.set_cons_zero,List.set_cons_succ])
  refine wpAnyH_done (by decide +kernel) ?_ _;refine NoPanic.normal ?_;obtain⟨q,c,hv,hc,hr⟩:=RowArg.of_own HO2.out
  cases hv;go_wp2;go_ret2;exact⟨_,_,rfl,hc,hr,HU2.out⟩
end
section
variable {w0 : World}
theorem l1A(n m:Int)(s:ByteArray)(h:fD s=false∨n≠0∨m < 0∨6 < m):Calls prog 92 #[ndV ⟨27,n,m,s⟩] w0 (BOut w0 [] false):=by
 have HNm:=aA (λw=>lJ (w0:=w) s);unfold ndV;generalize fD s=nb at *
 cases nb
 . clear h;go_enter func92,ntmps92;go_wp2_with fail;refine(HNm.out _).mono ?_;rintro e w3 ⟨rfl,rfl⟩;go_wp2;go_ret2;exact BOut.empty _ (bA (bA (Qu _) _) _)
 . by_cases h1 : n = 0
   . subst h1;by_cases h3:m < 0
     . clear h;go_enter func92,ntmps92;go_wp2_with fail;refine(HNm.out _).mono ?_;rintro e w3 ⟨rfl,rfl⟩;go_wp2;go_ret2;exact BOut.empty _ (bA (bA (Qu _) _) _)
     . have h4:6 < m:=by
         simp at h;omega
       clear h;go_enter func92,ntmps92;go_wp2_with fail;refine(HNm.out _).mono ?_;rintro e w3 ⟨rfl,rfl⟩;go_wp2;go_ret2;exact BOut.empty _ (bA (bA (Qu _) _) _)
   . clear h;go_enter func92,ntmps92;go_wp2_with fail;refine(HNm.out _).mono ?_;rintro e w3 ⟨rfl,rfl⟩;go_wp2;go_ret2;exact BOut.empty _ (bA (bA (Qu _) _) _)
theorem kYA(m:Nat)(s:ByteArray)(hs:fD s=true)(h3:m<=6):Calls prog 92 #[ndV ⟨27,0,m,s⟩] w0 (BOut w0 (1::List.replicate (m+1) 0) true):=by
 have HNm:=aA (λw=>lJ (w0:=w) s);rw[hs]at HNm;obtain⟨i0,hi,hz0,hz1,hz2⟩:=info_parts Tryz.infoInt;unfold ndV;have HE:=aA (vO (w0.alloc (.cells #[.int .i64 27,.int .i64 0,.int .i64 m,.string s] 96)) (w0.heap.size+1) 3 1 (by simp));rw[show(w0.alloc (.cells #[.int .i64 27,.int .i64 0,.int .i64 m,.string s] 96)).heap.size=w0.heap.size+1 by simp]at HE;have m0:(0:Int)<=m:=Int.natCast_nonneg _;have m6:(m:Int)<=6:=by omega
 clear hs;go_enter func92,ntmps92;go_wp2_with fail;refine(HNm.out _).mono ?_;rintro e w3 ⟨rfl,rfl⟩;obtain⟨W1,hW1⟩:∃ W,W=(w0.alloc (.cells #[.int .i64 27,.int .i64 0,.int .i64 m,.string s] 96)).alloc (.cells #[] 3):=⟨_,rfl⟩;have HB:=aA (show BoxAt W1 w0.heap.size 96 #[.int .i64 27,.int .i64 0,.int .i64 m,.string s] by rw[hW1];exact(zA w0 _ _).alloc _);have c1:=HB.out.cell 1;have c2:=HB.out.cell 2;have hsz:w0.heap.size+2=W1.heap.size:=by rw[hW1];simp
 have HU:=aA (show Under w0 W1 by rw[hW1];exact bA (bA (Qu _) _) _);have HR:=aA (show W1.ownsRow (w0.heap.size+1) 3 1 (.slice (some ⟨w0.heap.size+1,0,none⟩) 0 0) 0 [] by rw[hW1];exact HE.out);rw[<- hW1];clear hW1 HE;have HS:=aA hsz;clear hsz;go_wp2_with (at_builtin;refine wpList_append_lies _ rfl _ _ 66 rfl (w0.heap.size+1) 3 i0 _ 1 8 underlying66 hi hz0 hz1 hz2 rfl (by decide) _ _ _ rfl (HR.out.alloc _) ⟨W1.heap.size,0,none⟩ 1 1 [.int .i64 1] rfl rfl ?c1 ?c2 (by decide) (by simp[maxLen]) (by simp) ?c5 (W1.heap.size+1) (by simp) ?_)
 case c1=>exact cell_one_new _ _ _
 case c2=>simp[Value.oneCell']
 case c5=>have:=HS.out;simp;omega
 intro g cap w2 hown hgrow hat hlt;have HO:=aA hown;have HB2:=aA (BoxAt.grown (HB.out.alloc (.cells #[.int .i64 1] 3)) hgrow (λe=>by simp[Value.ownBlock]at e));have HU2:=aA (eB (bA HU.out (.cells #[.int .i64 1] 3)) hgrow (λg e=>by simp[Value.ownBlock]at e;omega));have HS2:=aA hlt;have d2:=HB2.out.cell 2;have HZ:=aA (show w0.heap.size+1<=w2.heap.size from Nat.le_of_lt (Nat.lt_of_le_of_lt (HO.out.lt _ rfl).1 HS2.out));clear hown hgrow hat hlt c1 c2;go_wp2_with (at_builtin;refine qQ rfl _ _ (w0.heap.size+1) 66 3 3 rfl i0 underlying66 underlying3 hi hz0 hz1 hz2 _ _ _ (m+1) rfl ?c0 HO.out (by decide) (by omega) (by omega) HZ.out ?_)
 case c0=>exact congrArg (Value.int .i64) (by omega)
 intro v w4 hown hgrow;have HO4:=aA hown;have HU4:=aA (eB HU2.out hgrow λk e=>by have:=(HO.out.lt k e).1;omega);clear hown hgrow;obtain⟨q,c,hv,hc,hr⟩:=RowArg.of_own HO4.out
 cases hv;go_wp2;go_ret2;have hcs:[]++[Value.int .i64 1]++List.replicate (m+1) (.int .i64 0)=jN (1::List.replicate (m+1) 0):=by simp[jN]
 have hl:(1::List.replicate (m+1) 0).length=1+(m+1):=by simp;omega
 exact⟨_,_,by rw[hl];rfl,by rw[hl];exact hc,by rw[<- hcs];exact hr,HU4.out⟩
end
theorem iBA{k n m:Int}{s:ByteArray}(h1:¬(k < 0∨30<=k))(h2:fN k.toNat=false)(h3:fM k.toNat=false)(h4:fS k.toNat=false)(h5:k≠2)(h6:k≠26)(h7:k≠27):jB ⟨k,n,m,s⟩=uR ⟨k,n,m,s⟩:=by
 unfold jB uR;rw[tK,if_neg h1];simp only[h2,h3,h4,if_neg h5,if_neg h6,if_neg h7];by_cases a:n=0<;>by_cases b:m=0<;>by_cases c:s.size=0<;>simp[a,b,c]
theorem kXA{n m:Int}{s:ByteArray}:jB ⟨0,n,m,s⟩=vZA n m s:=by
 unfold jB vZA;rw[tK];by_cases b:m=0<;>by_cases c:s.size=0<;>simp[fN,fM,fS,xAA,b,c]
theorem j2A{k n m:Int}{s:ByteArray}(hk:k=3∨k=6):jB ⟨k,n,m,s⟩=piB n m s:=by
 unfold jB piB;rw[tK];rcases hk with rfl|rfl<;>by_cases b:m=0<;>by_cases c:s.size=0<;>simp[fN,fM,fS,xAA,b,c]
theorem iRA{n m:Int}{s:ByteArray}:jB ⟨2,n,m,s⟩=((rBA n&&(m==0))&&s.toList.isEmpty):=by
 unfold jB rBA;rw[tK];by_cases b:m=0<;>by_cases c:s.size=0<;>simp[fN,fM,fS,b,c]
theorem cOA{k n m:Int}{s:ByteArray}(hk:k=1∨k=25):jB ⟨k,n,m,s⟩=((n==0)&&(m==0)&&fD s):=by
 unfold jB;rcases hk with rfl|rfl<;>by_cases a:n=0<;>by_cases b:m=0<;>cases c:fD s<;>simp[fN,fM,fS,a,b,c]
theorem bHA{n m:Int}{s:ByteArray}:jB ⟨26,n,m,s⟩=(fD s&&(decide (0<=n)&&decide (n<=5)&&decide (0<=m)&&decide (m<=6))):=by
 unfold jB
 cases c:fD s<;>simp[fN,fM,fS,c]
theorem zEA{n m:Int}{s:ByteArray}:jB ⟨27,n,m,s⟩=(fD s&&(n==0)&&(decide (0<=m)&&decide (m<=6))):=by
 unfold jB
 cases c:fD s<;>by_cases a:n=0<;>simp[fN,fM,fS,a,c]
def ROut(w0:World)(x:Nd)(e:Ending)(w:World):Prop:=∃ l,(jB x=true->l=binds x)/\BOut w0 l (jB x) e w
section
variable {w0 : World}
theorem ROut.of{w:World}{e:Ending}{x:Nd}{l:List Nat}{b:Bool}(h:BOut w0 l b e w)(hb:jB x=b)(hl:b=true->l=binds x):ROut w0 x e w:=⟨l,λh=>hl (hb▸h),by rw[hb];exact h⟩
theorem qBB(n m:Int)(s:ByteArray):Calls prog 92 #[ndV ⟨26,n,m,s⟩] w0 (ROut w0 ⟨26,n,m,s⟩):=by
 by_cases h:fD s=false∨n < 0∨6<=n∨m < 0∨6 < m
 . refine(d2A n m s h).mono λe w hb=>ROut.of hb ?_ (λh=>by cases h)
   rw[bHA];rcases h with h|h|h|h|h
   . rw[h];rfl
   all_goals
    rw[Bool.and_eq_false_iff]
    right
    rw[Bool.eq_false_iff];intro c;simp only[Bool.and_eq_true,decide_eq_true_eq]at c;omega
 . have hs:fD s=true:=by cases c:fD s;exact(h (.inl c)).elim;rfl
   have h':0<=n/\n < 6/\0<=m/\m<=6:=by
    refine⟨?_,?_,?_,?_⟩<;>(refine Classical.byContradiction λc=>h ?_;omega)
   obtain⟨m',rfl⟩:∃ m':Nat,m=m':=⟨m.toNat,by omega⟩;refine(iUA n m' s hs h'.1 h'.2.1 (by omega)).mono λe w hb=>ROut.of hb ?_ (λ_=>?_)
   . rw[bHA,hs];simp only[Bool.true_and,Bool.and_eq_true,decide_eq_true_eq];omega
   . unfold binds;rw[if_pos rfl];rfl
theorem xCB(n m:Int)(s:ByteArray):Calls prog 92 #[ndV ⟨27,n,m,s⟩] w0 (ROut w0 ⟨27,n,m,s⟩):=by
 by_cases h:fD s=false∨n≠0∨m < 0∨6 < m
 . refine(l1A n m s h).mono λe w hb=>ROut.of hb ?_ (λh=>by cases h)
   rw[zEA];rcases h with h|h|h|h
   . rw[h];rfl
   . have:(n==0)=false:=by simpa using h
     rw[this];simp
   all_goals
    rw[Bool.and_eq_false_iff]
    right
    rw[Bool.eq_false_iff];intro c;simp only[Bool.and_eq_true,decide_eq_true_eq]at c;omega
 . have hs:fD s=true:=by cases c:fD s;exact(h (.inl c)).elim;rfl
   have h':n=0/\0<=m/\m<=6:=by
    refine⟨?_,?_,?_⟩<;>(refine Classical.byContradiction λc=>h ?_;omega)
   obtain⟨m',rfl⟩:∃ m':Nat,m=m':=⟨m.toNat,by omega⟩;obtain rfl:=h'.1;refine(kYA m' s hs (by omega)).mono λe w hb=>ROut.of hb ?_ (λ_=>?_)
   . rw[zEA,hs];simp;omega
   . unfold binds;rw[if_neg (by simp),if_pos rfl];rfl
theorem gEA(x:Nd):Calls prog 92 #[ndV x] w0 (ROut w0 x):=by
 obtain⟨k,n,m,s⟩:=x;by_cases h:k < 0∨29 < k
 . refine(l6A k n m s h).mono λe w hb=>ROut.of hb ?_ (λh=>by cases h)
   unfold jB;rw[if_pos (by simp only;omega)]
 have hk:k=0∨k=2∨k=26∨k=27∨(k=3∨k=6)∨(k=1∨k=25)∨(k=10∨k=11∨k=14∨k=16∨k=17∨k=29)∨(k=4∨k=5∨k=7∨k=8∨k=9∨k=12∨k=13∨k=15∨k=18∨k=19∨k=20∨k=21∨k=22∨k=23∨k=24∨k=28):=by omega
 rcases hk with rfl|rfl|rfl|rfl|hk|hk|hk|hk
 . exact(kDB n m s).mono λe w h=>ROut.of h kXA (λ_=>rfl)
 . exact(oDB n m s).mono λe w h=>ROut.of h iRA (λ_=>rfl)
 . exact qBB n m s
 . exact xCB n m s
 . refine(hCB k n m s hk).mono λe w h=>ROut.of h (j2A hk) ?_
   rcases hk with rfl|rfl<;>exact λ_=>rfl
 . refine(g4A k n m s hk).mono λe w h=>ROut.of h (cOA hk) ?_
   rcases hk with rfl|rfl<;>exact λ_=>rfl
 . refine(j5A k n m s hk).mono λe w h=>?_
   rcases hk with rfl|rfl|rfl|rfl|rfl|rfl<;>exact ROut.of (l:=[]) h (iBA (by decide) rfl rfl rfl (by decide) (by decide) (by decide)) (λ_=>rfl)
 . rcases hk with rfl|rfl|rfl|rfl|rfl|rfl|rfl|rfl|rfl|rfl|rfl|rfl|rfl|rfl|rfl|rfl
   all_goals exact(a5A _ n m s _ (by simp only[k3A,List.mem_cons,Prod.mk.injEq,Int.reduceEq,true_and,false_and,false_or,List.not_mem_nil,or_false];rfl)).mono λe w h=>ROut.of h (iBA (by decide) rfl rfl rfl (by decide) (by decide) (by decide)) (λ_=>rfl)
end
def lF:List Nd->Nat->Bool
  | [],d=>d==1
  | x::t,d=>if jB x=false∨d < (binds x).length then false else lF t (d - (binds x).length+1)
def vBB(w0:World)(t:List Nd)(d i:Value)(wr:World):Prop:=∃ k D:Nat,k<=t.length/\D<=k/\d = .int .i64 (D:Int)/\i = .int .i64 (k:Int)/\(lF t 0=lF (t.drop k) D)/\Under w0 wr
section
variable {w0 : World}
theorem aWA(t:List Nd){v:Value}(hn:t.length<=1000000)(hv:TermV w0 v t):Calls prog 74 #[v] w0 λe w=>e = .returned (.bool (lF t 0))/\Under w0 w:=by
 obtain⟨p,c,rfl,_,_,hr⟩:=hv;have HR:=aA hr;have HN:=aA hn;have hn':(t.length:Int)<=1000000:=by omega
 have hn0:(0:Int)<=(t.length:Int):=by omega
 clear hr hn;go_enter func74,ntmps74;go_wp2;go_loopw [3,4] (λd i wr=>vBB w0 t d i wr) (λ_ i _=>t.length - (intOf i).toNat)
 case atStart=>exact⟨0,0,Nat.zero_le _,Qd _,rfl,rfl,by simp,Qu _⟩
 case round =>
   obtain⟨k,D,hk,hD,rfl,rfl,hG,hU⟩:=hrel;have HG:=aA hG;clear hG;have hD0:(0:Int)<=(D:Int):=by omega
   have hk0:(0:Int)<=(k:Int):=by omega
   have hDk:(D:Int)<=(k:Int):=by omega
   by_cases hlt:k < t.length
   . obtain⟨b1,dQ,rfl,hb1,c0,c1,c2,c3⟩:=RowArg.node HR.out (Qa hlt);rw[<- iA hU hb1]at c0 c1 c2 c3;have hb1':=Qb hb1 hU.size;have HD:=aA (show lF (t.drop k) D=if jB t[k]=false∨D < (binds t[k]).length then false else lF (t.drop (k+1)) (D - (binds t[k]).length+1) by rw[Qi hlt];rfl);have HU:=aA hU;clear hU;generalize t[k]=x at *;have HC:=aA (λw=>gEA (w0:=w) x);have hlt':(k:Int) < (t.length:Int):=by omega
     go_wp2_with fail;refine(HC.out _).mono ?_;rintro e w1 ⟨l,hl,q,c',rfl,hlc,hrl,hU1⟩;have HU1:=aA (HU.out.trans hU1);clear hU1 hlc hrl HC c0 c1 c2 c3
     cases hx:jB x
     . have HF:RowKit.Hid (lF t 0=false):=aA (by rw[HG.out,HD.out,if_pos (.inl hx)]);clear hl hx;go_wp2;go_ret;exact⟨by rw[HF.out];rfl,HU1.out⟩
     . obtain rfl:=hl hx;have HX:=aA hx;have hB8:=q8 hx;clear hl hx;generalize (binds x).length=N at *;have hN0:(0:Int)<=(N:Int):=by omega
       have hN8:(N:Int)<=8:=by omega
       by_cases hc:D < N
       . have hc':(D:Int) < (N:Int):=by omega
         have HF:RowKit.Hid (lF t 0=false):=aA (by rw[HG.out,HD.out,if_pos (.inr hc)]);clear hc;go_wp2;go_ret;exact⟨by rw[HF.out];rfl,HU1.out⟩
       . have hc':(N:Int)<=(D:Int):=by omega
         have HF:RowKit.Hid (lF t 0=lF (t.drop (k+1)) (D - N+1)):=aA (by rw[HG.out,HD.out,if_neg (by rw[HX.out];simp;omega)]);clear hc;go_wp2;go_roundw
         case rel=>exact⟨k+1,D - N+1,by omega,by omega,by go_num,by go_num,HF.out,HU1.out⟩
         case measure=>simp[intOf];omega
   . obtain rfl:k=t.length:=by omega
     have HF:RowKit.Hid (lF t 0=(D==1)):=aA (by rw[HG.out,List.drop_length];rfl);have HU:=aA hU;clear hU;by_cases h1:D=1
     . subst h1;have HF:RowKit.Hid (lF t 0=true):=aA (by rw[HF.out];rfl);go_wp2;go_ret;exact⟨by rw[HF.out];rfl,HU.out⟩
     . have h1':((D:Int)==1)=false:=by simp;omega
       have HF:RowKit.Hid (lF t 0=false):=aA (by rw[HF.out];simpa using h1);clear h1;go_wp2;go_ret;exact⟨by rw[HF.out];rfl,HU.out⟩
end
def iP(l:List Nat):Nat:=l.foldr max 0
theorem z4A{l:List Nat}{b:Nat}(h:∀ a∈l,a<=b):iP l<=b:=by
 induction l with
 | nil=>exact Nat.zero_le _
 | cons a l ih =>
   have:=ih λx hx=>h x (Qh _ hx)
   have:=h a (Qn ..)
   show max a (iP l)<=b
   omega
def iH:List Nd->List Nat->Bool
  | [],_=>false
  | x::t,st=>if 60 < iP (st.drop (st.length - (binds x).length))+1 then true else iH t (st.take (st.length - (binds x).length)++[iP (st.drop (st.length - (binds x).length))+1])
structure DpRel (w0:World) (t:List Nd) (st:List Nat) (k g c:Nat) (wr:World):Prop where
 len:st.length<=k
 low:∀ a∈st,a<=60
 whole:lF (t.drop k) st.length=true
 deep:iH t []=iH (t.drop k) st
 own:wr.ownsRow w0.heap.size 3 1 (.slice (some ⟨g,0,none⟩) st.length c) st.length (jN st)
 under:Under w0 wr
def DpR(w0:World)(t:List Nd)(l i:Value)(wr:World):Prop:=∃(k:Nat) (st:List Nat) (g c:Nat),k<=t.length/\l = .slice (some ⟨g,0,none⟩) st.length c/\i = .int .i64 (k:Int)/\DpRel w0 t st k g c wr
def DiR(W:World)(st:List Nat)(g c N:Nat)(l n i:Value)(wr:World):Prop:=W=wr/\∃ j M:Nat,j<=N/\j+M=st.length/\l = .slice (some ⟨g,0,none⟩) M c/\n = .int .i64 (iP (st.drop M):Nat)/\i = .int .i64 (j:Int)
theorem jZA{l:List Nat}{k n:Nat}(h:l[k]? = some n):(jN l)[k]? = some (.int .i64 (n:Int)):=by
 unfold jN;rw[List.getElem?_map,h];rfl
section
variable {w0 : World}
theorem uQA(t:List Nd){v:Value}(hn:t.length<=1000000)(hv:TermV w0 v t)(hw:lF t 0=true):Calls prog 75 #[v] w0 λe w=>e = .returned (.bool (iH t []))/\Under w0 w:=by
 obtain⟨p,c,rfl,_,_,hr⟩:=hv;obtain⟨i0,hi,hz0,hz1,hz2⟩:=info_parts Tryz.infoInt;have HR:=aA hr;have HN:=aA hn;have HW:=aA hw;have hn':(t.length:Int)<=1000000:=by omega
 have hn0:(0:Int)<=(t.length:Int):=by omega
 clear hr hn hw;go_enter func75,ntmps75;go_wp2;go_loopw [3,4] (λl i wr=>DpR w0 t l i wr) (λ_ i _=>t.length - (intOf i).toNat)
 case atStart=>exact⟨0,[],w0.heap.size,0,Nat.zero_le _,rfl,rfl,⟨Qd _,by simp,HW.out,by simp,vO w0 _ _ _ (Qd _),bA (Qu _) _⟩⟩
 case round =>
   obtain⟨k,st,g,c2,hk,rfl,rfl,hD⟩:=hrel;have hL:=hD.len;have HD:=aA hD;clear hD;have hk0:(0:Int)<=(k:Int):=by omega
   have hL0:(0:Int)<=(st.length:Int):=by omega
   have hLk:(st.length:Int)<=(k:Int):=by omega
   by_cases hlt:k < t.length
   . obtain⟨b1,dQ,rfl,hb1,c0,c1,c2',c3⟩:=RowArg.node HR.out (Qa hlt);rw[<- iA HD.out.under hb1]at c0 c1 c2' c3;have hb1':=Qb hb1 HD.out.under.size;have hlt':(k:Int) < (t.length:Int):=by omega
     have HX:=aA (show lF (t[k]::t.drop (k+1)) st.length=true by rw[<- Qi hlt];exact HD.out.whole);have HG:=aA (show iH t []=iH (t[k]::t.drop (k+1)) st by rw[<- Qi hlt];exact HD.out.deep);generalize t[k]=x at *;have HC:=aA (λw=>gEA (w0:=w) x);have hx:jB x=true/\(binds x).length<=st.length/\lF (t.drop (k+1)) (st.length - (binds x).length+1)=true:=by
      have:=HX.out;unfold lF at this
      split at this
      . cases this
      . rename_i h;exact⟨by cases hh:jB x;exact(h (.inl hh)).elim;rfl,by omega,this⟩
     obtain⟨hx1,hx2,hx3⟩:=hx;have HX1:=aA hx1;have HX3:=aA hx3;have hB8:=q8 hx1;clear hx1 hx3 HX;go_wp2_with fail;refine(HC.out _).mono ?_;rintro e w1 ⟨l,hl,q,c',rfl,hlc,hrl,hU1⟩;obtain rfl:=hl HX1.out;have HU1:=aA hU1;clear hU1 hlc hrl HC c0 c1 c2' c3 hl;have HO:=aA (uA HD.out.own HU1.out);have hG:iH t []=if 60 < iP (st.drop (st.length - (binds x).length))+1 then true else iH (t.drop (k+1)) (st.take (st.length - (binds x).length)++[iP (st.drop (st.length - (binds x).length))+1]):=by rw[HG.out];rfl
     have HG:=aA hG;clear hG;generalize (binds x).length=N at *;have hN0:(0:Int)<=(N:Int):=by omega
     have hN8:(N:Int)<=8:=by omega
     obtain⟨_,_,hge,_,hgb,hgl,hgc,hcm⟩:∃ g' cap,(Value.slice (some ⟨g,0,none⟩) st.length c2 = .slice (some ⟨g',0,none⟩) st.length cap)/\w0.heap.size<=g/\w0.heap.size<=g/\g < w1.heap.size/\st.length<=c2/\c2<=maxLen:=by
      rcases HO.out.2 with⟨h0,_⟩|⟨g',cap,cur,h0,hb,hg,h1,h2,_⟩
      . cases h0
      . cases h0;exact⟨_,_,rfl,hb,hb,(Qe.1 hg).1,h1,h2⟩
     clear hge;have hgc':(st.length:Int)<=(c2:Int):=by omega
     go_wp2;go_loopw [3,7,8] (λl n i wr=>DiR w1 st g c2 N l n i wr) (λ_ _ i _=>N - (intOf i).toNat)
     case atStart=>exact⟨rfl,0,st.length,Nat.zero_le _,by omega,rfl,by rw[List.drop_length];rfl,rfl⟩
     case round =>
       obtain⟨rfl,j,M,hj,hjM,rfl,rfl,rfl⟩:=hrel;have hj0:(0:Int)<=(j:Int):=by omega
       have hM0:(0:Int)<=(M:Int):=by omega
       have HMX:=aA (z4A (l:=st.drop M) (b:=60) λa ha=>HD.out.low a (List.mem_of_mem_drop ha));by_cases hjN:j < N
       . obtain⟨M,rfl⟩:∃ m,M=m+1:=⟨M - 1,by omega⟩;have hst:M < st.length:=by omega
         have HMC:=aA (show iP (st.drop M)=max st[M] (iP (st.drop (M+1))) by rw[Qi hst];rfl);have hcell:=rD HO.out (g:=g) rfl (jZA (Qa hst));have ha60:=HD.out.low _ (Qr hst);generalize st[M]=a at *;have hjN':(j:Int) < (N:Int):=by omega
         have hMc:(M:Int)<=(c2:Int):=by omega
         have hm60:=HMX.out;generalize iP (st.drop (M+1))=mx at *;clear HMX;have hMe:((M:Int)+1 - 1)=(M:Int):=by omega
         by_cases hma:a<=mx
         . have hma':(a:Int)<=(mx:Int):=by omega
           go_wp2
           all_goals
            go_roundw
            case rel=>exact⟨rfl,j+1,M,by omega,by omega,by go_num,by rw[HMC.out];exact congrArg (Value.int .i64) (by omega),by go_num⟩
            case measure=>simp[intOf];omega
         . have hma':(mx:Int) < (a:Int):=by omega
           go_wp2
           all_goals
            go_roundw
            case rel=>exact⟨rfl,j+1,M,by omega,by omega,by go_num,by rw[HMC.out];exact congrArg (Value.int .i64) (by omega),by go_num⟩
            case measure=>simp[intOf];omega
       . obtain rfl:j=N:=by omega
         have hMe:M=st.length - j:=by omega
         have HMe:=aA hMe;rw[<- hMe]at HG HX3;clear hMe;have hm60:=HMX.out;have HMv:RowKit.Hid (iP (st.drop M)=iP (st.drop M)):=aA rfl;generalize hmx:iP (st.drop M)=mx at *;clear hmx HMv HMX;have hmx0:(0:Int)<=(mx:Int):=by omega
         by_cases hd:60 < mx+1
         . have hd':(60:Int) < (mx:Int)+1:=by omega
           have HF:RowKit.Hid (iH t []=true):=aA (by rw[HG.out,if_pos hd]);clear hd;go_wp2;go_ret;exact⟨by rw[HF.out];rfl,HD.out.under.trans HU1.out⟩
         . have hd':(mx:Int)+1<=60:=by omega
           have HF:RowKit.Hid (iH t []=iH (t.drop (k+1)) (st.take M++[mx+1])):=aA (by rw[HG.out,if_neg hd]);have HMs:=aA (show M<=st.length by omega);have hM1:M<=1000000:=by omega
           clear hd;go_wp2_with (at_builtin;refine wpList_append_lies _ rfl _ _ 66 rfl w0.heap.size 3 i0 _ 1 8 underlying66 hi hz0 hz1 hz2 rfl (by decide) _ _ _ rfl ((rR HO.out HMs.out).alloc _) ⟨w1.heap.size,0,none⟩ 1 1 [.int .i64 ((mx+1:Nat):Int)] rfl rfl ?c1 ?c2 (by decide) (by simp only[maxLen];omega) (by omega) ?c5 (w1.heap.size+1) (by simp) ?_)
           case c1=>exact cell_one_new _ _ _
           case c2=>simp[Value.oneCell']
           case c5=>have:=(HD.out.under.trans HU1.out).size;simp;omega
           intro g3 c3 w3 hown hgrow hat hlt3;have HO3:=aA hown;have HU3:=aA (eB (bA (HD.out.under.trans HU1.out) _) hgrow λz e=>by cases e;exact hgb);clear hown hgrow hat hlt3;go_wp2;go_roundw
           case rel =>
             have hlen:(st.take M++[mx+1]).length=M+1:=by rw[Qc,List.length_take,Nat.min_eq_left HMs.out];rfl
             have hcs:(jN st).take M++[Value.int .i64 ((mx:Int)+1)]=jN (st.take M++[mx+1]):=by simp[jN,List.map_take]
             refine⟨k+1,st.take M++[mx+1],g3,c3,by omega,by rw[hlen],by go_num,⟨by rw[hlen];omega,?_,by rw[hlen];exact HX3.out,HF.out,by rw[hlen,<- hcs];exact HO3.out,HU3.out⟩⟩;intro a ha;rcases List.mem_append.1 ha with ha|ha
             . exact HD.out.low a (List.mem_of_mem_take ha)
             . rw[List.mem_singleton.1 ha];omega
           case measure=>simp[intOf];omega
   . obtain rfl:k=t.length:=by omega
     have HF:RowKit.Hid (iH t []=false):=aA (by rw[HD.out.deep,List.drop_length];rfl);go_wp2;go_ret;exact⟨by rw[HF.out];rfl,HD.out.under⟩
end
theorem yAA:∀(l:List Tm) (d:Nat),1<=d->sW d l=max d (iP (l.map lG)+1)
  | [],d,h=>by show d=max d (0+1);omega
  | a :: l, d, h => by
    show sW (max d (lG a+1)) l=max d (max (lG a) (iP (l.map lG))+1)
    rw[yAA l _ (by omega)];omega
theorem lSA(x:Nd)(l:List Tm):lG (.mk x l)=iP (l.map lG)+1:=by
 show sW 1 l=_
 rw[yAA l 1 (Qd _)];omega
theorem fLA:∀(T:Tm),okT T->∀(rest:List Nd) (st:List Nat),iH (flat T++rest) st=if 60 < lG T then true else iH rest (st++[lG T]):=by
 intro T
 induction T using Tm.rec (motive_2:=λl=>oAA l->∀(rest:List Nd) (st:List Nat),iH (kE l++rest) st=if 60 < iP (l.map lG) then true else iH rest (st++l.map lG)) with
 | mk x l ih =>
   rintro⟨hx,hl,hls⟩ rest st;rw[flat,List.append_assoc,ih hls,lSA]
   show(if 60 < iP (l.map lG) then true else iH (x::rest) (st++l.map lG))=_
   have hk:(st++l.map lG).length - (binds x).length=st.length:=by rw[Qc,List.length_map];omega
   unfold iH;rw[hk,List.drop_left,List.take_left];by_cases h:60 < iP (l.map lG)
   . rw[if_pos h,if_pos (by omega)]
   . rw[if_neg h]
     cases rest<;>rfl
 | nil=>rename_i hh rest st;simp[kE,iP]
 | cons a l iha ihl =>
   rename_i hh rest st;obtain⟨ha,hl⟩:=hh;rw[kE,List.append_assoc,iha ha,ihl hl]
   show _=if 60 < max (lG a) (iP (l.map lG)) then true else iH rest (st++lG a::l.map lG)
   rw[List.append_assoc];by_cases h:60 < lG a
   . rw[if_pos h,if_pos (by omega)]
   . rw[if_neg h];by_cases h2:60 < iP (l.map lG)
     . rw[if_pos h2,if_pos (by omega)]
     . rw[if_neg h2,if_neg (by omega)];rfl
theorem hGA:∀(t:List Nd) (i:Nat) (all op:List (Nat×Nat)),lF t op.length=match yD t i all op with|none=>false|some r=>r.2.length==1
  | [],i,all,op=>rfl
  | x :: t, i, all, op => by
    unfold lF yD;by_cases h:jB x=false∨op.length < (binds x).length
    . rw[if_pos h,if_pos h]
    . rw[if_neg h,if_neg h];simp only;rw[<- hGA t (i+1)];congr 1
      rw[Qc,List.length_take,Nat.min_eq_left (Nat.sub_le _ _)];rfl
theorem a2A(t:List Nd):bF t=if 4000 < t.length then 21 else if lF t 0=false then 20 else if iH t [] then 22 else 0:=by
 unfold bF
 split
 . rfl
 have hw:=hGA t 0 [] [];rw[List.length_nil]at hw;rw[hw]
 cases hm:yD t 0 [] [] with
 | none=>rfl
 | some r =>
   obtain⟨all,op⟩:=r;simp only;by_cases h1:op.length=1
   . have e1:¬(op.length≠1):=by simpa using h1
     have e2:¬((op.length==1)=false):=by simp[h1]
     rw[if_neg e1,if_neg e2];clear e1 e2;obtain⟨Gs,g1,g2,g3⟩:=mW t [] [] (by simp[oAA]) hm;simp only at g3;rw[g3,mR]at h1
     match Gs,h1 with
     | [T], _ =>
       simp only[kE,List.nil_append,List.append_nil]at g2;obtain⟨a',q1,q2,q3⟩:=eMA T g1.1 [] [];rw[g2]at q1;rw[show yD t (kE []).length [] (tF 0 [])=yD t 0 [] [] from rfl,hm]at q1;simp only[Option.some.injEq,Prod.mk.injEq]at q1;have hl:a'.getLastD (0,0)=((kE []).length,lG T):=by rw[List.getLastD_eq_getLast?,q3];rfl
       rw[q1.1,List.nil_append,hl];have hd:=fLA T g1.1 [] [];rw[List.append_nil,g2]at hd;rw[hd];by_cases h:60 < lG T
       . rw[if_pos h,if_pos h];rfl
       . rw[if_neg h,if_neg h];rfl
   . rw[if_pos (by simpa using h1),if_pos (by simpa using h1)]
section
variable {w0 : World}
theorem zQA(t:List Nd){v:Value}(hn:t.length<=maxLen)(hv:TermV w0 v t):Calls prog 53 #[v] w0 λe w=>e = .returned (.int .i64 (bF t))/\Under w0 w:=by
 have HV:=aA hv;obtain⟨p,c,rfl,_,_,_⟩:=hv;have HE:=aA (a2A t);by_cases h:4000 < t.length
 . have h':(4000:Int) < (t.length:Int):=by omega
   have HE:=aA (HE.out.trans (if_pos h));clear h;go_enter func53,ntmps53;go_wp2;go_ret;exact⟨iJ HE.out.symm,Qu _⟩
 . have h':(t.length:Int)<=4000:=by omega
   have HE:=aA (HE.out.trans (if_neg h));have HW:=aA (aWA t (by omega) HV.out)
   cases hw:lF t 0
   . have HE:=aA (HE.out.trans (if_pos hw));rw[hw]at HW;clear h hw;go_enter func53,ntmps53;go_wp2_with fail;refine HW.out.mono ?_;rintro e w1 ⟨rfl,hU1⟩;have HU1:=aA hU1;clear hU1;go_wp2;go_ret;exact⟨iJ HE.out.symm,HU1.out⟩
   . have HE:=aA (HE.out.trans (if_neg (by rw[hw];decide)));have HD:=aA (λw1 (hU:Under w0 w1)=>uQA (w0:=w1) t (by omega) (TermV.mono _ _ _ _ hU HV.out) hw);rw[hw]at HW;clear h hw
     cases hd:iH t []
     all_goals
      rw[hd]at HD HE;clear hd;go_enter func53,ntmps53;go_wp2_with fail;refine HW.out.mono ?_;rintro e w1 ⟨rfl,hU1⟩;have HU1:=aA hU1;clear hU1;go_wp2_with fail;refine(HD.out _ HU1.out).mono ?_;rintro e w2 ⟨rfl,hU2⟩;have HU2:=aA (HU1.out.trans hU2);clear hU2;go_wp2;go_ret;exact⟨iJ HE.out.symm,HU2.out⟩
end
def iW(s:ByteArray):Int×Int×List UInt8×Bool:=if s.toList==[84,121,112,101] then(2,0,[110],true) else if s.toList==[112,105] then(3,0,[46,118,46],true) else if s.toList==[112,105,49] then(3,1,[46,118,46],true) else if s.toList==[112,105,50] then(3,2,[46,118,46],true) else if s.toList==[112,105,51] then(3,3,[46,118,46],true) else if s.toList==[115,105,103] then(6,0,[46,118,46],true) else if s.toList==[115,105,103,49] then(6,1,[46,118,46],true) else if s.toList==[115,105,103,50] then(6,2,[46,118,46],true) else if s.toList==[115,105,103,51] then(6,3,[46,118,46],true) else if s.toList==[108,97,109] then(4,0,[46,118,46],true) else if s.toList==[97,112,112] then(5,0,[46,46],true) else if s.toList==[112,97,105,114] then(7,0,[46,46,46],true) else if s.toList==[102,115,116] then(8,0,[46],true) else if s.toList==[115,110,100] then(9,0,[46],true) else if s.toList==[115,117,99] then(12,0,[46],true) else if s.toList==[112,114,102] then(28,0,[46],true) else if s.toList==[114,101,99] then(13,0,[118,46,46,86,46,46],true) else if s.toList==[97,98,111,114,116] then(15,0,[46,46],true) else if s.toList==[101,113] then(18,0,[46,46,46],true) else if s.toList==[114,101,102,108] then(19,0,[46,46],true) else if s.toList==[99,97,115,116] then(20,0,[46,46,46,46],true) else if s.toList==[116,114,97,110,115,112] then(21,0,[46,46,118,46,46,46,46],true) else if s.toList==[113,117,111,116] then(22,0,[46,86,46,46,46,46],true) else if s.toList==[99,108,97,115,115] then(23,0,[46,46],true) else if s.toList==[113,101,108,105,109] then(24,0,[46,118,46,46,46],true) else if s.toList==[100,97,116,97] then(25,0,[100],true) else if s.toList==[99,111,110] then(26,0,[100,110,42],true) else if s.toList==[101,108,105,109] then(27,0,[100,118,46,42,46],true) else(0,0,[],false)
def rU(s:ByteArray):Int×Bool:=if s.toList==[80,114,111,112] then(2,true) else if s.toList==[78,97,116] then(10,true) else if s.toList==[122,101,114,111] then(11,true) else if s.toList==[69,109,112,116,121] then(14,true) else if s.toList==[85,110,105,116] then(16,true) else if s.toList==[115,116,97,114] then(17,true) else if s.toList==[116,105,99,107] then(29,true) else(0,false)
theorem toList_data(s:ByteArray)(x:List UInt8):(s.toList==x)=decide (s.data.toList=x):=by
 rw[ByteArray.toList_eq,Bool.eq_iff_iff];simp
theorem gY(s:ByteArray):rU s=((qM s).getD 0,(qM s).isSome):=by
 unfold rU qM leafT;simp only[oMA,toList_data,decide_eq_true_eq]
 repeat' split
 all_goals first|rfl|(simp_all;done)
theorem dDA(s:ByteArray):iW s=match kN s with|some (k,n,p)=>(k,n,oN p,true)|none=>(0,0,[],false):=by
 unfold iW kN;simp only[toList_data,decide_eq_true_eq];generalize s.data.toList=w;by_cases h0:w=[84,121,112,101]
 . subst h0;rfl
 by_cases h1:w=[112,105]
 . subst h1;rfl
 by_cases h2:w=[112,105,49]
 . subst h2;rfl
 by_cases h3:w=[112,105,50]
 . subst h3;rfl
 by_cases h4:w=[112,105,51]
 . subst h4;rfl
 by_cases h5:w=[115,105,103]
 . subst h5;rfl
 by_cases h6:w=[115,105,103,49]
 . subst h6;rfl
 by_cases h7:w=[115,105,103,50]
 . subst h7;rfl
 by_cases h8:w=[115,105,103,51]
 . subst h8;rfl
 by_cases h9:w=[108,97,109]
 . subst h9;rfl
 by_cases h10:w=[97,112,112]
 . subst h10;rfl
 by_cases h11:w=[112,97,105,114]
 . subst h11;rfl
 by_cases h12:w=[102,115,116]
 . subst h12;rfl
 by_cases h13:w=[115,110,100]
 . subst h13;rfl
 by_cases h14:w=[115,117,99]
 . subst h14;rfl
 by_cases h15:w=[112,114,102]
 . subst h15;rfl
 by_cases h16:w=[114,101,99]
 . subst h16;rfl
 by_cases h17:w=[97,98,111,114,116]
 . subst h17;rfl
 by_cases h18:w=[101,113]
 . subst h18;rfl
 by_cases h19:w=[114,101,102,108]
 . subst h19;rfl
 by_cases h20:w=[99,97,115,116]
 . subst h20;rfl
 by_cases h21:w=[116,114,97,110,115,112]
 . subst h21;rfl
 by_cases h22:w=[113,117,111,116]
 . subst h22;rfl
 by_cases h23:w=[99,108,97,115,115]
 . subst h23;rfl
 by_cases h24:w=[113,101,108,105,109]
 . subst h24;rfl
 by_cases h25:w=[100,97,116,97]
 . subst h25;rfl
 by_cases h26:w=[99,111,110]
 . subst h26;rfl
 by_cases h27:w=[101,108,105,109]
 . subst h27;rfl
 . simp[hDA,formT, *]
section
variable {w0 : World}
theorem pHA(s:ByteArray):Calls prog 65 #[.string s] w0 λe w=>e = .returned (.tuple #[.agg #[.int .i64 (iW s).1,.int .i64 (iW s).2.1,.string ⟨(iW s).2.2.1.toArray⟩],.bool (iW s).2.2.2])/\Under w0 w:=by
 have HO:RowKit.Hid (iW s=if s.toList==[84,121,112,101] then(2,0,[110],true) else if s.toList==[112,105] then(3,0,[46,118,46],true) else if s.toList==[112,105,49] then(3,1,[46,118,46],true) else if s.toList==[112,105,50] then(3,2,[46,118,46],true) else if s.toList==[112,105,51] then(3,3,[46,118,46],true) else if s.toList==[115,105,103] then(6,0,[46,118,46],true) else if s.toList==[115,105,103,49] then(6,1,[46,118,46],true) else if s.toList==[115,105,103,50] then(6,2,[46,118,46],true) else if s.toList==[115,105,103,51] then(6,3,[46,118,46],true) else if s.toList==[108,97,109] then(4,0,[46,118,46],true) else if s.toList==[97,112,112] then(5,0,[46,46],true) else if s.toList==[112,97,105,114] then(7,0,[46,46,46],true) else if s.toList==[102,115,116] then(8,0,[46],true) else if s.toList==[115,110,100] then(9,0,[46],true) else if s.toList==[115,117,99] then(12,0,[46],true) else if s.toList==[112,114,102] then(28,0,[46],true) else if s.toList==[114,101,99] then(13,0,[118,46,46,86,46,46],true) else if s.toList==[97,98,111,114,116] then(15,0,[46,46],true) else if s.toList==[101,113] then(18,0,[46,46,46],true) else if s.toList==[114,101,102,108] then(19,0,[46,46],true) else if s.toList==[99,97,115,116] then(20,0,[46,46,46,46],true) else if s.toList==[116,114,97,110,115,112] then(21,0,[46,46,118,46,46,46,46],true) else if s.toList==[113,117,111,116] then(22,0,[46,86,46,46,46,46],true) else if s.toList==[99,108,97,115,115] then(23,0,[46,46],true) else if s.toList==[113,101,108,105,109] then(24,0,[46,118,46,46,46],true) else if s.toList==[100,97,116,97] then(25,0,[100],true) else if s.toList==[99,111,110] then(26,0,[100,110,42],true) else if s.toList==[101,108,105,109] then(27,0,[100,118,46,42,46],true) else(0,0,[],false)):=aA rfl;generalize iW s=r at *;go_enter func65,ntmps65;go_wp2
 all_goals
  refine bodyPost_ret ((results_cell_tmp rfl _ _ _).trans (by simp[go_sem];first|exact⟨rfl,rfl⟩|rfl|exact⟨⟨rfl,rfl⟩,rfl⟩)) rfl ⟨by rw[HO.out];simp[*],?_⟩
  first|exact bA (Qu _) _|skip
theorem oV(s:ByteArray):Calls prog 66 #[.string s] w0 λe w=>e = .returned (.tuple #[.agg #[.int .i64 (rU s).1,.int .i64 0,.int .i64 0,.string ⟨#[]⟩],.bool (rU s).2])/\Under w0 w:=by
 have HO:RowKit.Hid (rU s=if s.toList==[80,114,111,112] then(2,true) else if s.toList==[78,97,116] then(10,true) else if s.toList==[122,101,114,111] then(11,true) else if s.toList==[69,109,112,116,121] then(14,true) else if s.toList==[85,110,105,116] then(16,true) else if s.toList==[115,116,97,114] then(17,true) else if s.toList==[116,105,99,107] then(29,true) else(0,false)):=aA rfl;generalize rU s=r at *;go_enter func66,ntmps66;go_wp2
 all_goals
  refine bodyPost_ret ((results_cell_tmp rfl _ _ _).trans (by simp[go_sem];first|exact⟨rfl,rfl⟩|rfl|exact⟨⟨rfl,rfl⟩,rfl⟩)) rfl ⟨by rw[HO.out];simp[*],?_⟩
  first|exact bA (Qu _) _|skip
end
def i8A(s:ByteArray)(v i:Value):Prop:=∃ k n:Nat,k<=s.size/\i = .int .i64 (k:Int)/\v = .int .i64 (n:Int)/\n=vIA (s.data.toList.take k)/\(∀ c∈s.data.toList.take k,fAA c=true)/\n < 10 ^ k
theorem oVA{s:ByteArray}(h1:¬ s.size < 1)(h2:¬ 2 < s.size)(hz:s.size=2->s.data.toList[0]?≠some 48)(hd:∀ c∈s.data.toList,fAA c=true):iQ s=(vIA s.data.toList:Int):=by
 have hs:s.data.toList.length=s.size:=by rw[Array.length_toList];rfl
 match h:s.data.toList with
 | []=>rw[h]at hs;simp at hs;omega
 | [c]=>rw[<- h];rw[d4A h (hd c (by rw[h];simp)),h]
 | [c, d] =>
   rw[h]at hs;have:=hz (by simpa using hs.symm);rw[h]at this;rw[o2A h (λe=>this (by rw[e];rfl)) (hd c (by rw[h];simp)) (hd d (by rw[h];simp))]
 | _::_::_::_=>rw[h]at hs;simp at hs;omega
theorem xWA{s:ByteArray}(hs2:s.size=2)(h0:s.data.toList[0]? = some 48):iQ s = -1:=by
 have hs:s.data.toList.length=s.size:=by rw[Array.length_toList];rfl
 match h:s.data.toList with
 | []=>rw[h]at hs;simp at hs;omega
 | [c]=>rw[h]at hs;simp at hs;omega
 | [c, d] =>
   rw[h]at h0;simp at h0;subst h0;exact xXA h
 | _::_::_::_=>rw[h]at hs;simp at hs;omega
section
variable {w0 : World}
theorem kMA(c:UInt8):fAA c=(decide (48<=(c.toNat:Int))&&decide ((c.toNat:Int)<=57)):=by
 unfold fAA;rw[Bool.eq_iff_iff];simp;omega
theorem oLA(s:ByteArray):Calls prog 71 #[.string s] w0 λe w=>e = .returned (.int .i64 (iQ s))/\w=w0:=by
 by_cases h1:s.size < 1
 . have HU:=aA (yGA (.inl h1));have h1':(s.size:Int) < 1:=by omega
   clear h1;go_enter func71,ntmps71;go_wp2;go_ret;exact⟨by rw[HU.out];rfl,rfl⟩
 by_cases h2:2 < s.size
 . have HU:=aA (yGA (.inr h2));have h1':¬(s.size:Int) < 1:=by omega
   have h2':(2:Int) < (s.size:Int):=by omega
   clear h1 h2;go_enter func71,ntmps71;go_wp2;go_ret;exact⟨by rw[HU.out];rfl,rfl⟩
 have hsl:s.data.toList.length=s.size:=by rw[Array.length_toList];rfl
 have h1':¬(s.size:Int) < 1:=by omega
 have h2':¬(2:Int) < (s.size:Int):=by omega
 have hp0:0 < s.size:=by omega
 have hg0:s.data.toList[0]? = some s[0]:=by rw[Qa (by omega)];rfl
 by_cases hl:s.size=2/\s[0]=48
 . have HU:=aA (xWA hl.1 (by rw[hg0,hl.2]));have e2:((s.size:Int)==2)=true:=by simp;omega
   have e0:(((s[0]'hp0).toNat:Int)==48)=true:=by rw[hl.2];rfl
   clear hl hg0 hsl h1 h2;go_enter func71,ntmps71;go_wp2;go_ret;exact⟨by rw[HU.out];rfl,rfl⟩
 have HG:=aA (λhd=>oVA h1 h2 (λe h=>hl ⟨e,by rw[hg0]at h;exact Qt h⟩) hd);have e20:(((s.size:Int)==2)&&(((s[0]'hp0).toNat:Int)==48))=false:=by
  cases hx:(((s.size:Int)==2)&&(((s[0]'hp0).toNat:Int)==48))
  . rfl
  . exfalso;simp only[Bool.and_eq_true,beq_iff_eq]at hx;exact hl ⟨by omega,UInt8.toNat_inj.1 (by have:=hx.2;show(s[0]'hp0).toNat=48;omega)⟩
 have HSl:=aA hsl;have HS2:=aA h2;clear hl hg0 hsl h1 h2;have e20':((s.size:Int)==2)=false∨(((s.size:Int)==2)=true/\(((s[0]'hp0).toNat:Int)==48)=false):=by
  cases hx:((s.size:Int)==2)
  . exact .inl rfl
  . rw[hx]at e20;exact .inr ⟨rfl,by simpa using e20⟩
 clear e20;rcases e20' with e2|⟨e2,e0⟩
 . go_enter func71,ntmps71;go_wp2
   go_loop [3,4] (λv i=>i8A s v i) (λ_ i=>s.size - (intOf i).toNat)
   case atStart=>exact⟨0,0,Nat.zero_le _,rfl,rfl,rfl,(λc hc=>by simp at hc),by decide⟩
   case round =>
     obtain⟨k,n,hk,rfl,rfl,hn,hd,hb⟩:=hrel;have hn9:n<=99:=by
      have h2:=HS2.out;have:k=0∨k=1∨k=2:=by omega
      rcases this with h|h|h<;>rw[h]at hb<;>omega
     have hn0:(0:Int)<=(n:Int):=by omega
     have hn9':(n:Int)<=99:=by omega
     have HN:=aA hn;have HD:=aA hd;have HB:=aA hb;clear hn hd hb hn9;by_cases hlt:k < s.size
     . have hc:s.data.toList[k]? = some s[k]:=by rw[Qa (by have:=HSl.out;omega)];rfl
       have hm:s[k]∈s.data.toList:=List.mem_of_getElem? hc;have htk:s.data.toList.take (k+1)=s.data.toList.take k++[s[k]]:=by
        obtain⟨h1,h2⟩:=Qo.1 hc;rw[Qj h1,h2]
       have HTk:=aA htk;have hdi:=kMA s[k];have hc255:((s[k]).toNat:Int)<=255:=by have:=(s[k]).toNat_lt;omega
       by_cases hlo:((s[k]).toNat:Int) < 48
       . have HU:=aA (pY hm (by rw[hdi];simp;omega));clear hc hm htk hdi;go_wp2;go_ret;exact⟨by rw[HU.out];rfl,rfl⟩
       . by_cases hhi : (57 : Int) < ((s[k]).toNat : Int)
         . have HU:=aA (pY hm (by rw[hdi];simp;omega));clear hc hm htk hdi;go_wp2;go_ret;exact⟨by rw[HU.out];rfl,rfl⟩
         . have HDk:=aA (show fAA s[k]=true by rw[hdi];simp;omega);have HIn:=aA (show(48:Int)<=((s[k]).toNat:Int)/\((s[k]).toNat:Int)<=57 by omega);have hw8:IntKind.u8.wrap (((s[k]).toNat:Int) - 48)=((s[k]).toNat:Int) - 48:=by
            simp[IntKind.wrap,IntKind.bits,IntKind.signed];omega
           clear hc hm htk hdi;go_wp2
           go_round
           case rel =>
             have h5:=HIn.out;refine⟨k+1,n * 10+((s[k]).toNat - 48),by omega,by go_num,by congr 1;omega,?_,?_,?_⟩
             . rw[HTk.out,aIA,<- HN.out]
             . intro c hc;rw[HTk.out]at hc;rcases List.mem_append.1 hc with h|h
               . exact HD.out c h
               . rw[List.mem_singleton.1 h];exact HDk.out
             . have:=HB.out;rw[Nat.pow_succ];omega
           case measure=>simp[intOf];omega
     . obtain rfl:k=s.size:=by omega
       have ht:s.data.toList.take s.size=s.data.toList:=by rw[<- HSl.out,List.take_length]
       rw[ht]at HN HD;have HU:=aA (HG.out HD.out);clear ht;go_wp2;go_ret;exact⟨by rw[HU.out,<- HN.out];rfl,rfl⟩
 . go_enter func71,ntmps71;go_wp2
   go_loop [3,4] (λv i=>i8A s v i) (λ_ i=>s.size - (intOf i).toNat)
   case atStart=>exact⟨0,0,Nat.zero_le _,rfl,rfl,rfl,(λc hc=>by simp at hc),by decide⟩
   case round =>
     obtain⟨k,n,hk,rfl,rfl,hn,hd,hb⟩:=hrel;have hn9:n<=99:=by
      have h2:=HS2.out;have:k=0∨k=1∨k=2:=by omega
      rcases this with h|h|h<;>rw[h]at hb<;>omega
     have hn0:(0:Int)<=(n:Int):=by omega
     have hn9':(n:Int)<=99:=by omega
     have HN:=aA hn;have HD:=aA hd;have HB:=aA hb;clear hn hd hb hn9;by_cases hlt:k < s.size
     . have hc:s.data.toList[k]? = some s[k]:=by rw[Qa (by have:=HSl.out;omega)];rfl
       have hm:s[k]∈s.data.toList:=List.mem_of_getElem? hc;have htk:s.data.toList.take (k+1)=s.data.toList.take k++[s[k]]:=by
        obtain⟨h1,h2⟩:=Qo.1 hc;rw[Qj h1,h2]
       have HTk:=aA htk;have hdi:=kMA s[k];have hc255:((s[k]).toNat:Int)<=255:=by have:=(s[k]).toNat_lt;omega
       by_cases hlo:((s[k]).toNat:Int) < 48
       . have HU:=aA (pY hm (by rw[hdi];simp;omega));clear hc hm htk hdi;go_wp2;go_ret;exact⟨by rw[HU.out];rfl,rfl⟩
       . by_cases hhi : (57 : Int) < ((s[k]).toNat : Int)
         . have HU:=aA (pY hm (by rw[hdi];simp;omega));clear hc hm htk hdi;go_wp2;go_ret;exact⟨by rw[HU.out];rfl,rfl⟩
         . have HDk:=aA (show fAA s[k]=true by rw[hdi];simp;omega);have HIn:=aA (show(48:Int)<=((s[k]).toNat:Int)/\((s[k]).toNat:Int)<=57 by omega);have hw8:IntKind.u8.wrap (((s[k]).toNat:Int) - 48)=((s[k]).toNat:Int) - 48:=by
            simp[IntKind.wrap,IntKind.bits,IntKind.signed];omega
           clear hc hm htk hdi;go_wp2
           go_round
           case rel =>
             have h5:=HIn.out;refine⟨k+1,n * 10+((s[k]).toNat - 48),by omega,by go_num,by congr 1;omega,?_,?_,?_⟩
             . rw[HTk.out,aIA,<- HN.out]
             . intro c hc;rw[HTk.out]at hc;rcases List.mem_append.1 hc with h|h
               . exact HD.out c h
               . rw[List.mem_singleton.1 h];exact HDk.out
             . have:=HB.out;rw[Nat.pow_succ];omega
           case measure=>simp[intOf];omega
     . obtain rfl:k=s.size:=by omega
       have ht:s.data.toList.take s.size=s.data.toList:=by rw[<- HSl.out,List.take_length]
       rw[ht]at HN HD;have HU:=aA (HG.out HD.out);clear ht;go_wp2;go_ret;exact⟨by rw[HU.out,<- HN.out];rfl,rfl⟩
end
section
variable {w0 : World}
theorem kwU(s:ByteArray):((iW s).2.2.2||(rU s).2)=kwW s:=by
 rw[dDA,gY];unfold kwW
 cases kN s with
 | none=>rfl
 | some y=>rfl
theorem xN(s:ByteArray):Calls prog 51 #[.string s] w0 λe w=>e = .returned (.bool (kwW s))/\Under w0 w:=by
 have HF:=aA (λw=>pHA (w0:=w) s);have HL:=aA (λw=>oV (w0:=w) s);have HK:=aA (kwU s);generalize iW s=a at *;generalize rU s=b at *;obtain⟨k1,n1,x1,a⟩:=a;obtain⟨k2,b⟩:=b;simp only at HF HL HK
 cases a
 all_goals cases b
 all_goals
  go_enter func51,ntmps51;go_wp2_with fail;refine(HF.out _).mono ?_;rintro e w1 ⟨rfl,hU1⟩;have HU1:=aA hU1;clear hU1;go_wp2_with fail;refine(HL.out _).mono ?_;rintro e w2 ⟨rfl,hU2⟩;have HU2:=aA ((bA HU1.out _).trans hU2);clear hU2;go_wp2;go_ret;exact⟨by rw[<- HK.out];rfl,bA HU2.out _⟩
theorem fI(T:ST){q:Option Addr}{cap:Nat}(hn:(qA T).length<=1000000)(hq:SxArg w0 q (qA T)):Calls prog 54 #[.slice q (qA T).length cap] w0 λe w=>e = .returned (sxV T.last)/\Under w0 w:=by
 obtain⟨init,hi⟩:=zF T;obtain⟨b,off,rfl,hb,ht⟩:=hq (by rw[hi];simp);obtain⟨c0,c1,c2⟩:=ht init.length T.last (by rw[hi];simp);have hl:(qA T).length=init.length+1:=by rw[hi];simp
 rw[hl]at hn ⊢;generalize T.last=x at *;generalize init.length=m at *;have hmi:((m:Int)+1 - 1)=(m:Int):=by omega
 have hm1:(m:Int)<=1000000:=by omega
 have hm0:(0:Int)<=(m:Int):=by omega
 clear hi ht hl hn;go_enter func54,ntmps54;go_wp2;refine bodyPost_ret (v:=sxV x) ?_ rfl ⟨rfl,bA (Qu _) _⟩;simp[results,f54,go_sem,sxV]
theorem f0A{s:ByteArray}(h:(s.toList==[])=true):nH s=false:=by
 have:s.size=0:=by
  rw[ByteArray.toList_eq]at h;have h:s.data.toList=[]:=by simpa using h
  have h2:=congrArg List.length h;rw[Array.length_toList]at h2;exact h2
 unfold nH fD;simp[this]
theorem uS(T:ST){q:Option Addr}{cap:Nat}(hn:(qA T).length<=1000000)(hq:SxArg w0 q (qA T)):Calls prog 70 #[.slice q (qA T).length cap] w0 λe w=>e = .returned (.bool (nH T.last.word))/\Under w0 w:=by
 have HL:=aA (fI (cap:=cap) T hn hq);generalize T.last=x at *;obtain⟨m,p,s⟩:=x;simp only[sxV]at HL ⊢;have HNm:=aA (λw=>lJ (w0:=w) s);have HKw:=aA (λw=>xN (w0:=w) s);have HKd:RowKit.Hid (nH s=(fD s && !kwW s)):=aA rfl;have HKe:=aA (λh=>f0A (s:=s) h);generalize nH s=R at *;generalize fD s=a at *;generalize kwW s=b at *
 cases hs:(s.toList==[])
 . have he:s.toList.isEmpty=false:=by
     cases h:s.toList with
     | nil=>rw[h]at hs;simp at hs
     | cons x l=>rfl
   have hne:¬ s.toList=[]:=by simpa using hs
   cases a
   . go_enter func70,ntmps70;go_wp2_with fail;refine HL.out.mono ?_;rintro e w1 ⟨rfl,hU1⟩;have HU1:=aA (bA hU1 (.cells #[.int .i64 m,.int .i64 p,.string s] 29));clear hU1;go_wp2_with fail;refine(HNm.out _).mono ?_;rintro e w2 ⟨rfl,rfl⟩;go_wp2;go_ret;exact⟨by rw[HKd.out];rfl,HU1.out⟩
   . go_enter func70,ntmps70;go_wp2_with fail;refine HL.out.mono ?_;rintro e w1 ⟨rfl,hU1⟩;have hB:=zA w1 #[.int .i64 m,.int .i64 p,.string s] 29;have HU1:=aA (bA hU1 (.cells #[.int .i64 m,.int .i64 p,.string s] 29));have HB:=aA hB;clear hU1 hB;go_wp2_with fail;refine(HNm.out _).mono ?_;rintro e w2 ⟨rfl,rfl⟩;go_wp2_with fail;refine(HKw.out _).mono ?_;rintro e w3 ⟨rfl,hU3⟩;have HU3:=aA (HU1.out.trans hU3);clear hU3;go_wp2;go_ret;exact⟨by rw[HKd.out];rfl,HU3.out⟩
 . have he:s.toList.isEmpty=true:=by simpa using hs
   have hne:s.toList=[]:=by simpa using hs
   go_enter func70,ntmps70;go_wp2_with fail;refine HL.out.mono ?_;rintro e w1 ⟨rfl,hU1⟩;have HU1:=aA (bA hU1 (.cells #[.int .i64 m,.int .i64 p,.string s] 29));have HKf:=aA (HKe.out hs);clear hU1;go_wp2;go_ret;exact⟨by rw[HKf.out];rfl,HU1.out⟩
end
def lEA(w0:World)(R:Say)(e:Ending)(w:World):Prop:=Under w0 w/\match R with
 | .ok t=>∃ v,e = .returned (.tuple #[v,.agg #[.int .i64 0,.int .i64 0]])/\OwnTm 96 w v t
 | .error (c,p)=>e = .returned (.tuple #[.slice none 0 0,.agg #[.int .i64 c,.int .i64 p]])
def tCB(w0:World)(st:List ByteArray)(s:ByteArray)(i:Value)(wr:World):Prop:=∃ k:Nat,k<=st.length/\i = .int .i64 (k:Int)/\zJ st s=((st.reverse.drop k).findIdx? λx=>x.toList==s.toList).map (· + k)/\Under w0 wr
section
variable {w0 : World}
theorem fSA(x:Sx)(cs st:List ByteArray){cv dv bv:Value}{k:Int}(hl:qM x.word=some k) :
 Calls prog 67 #[.agg #[cv,dv],sxV x,bv] w0 (lEA w0 (gG cs x.pos x.word st)):=by
 have hW:gG cs x.pos x.word st = .ok [⟨k,0,0,⟨#[]⟩⟩]:=by unfold gG;rw[hl]
 rw[hW];have HF:=aA (λw=>oV (w0:=w) x.word);have hlu:rU x.word=(k,true):=by rw[gY,hl];rfl
 rw[hlu]at HF;clear hW hl hlu;obtain⟨mm,pp,s⟩:=x;simp only at *;unfold sxV;simp only;have HX:=aA (show BoxAt (((w0.alloc (.cells #[cv,dv] 91)).alloc (.cells #[.int .i64 mm,.int .i64 pp,.string s] 29)).alloc (.cells #[.int .i64 0,.int .i64 0] 110)) (w0.heap.size+1) 29 #[.int .i64 mm,.int .i64 pp,.string s] from by
   have:=zA (w0.alloc (.cells #[cv,dv] 91)) #[.int .i64 mm,.int .i64 pp,.string s] 29;rw[World.size_alloc]at this;exact this.alloc _)
 have HNa:=aA (show BoxAt (((w0.alloc (.cells #[cv,dv] 91)).alloc (.cells #[.int .i64 mm,.int .i64 pp,.string s] 29)).alloc (.cells #[.int .i64 0,.int .i64 0] 110)) w0.heap.size 91 #[cv,dv] from((zA w0 _ _).alloc _).alloc _);have HFt:=aA (show BoxAt (((w0.alloc (.cells #[cv,dv] 91)).alloc (.cells #[.int .i64 mm,.int .i64 pp,.string s] 29)).alloc (.cells #[.int .i64 0,.int .i64 0] 110)) (w0.heap.size+1+1) 110 #[.int .i64 0,.int .i64 0] from by
   have:=zA ((w0.alloc (.cells #[cv,dv] 91)).alloc (.cells #[.int .i64 mm,.int .i64 pp,.string s] 29)) #[.int .i64 0,.int .i64 0] 110;rw[World.size_alloc,World.size_alloc]at this;exact this)
 have HUa:=aA (show Under w0 (((w0.alloc (.cells #[cv,dv] 91)).alloc (.cells #[.int .i64 mm,.int .i64 pp,.string s] 29)).alloc (.cells #[.int .i64 0,.int .i64 0] 110)) from bA (bA (bA (Qu _) _) _) _);go_enter func67,ntmps67;go_wp2_with fail;generalize ((w0.alloc (.cells #[cv,dv] 91)).alloc (.cells #[.int .i64 mm,.int .i64 pp,.string s] 29)).alloc (.cells #[.int .i64 0,.int .i64 0] 110)=wA at *;refine(HF.out _).mono ?_;rintro e w1 ⟨rfl,hU1⟩;have HX1:=aA (HX.out.under (bA hU1 (.cells #[.int .i64 (k),.int .i64 0,.int .i64 0,.string ⟨#[]⟩] 96)));have HN1:=aA (HNa.out.under (bA hU1 (.cells #[.int .i64 (k),.int .i64 0,.int .i64 0,.string ⟨#[]⟩] 96)));have HF1:=aA (HFt.out.under (bA hU1 (.cells #[.int .i64 (k),.int .i64 0,.int .i64 0,.string ⟨#[]⟩] 96)));have HU1:=aA (HUa.out.trans (bA hU1 (.cells #[.int .i64 (k),.int .i64 0,.int .i64 0,.string ⟨#[]⟩] 96)));have HB1:=aA (zA w1 #[.int .i64 (k),.int .i64 0,.int .i64 0,.string ⟨#[]⟩] 96);have x0:=HX1.out.cell 0;have x1:(w1.alloc (.cells #[.int .i64 (k),.int .i64 0,.int .i64 0,.string ⟨#[]⟩] 96)).cell? ⟨w0.heap.size+1,1,none⟩=some (.int .i64 pp):=HX1.out.cell 1;have x2:(w1.alloc (.cells #[.int .i64 (k),.int .i64 0,.int .i64 0,.string ⟨#[]⟩] 96)).cell? ⟨w0.heap.size+1,2,none⟩=some (.string s):=HX1.out.cell 2;have xl:=HX1.out.lt;have xl2:w0.heap.size+1 < w1.heap.size+1:=by simpa using xl
 have f0:(w1.alloc (.cells #[.int .i64 (k),.int .i64 0,.int .i64 0,.string ⟨#[]⟩] 96)).cell? ⟨w0.heap.size+1+1,0,none⟩=some (.int .i64 0):=HF1.out.cell 0;have f1:(w1.alloc (.cells #[.int .i64 (k),.int .i64 0,.int .i64 0,.string ⟨#[]⟩] 96)).cell? ⟨w0.heap.size+1+1,1,none⟩=some (.int .i64 0):=HF1.out.cell 1;have fl:=HF1.out.lt;have fl2:w0.heap.size+1+1 < w1.heap.size+1:=by simpa using fl
 have ff0:=HF1.out.free 0;have ff1:=HF1.out.free 1;clear hU1 HX HNa HFt HUa HF;go_wp2;have hlow:w0.heap.size<=w0.heap.size+1+1:=by omega
 obtain⟨wC,hC⟩:∃ z,z=((w1.alloc (.cells #[.int .i64 k,.int .i64 0,.int .i64 0,.string ⟨#[]⟩] 96)).setCell ⟨w0.heap.size+1+1,0,none⟩ (.int .i64 0)).setCell ⟨w0.heap.size+1+1,1,none⟩ (.int .i64 0):=⟨_,rfl⟩;have hsz:wC.heap.size=w1.heap.size+1:=by rw[hC,qJ,qJ];exact World.size_alloc ..
 have hFE:BoxAt wC (w0.heap.size+1+1) 110 #[.int .i64 0,.int .i64 0]:=by rw[hC];exact(HF1.out.set 0 (.int .i64 0)).set 1 (.int .i64 0)
 have hUE:Under w0 wC:=by rw[hC];exact nA (nA HU1.out hlow 0 (.int .i64 0)) hlow 1 (.int .i64 0)
 rw[<- hC];clear hC;have hTE:=o7 96 wC ⟨k,0,0,⟨#[]⟩⟩;have hFE2:=hFE.alloc (.cells #[.int .i64 (k),.int .i64 (0),.int .i64 (0),.string ⟨#[]⟩] 96);have hUE2:=bA hUE (.cells #[.int .i64 (k),.int .i64 (0),.int .i64 (0),.string ⟨#[]⟩] 96);rw[hsz]at hTE;have e0:(wC.alloc (.cells #[.int .i64 (k),.int .i64 (0),.int .i64 (0),.string ⟨#[]⟩] 96)).cell? ⟨w0.heap.size+1+1,0,none⟩=some (.int .i64 0):=hFE2.cell 0;have e1:(wC.alloc (.cells #[.int .i64 (k),.int .i64 (0),.int .i64 (0),.string ⟨#[]⟩] 96)).cell? ⟨w0.heap.size+1+1,1,none⟩=some (.int .i64 0):=hFE2.cell 1;generalize wC.alloc (.cells #[.int .i64 (k),.int .i64 (0),.int .i64 (0),.string ⟨#[]⟩] 96)=wE at *;refine bodyPost_ret (v:=.tuple #[.slice (some ⟨w1.heap.size+1,0,none⟩) 1 1,.agg #[.int .i64 0,.int .i64 0]]) ((kC rfl _ _ _).trans ?_) rfl ⟨hUE2,⟨_,rfl,hTE⟩⟩;simp[go_sem,e0,e1]
end
end Go.Proofs.YtpkaiodmbicjiaaGreatDoor
