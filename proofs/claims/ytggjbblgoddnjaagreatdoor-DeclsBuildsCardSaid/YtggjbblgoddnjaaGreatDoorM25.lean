/- Part 25 of what the proof rests on. -/
import Derived.Deep.RegionHeld3
import Derived.Deep.QuietTactic
import Derived.Deep.AppendLies
import Derived.Test.YtggjbblgoddnjaaGreatDoorM15
import Derived.Test.YtggjbblgoddnjaaGreatDoorM24
set_option linter.unusedSimpArgs false
set_option linter.unusedVariables false
set_option maxRecDepth 100000
set_option maxHeartbeats 4000000
namespace Go.Proofs.YtggjbblgoddnjaaGreatDoor
open Go.Lx Go.RowKit
theorem TsArg.more{C:Nat→Prop}{w:World}{q:Option Addr}{ts:List ST}{nb:Nat}(h:TsArg C w q ts)(hn:w.heap.size≤nb):TsArg (fun b=>C b∨b=nb) w q ts:=fun hne=>by
 obtain⟨b,off,rfl,hb,hnC,hc⟩:=h hne;refine⟨b,off,rfl,hb,fun e=>e.elim hnC (fun e=>by omega),fun i T hi=>?_⟩;obtain⟨qi,ci,h1,h2,h3,h4⟩:=hc i T hi;refine⟨qi,ci,h1,h2,h3,fun b' off' x e=>?_⟩;have hp:=uX T;obtain⟨b2,off2,e',hb',_⟩:=h3 (fun e=>by rw[e]at hp;exact absurd hp (Nat.lt_irrefl _));rw[e]at e'
 cases e';exact fun e2=>e2.elim (h4 _ _ _ e) (fun e2=>by omega)
theorem TsArg.tail{C:Nat→Prop}{w:World}{b off:Nat}{a:ST}{ts:List ST}(h:TsArg C w (some ⟨b,off,none⟩) (a::ts)):TsArg C w (some ⟨b,off+1,none⟩) ts:=fun hne=>by
 obtain⟨b',off',e,hb,hnC,hc⟩:=h (by simp)
 cases e;refine⟨b,off+1,rfl,hb,hnC,fun i T hi=>?_⟩;obtain⟨qi,ci,h1,h2⟩:=hc (i+1) T (by simpa using hi);exact⟨qi,ci,by rw[show off+1+i=off+(i+1) by omega];exact h1,h2⟩
def ints(l:List Int):List Value:=l.map fun n=>.int .i64 n
def gU(n:Int):Bool := !(decide (n < 0)||decide (9 < n))
def wT : Nat → List Int → Int
  | _,[] => -1
  | i,n::l=>if gU n=false then i else wT (i+1) l
theorem aPA{l:List Int}{k:Nat}{c:Int}(h:l[k]? = some c):wT k (l.drop k)=if gU c=false then(k:Int) else wT (k+1) (l.drop (k+1)):=by
 obtain⟨hk,hc⟩:=List.getElem?_eq_some_iff.1 h;rw[List.drop_eq_getElem_cons hk,hc];rfl
theorem eRA:∀(l:List Int) (i:Nat),decide (0≤wT i l) = !(l.all gU):=by
 intro l
 induction l with
 | nil=>intro i;simp[wT]
 | cons n l ih =>
   intro i;have e:wT i (n::l)=if gU n=false then(i:Int) else wT (i+1) l:=rfl
   by_cases h:gU n=false
   · simp only[e,List.all_cons,h];simp
   · simp only[e,if_neg h,List.all_cons,ih];simp at h;rw[h];simp
theorem dGA(l:List Int)(p:Option Addr)(c:Nat)(w:World)(hl:l.length≤maxLen)(hp:RowArg w p (ints l)) :
 Calls Tryz.prog 206 #[.slice p l.length c,.func (.func 200) #[] #[]] w fun e w'=>e = .returned (.int .i64 (wT 0 l))∧w=w':=by
 unfold maxLen at hl;have HP:=Lib.hid hp;clear hp;go_enter Tryz.func206,Tryz.ntmps206;go_wp2
 go_loop [8] (fun i=>∃ k:Nat,k≤l.length∧i = .int .i64 k∧wT 0 l=wT k (l.drop k)) (fun i=>l.length - (intOf i).toNat)
 case atStart=>exact⟨0,Nat.zero_le _,rfl,by simp⟩
 case round =>
   obtain⟨k,hk,rfl,hN⟩:=hrel;have HN:=Lib.hid hN;clear hN;by_cases hlt:k < l.length
   · have hc := aPA (l := l) (k := k) (c := l[k]) (List.getElem?_eq_getElem hlt); have HC := Lib.hid hc; clear hc; obtain ⟨b, off, rfl, hb, hcs⟩ := HP.out (by rw [Ne, ints, List.map_eq_nil_iff]; intro e; rw [e] at hlt; simp at hlt); have cc := hcs k (.int .i64 l[k]) (by simp [ints, List.getElem?_eq_getElem hlt]); clear hcs; generalize hx : l[k] = x at *; clear hx; by_cases h1 : x < 0
     · go_wp2;go_ret;exact⟨mF (by rw[HN.out,HC.out,if_pos (by simp[gU,h1])]),rfl⟩
     · by_cases h2 : 9 < x
       · go_wp2;go_ret;exact⟨mF (by rw[HN.out,HC.out,if_pos (by simp[gU,h2])]),rfl⟩
       · go_wp2
         go_round
         case rel=>exact⟨k+1,by omega,by go_num,by rw[HN.out,HC.out,if_neg (by simp[gU];omega)]⟩
         case measure=>simp[intOf];omega
   · go_wp2;go_ret;exact⟨mF (by rw[HN.out,List.drop_eq_nil_of_le (by omega)];rfl),rfl⟩
theorem cMA(l:List Int)(p:Option Addr)(c:Nat)(w:World)(hl:l.length≤maxLen)(hp:RowArg w p (ints l)) :
 Calls Tryz.prog 199 #[.slice p l.length c,.func (.func 200) #[] #[]] w fun e w'=>e = .returned (.bool (!l.all gU))∧w=w':=by
 have hb:=eRA l 0;have HB:=Lib.hid hb;clear hb;go_enter Tryz.func199,Tryz.ntmps199;go_wp2_with (go_at_call 206;refine(dGA l p c _ hl hp).mono ?_;rintro e w' ⟨rfl,rfl⟩);go_ret;exact⟨kH HB.out,rfl⟩
theorem nZA(l:List Int)(p:Option Addr)(c:Nat)(w:World)(hl:l.length≤maxLen)(hp:RowArg w p (ints l)) :
 Calls Tryz.prog 193 #[.slice p l.length c] w fun e w'=>e = .returned (.bool (l.all gU))∧w=w':=by
 go_enter Tryz.func193,Tryz.ntmps193;go_wp2_with (go_at_call 199;refine(cMA l p c _ hl hp).mono ?_;rintro e w' ⟨rfl,rfl⟩);go_ret;exact⟨kH (by simp),rfl⟩
def hOA(n:Int):Int:=if gU n then 0 else 1
theorem xBA(n:Int)(w:World) :
 Calls Tryz.prog 189 #[.int .i64 n] w fun e w'=>e = .returned (.int .i64 (hOA n))∧Under w w':=by
 have hc:=nZA [n] (some ⟨w.heap.size,0,none⟩) 1 (w.alloc (.cells #[.int .i64 n] 3)) (by unfold maxLen;simp) (by simpa [ints] using nJ w (ints [n]) 3 (0,0));have e:[n].all gU=gU n:=by simp
 rw[e]at hc;have HC:=Lib.hid hc;clear hc e;unfold hOA;by_cases h:gU n
 all_goals
  go_enter Tryz.func189,Tryz.ntmps189;go_wp2_with (go_at_call 193;refine HC.out.mono ?_;rintro e w' ⟨rfl,rfl⟩);go_ret;exact⟨by simp,aA (Under.refl _) _⟩
theorem cBA(k:Int)(w:World):Calls Tryz.prog 190 #[.int .i64 k] w fun e w'=>e = .returned (.int .i64 (bX k))∧w=w':=by
 unfold bX;by_cases h0:k=0<;>by_cases h3:k=3<;>by_cases h6:k=6
 all_goals try omega
 all_goals
  go_enter Tryz.func190,Tryz.ntmps190;go_wp2;go_ret;exact⟨mF (by simp[*]),rfl⟩
theorem yWA(x:Nd)(w:World)(hS:ShapesAt 3 w)(hr:yA x=true):Calls Tryz.prog 182 #[ndV x] w fun e w'=>e = .returned (.int .i64 ((binds x).length:Nat))∧Under w w':=by
 obtain⟨k,n,m,s⟩:=x;unfold ndV binds;obtain⟨h0,h1⟩:=iIA hr;have hm:=dS hr;obtain⟨p,c,c0,_⟩:=hS.row k.toNat (by simp at h0 h1;omega);simp only at *;by_cases h26:k=26
 · have:=hm (.inl h26);go_enter Tryz.func182,Tryz.ntmps182;go_wp2;go_ret;exact⟨mF (by omega),aA (Under.refl _) _⟩
 by_cases h27:k=27
 · have:=hm (.inr h27);go_enter Tryz.func182,Tryz.ntmps182;go_wp2;go_ret;exact⟨mF (by omega),aA (Under.refl _) _⟩
 have hb:=hS.lt;clear hm hr hS;go_enter Tryz.func182,Tryz.ntmps182;go_wp2;go_ret;exact⟨mF (by simp),aA (Under.refl _) _⟩
theorem b2A(k:Nat):(fN k=true∧fM k=false∧fS k=false∧(k=0∨k=2∨k=3∨k=6))∨(fN k=false∧fM k=false∧fS k=true∧(k=1∨k=25))∨(fN k=true∧fM k=true∧fS k=true∧k=26)∨(fN k=false∧fM k=true∧fS k=true∧k=27) ∨
    (fN k=false∧fM k=false∧fS k=false∧k≠2∧k≠26∧k≠27):=by
  simp only[fN,fM,fS,List.contains_iff_mem,Bool.eq_false_iff,ne_eq,List.mem_cons,List.not_mem_nil,or_false];omega
theorem lJ(s:ByteArray):s.toList.isEmpty=decide (s.size=0):=by
 rw[ByteArray.toList_eq,← ByteArray.size_data]
 cases h:s.data.toList with
 | nil=>simp[← Array.length_toList,h]
 | cons a b=>simp[← Array.length_toList,h]
structure RightAt (k n m:Int) (s:ByteArray) (w:World) (a b c:Bool):Prop where
 k0:0≤k
 k1:k < 30
 hs:s.size≤maxLen
 lt:3 < w.heap.size
 row:∃ p q,w.cell? ⟨3,k.toNat * 4,none⟩=some (.slice p (gG k.toNat).length q)
 c1:w.cell? ⟨3,k.toNat * 4+1,none⟩=some (.bool a)
 c2:w.cell? ⟨3,k.toNat * 4+2,none⟩=some (.bool b)
 c3:w.cell? ⟨3,k.toNat * 4+3,none⟩=some (.bool c)
 e1:fN k.toNat=a
 e2:fM k.toNat=b
 e3:fS k.toNat=c
theorem RightAt.val{k n m:Int}{s:ByteArray}{w:World}{a b c:Bool}(H:RightAt k n m s w a b c):yA ⟨k,n,m,s⟩ =
    if(!a&&(n != 0))=true then false else if(!b&&(m != 0))=true then false else if(!c && !s.toList.isEmpty)=true then false else if(c && !rD s)=true then false
    else if(k==2)=true then decide (0≤n)&&decide (n≤9) else if(k==26)=true then decide (0≤n)&&decide (n≤5)&&decide (0≤m)&&decide (m≤6) else if(k==27)=true then decide (0≤m)&&decide (m≤6) else !a||(decide (0≤n)&&decide (n≤bX k)):=by
  have e1:=H.e1;have e2:=H.e2;have e3:=H.e3;have h0:=H.k0;have h1:=H.k1;unfold yA;simp only;rw[if_neg (by omega),e1,e2,e3,lJ]
  cases a<;>cases b<;>cases c<;>simp
theorem iGA(k:Int)(h:(k==26)=true)(w:World):Calls Tryz.prog 190 #[.int .i64 k] w fun e w'=>e = .returned (.int .i64 5)∧w=w':=by
 have:bX k=5:=by simp at h;subst h;rfl
 have hc:=cBA k w;rw[this]at hc;exact hc
section
variable {k n m : Int} {s : ByteArray} {w : World}
theorem pRA(H:RightAt k n m s w true false false)(h26:(k==26)=false)(h27:(k==27)=false):Calls Tryz.prog 179 #[ndV ⟨k,n,m,s⟩] w fun e w'=>e = .returned (.bool (yA ⟨k,n,m,s⟩))∧Under w w':=by
 have HV:=Lib.hid H.val;obtain⟨hk0,hk1,hs,hb,⟨p,q,c0⟩,c1,c2,c3,e1,e2,e3⟩:=H;clear e1 e2 e3;unfold ndV
 cases hm:(m != 0)
 · cases he : s.toList.isEmpty
   · rw[show yA ⟨k,n,m,s⟩=false from HV.out.trans (by simp[*])];clear HV;go_enter Tryz.func179,Tryz.ntmps179;go_wp2;go_ret;exact⟨rfl,(by first | exact aA (aA (Under.refl _) _) _ | exact aA (aA (aA (Under.refl _) _) _) _ | exact aB (aA (aA (Under.refl _) _) _) _)⟩
   · cases h2 : (k == 2)
     · cases hn : decide (0 ≤ n)
       · rw[show yA ⟨k,n,m,s⟩=false from HV.out.trans (by simp[*])];clear HV;go_enter Tryz.func179,Tryz.ntmps179;go_wp2;go_quiet ((go_at_call 190;exact Calls.quiet_of_same ((cBA _ _).mono fun _ _ h=>⟨h.1,h.2.symm⟩)));go_wp2;go_ret;exact⟨rfl,aB (aA (aA (Under.refl _) _) _) _⟩
       · rw[show yA ⟨k,n,m,s⟩=decide (n≤bX k) from HV.out.trans (by simp[*])];clear HV;go_enter Tryz.func179,Tryz.ntmps179;go_wp2;go_quiet ((go_at_call 190;exact Calls.quiet_of_same ((cBA _ _).mono fun _ _ h=>⟨h.1,h.2.symm⟩)));go_wp2;go_ret;exact⟨rfl,aB (aA (aA (Under.refl _) _) _) _⟩
     · rw [show yA ⟨k, n, m, s⟩ = (decide (0 ≤ n) && decide (n ≤ 9)) from HV.out.trans (by simp [*])]; clear HV; go_enter Tryz.func179, Tryz.ntmps179; go_wp2_with fail; refine (xBA n _).mono ?_; rintro e w' ⟨rfl, hU⟩; have HU := Lib.hid hU; clear hU; unfold hOA gU; go_wp2
       all_goals
        go_ret;exact⟨kH (by simp[*]<;>omega),(aA (aA (Under.refl _) _) _).trans HU.out⟩
 · rw[show yA ⟨k,n,m,s⟩=false from HV.out.trans (by simp[*])];clear HV;go_enter Tryz.func179,Tryz.ntmps179;go_wp2;go_ret;exact⟨rfl,(by first | exact aA (aA (Under.refl _) _) _ | exact aA (aA (aA (Under.refl _) _) _) _ | exact aB (aA (aA (Under.refl _) _) _) _)⟩
theorem cUA(H:RightAt k n m s w false false true)(h2:(k==2)=false)(h26:(k==26)=false)(h27:(k==27)=false):Calls Tryz.prog 179 #[ndV ⟨k,n,m,s⟩] w fun e w'=>e = .returned (.bool (yA ⟨k,n,m,s⟩))∧Under w w':=by
 have HV:=Lib.hid H.val;obtain⟨hk0,hk1,hs,hb,⟨p,q,c0⟩,c1,c2,c3,e1,e2,e3⟩:=H;clear e1 e2 e3;unfold ndV
 cases hn:(n != 0)
 · cases hm : (m != 0)
   · cases hnm : rD s
     · rw[show yA ⟨k,n,m,s⟩=false from HV.out.trans (by simp[*])];clear HV;go_enter Tryz.func179,Tryz.ntmps179;go_wp2_with (go_at_call 82;refine(eH s _ hs).mono ?_;rintro e w' ⟨rfl,rfl⟩;try rw[hnm]);go_ret;exact⟨rfl,(by first | exact aA (aA (Under.refl _) _) _ | exact aA (aA (aA (Under.refl _) _) _) _ | exact aB (aA (aA (Under.refl _) _) _) _)⟩
     · rw[show yA ⟨k,n,m,s⟩=true from HV.out.trans (by simp[*])];clear HV;go_enter Tryz.func179,Tryz.ntmps179;go_wp2_with (go_at_call 82;refine(eH s _ hs).mono ?_;rintro e w' ⟨rfl,rfl⟩;try rw[hnm]);go_quiet (fail);go_wp2;go_ret;exact⟨rfl,(by first | exact aA (aA (Under.refl _) _) _ | exact aA (aA (aA (Under.refl _) _) _) _ | exact aB (aA (aA (Under.refl _) _) _) _)⟩
   · rw[show yA ⟨k,n,m,s⟩=false from HV.out.trans (by simp[*])];clear HV;go_enter Tryz.func179,Tryz.ntmps179;go_wp2;go_ret;exact⟨rfl,(by first | exact aA (aA (Under.refl _) _) _ | exact aA (aA (aA (Under.refl _) _) _) _ | exact aB (aA (aA (Under.refl _) _) _) _)⟩
 · rw[show yA ⟨k,n,m,s⟩=false from HV.out.trans (by simp[*])];clear HV;go_enter Tryz.func179,Tryz.ntmps179;go_wp2;go_ret;exact⟨rfl,(by first | exact aA (aA (Under.refl _) _) _ | exact aA (aA (aA (Under.refl _) _) _) _ | exact aB (aA (aA (Under.refl _) _) _) _)⟩
theorem uQA(H:RightAt k n m s w true true true)(h2:(k==2)=false)(h26:(k==26)=true):Calls Tryz.prog 179 #[ndV ⟨k,n,m,s⟩] w fun e w'=>e = .returned (.bool (yA ⟨k,n,m,s⟩))∧Under w w':=by
 have HV:=Lib.hid H.val;obtain⟨hk0,hk1,hs,hb,⟨p,q,c0⟩,c1,c2,c3,e1,e2,e3⟩:=H;clear e1 e2 e3;unfold ndV
 cases hnm:rD s
 · rw[show yA ⟨k,n,m,s⟩=false from HV.out.trans (by simp[*])];clear HV;go_enter Tryz.func179,Tryz.ntmps179;go_wp2_with (go_at_call 82;refine(eH s _ hs).mono ?_;rintro e w' ⟨rfl,rfl⟩;try rw[hnm]);go_ret;exact⟨rfl,(by first | exact aA (aA (Under.refl _) _) _ | exact aA (aA (aA (Under.refl _) _) _) _ | exact aB (aA (aA (Under.refl _) _) _) _)⟩
 · cases hn : decide (0 ≤ n)
   · rw[show yA ⟨k,n,m,s⟩=false from HV.out.trans (by simp[*])];clear HV;go_enter Tryz.func179,Tryz.ntmps179;go_wp2_with (go_at_call 82;refine(eH s _ hs).mono ?_;rintro e w' ⟨rfl,rfl⟩;try rw[hnm]);go_quiet ((go_at_call 190;exact Calls.quiet_of_same ((iGA _ (by assumption) _).mono fun _ _ h=>⟨h.1,h.2.symm⟩)));go_wp2;go_ret;exact⟨rfl,(by first | exact aA (aA (Under.refl _) _) _ | exact aA (aA (aA (Under.refl _) _) _) _ | exact aB (aA (aA (Under.refl _) _) _) _)⟩
   · cases hn5 : decide (n ≤ 5)
     · rw[show yA ⟨k,n,m,s⟩=false from HV.out.trans (by simp[*])];clear HV;go_enter Tryz.func179,Tryz.ntmps179;go_wp2_with (go_at_call 82;refine(eH s _ hs).mono ?_;rintro e w' ⟨rfl,rfl⟩;try rw[hnm]);go_quiet ((go_at_call 190;exact Calls.quiet_of_same ((iGA _ (by assumption) _).mono fun _ _ h=>⟨h.1,h.2.symm⟩)));go_wp2;go_ret;exact⟨rfl,(by first | exact aA (aA (Under.refl _) _) _ | exact aA (aA (aA (Under.refl _) _) _) _ | exact aB (aA (aA (Under.refl _) _) _) _)⟩
     · cases hm0 : decide (0 ≤ m)
       · rw[show yA ⟨k,n,m,s⟩=false from HV.out.trans (by simp[*])];clear HV;go_enter Tryz.func179,Tryz.ntmps179;go_wp2_with (go_at_call 82;refine(eH s _ hs).mono ?_;rintro e w' ⟨rfl,rfl⟩;try rw[hnm]);go_quiet ((go_at_call 190;exact Calls.quiet_of_same ((iGA _ (by assumption) _).mono fun _ _ h=>⟨h.1,h.2.symm⟩)));go_wp2;go_ret;exact⟨rfl,(by first | exact aA (aA (Under.refl _) _) _ | exact aA (aA (aA (Under.refl _) _) _) _ | exact aB (aA (aA (Under.refl _) _) _) _)⟩
       · rw[show yA ⟨k,n,m,s⟩=decide (m≤6) from HV.out.trans (by simp[*])];clear HV;go_enter Tryz.func179,Tryz.ntmps179;go_wp2_with (go_at_call 82;refine(eH s _ hs).mono ?_;rintro e w' ⟨rfl,rfl⟩;try rw[hnm]);go_quiet ((go_at_call 190;exact Calls.quiet_of_same ((iGA _ (by assumption) _).mono fun _ _ h=>⟨h.1,h.2.symm⟩)));go_wp2;go_ret;exact⟨rfl,(by first | exact aA (aA (Under.refl _) _) _ | exact aA (aA (aA (Under.refl _) _) _) _ | exact aB (aA (aA (Under.refl _) _) _) _)⟩
theorem fUA(H:RightAt k n m s w false true true)(h2:(k==2)=false)(h26:(k==26)=false)(h27:(k==27)=true):Calls Tryz.prog 179 #[ndV ⟨k,n,m,s⟩] w fun e w'=>e = .returned (.bool (yA ⟨k,n,m,s⟩))∧Under w w':=by
 have HV:=Lib.hid H.val;obtain⟨hk0,hk1,hs,hb,⟨p,q,c0⟩,c1,c2,c3,e1,e2,e3⟩:=H;clear e1 e2 e3;unfold ndV
 cases hn:(n != 0)
 · cases hnm : rD s
   · rw[show yA ⟨k,n,m,s⟩=false from HV.out.trans (by simp[*])];clear HV;go_enter Tryz.func179,Tryz.ntmps179;go_wp2_with (go_at_call 82;refine(eH s _ hs).mono ?_;rintro e w' ⟨rfl,rfl⟩;try rw[hnm]);go_ret;exact⟨rfl,(by first | exact aA (aA (Under.refl _) _) _ | exact aA (aA (aA (Under.refl _) _) _) _ | exact aB (aA (aA (Under.refl _) _) _) _)⟩
   · cases hm0 : decide (0 ≤ m)
     · rw[show yA ⟨k,n,m,s⟩=false from HV.out.trans (by simp[*])];clear HV;go_enter Tryz.func179,Tryz.ntmps179;go_wp2_with (go_at_call 82;refine(eH s _ hs).mono ?_;rintro e w' ⟨rfl,rfl⟩;try rw[hnm]);go_ret;exact⟨rfl,(by first | exact aA (aA (Under.refl _) _) _ | exact aA (aA (aA (Under.refl _) _) _) _ | exact aB (aA (aA (Under.refl _) _) _) _)⟩
     · rw[show yA ⟨k,n,m,s⟩=decide (m≤6) from HV.out.trans (by simp[*])];clear HV;go_enter Tryz.func179,Tryz.ntmps179;go_wp2_with (go_at_call 82;refine(eH s _ hs).mono ?_;rintro e w' ⟨rfl,rfl⟩;try rw[hnm]);go_ret;exact⟨rfl,(by first | exact aA (aA (Under.refl _) _) _ | exact aA (aA (aA (Under.refl _) _) _) _ | exact aB (aA (aA (Under.refl _) _) _) _)⟩
 · rw[show yA ⟨k,n,m,s⟩=false from HV.out.trans (by simp[*])];clear HV;go_enter Tryz.func179,Tryz.ntmps179;go_wp2;go_ret;exact⟨rfl,(by first | exact aA (aA (Under.refl _) _) _ | exact aA (aA (aA (Under.refl _) _) _) _ | exact aB (aA (aA (Under.refl _) _) _) _)⟩
theorem rTA(H:RightAt k n m s w false false false)(h2:(k==2)=false)(h26:(k==26)=false)(h27:(k==27)=false):Calls Tryz.prog 179 #[ndV ⟨k,n,m,s⟩] w fun e w'=>e = .returned (.bool (yA ⟨k,n,m,s⟩))∧Under w w':=by
 have HV:=Lib.hid H.val;obtain⟨hk0,hk1,hs,hb,⟨p,q,c0⟩,c1,c2,c3,e1,e2,e3⟩:=H;clear e1 e2 e3;unfold ndV
 cases hn:(n != 0)
 · cases hm : (m != 0)
   · cases he : s.toList.isEmpty
     · rw[show yA ⟨k,n,m,s⟩=false from HV.out.trans (by simp[*])];clear HV;go_enter Tryz.func179,Tryz.ntmps179;go_wp2;go_ret;exact⟨rfl,(by first | exact aA (aA (Under.refl _) _) _ | exact aA (aA (aA (Under.refl _) _) _) _ | exact aB (aA (aA (Under.refl _) _) _) _)⟩
     · rw[show yA ⟨k,n,m,s⟩=true from HV.out.trans (by simp[*])];clear HV;go_enter Tryz.func179,Tryz.ntmps179;go_wp2;go_quiet (fail);go_wp2;go_ret;exact⟨rfl,aB (aA (aA (Under.refl _) _) _) _⟩
   · rw[show yA ⟨k,n,m,s⟩=false from HV.out.trans (by simp[*])];clear HV;go_enter Tryz.func179,Tryz.ntmps179;go_wp2;go_ret;exact⟨rfl,(by first | exact aA (aA (Under.refl _) _) _ | exact aA (aA (aA (Under.refl _) _) _) _ | exact aB (aA (aA (Under.refl _) _) _) _)⟩
 · rw[show yA ⟨k,n,m,s⟩=false from HV.out.trans (by simp[*])];clear HV;go_enter Tryz.func179,Tryz.ntmps179;go_wp2;go_ret;exact⟨rfl,(by first | exact aA (aA (Under.refl _) _) _ | exact aA (aA (aA (Under.refl _) _) _) _ | exact aB (aA (aA (Under.refl _) _) _) _)⟩
end
theorem nP(x:Nd)(w:World)(hs:x.s.size≤maxLen)(hS:ShapesAt 3 w):Calls Tryz.prog 179 #[ndV x] w fun e w'=>e = .returned (.bool (yA x))∧Under w w':=by
 obtain⟨k,n,m,s⟩:=x;simp only at *;by_cases hk:k < 0
 · rw[show yA ⟨k,n,m,s⟩=false by simp[yA,hk]];unfold ndV;go_enter Tryz.func179,Tryz.ntmps179;go_wp2;go_ret;exact⟨rfl,aA (Under.refl _) _⟩
 by_cases hk2:30≤k
 · rw[show yA ⟨k,n,m,s⟩=false by simp[yA,hk2]];unfold ndV;go_enter Tryz.func179,Tryz.ntmps179;go_wp2;go_ret;exact⟨rfl,aA (Under.refl _) _⟩
 obtain⟨p,c,c0,_,_,c1,c2,c3⟩:=hS.row k.toNat (by omega);have hR:RightAt k n m s w (fN k.toNat) (fM k.toNat) (fS k.toNat):=⟨by omega,by omega,hs,hS.lt,⟨p,c,c0⟩,c1,c2,c3,rfl,rfl,rfl⟩;rcases b2A k.toNat with⟨e1,e2,e3,hc⟩ | ⟨e1,e2,e3,hc⟩ | ⟨e1,e2,e3,hc⟩ | ⟨e1,e2,e3,hc⟩ | ⟨e1,e2,e3,hc⟩<;>rw[e1,e2,e3]at hR
 · exact pRA hR (by simp;omega) (by simp;omega)
 · exact cUA hR (by simp;omega) (by simp;omega) (by simp;omega)
 · exact uQA hR (by simp;omega) (by simp;omega)
 · exact fUA hR (by simp;omega) (by simp;omega) (by simp;omega)
 · exact rTA hR (by simp;omega) (by simp;omega) (by simp;omega)
def yC : List (Nat × Nat) → List Value
  | []=>[]
  | x::l=>.int .i64 (x.1:Int) :: .int .i64 (x.2:Int)::yC l
theorem oH(l r:List (Nat×Nat)):yC (l++r)=yC l++yC r:=by
 induction l with
 | nil=>rfl
 | cons x l ih=>simp[yC,ih]
theorem nO(l:List (Nat×Nat)):(yC l).length=l.length * 2:=by
 induction l with
 | nil=>rfl
 | cons x l ih=>simp[yC,ih];omega
theorem xP : ∀ {l : List (Nat × Nat)} {k : Nat} {x : Nat × Nat}, l[k]? = some x → (yC l)[k * 2]? = some (.int .i64 (x.1 : Int)) ∧ (yC l)[k * 2 + 1]? = some (.int .i64 (x.2 : Int))
  | y::l,0,x,h=>by cases h;exact⟨rfl,rfl⟩
  | y :: l, k + 1, x, h => by
    have:=xP (l:=l) (k:=k) (x:=x) (by simpa using h);rw[show(k+1) * 2=k * 2+2 by omega];exact this
theorem Tryz.info256:(Tryz.prog.info? 256).map (fun i=>(i.zero,i.size,i.bytes))=some (some (.agg #[.int .i64 0,.int .i64 0]),2,16):=by kernel_rfl
theorem pGA{l:List (Nat×Nat)}{i k:Nat}(h:∀ y∈l,y.2≤k):(meas i l).2≤k+1:=by
 have:∀(l:List (Nat×Nat)) (d:Nat),d≤k+1→(∀ y∈l,y.2≤k)→l.foldl (fun d x=>max d (x.2+1)) d≤k+1:=by
  intro l
  induction l with
  | nil=>intro d hd _;exact hd
  | cons x l ih =>
    intro d hd hl;have:=hl x (List.mem_cons_self ..);exact ih _ (show max d (x.2+1)≤k+1 by omega) fun y hy=>hl y (List.mem_cons_of_mem _ hy)
 exact this l 1 (by omega) h
structure MI (w0:World) (t:List Nd) (va vo:Value) (k:Nat) (all op:List (Nat×Nat)) (w:World):Prop where
 all_:w.ownsRow w0.heap.size 256 2 va all.length (yC all)
 op_:w.ownsRow w0.heap.size 256 2 vo op.length (yC op)
 ne:va.ownBlock=none∨va.ownBlock≠vo.ownBlock
 low:Under w0 w
 res:wC (t.drop k) k all op=wC t 0 [] []
 al:all.length=k
 ol:op.length≤k
 dp:∀ y∈op,y.2≤k
def vSA(w0:World)(t:List Nd)(e:Ending)(w:World):Prop :=
 match wC t 0 [] [] with
 | none=>e = .returned (.tuple #[.slice none 0 0,.bool false])∧Under w0 w
 | some (all,op)=>∃ v,e = .returned (.tuple #[v,.bool (decide ((op.length:Int)=1))])∧w.ownsRow w0.heap.size 256 2 v all.length (yC all)∧Under w0 w
noncomputable def cO:Code:=Tryz.f166.body.getD .skip
noncomputable def zN:Code:=xA (jA (jA cO))
noncomputable def msRound:Code:=aD (aD (jA zN))
noncomputable def aZA:Code:=xA (jA (jA (jA (jA (aD (xA (jA (jA msRound))))))))
noncomputable def miRound:Code:=aD (aD (jA aZA))
def sG(l va vo:Value)(n k:Nat)(J:Nat→Value):Array Value:=#[l,J 1,J 2,J 3,va,vo,J 6,J 7,J 8,J 9,J 10,J 11,l,.int .i64 (n:Int),.int .i64 (k:Int),J 15,J 16,J 17,J 18,J 19,J 20,J 21,J 22,J 23,J 24,J 25,J 26,J 27,J 28,J 29,J 30,J 31,J 32,J 33,J 34,J 35,J 36,J 37,J 38,J 39,J 40,J 41,J 42,J 43,J 44,J 45,J 46,J 47,J 48,J 49,J 50,J 51,J 52,J 53,J 54,J 55,J 56,J 57,J 58,J 59,J 60,J 61,J 62,J 63,J 64,J 65,J 66,J 67,J 68,J 69,J 70,J 71,J 72]
def aH(l va vo:Value)(n k kk b9:Nat)(vs:Value)(bl j:Nat)(J:Nat→Value):Array Value :=
 #[l, J 1, J 2, J 3, va, vo, J 6, J 7, .int .i64 (kk : Int), .pointer (some ⟨b9, 0, none⟩), J 10, J 11, l, .int .i64 (n : Int), .int .i64 (k : Int), J 15, J 16, J 17, J 18, J 19, J 20, J 21, J 22, J 23, J 24, J 25, J 26, J 27, J 28, J 29, J 30, J 31, J 32, J 33, J 34, J 35, J 36, J 37, vs, .int .i64 (bl : Int), .int .i64 (j : Int), J 41, J 42, J 43, J 44, J 45, J 46, J 47, J 48, J 49, J 50, J 51, J 52, J 53, J 54, J 55, J 56, J 57, J 58, J 59, J 60, J 61, J 62, J 63, J 64, J 65, J 66, J 67, J 68, J 69, J 70, J 71, J 72]
def MIn(W1:World)(l va vo:Value)(n k kk b9:Nat)(vs:Value)(bl j:Nat)(f d:Nat)(a:Act)(w:World):Prop :=
 ∃ J,a=⟨aH l va vo n k kk b9 vs bl j J,[]⟩∧Under W1 w∧BoxAt w b9 256 #[.int .i64 (f:Int),.int .i64 (d:Int)]
def m4A(W1:World)(l va vo:Value)(n k kk b9:Nat)(vs:Value)(bl j:Nat)(f d:Nat)(e:Exit)(a:Act)(w:World):Prop:=e = .exit 2∧MIn W1 l va vo n k kk b9 vs bl j f d a w
theorem j4A{w:World}{b:Nat}{t:TypeId}{a:Value}{y y':Int}(h:BoxAt w b t #[a,.int .i64 y])(e:y=y'):BoxAt w b t #[a,.int .i64 y']:=e▸h
section
variable {W1 : World} {l va vo : Value} {n k kk b9 bl j f d : Nat}
theorem y0A{vs:Value}(J:Nat→Value)(w:World)(hU:Under W1 w)(hB:BoxAt w b9 256 #[.int .i64 (f:Int),.int .i64 (d:Int)]) :
 miRound.wp Tryz.prog (Exit.then (fun _ _=>False) (m4A W1 l va vo n k kk b9 vs bl bl f d)) ⟨aH l va vo n k kk b9 vs bl bl J,[]⟩ w:=by
 have HU:=Lib.hid hU;have HB:=Lib.hid hB;clear hU hB;unfold miRound aZA msRound zN cO;simp only[Tryz.f166,Option.getD_some,xA,jA,aD];unfold aH;go_wp2;exact⟨rfl,bB (F:=aH _ va vo n k kk b9 vs bl bl) (by rfl) ⟨HU.out,HB.out⟩⟩
theorem v1A {b off c : Nat} {x : Nat × Nat} (hj : j < bl) (hbl : bl ≤ 8) (h9 : W1.heap.size ≤ b9) (J : Nat → Value) (w : World) (hU : Under W1 w) (hB : BoxAt w b9 256 #[.int .i64 (f : Int), .int .i64 (d : Int)])
    (hx2:x.2≤4000) (hb:b < W1.heap.size) (c0:W1.cell? ⟨b,off+j * 2,none⟩=some (.int .i64 (x.1:Int))) (c1:W1.cell? ⟨b,off+j * 2+1,none⟩=some (.int .i64 (x.2:Int))) :
    miRound.wp Tryz.prog (Exit.then (MIn W1 l va vo n k kk b9 (.slice (some ⟨b,off,none⟩) bl c) bl (j+1) (if j=0 then x.1 else f) (max d (x.2+1))) (fun _ _ _=>False)) ⟨aH l va vo n k kk b9 (.slice (some ⟨b,off,none⟩) bl c) bl j J,[]⟩ w:=by
  rw[← dA hU hb]at c0 c1;have hb':=Nat.lt_of_lt_of_le hb hU.size;have e0:=hB.cell 0;have e1:=hB.cell 1;have f0:=hB.free 0;have f1:=hB.free 1;have h9':=hB.lt;have hj':(j:Int) < bl:=by omega
  have hj1:(0:Int)≤j:=Int.natCast_nonneg _;have hj2:(j:Int)≤8:=by omega
  have hx3:(x.2:Int)≤4000:=by omega
  have hx4:(0:Int)≤x.2:=Int.natCast_nonneg _;have HU:=Lib.hid hU;have HB:=Lib.hid hB;clear hU hB;by_cases hz:j=0
  · rw [if_pos hz]; subst hz; rw [Nat.zero_mul, Nat.add_zero] at c0 c1; unfold miRound aZA msRound zN cO; simp only [Tryz.f166, Option.getD_some, xA, jA, aD]; unfold aH; go_wp2
    all_goals exact bB (F:=aH _ va vo n k kk b9 _ bl (0+1)) (by rfl) ⟨aA (uA (uA HU.out h9 _ _) h9 _ _) _,(j4A ((HB.out.set _ _).set _ _) (by omega)).alloc _⟩
  · rw [if_neg hz]; have hz' : (0 : Int) < j := by omega
    clear hz;unfold miRound aZA msRound zN cO;simp only[Tryz.f166,Option.getD_some,xA,jA,aD];unfold aH;go_wp2
    all_goals exact bB (F:=aH _ va vo n k kk b9 _ bl (j+1)) (by rfl) ⟨aA (uA HU.out h9 _ _) _,(j4A (HB.out.set _ _) (by omega)).alloc _⟩
def iV(l:List (Nat×Nat))(j:Nat):Nat:=(l.take j).foldl (fun d x=>max d (x.2+1)) 1
theorem pJA{l:List (Nat×Nat)}{j:Nat}{x:Nat×Nat}(h:l[j]? = some x):iV l (j+1)=max (iV l j) (x.2+1):=by
 obtain⟨hj,rfl⟩:=List.getElem?_eq_some_iff.1 h;unfold iV;rw[List.take_succ_eq_append_getElem hj,List.foldl_append];rfl
theorem eZ (ls : List (Nat × Nat)) {p : Option Addr} {c i : Nat} (hbl : ls.length ≤ 8) (h9 : W1.heap.size ≤ b9) (hx : ∀ x ∈ ls, x.2 ≤ 4000) (hp : RowArg W1 p (yC ls)) (m : Nat) (a : Act) (w : World)
    (h0:∃ j,m+j=ls.length∧MIn W1 l va vo n k kk b9 (.slice p ls.length c) ls.length j (if j=0 then i else(ls.headD (i,0)).1) (iV ls j) a w) :
    (Code.loop miRound).wp Tryz.prog (m4A W1 l va vo n k kk b9 (.slice p ls.length c) ls.length ls.length (meas i ls).1 (meas i ls).2) a w:=by
  refine wp_loop_ghost (fun m a w=>∃ j,m+j=ls.length∧MIn W1 l va vo n k kk b9 (.slice p ls.length c) ls.length j (if j=0 then i else(ls.headD (i,0)).1) (iV ls j) a w) m h0 ?_;clear h0;rintro m a w ⟨j,hmj,J,rfl,hU,hB⟩;by_cases hjn:j=ls.length
  · subst hjn; have e1 : (if ls.length = 0 then i else (ls.headD (i, 0)).1) = (meas i ls).1 := by cases ls <;> simp [meas]
    have e2:iV ls ls.length=(meas i ls).2:=by unfold iV meas;rw[List.take_length]
    rw[e1,e2]at hB;refine wp_mono (y0A J w hU hB) ?_;rintro e a' w' h
    cases e with
    | normal=>exact h.elim
    | _=>exact h
  have hlt:j < ls.length:=by omega
  obtain⟨b,off,rfl,hb,hc⟩:=hp (fun e=>by have:=congrArg List.length e;rw[nO,List.length_nil]at this;omega);obtain⟨c0,c1⟩:=xP (List.getElem?_eq_getElem hlt);refine wp_mono (v1A hlt hbl h9 J w hU hB (hx _ (List.getElem_mem hlt)) hb (hc _ _ c0) (hc _ _ c1)) ?_;rintro e a' w' h
  cases e with
  | normal =>
    refine⟨m - 1,by omega,j+1,by omega,?_⟩;rw[pJA (List.getElem?_eq_getElem hlt),if_neg (by omega)];have e1:(ls.headD (i,0)).1=if j=0 then ls[j].1 else(if j=0 then i else(ls.headD (i,0)).1):=by
     by_cases hz:j=0
     · subst hz; rw [if_pos rfl]
       cases ls with
       | nil=>simp at hlt
       | cons x ls=>rfl
     · rw[if_neg hz,if_neg hz]
    rw[e1];exact h
  | _=>exact h.elim
end
end Go.Proofs.YtggjbblgoddnjaaGreatDoor
