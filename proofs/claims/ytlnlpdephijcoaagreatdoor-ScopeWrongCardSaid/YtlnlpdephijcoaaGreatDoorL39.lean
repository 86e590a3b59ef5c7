/- Part 39 of what the proof rests on. -/
import Derived.Test.YtlnlpdephijcoaaGreatDoorL14
import Derived.Test.YtlnlpdephijcoaaGreatDoorL15
import Derived.Test.YtlnlpdephijcoaaGreatDoorL26
import Derived.Test.YtlnlpdephijcoaaGreatDoorL29
import Derived.Test.YtlnlpdephijcoaaGreatDoorL38
set_option linter.unusedSimpArgs false
set_option linter.unusedVariables false
set_option maxRecDepth 100000
set_option maxHeartbeats 4000000
namespace Go.Proofs.YtlnlpdephijcoaaGreatDoor
open Go.Conc Go.Lx Go.RowKit
def dMA : Option Nat → Int
  | none => -1
  | some b=>b
def jDA(w:World)(R:Option Nat)(e:Ending)(w':World):Prop:=Under w w'∧e = .returned (.int .i64 (dMA R))
noncomputable def qOA:Code:=Tryz.f63.body.getD .skip
noncomputable def fOA:Code:=rA (dA (dA (dA qOA)))
noncomputable def beRound:Code:=bC (bC (dA fOA))
def oK(l:Value)(e a i:Nat)(J:Nat→Value):Array Value :=
 #[l, .int .i64 (e : Int), J 2, J 3, J 4, .int .i64 (a : Int), .int .i64 (i : Int), J 7, J 8, J 9, J 10, J 11, J 12, J 13, J 14, J 15, J 16, J 17, J 18, J 19, J 20, J 21, J 22, J 23, J 24, J 25, J 26, J 27, J 28, J 29, J 30, J 31, J 32, J 33, J 34, J 35, J 36, J 37, J 38, J 39, J 40, J 41, J 42, J 43, J 44, J 45, J 46, J 47, J 48, J 49]
def t5A(J:Nat→Value):Array Value:=#[J 0,J 1,J 2,J 3,.int .i64 (-1),J 5,J 6,J 7,J 8,J 9,J 10,J 11,J 12,J 13,J 14,J 15,J 16,J 17,J 18,J 19,J 20,J 21,J 22,J 23,J 24,J 25,J 26,J 27,J 28,J 29,J 30,J 31,J 32,J 33,J 34,J 35,J 36,J 37,J 38,J 39,J 40,J 41,J 42,J 43,J 44,J 45,J 46,J 47,J 48,J 49]
section
variable {b off n cap e : Nat} {x : Sx}
def lXA(w0:World)(l:Value)(e a i:Nat)(a':Act)(w':World):Prop:=∃ J,a'=⟨oK l e a i J,[]⟩∧Under w0 w'
def n5A(w0:World)(l:Value)(e a i:Nat)(ex:Exit)(a':Act)(w':World):Prop:=ex = .exit 0∧lXA w0 l e a i a' w'
def o9A(w0:World)(ex:Exit)(a':Act)(w':World):Prop:=ex = .ret∧∃ J,a'=⟨t5A J,[]⟩∧Under w0 w'
theorem l2A{w0:World}{a i:Nat}(he:e < n)(hi:x.many=(i:Int))(J:Nat→Value)(w:World)(hU:Under w0 w)(hb0:b < w0.heap.size)(c0:w0.cell? ⟨b,off+e * 3,none⟩=some (.int .i64 x.many)) :
 beRound.wp Tryz.prog (Exit.then (fun _ _=>False) (n5A w0 (.slice (some ⟨b,off,none⟩) n cap) e a i)) ⟨oK (.slice (some ⟨b,off,none⟩) n cap) e a i J,[]⟩ w:=by
 rw[← jA hU hb0]at c0;have h1:(e:Int) < n:=by omega
 have h2:(0:Int)≤e:=by omega
 rw[hi]at c0;have HU:=Lib.hid hU;clear hU;unfold beRound fOA qOA;simp only[Tryz.f63,Option.getD_some,rA,dA,bC];unfold oK;go_wp2;exact⟨rfl,nA (F:=oK _ e a i) (by rfl) HU.out⟩
theorem d6A {w0 : World} {a i : Nat} {R : Option Nat} (he : e < n) (hn : n ≤ 1000000) (hi : (i : Int) < x.many) (hi2 : i ≤ 1000000) (ha : a ≤ 1000000) (J : Nat → Value) (w : World) (hU : Under w0 w) (hb0 : b < w0.heap.size) (c0 : w0.cell? ⟨b, off + e * 3, none⟩ = some (.int .i64 x.many))
    (C:Calls Tryz.prog 63 #[.slice (some ⟨b,off,none⟩) n cap,.int .i64 ((a:Int) - 1)] w (jDA w R)) :
    beRound.wp Tryz.prog (Exit.then (fun a' w'=>∃ c,R=some c∧lXA w0 (.slice (some ⟨b,off,none⟩) n cap) e c (i+1) a' w') (fun ex a' w'=>R=none∧o9A w0 ex a' w')) ⟨oK (.slice (some ⟨b,off,none⟩) n cap) e a i J,[]⟩ w:=by
  rw[← jA hU hb0]at c0;have h1:(e:Int) < n:=by omega
  have h2:(0:Int)≤e:=by omega
  have h3:(i:Int)≤1000000:=by omega
  have h4:(0:Int)≤i:=by omega
  have h5:(a:Int)≤1000000:=by omega
  have h6:(0:Int)≤a:=by omega
  have HU:=Lib.hid hU;have HC:=Lib.hid C;clear hU C;unfold beRound fOA qOA;simp only[Tryz.f63,Option.getD_some,rA,dA,bC];unfold oK;go_wp2_with fail;refine HC.out.mono ?_;rintro ed w1 ⟨hU1,rfl⟩;have HU1:=Lib.hid hU1;clear hU1
  cases R with
  | none =>
    simp only[dMA];go_wp2;exact⟨by simp,rfl,nA (F:=t5A) (by rfl) (HU.out.trans HU1.out)⟩
  | some c =>
    simp only[dMA];have h7:(0:Int)≤c:=by omega
    go_wp2;exact⟨c,rfl,nA (F:=oK _ e c (i+1)) (by rfl) (HU.out.trans HU1.out)⟩
def EI(w0:World)(l:Value)(row:List Sx)(e:Nat)(m:Nat)(R:Option Nat)(g:Nat)(a:Act)(w:World):Prop :=
 ∃ k i,g=k∧k+i≤e∧i≤m∧lJ (rb row) (m - i) k=R∧lXA w0 l e k i a w
theorem xSA (row : List Sx) (hn : row.length ≤ 1000000) {w0 : World} (hb0 : b < w0.heap.size) (ht : xFA w0 b off row) (hx : row[e]? = some x) (hm : 0 ≤ x.many) (R : Option Nat)
    (IH:∀ k,k≤e→∀ w,Under w0 w→Calls Tryz.prog 63 #[.slice (some ⟨b,off,none⟩) row.length cap,.int .i64 ((k:Int) - 1)] w (jDA w (rb row k))) (g:Nat) (a:Act) (w:World)
    (h0:EI w0 (.slice (some ⟨b,off,none⟩) row.length cap) row e x.many.toNat R g a w) :
    (Code.loop beRound).wp Tryz.prog (fun ex a' w'=>(∃ k i,R=some k∧n5A w0 (.slice (some ⟨b,off,none⟩) row.length cap) e k i ex a' w')∨(R=none∧o9A w0 ex a' w')) a w:=by
  refine wp_loop_ghost _ g h0 ?_;clear h0;rintro g a w ⟨k,i,hg,hki,him,hR,J,rfl,hU⟩;have he:e < row.length:=(List.getElem?_eq_some_iff.1 hx).1;obtain⟨c0,_,_⟩:=ht e x hx;by_cases hd:i=x.many.toNat
  · subst hd; rw [Nat.sub_self] at hR; refine wp_mono (l2A (cap := cap) (a := k) he (by omega) J w hU hb0 c0) ?_; rintro ex a' w' h
    cases ex with
    | normal=>exact h.elim
    | _=>exact .inl ⟨k,_,hR.symm,h⟩
  · obtain ⟨r, hr⟩ : ∃ r, x.many.toNat - i = r + 1 := ⟨x.many.toNat - i - 1, by omega⟩; rw [hr] at hR; simp only [lJ] at hR; refine wp_mono (d6A (cap := cap) (a := k) he hn (by omega) (by omega) (by omega) J w hU hb0 c0 (IH k (by omega) w hU)) ?_; rintro ex a' w' h
    cases ex with
    | normal =>
      obtain⟨c,hc,h⟩:=h;rw[hc]at hR;have hlt:=bFA hc;exact⟨c,by omega,c,i+1,rfl,by omega,by omega,by rw[show x.many.toNat - (i+1)=r by omega];exact hR,h⟩
    | _ =>
      obtain⟨hc,h⟩:=h;rw[hc]at hR;exact .inr ⟨hR.symm,h⟩
theorem eVA(row:List Sx)(hn:row.length≤1000000):∀(k:Nat),k≤row.length→∀(w0:World),b < w0.heap.size→xFA w0 b off row →
 Calls Tryz.prog 63 #[.slice (some ⟨b,off,none⟩) row.length cap,.int .i64 ((k:Int) - 1)] w0 (jDA w0 (rb row k)):=by
 intro k
 induction k using Nat.strongRecOn with
 | _ k ih =>
   intro hk w0 hb0 ht
   cases k with
   | zero =>
     rw[bSA];have e0:(((0:Nat):Int) - 1) = -1:=by decide
     rw[e0];clear ih;go_enter Tryz.func63,Tryz.ntmps63;go_wp2;go_ret;exact⟨⟨rfl,rfl,Nat.le_refl _,fun _ _=>rfl⟩,rfl⟩
   | succ e =>
     have e0:(((e+1:Nat):Int) - 1)=(e:Int):=by omega
     rw[e0];obtain⟨x,hx⟩:∃ x,row[e]? = some x:=⟨_,List.getElem?_eq_getElem (by omega)⟩;obtain⟨c0,_,c2⟩:=ht e x hx;have h1:(e:Int) < row.length:=by omega
     have h2:(0:Int)≤e:=by omega
     have HU0:Under w0 w0:=⟨rfl,rfl,Nat.le_refl _,fun _ _=>rfl⟩;rw[sJA hx];by_cases hbad:hAA x
     · rw [if_pos hbad]; have HU0 := Lib.hid HU0; obtain ⟨m, q, t⟩ := x; simp only [hAA] at hbad c0 c2; clear ih hx ht; by_cases hm : m < 0
       · clear hbad;go_enter Tryz.func63,Tryz.ntmps63;go_wp2;go_ret;exact⟨HU0.out,rfl⟩
       · have hb' : t.size ≠ 0 ∧ m ≠ 0 := hbad.resolve_left hm; have hm0 : (m != 0) = true := by simp; exact hb'.2
         obtain⟨e1,e2⟩:=dK hb'.1;clear hbad hb';go_enter Tryz.func63,Tryz.ntmps63;go_wp2;go_ret;exact⟨HU0.out,rfl⟩
     · rw [if_neg hbad]; have hm0 : 0 ≤ x.many := by unfold hAA at hbad; omega
       have HL := Lib.hid (fun g a w h => xSA (cap := cap) row hn hb0 ht hx hm0 (lJ (rb row) x.many.toNat e) (fun k hk w hU => ih k (by omega) (by omega) w (Nat.lt_of_lt_of_le hb0 hU.size) (fun k x hx => by
         rw[jA hU hb0,jA hU hb0,jA hU hb0];exact ht k x hx)) g a w h)
       generalize hR:lJ (rb row) x.many.toNat e=R at *;have HR:=Lib.hid hR;clear hR ih ht hx;obtain⟨m,q,t⟩:=x;simp only[hAA]at hbad c0 c2 hm0 HR HL;have m1:¬ m < 0:=by omega
       have both:t=⟨#[]⟩∨((m != 0)=false∧¬ t.toList=[]∧t.toList.isEmpty=false):=by
        by_cases hB:t.size=0
        · exact .inl (ByteArray.ext (Array.eq_empty_of_size_eq_zero hB))
        · refine .inr ⟨?_, dK hB⟩; have : m = 0 := Decidable.byContradiction fun h => hbad (.inr ⟨hB, h⟩)
          simp[this]
       clear hbad;have HU0:=Lib.hid HU0;go_enter Tryz.func63,Tryz.ntmps63;rcases both with rfl | ⟨e1,e2,e3⟩
       · go_wp2; rename_i K hK; refine wp_mono (HL.out e _ _ ⟨e, 0, rfl, by omega, Nat.zero_le _, HR.out, _, fB (F := oK _ e e 0) (by rfl), HU0.out⟩) ?_; rintro ex a' w' (⟨k, i, rfl, rfl, J, rfl, hU⟩ | ⟨rfl, rfl, J, rfl, hU⟩)
         · simp only[Exit.inBlock,if_pos,Exit.then];refine hK _ _ ?_;have HU:=Lib.hid hU;clear hU;unfold oK;go_wp2;go_ret;exact⟨HU.out,rfl⟩
         · simp only[Exit.inBlock,Exit.then];go_ret;exact⟨hU,rfl⟩
       · go_wp2; rename_i K hK; refine wp_mono (HL.out e _ _ ⟨e, 0, rfl, by omega, Nat.zero_le _, HR.out, _, fB (F := oK _ e e 0) (by rfl), HU0.out⟩) ?_; rintro ex a' w' (⟨k, i, rfl, rfl, J, rfl, hU⟩ | ⟨rfl, rfl, J, rfl, hU⟩)
         · simp only[Exit.inBlock,if_pos,Exit.then];refine hK _ _ ?_;have HU:=Lib.hid hU;clear hU;unfold oK;go_wp2;go_ret;exact⟨HU.out,rfl⟩
         · simp only[Exit.inBlock,Exit.then];go_ret;exact⟨hU,rfl⟩
end
def SxVals (w0 : World) : List Value → List (List Sx) → Prop
  | [],[]=>True
  | v::vs,l::ls=>(∃ q c,v = .slice q l.length c∧l.length≤c∧SxArg w0 q l)∧SxVals w0 vs ls
  | _,_=>False
theorem SxVals.len {w0 : World} : ∀ {vs : List Value} {ls : List (List Sx)}, SxVals w0 vs ls → vs.length = ls.length
  | [],[],_=>rfl
  | _::_,_::_,h=>by simp[SxVals.len h.2]
  | [],_::_,h=>h.elim
  | _::_,[],h=>h.elim
theorem SxVals.one {w0 : World} : ∀ {vs : List Value} {ls : List (List Sx)}, SxVals w0 vs ls → ∀ u ∈ vs, u.oneCell' = true
  | [],[],_,u,hu=>by simp at hu
  | v :: vs, _ :: _, h, u, hu => by
    rcases List.mem_cons.1 hu with rfl | hu
    · obtain⟨q,c,rfl,_⟩:=h.1;rfl
    · exact SxVals.one h.2 u hu
  | [],_::_,h,_,_=>h.elim
  | _::_,[],h,_,_=>h.elim
theorem SxVals.at {w0 : World} : ∀ {vs : List Value} {ls : List (List Sx)}, SxVals w0 vs ls → ∀ {i : Nat} {l : List Sx}, ls[i]? = some l → ∃ q c, vs[i]? = some (.slice q l.length c) ∧ l.length ≤ c ∧ SxArg w0 q l
  | [],[],_,_,_,hi=>by simp at hi
  | v :: _, _ :: _, h, 0, _, hi => by
    cases hi;obtain⟨q,c,rfl,h1,h2⟩:=h.1;exact⟨q,c,rfl,h1,h2⟩
  | _::_,_::_,h,i+1,_,hi=>SxVals.at h.2 (i:=i) hi
  | [],_::_,h,_,_,_=>h.elim
  | _::_,[],h,_,_,_=>h.elim
theorem Tryz.info36:(Tryz.prog.info? 36).map (fun i=>(i.zero,i.size,i.bytes))=some (some (.slice none 0 0),1,24):=by kernel_rfl
theorem row_one(w:World)(base:Nat)(hb:base≤w.heap.size)(e:TypeId)(v:Value):(w.alloc (.cells #[v] e)).ownsRow base e 1 (.slice (some ⟨w.heap.size,0,none⟩) 1 1) 1 [v] :=
 ⟨rfl,.inr ⟨w.heap.size,1,#[v],rfl,hb,heap_alloc_new w _,Nat.le_refl _,by decide,rfl,rfl⟩⟩
noncomputable def tQA:Code:=Tryz.f31.body.getD .skip
noncomputable def qiRound:Code:=bC (bC (rA (dA (dA (dA tQA)))))
def iM(l vo:Value)(k:Nat)(J:Nat→Value):Array Value :=
 #[l, J 1, J 2, J 3, vo, .int .i64 (k : Int), J 6, J 7, J 8, J 9, J 10, J 11, J 12, J 13, J 14, J 15, J 16, J 17, J 18, J 19, J 20, J 21, J 22, J 23, J 24, J 25, J 26, J 27, J 28]
def y4A(J:Nat→Value):Array Value:=#[J 0,J 1,.slice none 0 0,.bool false,J 4,J 5,J 6,J 7,J 8,J 9,J 10,J 11,J 12,J 13,J 14,J 15,J 16,J 17,J 18,J 19,J 20,J 21,J 22,J 23,J 24,J 25,J 26,J 27,J 28]
structure QH (w0:World) (g c:Nat) (ls:List (List Sx)) (w:World):Prop where
 out:∃ vs,w.ownsRow w0.heap.size 36 1 (.slice (some ⟨g,0,none⟩) ls.length c) ls.length vs∧SxVals w0 vs ls
 low:Under w0 w
def k0A(w0:World)(l:Value)(k:Nat)(ls:List (List Sx))(a':Act)(w':World):Prop :=
 ∃ g c J,a'=⟨iM l (.slice (some ⟨g,0,none⟩) ls.length c) k J,[]⟩∧QH w0 g c ls w'
def m9A(w0:World)(ex:Exit)(a':Act)(w':World):Prop:=ex = .ret∧∃ J,a'=⟨y4A J,[]⟩∧Under w0 w'
def f9A(l vo:Value)(w:World)(e:Exit)(a':Act)(w':World):Prop:=e = .exit 0∧∃ J,a'=⟨iM l vo 0 J,[]⟩∧w'=w
section
variable {w0 : World} {b off cap k : Nat}
theorem j3A{l vo:Value}(J:Nat→Value)(w:World) :
 qiRound.wp Tryz.prog (Exit.then (fun _ _=>False) (f9A l vo w)) ⟨iM l vo 0 J,[]⟩ w:=by
 unfold qiRound tQA;simp only[Tryz.f31,Option.getD_some,rA,dA,bC];unfold iM;go_wp2;exact⟨rfl,nA (F:=iM l vo 0) (by rfl) rfl⟩
theorem kYA {row : List Sx} {g gc : Nat} {ls : List (List Sx)} (hk : 0 < k) (hkn : k ≤ row.length) (hn : row.length ≤ 1000000) (hcap : row.length ≤ cap) (hls : ls.length ≤ 1000000) (J : Nat → Value) (w : World) (hP : QH w0 g gc ls w)
    (hb0:b < w0.heap.size) (ht:xFA w0 b off row) :
    qiRound.wp Tryz.prog (Exit.then (fun a' w'=>∃ c,rb row k=some c∧k0A w0 (.slice (some ⟨b,off,none⟩) row.length cap) c (piece row c k::ls) a' w') (fun ex a' w'=>rb row k=none∧m9A w0 ex a' w')) ⟨iM (.slice (some ⟨b,off,none⟩) row.length cap) (.slice (some ⟨g,0,none⟩) ls.length gc) k J,[]⟩ w:=by
  obtain ⟨vs, ho, hv⟩ := hP.out; obtain ⟨i0, hi, hz0, hz1, hz2⟩ := info_parts Tryz.info36; have hU := hP.low; have HC := Lib.hid (eVA (cap := cap) (off := off) row hn k hkn w (Nat.lt_of_lt_of_le hb0 hU.size) (fun k x hx => by
    rw[jA hU hb0,jA hU hb0,jA hU hb0];exact ht k x hx))
  have HLT:=Lib.hid (fun c (h:rb row k=some c)=>bFA h);have HO:=Lib.hid ho;have HV:=Lib.hid hv;have HU:=Lib.hid hU;have HT:=Lib.hid ht;clear hP ho hv hU ht;generalize rb row k=R at *;have h1:(0:Int) < k:=by omega
  have h2:(k:Int)≤cap:=by omega
  have h3:(k:Int)≤1000000:=by omega
  have hmx:1+ls.length≤maxLen:=by simp only[maxLen];omega
  have hby:(1+ls.length) * 24≤140737488355328:=by omega
  unfold qiRound tQA;simp only[Tryz.f31,Option.getD_some,rA,dA,bC];unfold iM;go_wp2_with fail;refine HC.out.mono ?_;rintro ed w1 ⟨hU1,rfl⟩;have HU1:=Lib.hid hU1;clear hU1
  cases R with
  | none =>
    simp only[dMA];go_wp2;exact⟨by simp,rfl,nA (F:=y4A) (by rfl) (HU.out.trans HU1.out)⟩
  | some c =>
    simp only[dMA];have hck:=HLT.out c rfl;have h4:(0:Int)≤c:=by omega
    have h5:(c:Int)≤k:=by omega
    have h6:¬ cap=c:=by omega
    have h7:(c:Int)≤cap:=by omega
    have hsz:=HU.out.size;have hsz1:=HU1.out.size;go_wp2_with (at_builtin;refine wpList_append_own_at _ rfl _ _ 66 rfl w0.heap.size 36 i0 _ 1 24 Tryz.underlying66 hi hz0 hz1 hz2 rfl (by decide) _ _ _ rfl (row_one w1 w0.heap.size (by omega) 36 _) ⟨g,0,none⟩ ls.length gc vs rfl ?c0 ?c1 ?c2 hmx hby ?c5 ?_)
    case c0=>rw[HV.out.len,Nat.mul_one]
    case c1 =>
      intro j u hj;rw[fP,Nat.zero_add];exact kD ((yB HO.out HU1.out).alloc _) rfl hj
    case c2=>exact HV.out.one
    case c5=>simp;omega
    intro v' w' hown hgrow hnil hat;obtain⟨g',c',rfl,_⟩:=fD hown (by omega);have hpl:(piece row c k).length=k - c:=nZ row hkn;have HP2:QH w0 g' c' (piece row c k::ls) w':=by
     refine⟨⟨.slice (some ⟨b,off+c * 3,none⟩) (k - c) (cap - c)::vs,by rw[List.length_cons,Nat.add_comm];exact hown,⟨⟨_,_,by rw[hpl],by omega,fun _=>⟨b,off+c * 3,rfl,hb0,pMA HT.out⟩⟩,HV.out⟩⟩,?_⟩;exact bB (aA (HU.out.trans HU1.out) _) hgrow fun g e=>by cases e;show w0.heap.size≤w1.heap.size;omega
    have HP3:=Lib.hid HP2;clear hown hgrow hnil hat HP2 hpl;go_wp2;refine⟨c,rfl,g',c',nA (F:=iM _ _ c) (by rw[List.length_cons,Nat.add_comm ls.length 1];rfl) HP3.out⟩
def QI(w0:World)(l:Value)(row:List Sx)(R:Option (List (List Sx)))(m:Nat)(a:Act)(w:World):Prop :=
 ∃ ls,m≤row.length∧ls.length+m≤row.length∧RItems row m ls R∧k0A w0 l m ls a w
def cAB(w0:World)(l:Value)(R:Option (List (List Sx)))(e:Exit)(a:Act)(w:World):Prop :=
 (e = .exit 0∧∃ ls,R=some ls∧k0A w0 l 0 ls a w)∨(R=none∧m9A w0 e a w)
theorem wVA (row : List Sx) {p : Option Addr} (hn : row.length ≤ 1000000) (hcap : row.length ≤ cap) (hp : SxArg w0 p row) (R : Option (List (List Sx))) (m : Nat) (a : Act) (w : World)
    (h0:QI w0 (.slice p row.length cap) row R m a w) :
    (Code.loop qiRound).wp Tryz.prog (cAB w0 (.slice p row.length cap) R) a w:=by
  refine wp_loop_ghost _ m h0 ?_;clear h0;rintro m a w ⟨ls,hm,hlm,hR,g,c,J,rfl,hi⟩
  cases hR with
  | done acc =>
    refine wp_mono (j3A J w) ?_;rintro e a' w' h
    cases e with
    | normal=>exact h.elim
    | _ =>
      obtain⟨h1,J',rfl,rfl⟩:=h;exact .inl ⟨h1,ls,rfl,g,c,J',rfl,hi⟩
  | bad hk hb =>
    obtain⟨b,off,rfl,hb0,ht⟩:=hp (fun e=>by rw[e,List.length_nil]at hm;omega);refine wp_mono (kYA (cap:=cap) hk hm hn hcap (by omega) J w hi hb0 ht) ?_;rintro e a' w' h
    cases e with
    | normal=>obtain⟨c,hc,_⟩:=h;rw[hb]at hc;cases hc
    | _=>exact .inr ⟨rfl,h.2⟩
  | one hk hb hr =>
    rename_i b0;obtain⟨b,off,rfl,hb0,ht⟩:=hp (fun e=>by rw[e,List.length_nil]at hm;omega);have hlt:=bFA hb;refine wp_mono (kYA (cap:=cap) hk hm hn hcap (by omega) J w hi hb0 ht) ?_;rintro e a' w' h
    cases e with
    | normal =>
      obtain⟨c,hc,h⟩:=h;rw[hb]at hc;cases hc;exact⟨b0,hlt,_,by omega,by rw[List.length_cons];omega,hr,h⟩
    | _=>obtain⟨hc,_⟩:=h;rw[hb]at hc;cases hc
def vWA(w0:World)(R:Option (List (List Sx)))(e:Ending)(w':World):Prop :=
 Under w0 w'∧match R with
  | some ls=>∃ g c vs,e = .returned (.tuple #[.slice (some ⟨g,0,none⟩) ls.length c,.bool true])∧w'.ownsRow w0.heap.size 36 1 (.slice (some ⟨g,0,none⟩) ls.length c) ls.length vs∧SxVals w0 vs ls
  | none=>e = .returned (.tuple #[.slice none 0 0,.bool false])
theorem tN(row:List Sx){p:Option Addr}(hn:row.length≤1000000)(hcap:row.length≤cap)(hp:SxArg w0 p row) :
 Calls Tryz.prog 31 #[.slice p row.length cap] w0 (vWA w0 (gF row)):=by
 obtain⟨R,hR⟩:=e8A row row.length [];have:=pXA hR;rw[← this];clear this;have HL:=Lib.hid (fun m a w h=>wVA (w0:=w0) (cap:=cap) row hn hcap hp R m a w h);have HR:=Lib.hid hR;clear hp hR;go_enter Tryz.func31,Tryz.ntmps31;go_wp2;rename_i K hK;refine wp_mono (HL.out row.length _ _ ⟨[],Nat.le_refl _,by simp,HR.out,w0.heap.size,0,_,fB (F:=iM _ _ row.length) (by rfl),⟨⟨[],wI w0 _ _ _ (Nat.le_refl _),trivial⟩,aA ⟨rfl,rfl,Nat.le_refl _,fun _ _=>rfl⟩ _⟩⟩) ?_;rintro e a' w' (⟨rfl,ls,rfl,g,c,J,rfl,hi⟩ | ⟨rfl,rfl,J,rfl,hu⟩)
 · simp only[Exit.inBlock,if_pos,Exit.then];refine hK _ _ ?_;have HH:=Lib.hid hi;clear hi;unfold iM;go_wp2;go_ret2;obtain⟨vs,h1,h2⟩:=HH.out.out;exact⟨HH.out.low,g,c,vs,rfl,h1,h2⟩
 · simp only[Exit.inBlock,Exit.then];go_ret2;exact⟨hu,rfl⟩
end
end Go.Proofs.YtlnlpdephijcoaaGreatDoor
namespace Go.Proofs.YtlnlpdephijcoaaGreatDoor
open Go.Lx Go.RowKit
noncomputable def dW:Code:=Tryz.f32.body.getD .skip
noncomputable def aT:Code:=dA (dA (dA (dA (dA (dA (dA (dA (dA (dA (dA (dA (dA (dA (dA (dA dW)))))))))))))))
noncomputable def ugRound:Code:=bC (bC (dA (rA aT)))
noncomputable def ugLate:Code:=dA aT
def uD(na fb fo nb:Nat)(bv ov nv:Value)(ps:ByteArray)(q2:Option Addr)(n c2 k:Nat)(J:Nat→Value):Array Value :=
 #[J 0, J 1, bv, .pointer (some ⟨na, 0, none⟩), J 4, J 5, .slice none 0 0, .pointer (some ⟨fb, 0, none⟩), J 8, J 9, .slice q2 n c2, J 11, .pointer (some ⟨fo, 0, none⟩), J 13, .string ps, J 15, .pointer (some ⟨nb, 0, none⟩), ov, nv, .int .i64 (k : Int), J 20, J 21, J 22, J 23, J 24, J 25, J 26, J 27, J 28, J 29, J 30, J 31, J 32, J 33, J 34, J 35, J 36, J 37, J 38, J 39, J 40, J 41, J 42, J 43, J 44, J 45, J 46, J 47, J 48, J 49, J 50, J 51, J 52, J 53, J 54, J 55, J 56, J 57, J 58, J 59, J 60, J 61, J 62, J 63, J 64, J 65, J 66, J 67, J 68, J 69, J 70, J 71, J 72, J 73, J 74, J 75, J 76, J 77, J 78, J 79, J 80, J 81, J 82, J 83, J 84, J 85, J 86, J 87, J 88, J 89, J 90, J 91, J 92, J 93, J 94, J 95, J 96, J 97, J 98, J 99, J 100, J 101, J 102, J 103, J 104, J 105, J 106, J 107, J 108, J 109, J 110, J 111, J 112, J 113, J 114, J 115, J 116, J 117, J 118, J 119, J 120, J 121, J 122, J 123, J 124, J 125, J 126, J 127, J 128, J 129, J 130, J 131, J 132, J 133, J 134, J 135, J 136, J 137, J 138, J 139, J 140, J 141, J 142, J 143, J 144, J 145, J 146, J 147, J 148, J 149, J 150, J 151, J 152, J 153, J 154, J 155, J 156, J 157, J 158, J 159, J 160, J 161, J 162, J 163, J 164, J 165, J 166, J 167, J 168, J 169, J 170, J 171, J 172, J 173, J 174, J 175, J 176, J 177, J 178, J 179, J 180, J 181, J 182, J 183, J 184, J 185, J 186, J 187, J 188, J 189, J 190, J 191, J 192, J 193, J 194, J 195, J 196, J 197, J 198, J 199, J 200, J 201, J 202, J 203, J 204, J 205, J 206, J 207, J 208, J 209, J 210, J 211, J 212, J 213, J 214, J 215, J 216, J 217, J 218, J 219, J 220, J 221, J 222, J 223, J 224, J 225, J 226, J 227, J 228, J 229, J 230, J 231]
def lL(fb:Nat)(v:Value)(J:Nat→Value):Array Value:=#[J 0,J 1,J 2,J 3,J 4,J 5,v,.pointer (some ⟨fb,0,none⟩),J 8,J 9,J 10,J 11,J 12,J 13,J 14,J 15,J 16,J 17,J 18,J 19,J 20,J 21,J 22,J 23,J 24,J 25,J 26,J 27,J 28,J 29,J 30,J 31,J 32,J 33,J 34,J 35,J 36,J 37,J 38,J 39,J 40,J 41,J 42,J 43,J 44,J 45,J 46,J 47,J 48,J 49,J 50,J 51,J 52,J 53,J 54,J 55,J 56,J 57,J 58,J 59,J 60,J 61,J 62,J 63,J 64,J 65,J 66,J 67,J 68,J 69,J 70,J 71,J 72,J 73,J 74,J 75,J 76,J 77,J 78,J 79,J 80,J 81,J 82,J 83,J 84,J 85,J 86,J 87,J 88,J 89,J 90,J 91,J 92,J 93,J 94,J 95,J 96,J 97,J 98,J 99,J 100,J 101,J 102,J 103,J 104,J 105,J 106,J 107,J 108,J 109,J 110,J 111,J 112,J 113,J 114,J 115,J 116,J 117,J 118,J 119,J 120,J 121,J 122,J 123,J 124,J 125,J 126,J 127,J 128,J 129,J 130,J 131,J 132,J 133,J 134,J 135,J 136,J 137,J 138,J 139,J 140,J 141,J 142,J 143,J 144,J 145,J 146,J 147,J 148,J 149,J 150,J 151,J 152,J 153,J 154,J 155,J 156,J 157,J 158,J 159,J 160,J 161,J 162,J 163,J 164,J 165,J 166,J 167,J 168,J 169,J 170,J 171,J 172,J 173,J 174,J 175,J 176,J 177,J 178,J 179,J 180,J 181,J 182,J 183,J 184,J 185,J 186,J 187,J 188,J 189,J 190,J 191,J 192,J 193,J 194,J 195,J 196,J 197,J 198,J 199,J 200,J 201,J 202,J 203,J 204,J 205,J 206,J 207,J 208,J 209,J 210,J 211,J 212,J 213,J 214,J 215,J 216,J 217,J 218,J 219,J 220,J 221,J 222,J 223,J 224,J 225,J 226,J 227,J 228,J 229,J 230,J 231]
structure UgFix where
 (w0 wl:World) (na fb fo nb:Nat) (cv dv bv:Value) (kk nn:Int) (st cs ds:List ByteArray) (hd:ST) (ts:List ST) (parts:List UInt8) (pr:ByteArray) (q2:Option Addr) (c2:Nat) (R:Say)
structure UgS (F:UgFix) (k:Nat) (nms:List ByteArray) (x:Nd) (t:List Nd) (ov nv:Value) (w:World):Prop where
 ch:Ch (fun b=>b=F.nb) F.wl w
 nd:BoxAt w F.nb 76 (eQ x)
 xk:x.k=F.kk
 out:w.ownsRow F.wl.heap.size 76 4 ov t.length (lC t)
 row:w.ownsRow F.wl.heap.size 9 1 nv nms.length (nms.map .string)
 say:F.R=goS F.cs F.ds (tC (F.parts.drop k)) (F.ts.drop k) x nms F.st t
 nlen:nms.length≤k
 tlen:t.length≤(fA (F.ts.take k)).length
def cLA(T:ST):Prop:=∀(w0:World) (q:Option Addr) (cap:Nat) (p1 p2:Option Addr) (d1 d2:Nat) (bv:Value) (st cs ds:List ByteArray),
 okS T→(uA T).length≤20000→(uA T).length≤cap→SxArg w0 q (uA T)→TextsV w0 (.slice p1 cs.length d1) cs→TextsV w0 (.slice p2 ds.length d2) ds→cs.length≤1000000→ds.length≤1000000→TextsV w0 bv st→st.length+(uA T).length≤50000 →
 Calls Tryz.prog 32 #[.agg #[.slice p1 cs.length d1,.slice p2 ds.length d2],.slice q (uA T).length cap,bv] w0 (bEA w0 (aG cs ds T st))
structure UgOk (F:UgFix):Prop where
 und:Under F.w0 F.wl
 names:BoxAt F.wl F.na 35 #[F.cv,F.dv]
 form:BoxAt F.wl F.fo 78 #[.int .i64 F.kk,.int .i64 F.nn,.string F.pr]
 fault:BoxAt F.wl F.fb 70 #[.int .i64 0,.int .i64 0]
 node:∃ cs,BoxAt F.wl F.nb 76 cs
 nlt:F.nb < F.wl.heap.size
 nlo:F.w0.heap.size≤F.nb
 flo:F.w0.heap.size≤F.fb
 arg:TsArg (fun b=>b=F.nb) F.wl F.q2 (F.hd::F.ts)
 bound:TextsV F.w0 F.bv F.st
 ok:nK F.ts
 len:(fA F.ts).length≤20000
 stl:F.st.length+(fA F.ts).length≤50000
 csT:TextsV F.w0 F.cv F.cs
 dsT:TextsV F.w0 F.dv F.ds
 csl:F.cs.length≤1000000
 dsl:F.ds.length≤1000000
 plen:F.parts.length=F.ts.length
 num:110∈F.parts→F.kk=2∨F.kk=26
theorem kRA{F:UgFix}(k:Nat)(hk:k < F.ts.length):(fA (F.ts.take k)).length≤(fA (F.ts.take (k+1))).length:=by
 rw[List.take_succ_eq_append_getElem hk,zD,List.length_append];omega
theorem UgS.name {F : UgFix} {k : Nat} {nms : List ByteArray} {x : Nd} {t : List Nd} {ov nv v' : Value} {w w' : World} {s : ByteArray} (hF : UgOk F) (hk : k < F.ts.length) (h : UgS F k nms x t ov nv w) (hc : Ch (fun i => nv.ownBlock = some i) w w')
    (hown:w'.ownsRow F.wl.heap.size 9 1 v' (nms.length+1) (nms.map .string++[.string s])) (hs:F.R=goS F.cs F.ds (tC (F.parts.drop (k+1))) (F.ts.drop (k+1)) x (nms++[s]) F.st t):UgS F (k+1) (nms++[s]) x t ov v' w':=by
  have hlow:∀ i,nv.ownBlock=some i→F.wl.heap.size≤i:=fun i hi=>(iC h.row hi).1
  refine⟨h.ch.trans hc (fun i hi hd=>by have:=hlow i hd;omega),mI h.nd hc (fun hd=>by have:=hlow _ hd;have:=hF.nlt;omega),h.xk,bQ h.out hc (fun g hg hd=>?_),by rw[List.length_append,List.map_append];exact hown,hs,by rw[List.length_append];have:=h.nlen;simp;omega,Nat.le_trans h.tlen (kRA k hk)⟩;rcases own_ne h.row h.out (by decide) with e | e
  · rw[e]at hd;cases hd
  · exact e (hd.trans hg.symm)
theorem UgS.set {F : UgFix} {k j : Nat} {u : Value} {nms : List ByteArray} {x x' : Nd} {t : List Nd} {ov nv : Value} {w w3 : World} (hF : UgOk F) (hk : k < F.ts.length) (h : UgS F k nms x t ov nv w) (hU : Under w w3) (hx : (eQ x).setIfInBounds j u = eQ x') (hk' : x'.k = x.k)
    (hs:F.R=goS F.cs F.ds (tC (F.parts.drop (k+1))) (F.ts.drop (k+1)) x' nms F.st t):UgS F (k+1) nms x' t ov nv (w3.setCell ⟨F.nb,j,none⟩ u):=by
  have hc:Ch (fun i=>i=F.nb) w3 (w3.setCell ⟨F.nb,j,none⟩ u):=(Ch.refl (C:=fun i=>i=F.nb) w3).set (g:=F.nb) (fun _=>rfl) j u;have hn3:=(h.nd.under hU).set j u;rw[hx]at hn3;have hn:=hF.nlt;refine⟨(h.ch.under hU).trans hc (fun i _ e=>e),hn3,hk'.trans h.xk,bQ (yB h.out hU) hc (fun g hg e=>?_),bQ (yB h.row hU) hc (fun g hg e=>?_),hs,Nat.le_trans h.nlen (Nat.le_succ _),Nat.le_trans h.tlen (kRA k hk)⟩
  · have:=(iC h.out hg).1;omega
  · have:=(iC h.row hg).1;omega
def fT(F:UgFix)(k:Nat)(a':Act)(w':World):Prop :=
 ∃ nms x t ov nv J,a'=⟨uD F.na F.fb F.fo F.nb F.bv ov nv ⟨F.parts.toArray⟩ F.q2 (F.ts.length+1) F.c2 k J,[]⟩∧UgS F k nms x t ov nv w'
def nGA(F:UgFix)(ex:Exit)(a':Act)(w':World):Prop :=
 (ex = .exit 0∧fT F F.ts.length a' w') ∨
 (ex = .ret∧∃ c p,(∃ J,a'=⟨lL F.fb (.slice none 0 0) J,[]⟩)∧F.R = .error (c,p)∧Under F.w0 w'∧BoxAt w' F.fb 70 #[.int .i64 c,.int .i64 p])
end Go.Proofs.YtlnlpdephijcoaaGreatDoor
