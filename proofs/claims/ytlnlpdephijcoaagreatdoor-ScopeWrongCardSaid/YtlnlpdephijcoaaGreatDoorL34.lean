/- Part 34 of what the proof rests on. -/
import Derived.Lib.SliceRun
import Derived.TacticsInMore
import Derived.LoopNIn
import Derived.LoopIn
import Derived.Shelf.Abstract
import Derived.Shelf.RegionOpen
import Derived.Laws.ResultCell
import Derived.Deep.QuietTactic
import Derived.Test.YtlnlpdephijcoaaGreatDoorL00
import Derived.Test.YtlnlpdephijcoaaGreatDoorL01
import Derived.Test.YtlnlpdephijcoaaGreatDoorL02
import Derived.Test.YtlnlpdephijcoaaGreatDoorL13
import Derived.Test.YtlnlpdephijcoaaGreatDoorL14
import Derived.Test.YtlnlpdephijcoaaGreatDoorL16
import Derived.Test.YtlnlpdephijcoaaGreatDoorL33
set_option linter.unusedSimpArgs false
set_option linter.unusedVariables false
set_option maxRecDepth 100000
set_option maxHeartbeats 2000000
namespace Go.Proofs.YtlnlpdephijcoaaGreatDoor
open Go.Conc Go.Lx Go.RowKit
theorem wU{p:UInt8→Bool}(h:(List.range 256).all (fun n=>p n.toUInt8)=true)(c:UInt8):p c=true:=by
 have:=List.all_eq_true.1 h c.toNat (List.mem_range.2 c.toNat_lt);have e:c.toNat.toUInt8=c:=by simp
 rwa [e]at this
def wT(c:UInt8):Bool:=inB [9,10,13,32] c
theorem oKA(c:UInt8)(h:wT c=true):mG c=false:=by
 have:=wU (p:=fun c => !wT c || !mG c) (by decide +kernel) c
 simpa [h] using this
theorem zMA(c:UInt8)(h:mG c=true):wT c=false:=by
 have:=wU (p:=fun c => !wT c || !mG c) (by decide +kernel) c
 simpa [h] using this
theorem qMA(c:UInt8)(h:mG c=true):First 0 c:=⟨by decide,h,fun j hj=>absurd hj (by omega)⟩
theorem fJA(c:UInt8)(h:wT c=true):First 1 c:=⟨by decide,h,fun j hj=>by
  obtain rfl:j=0:=by omega
  exact oKA c h⟩
theorem mLA:First 2 40:=⟨by decide,by decide,by decide⟩
theorem wMA:First 3 41:=⟨by decide,by decide,by decide⟩
theorem j3 (p : UInt8 → Bool) : ∀ (l r : List UInt8), (∀ c ∈ l, p c = true) → (∀ c, r.head? = some c → p c = false) → many p (l ++ r) = l.length
  | [], r, _, hr => by
    cases r with
    | nil=>rfl
    | cons c r=>simp[many,hr c rfl]
  | c :: l, r, hl, hr => by
    have:=j3 p l r (fun x hx=>hl x (List.mem_cons_of_mem _ hx)) hr;simp only[many,List.cons_append,List.takeWhile_cons,hl c List.mem_cons_self,if_true,List.length_cons]at this ⊢;omega
def nO(t:PTok):Tok:=⟨t.kind,t.pos.toNat,t.text⟩
def noW(r:List UInt8):Prop:=∀ c,r.head? = some c→mG c=false
section
variable {s : ByteArray}
theorem oL{k:Nat}{c:UInt8}{l:List UInt8}(hd:s.data.toList.drop k=c::l):∃ hlt:k < s.size,s[k]'hlt=c:=by
 have hlen:(s.data.toList.drop k).length=s.size - k:=by rw[List.length_drop];rfl
 have hlen2:=congrArg List.length hd;rw[hlen,List.length_cons]at hlen2;have hlt:k < s.size:=by omega
 refine⟨hlt,?_⟩;have:(s.data.toList.drop k).head? = some c:=by rw[hd];rfl
 rw[List.head?_drop]at this;have e:s.data.toList[k]? = some (s[k]'hlt):=by
  rw[List.getElem?_eq_getElem (by exact hlt)];rfl
 rw[e]at this;exact Option.some.inj this
theorem gJ{k:Nat}{a r:List UInt8}(hd:s.data.toList.drop k=a++r):s.data.toList.drop (k+a.length)=r:=by
 rw[← List.drop_drop,hd,List.drop_left]
theorem aF{k:Nat}{a r:List UInt8}(hd:s.data.toList.drop k=a++r)(hk:k≤s.size):k+a.length≤s.size:=by
 have hlen:(s.data.toList.drop k).length=s.size - k:=by rw[List.length_drop];rfl
 have hlen2:=congrArg List.length hd;rw[hlen,List.length_append]at hlen2;omega
theorem lN{k:Nat}{a r:List UInt8}(hd:s.data.toList.drop k=a++r):s.extract k (k+a.length)=⟨a.toArray⟩:=by
 apply ByteArray.ext;apply Array.ext';rw[ByteArray.data_extract,Array.toList_extract,List.extract_eq_take_drop,hd,Nat.add_sub_cancel_left,List.take_left]
theorem vJA{k:Nat}{acts:List SAct}(l r:List UInt8)(hd:s.data.toList.drop k=l++r)(hk:k≤s.size)(hl:∀ c∈l,wT c=true)(hr:∀ c,r.head? = some c→wT c=false)(h:Scans s (k+l.length) acts) :
 ∃ acts',Scans s k acts'∧sends acts'=sends acts:=by
 cases l with
 | nil=>exact⟨acts,by simpa using h,rfl⟩
 | cons c l =>
   obtain⟨hlt,hc⟩:=oL hd;have hsz:=aF hd hk;have hm:goN 1 (s.data.toList.drop k)=(c::l).length:=by rw[hd];exact j3 _ _ _ hl hr
   exact⟨_,.blank hlt (by rw[hc];exact fJA c (hl c List.mem_cons_self)) rfl hm hsz h,rfl⟩
theorem rAA{k:Nat}{acts:List SAct}(x:ByteArray)(r:List UInt8)(hd:s.data.toList.drop k=x.data.toList++r)(hk:k≤s.size)(hne:x.size≠0)(hl:∀ c∈x.data.toList,mG c=true)(hr:noW r)(h:Scans s (k+x.data.toList.length) acts) :
 ∃ acts',Scans s k acts'∧sends acts'=gN ⟨1,k,x⟩::sends acts:=by
 have hsz:=aF hd hk;have hex:=lN hd;have hex2:s.extract k (k+x.data.toList.length)=x:=by rw[hex]
 cases hx:x.data.toList with
 | nil =>
   have:x.data.toList.length=x.size:=by rw[Array.length_toList];rfl
   rw[hx]at this;exact absurd this.symm hne
 | cons c l =>
   have hd':=hd;rw[hx,List.cons_append]at hd';obtain⟨hlt,hc⟩:=oL hd';have hm:goN 0 (s.data.toList.drop k)=x.data.toList.length:=by rw[hd];exact j3 _ _ _ hl hr
   refine⟨_,.token hlt (by rw[hc];exact qMA c (hl c (by rw[hx];exact List.mem_cons_self))) rfl hm hsz h,?_⟩;rw[hex2];rfl
theorem iDA{k:Nat}{acts:List SAct}(r:List UInt8)(hd:s.data.toList.drop k=40::r)(h:Scans s (k+1) acts):∃ acts',Scans s k acts'∧sends acts'=gN ⟨2,k,⟨#[40]⟩⟩::sends acts:=by
 obtain⟨hlt,hc⟩:=oL hd;have hex:=lN (s:=s) (a:=[40]) (r:=r) hd;refine⟨_,.token (i:=2) (m:=1) hlt (by rw[hc];exact mLA) (by decide) rfl (by omega) h,?_⟩;rw[show s.extract k (k+1)=⟨#[40]⟩ from hex];rfl
theorem xDA{k:Nat}{acts:List SAct}(r:List UInt8)(hd:s.data.toList.drop k=41::r)(h:Scans s (k+1) acts):∃ acts',Scans s k acts'∧sends acts'=gN ⟨3,k,⟨#[41]⟩⟩::sends acts:=by
 obtain⟨hlt,hc⟩:=oL hd;have hex:=lN (s:=s) (a:=[41]) (r:=r) hd;refine⟨_,.token (i:=3) (m:=1) hlt (by rw[hc];exact wMA) (by decide) rfl (by omega) h,?_⟩;rw[show s.extract k (k+1)=⟨#[41]⟩ from hex];rfl
theorem kUA{p:UInt8→Bool}(hp:∀ c,p c=true→mG c=true)(x:SX)(h:okX p x)(r:List UInt8):∀ c,(iF x++r).head? = some c→wT c=false:=by
 intro c hc
 cases x with
 | w s =>
   unfold okX at h;unfold iF at hc
   cases hs:s.data.toList with
   | nil =>
     have:s.data.toList.length=s.size:=by rw[Array.length_toList];rfl
     rw[hs]at this;exact absurd this.symm h.1
   | cons a l =>
     rw[hs]at hc h;obtain rfl:a=c:=by simpa using hc
     exact zMA _ (hp _ (h.2 _ List.mem_cons_self))
 | l xs =>
   unfold iF at hc;obtain rfl:(40:UInt8)=c:=by simpa using hc
   decide
def iOA(s:ByteArray)(x:SX):Prop:=∀(k:Nat) (r:List UInt8) (acts:List SAct),s.data.toList.drop k=iF x++r→noW r→k≤s.size→Scans s (k+(iF x).length) acts→∃ acts',Scans s k acts'∧sends acts'=(uG k x).map (fun t=>gN (nO t))++sends acts
theorem zS(l:List SX){r:List UInt8}(h:noW r):noW (fH l++r):=by
 cases l with
 | nil=>exact h
 | cons a l =>
   intro c hc;unfold fH at hc;obtain rfl:(32:UInt8)=c:=by simpa using hc
   decide
theorem aX{p:UInt8→Bool}(hp:∀ c,p c=true→mG c=true):∀(l:List SX),zHA p l→(∀ a∈l,iOA s a)→∀(k:Nat) (r:List UInt8) (acts:List SAct),s.data.toList.drop k=fH l++r→noW r→k≤s.size→Scans s (k+(fH l).length) acts →
 ∃ acts',Scans s k acts'∧sends acts'=(wF k l).map (fun t=>gN (nO t))++sends acts
 | [],_,_,k,r,acts,hd,hr,hk,h=>⟨acts,by simpa [fH] using h,by simp[wF]⟩
 | a :: l, ho, ha, k, r, acts, hd, hr, hk, h => by
   unfold fH at hd h;have hd0:s.data.toList.drop k=[32]++(iF a++(fH l++r)):=by rw[hd];simp
   have hd1 := gJ hd0; have hk1 := aF hd0 hk; have hd2 := gJ hd1; have hk2 := aF hd1 hk1; obtain ⟨a1, h1, g1⟩ := aX hp l ho.2 (fun b hb => ha b (List.mem_cons_of_mem _ hb)) _ r acts hd2 hr hk2 (by
     rw[show k+[(32:UInt8)].length+(iF a).length+(fH l).length=k+(32::(iF a++fH l)).length by simp;omega];exact h)
   obtain⟨a2,h2,g2⟩:=ha a List.mem_cons_self _ _ a1 hd1 (zS l hr) hk1 h1;obtain⟨a3,h3,g3⟩:=vJA [32] _ hd0 hk (by intro c hc;rw[List.mem_singleton.1 hc];decide) (kUA hp a ho.1 _) h2;refine⟨a3,h3,?_⟩;rw[g3,g2,g1,wF,List.map_append,List.append_assoc];rfl
theorem sAA{p:UInt8→Bool}(hp:∀ c,p c=true→mG c=true)(x:SX):okX p x→iOA s x:=by
 induction x using SX.rec (motive_2:=fun l=>zHA p l→∀ a∈l,iOA s a) with
 | w y =>
   intro h k r acts hd hr hk hs;unfold iF at hd hs;obtain⟨a,h1,g1⟩:=rAA y r hd hk h.1 (fun c hc=>hp c (h.2 c hc)) hr hs;exact⟨a,h1,by rw[g1];simp[uG,nO]⟩
 | l xs ih =>
   intro h k r acts hd hr hk hs;have hX:=ih h;unfold iF at hd hs;have hd0:s.data.toList.drop k=[40]++(yM xs++41::r):=by rw[hd];simp
   have hd1:=gJ hd0;have hk1:=aF hd0 hk;have hd2:=gJ hd1;have hk2:=aF hd1 hk1;obtain⟨a1,h1,g1⟩:=xDA r hd2 (by rw[show k+[(40:UInt8)].length+(yM xs).length+1=k+(40::(yM xs++[41])).length by simp;omega];exact hs);have hn:noW (41::r):=fun c hc=>by
    obtain rfl:(41:UInt8)=c:=by simpa using hc
    decide
   have mid:∃ acts',Scans s (k+[(40:UInt8)].length) acts'∧sends acts'=(mO (k+1) xs).map (fun t=>gN (nO t))++sends a1:=by
    cases xs with
    | nil=>exact⟨a1,by simpa [yM] using h1,by simp[mO]⟩
    | cons a l =>
      unfold yM at hd1 h1;rw[List.append_assoc]at hd1;have hd3:=gJ hd1;have hk3:=aF hd1 hk1;obtain⟨a2,h2,g2⟩:=aX hp l h.2 (fun b hb=>hX b (List.mem_cons_of_mem _ hb)) _ _ a1 hd3 hn hk3 (by rw[List.length_append,← Nat.add_assoc]at h1;exact h1);obtain⟨a3,h3,g3⟩:=hX a List.mem_cons_self _ _ a2 hd1 (zS l hn) hk1 h2;refine⟨a3,h3,?_⟩;rw[g3,g2,mO,List.map_append,List.append_assoc];rfl
   obtain⟨a2,h2,g2⟩:=mid;obtain⟨a3,h3,g3⟩:=iDA _ hd h2;refine⟨a3,h3,?_⟩;rw[g3,g2,g1,uG,List.map_cons,List.map_append,List.cons_append,List.append_assoc];rfl
 | nil=>rename_i h a ha;cases ha
 | cons a l iha ihl =>
   rename_i h b hb;rcases List.mem_cons.1 hb with rfl | hb
   · exact iha h.1
   · exact ihl h.2 b hb
end
theorem sW : ∀ (l : List SX), (∀ a ∈ l, ∀ k, ∀ t ∈ uG k a, (nO t).p = t ∧ (t.kind = 1 ∨ t.kind = 2 ∨ t.kind = 3)) → ∀ k, ∀ t ∈ wF k l, (nO t).p = t ∧ (t.kind = 1 ∨ t.kind = 2 ∨ t.kind = 3)
  | [],_,k,t,ht=>by simp[wF]at ht
  | a :: l, h, k, t, ht => by
    unfold wF at ht;rcases List.mem_append.1 ht with ht | ht
    · exact h a List.mem_cons_self _ t ht
    · exact sW l (fun b hb=>h b (List.mem_cons_of_mem _ hb)) _ t ht
theorem eAA(x:SX):∀ k,∀ t∈uG k x,(nO t).p=t∧(t.kind=1∨t.kind=2∨t.kind=3):=by
 induction x using SX.rec (motive_2:=fun l=>∀ a∈l,∀ k,∀ t∈uG k a,(nO t).p=t∧(t.kind=1∨t.kind=2∨t.kind=3)) with
 | w s =>
   intro k t ht;unfold uG at ht;rw[List.mem_singleton.1 ht];exact⟨rfl,.inl rfl⟩
 | l xs ih =>
   intro k t ht;unfold uG at ht;rcases List.mem_cons.1 ht with rfl | ht
   · exact⟨rfl,.inr (.inl rfl)⟩
   rcases List.mem_append.1 ht with ht | ht
   · cases xs with
     | nil=>simp[mO]at ht
     | cons a l =>
       unfold mO at ht;rcases List.mem_append.1 ht with ht | ht
       · exact ih a List.mem_cons_self _ t ht
       · exact sW l (fun b hb=>ih b (List.mem_cons_of_mem _ hb)) _ t ht
   · rw[List.mem_singleton.1 ht];exact⟨rfl,.inr (.inr rfl)⟩
 | nil=>rename_i a ha k t ht;cases ha
 | cons a l iha ihl =>
   rename_i b hb k t ht;rcases List.mem_cons.1 hb with rfl | hb
   · exact iha k t ht
   · exact ihl b hb k t ht
theorem mMA{x:SX}(h:okX mG x)(hn:(iF x).length≤20000):Lexes ⟨(iF x).toArray⟩ ((uG 0 x).map nO):=by
 have hsz:(⟨(iF x).toArray⟩:ByteArray).size=(iF x).length:=by simp[ByteArray.size]
 obtain⟨acts,h1,h2⟩:=sAA (s:=⟨(iF x).toArray⟩) (fun c hc=>hc) x h 0 [] [] (by simp) (fun c hc=>by cases hc) (Nat.zero_le _) (by rw[Nat.zero_add,← hsz];exact .done);have hl:(uG 0 x).length≤(iF x).length:=a0A x h 0;refine⟨by rw[hsz];exact hn,⟨acts,h1,?_⟩,by rw[List.length_map];omega⟩;rw[h2];simp[sends]
theorem tKA{x:SX}(h:okX mG x)(hn:(iF x).length≤20000)(hd:vGA x≤60):Lexes ⟨(iF x).toArray⟩ ((uG 0 x).map nO)∧(∀ t∈(uG 0 x).map nO,t.kind=1∨t.kind=2∨t.kind=3)∧vC (((uG 0 x).map nO).map Tok.p) [] [] ⟨0,0,⟨#[]⟩⟩ = .ok (uA (fV 0 x)):=by
 refine⟨mMA h hn,fun t ht=>?_,?_⟩
 · obtain⟨u,hu,rfl⟩:=List.mem_map.1 ht;exact(eAA x 0 u hu).2
 · have e : ((uG 0 x).map nO).map Tok.p = uG 0 x := by
     rw[List.map_map]
     conv=>rhs;rw[← List.map_id (uG 0 x)]
     exact List.map_congr_left fun t ht=>(eAA x 0 t ht).1
   rw[e];exact vOA x hd 0
def yYA:SX:=.l [.w ⟨#[115,117,99]⟩,nI]
theorem zYA:xH [] [] (fV 0 yYA) = .ok [⟨11,0,0,⟨#[]⟩⟩,⟨12,0,0,⟨#[]⟩⟩]:=by rfl
theorem xK(W:World)(hE:StrcAt W)(hS:ShapesAt 0 W):CallsG Tryz.prog 8 #[] W (TrueU W):=by
 obtain⟨h1,h2,h3⟩:=tKA (x:=yYA) (by unfold yYA nI;simp[okX,zHA];decide) (by decide) (by decide);have hR:=mAA h1 h2 h3 [] [] W (eSA yYA (p:=mG) (by unfold yYA nI;simp[okX,zHA];decide) 0) (by decide) (by decide) hE hS (TextsV.nil W) (TextsV.nil W) (by decide) (by decide);rw[zYA]at hR;clear h1 h2 h3;refine rJ xB Tryz.func8 rfl ?_ TrueU.re;simp only[Tryz.ntmps8,List.size_toArray,List.length_cons,List.length_nil,Nat.reduceAdd,Nat.reduceSub,Array.replicate_succ,Array.replicate_zero,List.push_toArray,List.append_toArray,List.nil_append,List.cons_append];refine oC xB (aC xB fun τ d=>?_);go_wp2;refine nG ?_ τ d;refine oC xB ?_;refine vN xB 1 (by decide) fun τ d=>?_
 simp only[List.take_succ_cons,List.take_zero];go_wp2;refine aY ?_ τ d;refine pG (i:=1) (rest:=List.range' 2 7) xB rfl (by rfl) (bF (vs:=#[.agg #[.slice none 0 0,.slice none 0 0],.string ⟨#[40,115,117,99,32,122,101,114,111,41]⟩]) rfl Tryz.func16 (by kernel_rfl) rfl (by simp[Act.eval])) hR ?_;rintro v w1 ⟨hU1,u,rfl,hT⟩;obtain⟨qo,co,rfl,_⟩:=hT;refine jE xB 2 7 0 (by decide) fun τ d=>?_
 simp only[List.drop_succ_cons,List.drop_zero,List.take_succ_cons,List.take_zero];walk_nrm;go_wp2;refine jG xB ?_;simp only[Exit.then];refine nG ?_ τ d;refine aC xB fun τ d=>?_
 have HK:=Lib.hid (wS (w0:=re w1 τ d) ⟨#[112,105]⟩);rw[show kwB ⟨#[112,105]⟩=true by rfl]at HK;have hU1':=Lib.hid (hU1.re τ d);clear hR hU1;go_wp2_with fail;refine HK.out.mono ?_;rintro e w2 ⟨rfl,hU2⟩;have HU2:=Lib.hid (hU1'.out.trans hU2);clear hU2;go_wp2;exact fI rfl rfl ⟨rfl,HU2.out⟩
end Go.Proofs.YtlnlpdephijcoaaGreatDoor
namespace Go.Proofs.YtlnlpdephijcoaaGreatDoor
open Go.Lx Go.RowKit
def nYA(c:UInt8):Bool:=(decide (97≤(c.toNat:Int))&&decide ((c.toNat:Int)≤122))||(decide (65≤(c.toNat:Int))&&decide ((c.toNat:Int)≤90))||((c.toNat:Int)==95)
theorem hZA:∀ n:Nat,n < 256→nYA (UInt8.ofNat n)=pW (UInt8.ofNat n):=by decide +kernel
theorem t2A(c:UInt8):nYA c=pW c:=by
 have h:=hZA c.toNat c.toNat_lt
 rwa [UInt8.ofNat_toNat]at h
section
variable {w0 : World}
theorem tEA(c:UInt8):Calls Tryz.prog 124 #[.int .u8 c.toNat] w0 fun e w=>e = .returned (.bool (pW c))∧w=w0:=by
 rw[← t2A];have HR:RowKit.Hid (nYA c=((decide (97≤(c.toNat:Int))&&decide ((c.toNat:Int)≤122))||(decide (65≤(c.toNat:Int))&&decide ((c.toNat:Int)≤90))||((c.toNat:Int)==95))):=Lib.hid rfl;generalize nYA c=r at *;generalize (c.toNat:Int)=n at *;by_cases h1:97≤n
 all_goals by_cases h2:n≤122
 all_goals by_cases h3:65≤n
 all_goals by_cases h4:n≤90
 all_goals first | omega | skip
 all_goals
  go_enter Tryz.func124,Tryz.ntmps124;go_wp2;go_ret;exact⟨by rw[HR.out];simp[*]<;>omega,rfl⟩
def okR(c:UInt8):Bool:=pW c||mIA c
theorem pX : ∀ (l : List UInt8) (i : Nat), i ≠ 0 → oD i l = l.all okR
  | [],i,h=>rfl
  | c :: r, i, h => by
    simp only[oD,List.all_cons,okB,okR];rw[pX r (i+1) (by omega)];simp[h]
theorem dWA{s:ByteArray}{c:UInt8}{r:List UInt8}(h:s.data.toList=c::r)(hs:s.size≤16)(hc:pW c=true):jD s=s.data.toList.all okR:=by
 unfold jD;have h0:s.size≠0:=by
  have:s.data.toList.length=s.size:=by rw[Array.length_toList];rfl
  rw[h]at this;intro e;rw[e]at this;cases this
 rw[h];simp only[oD,List.all_cons];rw[pX r 1 (by decide)];simp[okB,okR,hc,h0,hs]
theorem zUA{s:ByteArray}{c:UInt8}{r:List UInt8}(h:s.data.toList=c::r)(hc:pW c=false):jD s=false:=by
 unfold jD;rw[h];simp[oD,okB,hc]
def g8A(w0:World)(s:ByteArray)(i:Value)(wr:World):Prop:=∃ k:Nat,k≤s.size∧i = .int .i64 (k:Int)∧s.data.toList.all okR=(s.data.toList.drop k).all okR∧w0=wr
theorem jK(s:ByteArray):Calls Tryz.prog 103 #[.string s] w0 fun e w=>e = .returned (.bool (jD s))∧w=w0:=by
 have HLen:=Lib.hid (show s.data.toList.length=s.size by rw[Array.length_toList];rfl);by_cases h1:(s.size:Int) < 1
 · have HO : RowKit.Hid (jD s = false) := Lib.hid (by
     have:s.size=0:=by omega
     unfold jD;simp[this])
   go_enter Tryz.func103,Tryz.ntmps103;go_wp2;go_ret;exact⟨by rw[HO.out];rfl,rfl⟩
 by_cases h16:16 < (s.size:Int)
 · have HO:RowKit.Hid (jD s=false):=Lib.hid (by unfold jD;simp;intros;omega);go_enter Tryz.func103,Tryz.ntmps103;go_wp2;go_ret;exact⟨by rw[HO.out];rfl,rfl⟩
 have h0:0 < s.size:=by omega
 have hs16:s.size≤16:=by omega
 obtain⟨c,r,hcr⟩:∃ c r,s.data.toList=c::r:=by
  cases h:s.data.toList with
  | nil=>have:=HLen.out;rw[h]at this;simp at this;omega
  | cons c r=>exact⟨c,r,rfl⟩
 have hs0:s[0]=c:=by
  show s.data[0]=c
  rw[← Array.getElem_toList];simp[hcr]
 have HL0:=Lib.hid (tEA (w0:=w0) c)
 cases hc:pW c
 · have HO:=Lib.hid (zUA hcr hc);rw[hc]at HL0;clear hcr hc;go_enter Tryz.func103,Tryz.ntmps103;go_wp2_with fail;refine HL0.out.mono ?_;rintro e w1 ⟨rfl,rfl⟩;go_wp2;go_ret;exact⟨by rw[HO.out];rfl,rfl⟩
 · have HO := Lib.hid (dWA hcr hs16 hc); rw [hc] at HL0; have HL := Lib.hid (fun c => tEA (w0 := w0) c); clear hcr hc; go_enter Tryz.func103, Tryz.ntmps103; go_wp2_with fail; refine HL0.out.mono ?_; rintro e w1 ⟨rfl, rfl⟩; clear hs0 HL0; go_wp2; go_loopw [3] (fun i wr => g8A w1 s i wr) (fun i _ => s.size - (intOf i).toNat)
   case atStart=>exact⟨0,Nat.zero_le _,rfl,by simp,rfl⟩
   case round =>
     obtain⟨k,hk,rfl,hN,rfl⟩:=hrel;have HN:=Lib.hid hN;clear hN;by_cases hlt:k < s.size
     · have hk' : k < s.data.toList.length := by rw [HLen.out]; exact hlt
       have hd:(s.data.toList.drop k).all okR=(okR s[k]&&(s.data.toList.drop (k+1)).all okR):=by rw[List.drop_eq_getElem_cons hk'];rfl
       have HD:=Lib.hid hd;have HLk:=Lib.hid (HL.out s[k]);have hdg:mIA s[k]=(!(decide ((s[k].toNat:Int) < 48)) && !(decide (57 < (s[k].toNat:Int)))):=rfl;have HDg:=Lib.hid hdg;clear hd hdg;generalize hx:s[k]=x at *;have hok:okR x=(pW x||mIA x):=rfl;have HOk:=Lib.hid hok;clear hok
       cases hl:pW x
       · rw [hl] at HLk HOk; by_cases h48 : (x.toNat : Int) < 48
         · go_wp2_with fail;refine HLk.out.mono ?_;rintro e w1 ⟨rfl,rfl⟩;go_wp2;go_ret;exact⟨by rw[HO.out,HN.out,HD.out,HOk.out,HDg.out];simp[h48],rfl⟩
         · by_cases h57 : 57 < (x.toNat : Int)
           · go_wp2_with fail;refine HLk.out.mono ?_;rintro e w1 ⟨rfl,rfl⟩;go_wp2;go_ret;exact⟨by rw[HO.out,HN.out,HD.out,HOk.out,HDg.out];simp[h57],rfl⟩
           · have HT : RowKit.Hid (okR x = true) := Lib.hid (by rw [HOk.out, HDg.out]; simp; omega); go_wp2_with fail; refine HLk.out.mono ?_; rintro e w1 ⟨rfl, rfl⟩; go_wp2; go_roundw
             case rel=>exact⟨k+1,by omega,by go_num,by rw[HN.out,HD.out,HT.out];rfl,rfl⟩
             case measure=>simp[intOf];omega
       · rw [hl] at HLk HOk; go_wp2_with fail; refine HLk.out.mono ?_; rintro e w1 ⟨rfl, rfl⟩; go_wp2; go_roundw
         case rel=>exact⟨k+1,by omega,by go_num,by rw[HN.out,HD.out,HOk.out];rfl,rfl⟩
         case measure=>simp[intOf];omega
     · obtain rfl : k = s.size := by omega
       have HE:RowKit.Hid (jD s=true):=Lib.hid (by rw[HO.out,HN.out,← HLen.out,List.drop_length];rfl);go_wp2;go_ret;exact⟨by rw[HE.out];rfl,rfl⟩
end
theorem Tryz.infoInt:(Tryz.prog.info? 3).map (fun i=>(i.zero,i.size,i.bytes))=some (some (.int .i64 0),1,8):=by kernel_rfl
section
variable {w0 : World}
end
structure NH (W0:World) (tb:Nat) (vt:Value) (B:Nat) (Jc:Option Nat→World→Prop) (vo:Value) (l:List Nat) (A:World):Prop where
 j:Jc vo.ownBlock A
 row:A.ownsRow B 3 1 vo l.length (kL l)
 low:Under W0 A
 box:BoxAt A tb 30 #[vt]
 big:B≤A.heap.size
section
variable {W0 : World} {tb B : Nat} {vt yf vo : Value} {Jc : Option Nat → World → Prop} {k : Int} {u m j : Nat} {l : List Nat}
def k5A(Jc:Option Nat→World→Prop):Prop:=∀ b b' A A',Jc b A→IStep b b' A A'→Jc b' A'
theorem NH.under{A A':World}(h:NH W0 tb vt B Jc vo l A)(hJ:k5A Jc)(hU:Under A A'):NH W0 tb vt B Jc vo l A' :=
 ⟨hJ _ _ _ _ h.j (IStep.under hU _),yB h.row hU,h.low.trans hU,h.box.under hU,Nat.le_trans h.big hU.size⟩
theorem NH.grown{A A':World}{vo':Value}{l':List Nat}(h:NH W0 tb vt B Jc vo l A)(hJ:k5A Jc)(hg:A.grownBy A' vo.ownBlock)(hat:vo'.ownBlock=vo.ownBlock∨vo'.ownBlock=some A.heap.size)(hr:A'.ownsRow B 3 1 vo' l'.length (kL l'))(hW:W0.heap.size≤B)(ht:tb < B):NH W0 tb vt B Jc vo' l' A' :=
 ⟨hJ _ _ _ _ h.j (IStep.grown hg hat),hr,bB h.low hg fun g e=>Nat.le_trans hW (iC h.row e).1,h.box.grown hg fun e=>by have:=(iC h.row e.symm).1;omega,Nat.le_trans h.big hg.size⟩
end
def hasB(ss:List ByteArray)(s:ByteArray):Bool:=ss.any fun x=>x.toList==s.toList
def e9A(w0:World)(ss:List ByteArray)(s:ByteArray)(i:Value)(wr:World):Prop:=∃ k:Nat,k≤ss.length∧i = .int .i64 (k:Int)∧(hasB ss s=hasB (ss.drop k) s)∧w0=wr
section
variable {w0 : World}
theorem zIA(ss:List ByteArray)(s:ByteArray){v:Value}(hn:ss.length≤maxLen)(hv:TextsV w0 v ss):Calls Tryz.prog 69 #[v,.string s] w0 fun e w=>e = .returned (.bool (hasB ss s))∧w=w0:=by
 obtain⟨p,c,rfl,_,_,hr⟩:=hv;have HR:=Lib.hid hr;have hn0:(0:Int)≤(ss.length:Int):=by omega
 have hn':(ss.length:Int)≤9223372036854775807:=by unfold maxLen at hn;omega
 clear hr hn;go_enter Tryz.func69,Tryz.ntmps69;go_wp2;go_loopw [5] (fun i wr=>e9A w0 ss s i wr) (fun i _=>ss.length - (intOf i).toNat)
 case atStart=>exact⟨0,Nat.zero_le _,rfl,by simp,rfl⟩
 case round =>
   obtain⟨k,hk,rfl,hN,rfl⟩:=hrel;have HN:=Lib.hid hN;clear hN;by_cases hlt:k < ss.length
   · obtain ⟨b, off, rfl, hb, cc⟩ := sBA HR.out hlt; have hd : hasB (ss.drop k) s = (ss[k].toList == s.toList || hasB (ss.drop (k + 1)) s) := by rw [List.drop_eq_getElem_cons hlt]; rfl
     have HD:=Lib.hid hd;clear hd;generalize ss[k]=x at *
     cases hx:(x.toList==s.toList)
     · have HX := Lib.hid hx; go_wp2; go_roundw
       case rel=>exact⟨k+1,by omega,by go_num,by rw[HN.out,HD.out,HX.out];rfl,rfl⟩
       case measure=>simp[intOf];omega
     · have HX:=Lib.hid hx;go_wp2;go_ret;exact⟨by rw[HN.out,HD.out,HX.out];rfl,rfl⟩
   · obtain rfl : k = ss.length := by omega
     have HE:RowKit.Hid (hasB ss s=false):=Lib.hid (by rw[HN.out,List.drop_length];rfl);go_wp2;go_ret;exact⟨by rw[HE.out];rfl,rfl⟩
end
section
variable {w0 : World}
def kP(x y:Nd):Bool:=x.k==y.k&&(x.n==y.n&&(x.m==y.m&&x.s.toList==y.s.toList))
def bT : List Nd → List Nd → Bool
  | [],[]=>true
  | x::a,y::b=>kP x y&&bT a b
  | _,_=>false
theorem vUA(x:Nd):kP x x=true:=by simp[kP]
theorem qU : ∀ t : List Nd, bT t t = true
  | []=>rfl
  | x::t=>by simp[bT,vUA,qU t]
theorem wGA : ∀ {a b : List Nd}, a.length ≠ b.length → bT a b = false
  | [],[],h=>absurd rfl h
  | x :: a, y :: b, h => by
    simp only[bT];rw[wGA (a:=a) (b:=b) (by simpa using h)];simp
  | [],y::b,h=>rfl
  | x::a,[],h=>rfl
def j9A(w0:World)(a b:List Nd)(i:Value)(wr:World):Prop:=∃ k:Nat,k≤a.length∧i = .int .i64 (k:Int)∧(bT a b=bT (a.drop k) (b.drop k))∧Under w0 wr
theorem cEA(a b:List Nd){u v:Value}(hn:a.length≤maxLen)(hu:TermV w0 u a)(hv:TermV w0 v b):Calls Tryz.prog 12 #[u,v] w0 fun e w=>e = .returned (.bool (bT a b))∧Under w0 w:=by
 obtain⟨p,c,rfl,_,_,hr⟩:=hu;obtain⟨p2,c2,rfl,_,_,hr2⟩:=hv;have HR:=Lib.hid hr;have HR2:=Lib.hid hr2;have hn0:(0:Int)≤(a.length:Int):=by omega
 have hn':(a.length:Int)≤9223372036854775807:=by unfold maxLen at hn;omega
 clear hr hn hr2;by_cases hl:a.length=b.length
 · have HLb := Lib.hid hl; have hl1 : ((a.length : Int) == (b.length : Int)) = true := by rw [hl]; simp
   rw[← hl]at hl1 ⊢;clear hl;go_enter Tryz.func12,Tryz.ntmps12;go_wp2;go_loopw [5] (fun i wr=>j9A w0 a b i wr) (fun i _=>a.length - (intOf i).toNat)
   case atStart=>exact⟨0,Nat.zero_le _,rfl,by simp,Under.refl _⟩
   case round =>
     obtain⟨k,hk,rfl,hN,hU⟩:=hrel;have HN:=Lib.hid hN;clear hN;by_cases hlt:k < a.length
     · have hlt2 : k < b.length := by rw [← HLb.out]; exact hlt
       obtain⟨b1,off1,rfl,hb1,c0,c1,c2,c3⟩:=RowArg.node HR.out (List.getElem?_eq_getElem hlt);obtain⟨b2,off2,rfl,hb2,d0,d1,d2,d3⟩:=RowArg.node HR2.out (List.getElem?_eq_getElem hlt2);rw[← jA hU hb1]at c0 c1 c2 c3;rw[← jA hU hb2]at d0 d1 d2 d3;have hb1':=Nat.lt_of_lt_of_le hb1 hU.size;have hb2':=Nat.lt_of_lt_of_le hb2 hU.size;have hd:bT (a.drop k) (b.drop k)=(kP a[k] b[k]&&bT (a.drop (k+1)) (b.drop (k+1))):=by rw[List.drop_eq_getElem_cons hlt,List.drop_eq_getElem_cons hlt2];rfl
       have HD:=Lib.hid hd;have HU:=Lib.hid hU;clear hd hU;generalize a[k]=x at *;generalize b[k]=y at *
       cases h1:(x.k==y.k)
       · skip
         have HX:RowKit.Hid (kP x y=false):=Lib.hid (by unfold kP;simp[*]);go_wp2_with fail;go_quiet (fail);go_wp2;go_ret;exact⟨by rw[HN.out,HD.out,HX.out];rfl,zA HU.out _⟩
       cases h2:(x.n==y.n)
       · skip
         have HX:RowKit.Hid (kP x y=false):=Lib.hid (by unfold kP;simp[*]);go_wp2_with fail;go_quiet (fail);go_wp2;go_ret;exact⟨by rw[HN.out,HD.out,HX.out];rfl,zA HU.out _⟩
       cases h3:(x.m==y.m)
       · skip
         have HX:RowKit.Hid (kP x y=false):=Lib.hid (by unfold kP;simp[*]);go_wp2_with fail;go_quiet (fail);go_wp2;go_ret;exact⟨by rw[HN.out,HD.out,HX.out];rfl,zA HU.out _⟩
       cases h4:(x.s.toList==y.s.toList)
       · skip
         have HX:RowKit.Hid (kP x y=false):=Lib.hid (by unfold kP;simp[*]);go_wp2_with fail;go_quiet (fail);go_wp2;go_ret;exact⟨by rw[HN.out,HD.out,HX.out];rfl,zA HU.out _⟩
       have HX:RowKit.Hid (kP x y=true):=Lib.hid (by unfold kP;rw[h1,h2,h3,h4];rfl);go_wp2_with fail;go_quiet (fail);go_wp2;go_roundw
       case rel=>exact⟨k+1,by omega,by go_num,by rw[HN.out,HD.out,HX.out];rfl,zA HU.out _⟩
       case measure=>simp[intOf];omega
     · obtain rfl : k = a.length := by omega
       have HE:RowKit.Hid (bT a b=true):=Lib.hid (by rw[HN.out,List.drop_length,HLb.out,List.drop_length];rfl);have HU:=Lib.hid hU;clear hU;go_wp2;go_ret;exact⟨by rw[HE.out];rfl,HU.out⟩
 · have HE := Lib.hid (wGA hl); have hl1 : ((a.length : Int) == (b.length : Int)) = false := by simp; omega
   clear hl;go_enter Tryz.func12,Tryz.ntmps12;go_wp2;go_ret;exact⟨by rw[HE.out];rfl,Under.refl _⟩
end
def uL(c:UInt8):Bool:=nYA c||(decide (48≤(c.toNat:Int))&&decide ((c.toNat:Int)≤57))
section
variable {w0 : World}
theorem rT(c:UInt8):Calls Tryz.prog 15 #[.int .u8 c.toNat] w0 fun e w=>e = .returned (.bool (uL c))∧w=w0:=by
 have HR:RowKit.Hid (uL c=(((decide (97≤(c.toNat:Int))&&decide ((c.toNat:Int)≤122))||(decide (65≤(c.toNat:Int))&&decide ((c.toNat:Int)≤90))||((c.toNat:Int)==95))||(decide (48≤(c.toNat:Int))&&decide ((c.toNat:Int)≤57)))):=Lib.hid rfl;generalize uL c=r at *;generalize (c.toNat:Int)=n at *;by_cases h1:97≤n
 all_goals by_cases h2:n≤122
 all_goals by_cases h3:65≤n
 all_goals by_cases h4:n≤90
 all_goals by_cases h5:48≤n
 all_goals by_cases h6:n≤57
 all_goals first | omega | skip
 all_goals
  cases h95:(n==95)
 all_goals
  go_enter Tryz.func15,Tryz.ntmps15;go_wp2;go_ret;exact⟨by rw[HR.out];simp[*]<;>omega,rfl⟩
end
end Go.Proofs.YtlnlpdephijcoaaGreatDoor
