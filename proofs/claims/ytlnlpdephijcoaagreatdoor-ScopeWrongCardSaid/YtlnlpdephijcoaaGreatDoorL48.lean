/- Part 48 of what the proof rests on. -/
import Derived.Test.YtlnlpdephijcoaaGreatDoorRows
import Derived.Conc.Holds
import Derived.KernelRfl
import Derived.Test.YtlnlpdephijcoaaGreatDoorL15
import Derived.Test.YtlnlpdephijcoaaGreatDoorL33
import Derived.Test.YtlnlpdephijcoaaGreatDoorL47
set_option linter.unusedSimpArgs false
set_option linter.unusedVariables false
set_option maxRecDepth 100000
set_option maxHeartbeats 4000000
namespace Go.Proofs.YtlnlpdephijcoaaGreatDoor
open Go.Conc Go.Lx Go.RowKit
def jS(R:Say):List Nd:=match R with
 | .ok t=>t
 | .error _=>[]
def r5A(R:Say):Int:=match R with
 | .ok _=>0
 | .error x=>x.2
def qAA(R:Say):Int:=match R with
 | .ok _=>0
 | .error x=>x.1
theorem TermV.none(w:World):TermV w (.slice none 0 0) []:=⟨Option.none,0,rfl,Nat.le_refl _,fun _=>rfl,RowArg.nil⟩
theorem TermPost.parts{W w:World}{R:Say}{v:Value}(h:TermPost W R v w):∃ q c,v = .tuple #[.slice q (jS R).length c,.int .i64 (r5A R),.int .i64 (qAA R)]∧TermV w (.slice q (jS R).length c) (jS R)∧Under W w:=by
 obtain⟨h1,h2⟩:=h
 cases R with
 | error x=>exact⟨_,_,h2,TermV.none w,h1⟩
 | ok t =>
   obtain⟨u,rfl,h3⟩:=h2;have h4:=h3;obtain⟨q,c,rfl,_⟩:=h4;exact⟨q,c,rfl,h3,h1⟩
theorem TermOut.parts{W w:World}{R:Say}{e:Ending}(h:TermOut W R e w):∃ q c,e = .returned (.tuple #[.slice q (jS R).length c,.int .i64 (r5A R),.int .i64 (qAA R)])∧TermV w (.slice q (jS R).length c) (jS R)∧Under W w:=by
 obtain⟨v,rfl,hp⟩:=h.post (Under.refl W);obtain⟨q,c,rfl,h2⟩:=hp.parts;exact⟨q,c,rfl,h2⟩
theorem pSA(T:ST):(qAA (xH [] [] T)==0)=hCA (xH [] [] T):=by
 unfold xH
 cases h:aG [] [] T [] with
 | error x =>
   have:=vU T [] x.1 x.2 h;simp[qAA,hCA,this]
 | ok t =>
   simp only
   split
   · rfl
   · rename_i h2;simp[qAA,hCA,h2]
theorem gNA{w:ByteArray}(hs:w.size≤20)(n:Nat)(hn:n < 8):(jS (xH [] [] (xI w n))).length≤20000:=by
 have hT:=(aJA hs n hn).2.1;unfold xH
 cases h:aG [] [] (xI w n) [] with
 | error x=>simp[jS]
 | ok t =>
   have:=pM _ _ _ h;simp only
   split
   · simp[jS];omega
   · simp[jS]
section
variable {W : World}
theorem l4A(word:ByteArray)(n:Nat)(hw:∀ c∈word.data.toList,mG c=true)(hs:word.size≤20)(hn:n < 8){w:World}(hU:Under W w)(hE:StrcAt W)(hS:ShapesAt 0 W)(J:Nat→Value) :
 wwA.wpG Tryz.prog (lK Tryz.prog Tryz.f4 (TrueU W)) ⟨pDA word (eF word n) n J,[]⟩ w:=by
 have hX:=i1A hw hs hn w (hE.under hU) (hS.under hU);have HX2:=Lib.hid (fun w'=>rZA hw hs hn w');have hF:(qAA (xH [] [] (xI word n))==0)=kR word.data.toList n:=(pSA _).trans (b6A word n hn);have hL:=gNA hs n hn;have HU:=Lib.hid hU;have HF:=Lib.hid hF;have HL:=Lib.hid hL;clear hU hF hL hE hS;generalize xH [] [] (xI word n)=R at *;generalize eF word n=s at *;unfold wwA vV;simp only[Tryz.f4,Option.getD_some,dA];unfold pDA;refine oC xB ?_;refine vN xB 2 (by decide) fun τ d=>?_
 simp only[List.take_succ_cons,List.take_zero];go_wp2;refine aY ?_ τ d;refine pG (i:=2) (rest:=List.range' 3 7) xB rfl (by rfl) (bF (vs:=#[.agg #[.slice none 0 0,.slice none 0 0],.string s]) rfl Tryz.func16 (by kernel_rfl) rfl (by simp[Act.eval])) hX ?_;rintro v w1 hT;obtain⟨q1,c1,rfl,hV1,hU1⟩:=hT.parts;have HU1:=Lib.hid (HU.out.trans hU1);have HV1:=Lib.hid hV1;clear hX hU1 hV1;refine jE xB 3 7 0 (by decide) fun τ d=>?_
 simp only[List.drop_succ_cons,List.drop_zero,List.take_succ_cons,List.take_zero];walk_nrm;go_wp2;refine jG xB ?_;simp only[Exit.then];refine nG ?_ τ d;refine oC xB (aC xB fun τ d=>?_);have HX3:=Lib.hid (HX2.out (re w1 τ d));go_wp2_with fail;refine HX3.out.mono ?_;rintro e w2 hT2;obtain⟨q2,c2,rfl,hV2,hU2⟩:=hT2.parts;have HU2:=Lib.hid ((HU1.out.re τ d).trans hU2);have HV12:=Lib.hid (TermV.mono _ _ _ _ hU2 (gY HV1.out τ d));have HV2:=Lib.hid hV2;clear hU2 hV2 hT2 hT HX3;go_wp2;refine oC xB (aC xB fun τ d=>?_);have HSm:=Lib.hid (cEA (w0:=re w2 τ d) (jS R) (jS R) (by have:=HL.out;simp only[maxLen];omega) (gY HV12.out τ d) (gY HV2.out τ d));have HU3:=Lib.hid (HU2.out.re τ d);generalize re w2 τ d=w3 at *;go_wp2_with fail;refine HSm.out.mono ?_;rintro e w4 ⟨rfl,hU4⟩;rw[qU];have HU4:=Lib.hid (HU3.out.trans hU4);clear hU4 HSm;go_wp2;exact xYA (F:=tDA word n (qAA R)) (by rfl) fun J=>aC xB fun τ d=>v1A word n hn (qAA R) (HU4.out.re τ d) HF.out J
end
noncomputable def wwRound:Code:=bC (bC (dA (rA (dA (dA vV)))))
def zG(word:ByteArray)(th:Int)(k:Nat)(J:Nat→Value):Array Value:=#[.string word,.int .u8 th,J 2,J 3,J 4,.int .i64 (k:Int),J 6,J 7,J 8,J 9,J 10,J 11,J 12,J 13,J 14,J 15,J 16,J 17,J 18,J 19,J 20,J 21,J 22,J 23,J 24,J 25,J 26,J 27,J 28,J 29,J 30,J 31,J 32,J 33,J 34,J 35,J 36,J 37,J 38,J 39,J 40,J 41,J 42,J 43,J 44,J 45,J 46,J 47,J 48,J 49,J 50,J 51,J 52,J 53,J 54,J 55,J 56,J 57,J 58,J 59,J 60,J 61,J 62,J 63,J 64,J 65,J 66,J 67,J 68,J 69,J 70,J 71,J 72,J 73,J 74,J 75,J 76,J 77,J 78,J 79,J 80,J 81,J 82,J 83,J 84,J 85,J 86,J 87,J 88,J 89,J 90,J 91,J 92,J 93,J 94,J 95,J 96,J 97,J 98,J 99,J 100,J 101,J 102,J 103,J 104,J 105,J 106,J 107,J 108,J 109,J 110,J 111,J 112,J 113,J 114,J 115,J 116,J 117,J 118,J 119,J 120,J 121,J 122,J 123,J 124,J 125,J 126,J 127,J 128,J 129,J 130,J 131,J 132,J 133,J 134,J 135,J 136,J 137,J 138,J 139]
def fQ(w:ByteArray)(n:Nat):ByteArray:=⟨(40::wrB w n).toArray⟩
theorem dJA : ∀ n, fH (wrZ (n + 1)) = fH (wrZ n) ++ [32, 122, 101, 114, 111]
  | 0=>rfl
  | n + 1 => by
    have e:∀ n,fH (wrZ (n+1))=[32,122,101,114,111]++fH (wrZ n):=fun _=>rfl
    rw[e (n+1),dJA n,← List.append_assoc,← e n,dJA n]
theorem n2A(w:ByteArray):(⟨#[40]⟩:ByteArray)++w=fQ w 0:=by
 apply ByteArray.ext;apply Array.ext';simp[fQ,wrB,wrZ,fH,ByteArray.data_append]
theorem r1A(w:ByteArray)(n:Nat):fQ w n++(⟨#[32,122,101,114,111]⟩:ByteArray)=fQ w (n+1):=by
 apply ByteArray.ext;apply Array.ext';simp[fQ,wrB,dJA,ByteArray.data_append]
theorem q2A(w:ByteArray)(n:Nat):fQ w n++(⟨#[41]⟩:ByteArray)=eF w n:=by
 apply ByteArray.ext;apply Array.ext';simp[fQ,eF,ByteArray.data_append]
theorem aKA{w:ByteArray}(hs:w.size≤20)(n:Nat)(hn:n < 8):(fQ w n).size≤62:=by
 have h:=qHA hs n hn;have e:(eF w n).size=(fQ w n).size+1:=by simp[eF,fQ,ByteArray.size]
 omega
section
variable {W : World}
def WwQ(W:World)(e:Exit)(a:Act)(w:World):Prop:=lK Tryz.prog Tryz.f4 (TrueU W) e a w
theorem o4A(word:ByteArray)(th:Int)(J:Nat→Value)(w:World) :
 wwRound.wp Tryz.prog (Exit.then (fun _ _=>False) (fun e a' w'=>e = .exit 0∧∃ J,a'=⟨zG word th word.size J,[]⟩∧w'=w)) ⟨zG word th word.size J,[]⟩ w:=by
 unfold wwRound vV;simp only[Tryz.f4,Option.getD_some,rA,dA,bC];unfold zG;go_wp2;exact⟨trivial,nA (F:=zG word th word.size) (by rfl) trivial⟩
theorem k4A{word:ByteArray}{k:Nat}(th:Int)(hk:k < word.size)(hn:word.size≤20)(hx:uL (word[k]'hk)=true)(J:Nat→Value)(w:World) :
 wwRound.wp Tryz.prog (Exit.then (fun a' w'=>∃ J,a'=⟨zG word th (k+1) J,[]⟩∧w'=w) (fun _ _ _=>False)) ⟨zG word th k J,[]⟩ w:=by
 have hin:(k:Int) < word.size:=by omega
 have hk0:(0:Int)≤(k:Int):=by omega
 unfold wwRound vV;simp only[Tryz.f4,Option.getD_some,rA,dA,bC];unfold zG;go_wp2_with fail;refine(rT (word[k]'hk)).mono ?_;rintro e wx ⟨rfl,hwx⟩;subst wx;rw[hx];go_wp2;exact nA (F:=zG word th (k+1)) (by rfl) trivial
theorem n7A{word:ByteArray}{k:Nat}(th:Int)(hk:k < word.size)(hn:word.size≤20)(hx:uL (word[k]'hk)=false)(J:Nat→Value)(w:World)(hE:StrcAt W)(hS:ShapesAt 0 W)(hU:Under W w) :
 wwRound.wpG Tryz.prog (fun e a w=>e = .ret∧WwQ W e a w) ⟨zG word th k J,[]⟩ w:=by
 have hin:(k:Int) < word.size:=by omega
 have hk0:(0:Int)≤(k:Int):=by omega
 have HW:=Lib.hid hU;generalize hQ:(fun(e:Exit) (a:Act) (w:World)=>e = .ret∧WwQ W e a w)=Q;have HQ:=Lib.hid hQ;clear hU hQ;unfold wwRound vV;simp only[Tryz.f4,Option.getD_some,rA,dA,bC];unfold zG;refine oC xB (aC xB fun τ d=>?_);go_wp2;refine nG ?_ τ d;refine oC xB (iU xB (oC xB (aC xB fun τ d=>?_)));have HW:=Lib.hid (HW.out.re τ d);generalize re w τ d=w2 at *;go_wp2_with fail;refine(rT (word[k]'hk)).mono ?_;rintro e wx ⟨rfl,hwx⟩;subst wx;rw[hx];go_wp2;refine oM xB (t:=true) rfl ?_;simp only[if_true];refine oC xB (zJ xB ?_);refine pG (i:=0) (rest:=List.range' 1 1) xB rfl (by rfl) (bF (vs:=#[]) rfl Tryz.func8 (by kernel_rfl) rfl (by simp)) (xK _ (hE.under HW.out) (hS.under HW.out)) ?_;rintro v w9 ⟨rfl,hU9⟩;refine jE xB 1 1 0 (by decide) fun τ d=>?_
 simp only[List.drop_succ_cons,List.drop_zero,List.take_succ_cons,List.take_zero];walk_nrm;go_wp2;refine jG xB ?_;simp only[Exit.then];refine aC xB fun τ d=>?_
 go_wp2;rw[← HQ.out];exact⟨rfl,fI rfl rfl ⟨rfl,(HW.out.trans hU9).re _ _⟩⟩
def lPA(a:Act):Nat:=match a.tmps.getD 5 undef with | .int _ n=>n.toNat | _=>0
theorem fHA(word:ByteArray)(th:Int)(k:Nat)(J:Nat→Value):lPA ⟨zG word th k J,[]⟩=k:=by
 have:(zG word th k J).getD 5 undef = .int .i64 k:=rfl;simp only[lPA,this];omega
def e5A(W:World)(word:ByteArray)(th:Int)(e:Exit)(a:Act)(w:World):Prop :=
 (e = .exit 0∧(∃ J,a=⟨zG word th word.size J,[]⟩)∧Under W w∧∀ c∈word.data.toList,mG c=true)∨(e = .ret∧WwQ W e a w)
theorem g1A(word:ByteArray)(th:Int)(hn:word.size≤20)(hE:StrcAt W)(hS:ShapesAt 0 W)(a:Act)(w:World)(h0:(∃ J,a=⟨zG word th 0 J,[]⟩)∧Under W w) :
 (Code.loop wwRound).wpG Tryz.prog (e5A W word th) a w:=by
 refine jMA xB (fun a w=>∃ k,k≤word.size∧(∀ c∈word.data.toList.take k,mG c=true)∧(∃ J,a=⟨zG word th k J,[]⟩)∧Under W w) (fun a _=>word.size - lPA a) ⟨0,Nat.zero_le _,by simp,h0⟩ ?_;clear h0;rintro a w ⟨k,hkn,hg,⟨J,rfl⟩,hU⟩;rw[fHA];have hsz:word.data.toList.length=word.size:=by rw[Array.length_toList];rfl
 by_cases hk:k=word.size
 · subst hk; refine aC xB fun τ d => wp_mono (o4A word th J (re w τ d)) ?_
   rintro e a' w' h
   cases e with
   | normal=>exact h.elim
   | _ =>
     obtain⟨h1,J',rfl,rfl⟩:=h;rw[← hsz,List.take_length]at hg;exact .inl ⟨h1,⟨J',rfl⟩,hU.re τ d,hg⟩
 have hlt:k < word.size:=by omega
 cases hx:uL (word[k]'hlt)
 · refine bZ (n7A th hlt hn hx J w hE hS hU) ?_;rintro e a' w' ⟨rfl,h⟩;exact .inr ⟨rfl,h⟩
 · refine aC xB fun τ d => wp_mono (k4A th hlt hn hx J (re w τ d)) ?_
   rintro e a' w' h
   cases e with
   | normal =>
     obtain⟨J',rfl,rfl⟩:=h;refine⟨⟨k+1,by omega,fun c hc=>?_,⟨J',rfl⟩,hU.re τ d⟩,?_⟩
     · rw [List.take_succ_eq_append_getElem (by rw [hsz]; exact hlt)] at hc; rcases List.mem_append.1 hc with hc | hc
       · exact hg c hc
       · rw[List.mem_singleton.1 hc,← eX];exact hx
     · rw[fHA];omega
   | _=>exact h.elim
def n8A(w:ByteArray)(n:Nat)(w0:World)(s i:Value)(wr:World):Prop:=∃ k:Nat,k≤n∧s = .string (fQ w k)∧i = .int .i64 (k:Int)∧wr=w0
theorem nVA(word:ByteArray)(kind:Int)(hk0:0≤kind)(hk1:kind≤255)(W:World)(hE:StrcAt W)(hS:ShapesAt 0 W) :
 CallsG Tryz.prog 4 #[.string word,.int .u8 kind] W (TrueU W):=by
 refine rJ xB Tryz.func4 rfl ?_ TrueU.re;simp only[Tryz.ntmps4,List.size_toArray,List.length_cons,List.length_nil,Nat.reduceAdd,Nat.reduceSub,Array.replicate_succ,Array.replicate_zero,List.push_toArray,List.append_toArray,List.nil_append,List.cons_append];refine oC xB (aC xB fun τ d=>?_);go_wp2;refine nG ?_ τ d;by_cases h1:(20:Int) < word.size
 · have HW := Lib.hid (Under.refl W); refine oC xB ?_; refine oC xB (aC xB fun τ d => ?_); go_wp2; refine nG ?_ τ d; refine oM xB (t := true) rfl ?_; simp only [if_true]; refine oC xB (zJ xB ?_); refine pG (i := 0) (rest := List.range' 1 1) xB rfl (by rfl) (bF (vs := #[]) rfl Tryz.func8 (by kernel_rfl) rfl (by simp)) (xK _ (hE.under HW.out) (hS.under HW.out)) ?_; rintro v w9 ⟨rfl, hU9⟩; refine jE xB 1 1 0 (by decide) fun τ d => ?_
   simp only[List.drop_succ_cons,List.drop_zero,List.take_succ_cons,List.take_zero];walk_nrm;go_wp2;refine jG xB ?_;simp only[Exit.then];refine aC xB fun τ d=>?_
   go_wp2;exact fI rfl rfl ⟨rfl,(HW.out.trans hU9).re _ _⟩
 refine oC xB (oC xB ?_);refine vN xB 4 (by decide) fun τ d=>?_
 simp only[List.take_succ_cons,List.take_zero];go_wp2;refine aY ?_ τ d;refine pG (i:=4) (rest:=List.range' 5 2) xB rfl (by rfl) (bF (vs:=#[]) rfl Tryz.func8 (by kernel_rfl) rfl (by simp)) (xK W hE hS) ?_;rintro v w1 ⟨rfl,hU1⟩;refine jE xB 5 2 0 (by decide) fun τ d=>?_
 simp only[List.drop_succ_cons,List.drop_zero,List.take_succ_cons,List.take_zero];walk_nrm;have HW:=Lib.hid (hU1.re τ d);generalize re w1 τ d=w2 at *;clear hU1;go_wp2;refine jG xB ?_;simp only[Exit.then];refine oM xB (t:=false) rfl ?_;simp only[Bool.false_eq_true,if_false];refine aC xB fun τ d=>?_
 go_wp2;refine nG ?_ τ d;refine oC xB (oC xB (aC xB fun τ d=>?_));go_wp2;refine nG ?_ τ d;refine iU xB (bZ (Q:=e5A W word kind) (g1A word kind (by omega) hE hS _ _ ⟨⟨_,fB (F:=zG word kind 0) (by rfl)⟩,HW.out⟩) ?_);rintro e a w4 (⟨rfl,⟨J,rfl⟩,hU4,hw⟩ | ⟨rfl,h⟩);rotate_left
 · exact h
 have hs:word.size≤20:=by omega
 have HW4:=Lib.hid hU4;have HWd:=Lib.hid hw;clear hU4 hw HW;have hmod0:0≤kind % 8:=Int.emod_nonneg _ (by omega);have hmod1:kind % 8 < 8:=Int.emod_lt_of_pos _ (by omega);obtain⟨m,hm⟩:∃ m:Nat,kind % 8=m:=⟨_,(Int.toNat_of_nonneg hmod0).symm⟩;have hm4:m < 8:=by omega
 clear hmod0 hmod1;unfold zG;simp only[Exit.then,Exit.inBlock,if_true];refine oC xB (aC xB fun τ d=>?_);go_wp2;refine nG ?_ τ d;refine oC xB (aC xB fun τ d=>?_);go_wp2;refine nG ?_ τ d;refine oC xB (aC xB fun τ d=>?_);have hm0:(0:Int)≤(m:Int):=by omega
 have hm9:(m:Int)≤7:=by omega
 go_wp2;have HW5:=Lib.hid (HW4.out.re τ d);generalize re w4 τ d=w5 at *;go_loopw [7,8] (fun s i wr=>n8A word m w5 s i wr) (fun _ i _=>m - (intOf i).toNat)
 case atStart=>exact⟨0,Nat.zero_le _,by rw[← n2A],rfl,rfl⟩
 case round =>
   obtain⟨k,hk,rfl,rfl,rfl⟩:=hrel;by_cases hlt:k < m
   · have hlt1 : (k : Int) < (m : Int) := by omega
     have hz:=aKA hs k (by omega);have HWr:=Lib.hid (r1A word k);generalize fQ word k=s at *;go_wp2;go_roundw
     case rel=>exact⟨k+1,by omega,by rw[← HWr.out],by go_num,rfl⟩
     case measure=>simp[intOf];omega
   · obtain rfl : k = m := by omega
     have hlt1:¬(k:Int) < (k:Int):=by omega
     have hz:=aKA hs k hm4;have HWr:=Lib.hid (q2A word k);generalize fQ word k=s at *;go_wp2;refine oC xB (aC xB fun τ d=>?_);go_wp2;rw[HWr.out];refine nG ?_ τ d;exact xYA (F:=pDA word (eF word k) k) (by rfl) fun J=>l4A word k HWd.out hs hm4 HW5.out hE hS J
end
end Go.Proofs.YtlnlpdephijcoaaGreatDoor
namespace Go.Proofs.YtlnlpdephijcoaaGreatDoor
open Go
theorem hIA:mapsRowed Tryz.pinned.checked.prog=true:=by kernel_rfl
theorem yHA:(Rows.scopeWrongRow.inPlace==Tryz.pinned.checked.prog.inPlace 4)=true:=by kernel_rfl
theorem tIA:(Rows.scopeWrongRow.unfollowed==Tryz.pinned.checked.prog.unfollowed 4)=true:=by kernel_rfl
theorem pJA:(Rows.scopeWrongRow.recurses==Tryz.pinned.checked.prog.recurses 4)=true:=by kernel_rfl
theorem sHA:(Rows.scopeWrongRow.named==Tryz.pinned.checked.prog.varsNamed 4)=true:=by kernel_rfl
theorem fBA:joinedFacts Tryz.pinned.checked.prog 4 Tryz.f4 Rows.scopeWrongSpec Rows.scopeWrongRow=true:=by
 unfold joinedFacts;rw[hIA,yHA,tIA,pJA,sHA]
 kernel_rfl
end Go.Proofs.YtlnlpdephijcoaaGreatDoor
namespace Go.Proofs.YtlnlpdephijcoaaGreatDoor
open Go.ChangeShapes Go.WideShapes Go.ChangeAt Go.WideMaps Go.WideElems Go.RowKit Go.Lx Go.Deep Go.Conc
theorem r9(os:Os)(started:os.Started)(H:Type)(enc:TypeId×Value→H) :
 ReturnsInLeavingWide {} Tryz.checked os 4 .any (fun w args => (Rows.scopeWrongSpec.pre enc Tryz.prog Tryz.f4 [] false w args ∧ laidMetH Tryz.prog tAA w) ∧ sizedMet enc Tryz.prog Tryz.f4 (OpenSpec.ofChange Rows.scopeWrongSpec) false w args)
   (Rows.scopeWrongSpec.post enc Tryz.prog Tryz.f4 false true false false):=by
 refine dS (C := Tryz.checked) (X := fun w _ => laidMetH Tryz.prog tAA w) (fun _ _ _ hh h => h.of_heap hh) Tryz.own started Tryz.func4
   (ChangeSpec.witness_shaped (enc:=enc) (C:=Tryz.checked) (os:=os) (X:=fun w _=>laidMetH Tryz.prog tAA w) false (World.doorLaid Tryz.prog 400 os) #[.string ⟨#[]⟩,.int .u8 0] 8 rfl (World.shaped_of_RefB (by kernel_rfl) (by kernel_rfl)) (by kernel_rfl) (by kernel_rfl) (by kernel_rfl) (pKA os _)) ?_
 intro W base args ds gs before hval0 hW _ _ hL _;have hval:∀(j:Nat) t v,Tryz.f4.params[j]? = some t→args[j]? = some v→Value.okWide Tryz.prog W .any base t v:=hval0;have hW':=hW;obtain⟨p,q,hA0,hV,rfl,_,_⟩:=hW;have hA:DataW.TrodAll enc Tryz.prog W 0 (fun _=>true) true Tryz.f4.params.toList args.toList ds p:=hA0;rw[Tryz.params4]at hA hval;have hlt:=hA.lt;obtain⟨v0,v1,d0,d1,p0,p1,rfl,rfl,rfl,h0,h1⟩:=trodAll_two hA;obtain⟨rfl,rfl⟩:=trodVars_none hV;obtain⟨l0,rfl⟩:=okWide_string Tryz.underlying9 (hval 0 9 v0 rfl rfl);have g1:=h1;obtain⟨z1,rfl⟩:=okWide_int Tryz.underlying5 (hval 1 5 v1 rfl rfl);obtain⟨fuel1,hf1⟩:=g1;obtain⟨y1,hy1,_,hwf1⟩:=DataW.trod_int Tryz.underlying5 hf1;simp only[Value.cells,List.cons.injEq,and_true,Value.int.injEq,true_and]at hy1;obtain rfl:=hy1;simp only[Lit.wf,Bool.and_eq_true,decide_eq_true_eq]at hwf1;have hB:=mRA hL;refine eT (P:=Tryz.prog) Tryz.func4 rfl rfl (by kernel_rfl) ((nVA l0 z1 hwf1.1 hwf1.2 W hB.1 hB.2).mono ?_);rintro v w ⟨rfl,hU⟩ τ d;refine ChangeSpec.post_alike (W'':=re w W.tape d) ?_ ⟨rfl,rfl,rfl⟩;have hb:=oGA hU d;refine⟨_,_,_,[],p0++p1,[],hW',?_,?_,rfl,hb.frame _,fun h=>by cases h⟩
 · exact trodAll_mk1 (tCA true)
 · exact trodAll_mk2 (mDA (by kernel_rfl) (by decide +kernel) hU d (fun x hx=>hlt x (by simp[hx])) h0) (mDA (by kernel_rfl) (by decide +kernel) hU d (fun x hx=>hlt x (by simp[hx])) h1)
theorem scopeWrong_holds : Rows.ScopeWrongSaid :=
 OpenClaim.holds_of_wide_leaving 4 Tryz.f4 rfl rfl rfl rfl rfl rfl rfl ⟨rfl, rfl, rfl, rfl, rfl⟩ rfl rfl rfl rfl rfl (by kernel_rfl) Tryz.func4 fBA
   (of_decide_eq_true (by kernel_rfl)) (by unfold Func.isWrapper;first | (rw[if_pos (by decide +kernel)];kernel_rfl) | (rw[if_neg (by decide +kernel)];exact⟨rfl,rfl⟩))
   (fun os started H enc _=>r9 os started H enc)
end Go.Proofs.YtlnlpdephijcoaaGreatDoor
