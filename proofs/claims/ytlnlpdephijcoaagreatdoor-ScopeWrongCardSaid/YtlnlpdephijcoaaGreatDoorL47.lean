/- Part 47 of what the proof rests on. -/
import Derived.Test.YtlnlpdephijcoaaGreatDoorL14
import Derived.Test.YtlnlpdephijcoaaGreatDoorL34
import Derived.Test.YtlnlpdephijcoaaGreatDoorL43
import Derived.Test.YtlnlpdephijcoaaGreatDoorL46
set_option linter.unusedSimpArgs false
set_option linter.unusedVariables false
set_option maxRecDepth 100000
set_option maxHeartbeats 16000000
namespace Go.Proofs.YtlnlpdephijcoaaGreatDoor
open Go.Conc Go.Lx Go.RowKit
inductive RS (s : ByteArray) : Nat → List Tok → Prop
  | done:RS s s.size []
  | skip {k:Nat} {l:List Tok} (hk:k < s.size) (hc:s[k]'hk=32) (h:RS s (k+1) l):RS s k l
  | open {k:Nat} {l:List Tok} (hk:k < s.size) (hc:s[k]'hk=40) (h:RS s (k+1) l):RS s k (⟨2,k,⟨#[40]⟩⟩::l)
  | shut {k:Nat} {l:List Tok} (hk:k < s.size) (hc:s[k]'hk=41) (h:RS s (k+1) l):RS s k (⟨3,k,⟨#[41]⟩⟩::l)
  | word {k q:Nat} {l:List Tok} (hm:k < q) (hs:q≤s.size) (hw:∀ j (h:j < s.size),k≤j→j < q→uL (s[j]'h)=true) (he:∀ h:q < s.size,uL (s[q]'h)=false) (h:RS s q l):RS s k (⟨1,k,s.extract k q⟩::l)
section
variable {w0 : World}
theorem rU(n:Int):Calls Tryz.prog 105 #[.int .u8 n] w0 fun e w=>e = .returned (.bool (((n==9)||(n==10)||(n==13))||(n==32)))∧w=w0:=by
 cases h1:(n==9)<;>cases h2:(n==10)<;>cases h3:(n==13)<;>cases h4:(n==32)
 all_goals
  go_enter Tryz.func105,Tryz.ntmps105;go_wp2;go_ret;exact⟨rfl,rfl⟩
theorem aWA{c:UInt8}(h:uL c=true):((((c.toNat:Int)==9)||((c.toNat:Int)==10)||((c.toNat:Int)==13))||((c.toNat:Int)==32))=false∧((c.toNat:Int)==59)=false∧((c.toNat:Int)==40)=false∧((c.toNat:Int)==41)=false:=by
 have:=wU (p:=fun c => !uL c||(!((((c.toNat:Int)==9)||((c.toNat:Int)==10)||((c.toNat:Int)==13))||((c.toNat:Int)==32)) && !((c.toNat:Int)==59) && !((c.toNat:Int)==40) && !((c.toNat:Int)==41))) (by decide +kernel) c;rw[h]at this;simp only[Bool.not_true,Bool.false_or,Bool.and_eq_true,Bool.not_eq_true']at this;exact⟨this.1.1.1,this.1.1.2,this.1.2,this.2⟩
theorem Tryz.infoTok6:(Tryz.prog.info? 178).map (fun i=>(i.zero,i.size,i.bytes))=some (some (.agg #[.int .i64 0,.int .i64 0,.string ⟨#[]⟩]),3,32):=by kernel_rfl
def e2A(w0:World)(s:ByteArray)(all:List Tok)(v i:Value)(wr:World):Prop:=∃(k:Nat) (l r:List Tok),i = .int .i64 (k:Int)∧k≤s.size∧all=l++r∧RS s k r∧l.length≤k∧wr.ownsRow w0.heap.size 178 3 v l.length (fG l)∧Under w0 wr
def n4A(w0:World)(all:List Tok)(e:Ending)(w:World):Prop:=∃ v,e = .returned (.tuple #[v,.int .i64 0,.int .i64 0])∧w.ownsRow w0.heap.size 178 3 v all.length (fG all)∧Under w0 w
theorem dZA(s:ByteArray)(hs:s.size≤20000)(all:List Tok)(hA:RS s 0 all) :
 Calls Tryz.prog 75 #[.string s] w0 (n4A w0 all):=by
 obtain⟨i0,hi,hz0,hz1,hz2⟩:=info_parts Tryz.infoTok6;have HA:=Lib.hid hA;clear hA;go_enter Tryz.func75,Tryz.ntmps75;go_wp2;go_loopw [5,6] (fun v i wr=>e2A w0 s all v i wr) (fun _ i _=>s.size+1 - (intOf i).toNat)
 case atStart=>exact⟨0,[],all,rfl,Nat.zero_le _,rfl,HA.out,Nat.le_refl _,wI w0 _ _ _ (Nat.le_refl _),aA (Under.refl _) _⟩
 case round =>
   obtain⟨k,l,r,rfl,hk9,hall,hrs,hlk,hrow,hU⟩:=hrel;have hmx:l.length+1≤maxLen:=by simp only[maxLen];omega
   have hby:(l.length+1) * 32≤140737488355328:=by omega
   have hk0:(0:Int)≤(k:Int):=by omega
   cases hrs with
   | done =>
     have hlt:¬(s.size:Int) < s.size:=by omega
     rw[List.append_nil]at hall;subst hall;have HR:=Lib.hid hrow;have HU:=Lib.hid hU;clear hrow hU;go_wp2;go_ret3;exact⟨_,rfl,HR.out,HU.out⟩
   | skip hk hc h =>
     have hlt:(k:Int) < s.size:=by omega
     have hkb:(s[k]'hk).toNat=32:=by rw[hc];rfl
     go_wp2_with fail;refine(rU (32)).mono ?_;rintro e wx ⟨rfl,hwx⟩;subst wx;go_wp2;go_roundw
     case rel=>exact⟨k+1,l,r,by go_num,by omega,hall,h,by omega,hrow,hU⟩
     case measure=>simp[intOf];omega
   | «open» hk hc h =>
     rename_i r;have hlt:(k:Int) < s.size:=by omega
     have hkb:(s[k]'hk).toNat=40:=by rw[hc];rfl
     subst hall;go_wp2_with fail;refine(rU (40)).mono ?_;rintro e wx ⟨rfl,hwx⟩;subst wx;have HR:=Lib.hid hrow;have HU:=Lib.hid hU;clear hrow hU;go_wp2_with (at_builtin;refine wpList_append_own_at _ rfl _ _ 137 rfl w0.heap.size 178 i0 _ 3 32 Tryz.underlying137 hi hz0 hz1 hz2 rfl (by decide) _ _ _ rfl (HR.out.alloc _) ⟨wr.heap.size,0,none⟩ 1 1 [.int .i64 2,.int .i64 k,.string ⟨#[40]⟩] rfl rfl ?c1a ?c2a hmx hby ?c5a ?_)
     try
      case c1a =>
        intro j u hj
        match j,hj with
        | 0,hj=>cases hj;simp[Addr.add]
        | 1,hj=>cases hj;simp[Addr.add]
        | 2,hj=>cases hj;simp[Addr.add]
     case c2a=>first | exact⟨rfl,rfl,rfl⟩ | (intro u hu;simp at hu;rcases hu with rfl | rfl | rfl<;>rfl)
     case c5a=>have:=HU.out.size;first | omega | (simp;omega)
     intro v' w' hown hgrow hnil hat;have HW:=Lib.hid hown;have HU2:=Lib.hid (bB (aA HU.out _) hgrow fun g e=>(iC HR.out e).1);clear hown hgrow hnil hat;go_wp2;go_roundw
     case rel=>exact⟨k+1,l++[⟨2,k,⟨#[40]⟩⟩],_,by go_num,by omega,(by simp),h,by simp;omega,by rw[List.length_append,qJ];exact HW.out,HU2.out⟩
     case measure=>simp[intOf];omega
   | shut hk hc h =>
     rename_i r;have hlt:(k:Int) < s.size:=by omega
     have hkb:(s[k]'hk).toNat=41:=by rw[hc];rfl
     subst hall;go_wp2_with fail;refine(rU (41)).mono ?_;rintro e wx ⟨rfl,hwx⟩;subst wx;have HR:=Lib.hid hrow;have HU:=Lib.hid hU;clear hrow hU;go_wp2_with (at_builtin;refine wpList_append_own_at _ rfl _ _ 137 rfl w0.heap.size 178 i0 _ 3 32 Tryz.underlying137 hi hz0 hz1 hz2 rfl (by decide) _ _ _ rfl (HR.out.alloc _) ⟨wr.heap.size,0,none⟩ 1 1 [.int .i64 3,.int .i64 k,.string ⟨#[41]⟩] rfl rfl ?c1a ?c2a hmx hby ?c5a ?_)
     try
      case c1a =>
        intro j u hj
        match j,hj with
        | 0,hj=>cases hj;simp[Addr.add]
        | 1,hj=>cases hj;simp[Addr.add]
        | 2,hj=>cases hj;simp[Addr.add]
     case c2a=>first | exact⟨rfl,rfl,rfl⟩ | (intro u hu;simp at hu;rcases hu with rfl | rfl | rfl<;>rfl)
     case c5a=>have:=HU.out.size;first | omega | (simp;omega)
     intro v' w' hown hgrow hnil hat;have HW:=Lib.hid hown;have HU2:=Lib.hid (bB (aA HU.out _) hgrow fun g e=>(iC HR.out e).1);clear hown hgrow hnil hat;go_wp2;go_roundw
     case rel=>exact⟨k+1,l++[⟨3,k,⟨#[41]⟩⟩],_,by go_num,by omega,(by simp),h,by simp;omega,by rw[List.length_append,qJ];exact HW.out,HU2.out⟩
     case measure=>simp[intOf];omega
   | word hm hs9 hw he h =>
     rename_i q r;have hk:k < s.size:=by omega
     have hlt:(k:Int) < s.size:=by omega
     subst hall;have hw0:uL (s[k]'hk)=true:=hw k hk (Nat.le_refl _) hm;obtain⟨n1,n2,n3,n4⟩:=aWA hw0;have HW:=Lib.hid hw;have HE:=Lib.hid he;have HS:=Lib.hid h;clear hw he h;go_wp2_with fail;refine(rU ((s[k]'hk).toNat)).mono ?_;rintro e wx ⟨rfl,hwx⟩;subst wx;rw[n1];go_wp2_with fail;refine(rT (s[k]'hk)).mono ?_;rintro e wx ⟨rfl,hwx⟩;subst wx;rw[hw0];clear n1 n2 n3 n4 hw0;go_wp2;go_loopw [8] (fun v8 wr2=>∃ j:Nat,k≤j∧j≤q∧v8 = .int .i64 (j:Int)∧wr=wr2) (fun v8 _=>s.size+1 - (intOf v8).toNat)
     case atStart=>exact⟨k,Nat.le_refl _,Nat.le_of_lt hm,rfl,rfl⟩
     case round =>
       obtain⟨j,hkj,hj,rfl,rfl⟩:=hrel;have hj0:(0:Int)≤(j:Int):=by omega
       by_cases hjm:j < q
       · have hjs : j < s.size := by omega
         have hlt2:(j:Int) < s.size:=by omega
         have hwj:=HW.out j hjs hkj hjm;go_wp2_with fail;refine(rT (s[j]'hjs)).mono ?_;rintro e wx ⟨rfl,hwx⟩;subst wx;rw[hwj];go_wp2;go_roundw
         case rel=>exact⟨j+1,by omega,by omega,by go_num,trivial⟩
         case measure=>simp[intOf];omega
       · obtain rfl : j = q := by omega
         have e1:(k:Int)≤(j:Int):=by omega
         have e2:(j:Int)≤s.size:=by omega
         have e3:(k:Int)≤s.size:=by omega
         have hsl:∀ w:World,(Instr.slice 9 (.string s) (some (.int .i64 (k:Int))) (some (.int .i64 (j:Int))) none).run Tryz.prog w = .ok (.string (s.extract k j)) w:=fun w=>by rw[run_slice_string w _ s .i64 .i64 _ _ Tryz.underlying9 hk0 e1 e2];simp
         have h:=HS.out;have HE2:=Lib.hid HE.out;clear HW HE HS;obtain⟨tx,htx⟩:∃ t,t=s.extract k j:=⟨_,rfl⟩;rw[← htx]at hsl;have HTX:=Lib.hid htx;clear htx;by_cases hend:j < s.size
         · have hlt2 : (j : Int) < s.size := by omega
           have hwj:=HE2.out hend;clear HE2;go_wp2_with fail;refine(rT (s[j]'hend)).mono ?_;rintro e wx ⟨rfl,hwx⟩;subst wx;rw[hwj];have HR:=Lib.hid hrow;have HU:=Lib.hid hU;clear hrow hU;go_wp2_with (at_builtin;refine wpList_append_own_at _ rfl _ _ 137 rfl w0.heap.size 178 i0 _ 3 32 Tryz.underlying137 hi hz0 hz1 hz2 rfl (by decide) _ _ _ rfl (HR.out.alloc _) ⟨wr.heap.size,0,none⟩ 1 1 [.int .i64 1,.int .i64 k,.string tx] rfl rfl ?c1b ?c2b hmx hby ?c5b ?_)
           try
            case c1b =>
              intro j u hj
              match j,hj with
              | 0,hj=>cases hj;simp[Addr.add]
              | 1,hj=>cases hj;simp[Addr.add]
              | 2,hj=>cases hj;simp[Addr.add]
           case c2b=>first | exact⟨rfl,rfl,rfl⟩ | (intro u hu;simp at hu;rcases hu with rfl | rfl | rfl<;>rfl)
           case c5b=>have:=HU.out.size;first | omega | (simp;omega)
           intro v' w' hown hgrow hnil hat;have HW:=Lib.hid hown;have HU2:=Lib.hid (bB (aA HU.out _) hgrow fun g e=>(iC HR.out e).1);clear hown hgrow hnil hat;go_wp2;go_roundw
           case rel=>exact⟨j,l++[⟨1,k,tx⟩],_,by go_num,by omega,(by rw[HTX.out];simp),h,by simp;omega,by rw[List.length_append,qJ];exact HW.out,HU2.out⟩
           case measure=>simp[intOf];omega
         · have hlt2 : ¬ (j : Int) < s.size := by omega
           clear HE2;have HR:=Lib.hid hrow;have HU:=Lib.hid hU;clear hrow hU;go_wp2_with (at_builtin;refine wpList_append_own_at _ rfl _ _ 137 rfl w0.heap.size 178 i0 _ 3 32 Tryz.underlying137 hi hz0 hz1 hz2 rfl (by decide) _ _ _ rfl (HR.out.alloc _) ⟨wr.heap.size,0,none⟩ 1 1 [.int .i64 1,.int .i64 k,.string tx] rfl rfl ?c1c ?c2c hmx hby ?c5c ?_)
           try
            case c1c =>
              intro j u hj
              match j,hj with
              | 0,hj=>cases hj;simp[Addr.add]
              | 1,hj=>cases hj;simp[Addr.add]
              | 2,hj=>cases hj;simp[Addr.add]
           case c2c=>first | exact⟨rfl,rfl,rfl⟩ | (intro u hu;simp at hu;rcases hu with rfl | rfl | rfl<;>rfl)
           case c5c=>have:=HU.out.size;first | omega | (simp;omega)
           intro v' w' hown hgrow hnil hat;have HW:=Lib.hid hown;have HU2:=Lib.hid (bB (aA HU.out _) hgrow fun g e=>(iC HR.out e).1);clear hown hgrow hnil hat;go_wp2;go_roundw
           case rel=>exact⟨j,l++[⟨1,k,tx⟩],_,by go_num,by omega,(by rw[HTX.out];simp),h,by simp;omega,by rw[List.length_append,qJ];exact HW.out,HU2.out⟩
           case measure=>simp[intOf];omega
end
def wrZ(n:Nat):List SX:=List.replicate n nI
def wrB(w:ByteArray)(n:Nat):List UInt8:=w.data.toList++fH (wrZ n)
def eF(w:ByteArray)(n:Nat):ByteArray:=⟨(40::(wrB w n++[41])).toArray⟩
def yK(w:ByteArray)(n:Nat):List PTok:=⟨2,0,⟨#[40]⟩⟩::(((if w.size=0 then [] else [⟨1,1,w⟩])++wF (1+w.data.toList.length) (wrZ n))++[⟨3,((1+(wrB w n).length:Nat):Int),⟨#[41]⟩⟩])
def xI(w:ByteArray)(n:Nat):ST:=.list 0 ((if w.size=0 then [] else [.word 1 w])++mK (1+w.data.toList.length) (wrZ n))
theorem eX(c:UInt8):uL c=mG c:=eq_of_beq (wU (p:=fun c=>uL c==mG c) (by decide +kernel) c)
theorem sIA:okX mG nI:=by unfold nI okX;decide
theorem jRA : ∀ n, zHA mG (wrZ n)
  | 0=>trivial
  | n+1=>⟨sIA,jRA n⟩
theorem rJA{w:ByteArray}(h:w.size=0):w.data.toList=[]:=List.length_eq_zero_iff.1 h
section
variable {s : ByteArray}
theorem oYA{w:ByteArray}(hw:∀ c∈w.data.toList,mG c=true)(n:Nat):∃ acts,Scans (eF w n) 0 acts∧sends acts=(yK w n).map (fun t=>gN (nO t)):=by
 have hsz:(eF w n).size=1+((wrB w n).length+1):=by simp[eF,ByteArray.size];omega
 have hd:(eF w n).data.toList.drop 0=[40]++(wrB w n++[41]):=by simp[eF]
 have hd1:=gJ hd;have hk1:=aF hd (Nat.zero_le _);have hd2:=gJ hd1;have hk2:=aF hd1 hk1;obtain⟨a1,h1,g1⟩:=xDA [] hd2 (acts:=[]) (by rw[show 0+[(40:UInt8)].length+(wrB w n).length+1=(eF w n).size by rw[hsz];simp;omega];exact .done);have hn:noW [(41:UInt8)]:=fun c hc=>by
  obtain rfl:(41:UInt8)=c:=by simpa using hc
  decide
 unfold wrB at hd1 h1;rw[List.append_assoc]at hd1;have hd3:=gJ hd1;have hk3:=aF hd1 hk1;obtain⟨a2,h2,g2⟩:=aX (fun c hc=>hc) (wrZ n) (jRA n) (fun a ha=>by rw[List.eq_of_mem_replicate ha];exact sAA (fun c hc=>hc) _ sIA) _ _ a1 hd3 hn hk3 (by rw[List.length_append,← Nat.add_assoc]at h1;exact h1);have mid:∃ a3,Scans (eF w n) (0+[(40:UInt8)].length) a3∧sends a3=((if w.size=0 then [] else [(⟨1,1,w⟩:PTok)])++wF (1+w.data.toList.length) (wrZ n)).map (fun t=>gN (nO t))++sends a1:=by
  by_cases h0:w.size=0
  · refine⟨a2,by rw[rJA h0]at h2;exact h2,?_⟩;rw[if_pos h0,g2];rfl
  · obtain⟨a3,h3,g3⟩:=rAA w _ hd1 hk1 h0 hw (zS _ hn) h2;refine⟨a3,h3,?_⟩;rw[if_neg h0,g3,g2];rfl
 obtain⟨a3,h3,g3⟩:=mid;obtain⟨a4,h4,g4⟩:=iDA _ hd h3;refine⟨a4,h4,?_⟩;rw[g4,g3,g1,yK,List.map_cons,List.map_append];have e:(1+((wrB w n).length:Int)).toNat=1+(wrB w n).length:=by omega
 simp[sends,nO,e]
theorem iSA{k:Nat}{l:List Tok}(x:ByteArray)(r:List UInt8)(hd:s.data.toList.drop k=x.data.toList++r)(hk:k≤s.size)(hne:x.size≠0)(hl:∀ c∈x.data.toList,mG c=true)(hr:noW r)(h:RS s (k+x.data.toList.length) l):RS s k (⟨1,k,x⟩::l):=by
 have hsz:=aF hd hk;have hex:s.extract k (k+x.data.toList.length)=x:=by rw[lN hd]
 have hx:0 < x.data.toList.length:=by rw[Array.length_toList];exact Nat.pos_of_ne_zero hne
 have hat:∀ j (h:j < s.size),k≤j→s.data.toList[j]? = (x.data.toList++r)[j - k]? := fun j h hj=>by
  rw[← hd,List.getElem?_drop,Nat.add_sub_cancel' hj]
 have hel:∀ j (h:j < s.size),s.data.toList[j]? = some (s[j]'h):=fun j h=>by rw[List.getElem?_eq_getElem (by exact h)];rfl
 have := RS.word (s := s) (k := k) (q := k + x.data.toList.length) (l := l) (by omega) hsz (fun j h h1 h2 => by
   have e:=hat j h h1;rw[hel j h,List.getElem?_append_left (by omega)]at e;rw[eX];exact hl _ (List.mem_of_getElem? e.symm)) (fun h=>by
   have e:=hat _ h (Nat.le_add_right _ _);rw[hel _ h,List.getElem?_append_right (by omega)]at e;rw[eX];refine hr _ ?_;rw[List.head?_eq_getElem?,e];congr 1
   omega) h
 rw[hex]at this;exact this
theorem xRA : ∀ (n k : Nat) (r : List UInt8) (l : List Tok), s.data.toList.drop k = fH (wrZ n) ++ r → noW r → k ≤ s.size → RS s (k + (fH (wrZ n)).length) l → RS s k ((wF k (wrZ n)).map nO ++ l)
  | 0,k,r,l,_,_,_,h=>h
  | n + 1, k, r, l, hd, hr, hk, h => by
    have e:wrZ (n+1)=nI::wrZ n:=rfl;rw[e]at hd h ⊢;rw[fH]at hd h;have hd0:s.data.toList.drop k=[32]++(iF nI++(fH (wrZ n)++r)):=by rw[hd];simp
    have hd1 := gJ hd0; have hk1 := aF hd0 hk; have hd2 := gJ hd1; have hk2 := aF hd1 hk1; obtain ⟨hlt, hc⟩ := oL hd; have h1 := xRA n _ r l hd2 hr hk2 (by
      rw[show k+[(32:UInt8)].length+(iF nI).length+(fH (wrZ n)).length=k+(32::(iF nI++fH (wrZ n))).length by simp;omega];exact h)
    have h2:=iSA ⟨#[122,101,114,111]⟩ _ hd1 hk1 (by decide) (by decide) (zS _ hr) h1;exact RS.skip hlt hc h2
theorem t9A{w:ByteArray}(hw:∀ c∈w.data.toList,mG c=true)(n:Nat):RS (eF w n) 0 ((yK w n).map nO):=by
 have hsz:(eF w n).size=1+((wrB w n).length+1):=by simp[eF,ByteArray.size];omega
 have hd:(eF w n).data.toList.drop 0=[40]++(wrB w n++[41]):=by simp[eF]
 have hd1:=gJ hd;have hk1:=aF hd (Nat.zero_le _);have hd2:=gJ hd1;have hk2:=aF hd1 hk1;obtain⟨hs,hc⟩:=oL hd2;have h1:RS (eF w n) (0+[(40:UInt8)].length+(wrB w n).length) [⟨3,0+[(40:UInt8)].length+(wrB w n).length,⟨#[41]⟩⟩]:=RS.shut hs hc (by rw[show 0+[(40:UInt8)].length+(wrB w n).length+1=(eF w n).size by rw[hsz];simp;omega];exact .done);have hn:noW [(41:UInt8)]:=fun c hc=>by
  obtain rfl:(41:UInt8)=c:=by simpa using hc
  decide
 have hl1:(wrB w n).length=w.data.toList.length+(fH (wrZ n)).length:=by unfold wrB;rw[List.length_append]
 have hd1':=hd1;unfold wrB at hd1';rw[List.append_assoc]at hd1';have hd3:=gJ hd1';have hk3:=aF hd1' hk1;have h2:=xRA n _ _ _ hd3 hn hk3 (by rw[Nat.add_assoc,← hl1];exact h1);obtain⟨ho,hco⟩:=oL hd;have mid:RS (eF w n) (0+[(40:UInt8)].length) (((if w.size=0 then [] else [(⟨1,1,w⟩:PTok)])++wF (1+w.data.toList.length) (wrZ n)).map nO++[⟨3,0+[(40:UInt8)].length+(wrB w n).length,⟨#[41]⟩⟩]):=by
  by_cases h0:w.size=0
  · rw[if_pos h0];rw[rJA h0]at h2 ⊢;exact h2
  · rw[if_neg h0];exact iSA w _ hd1' hk1 h0 hw (zS _ hn) h2
 have:=RS.open ho hco mid;unfold yK;rw[List.map_cons,List.map_append];exact this
end
theorem o6 : ∀ (n k : Nat) (r : List PTok) (row st : List Sx) (t : Sx), st.length ≤ 60 → vC (wF k (wrZ n) ++ r) row st t = vC r (row ++ fA (mK k (wrZ n))) st ⟨t.many + (n : Nat), t.pos, t.word⟩
  | 0,k,r,row,st,t,_=>by simp[wrZ,wF,mK,fA]
  | n + 1, k, r, row, st, t, h => by
    have e:wrZ (n+1)=nI::wrZ n:=rfl;rw[e,wF,mK,fA,List.append_assoc,jAA nI _ _ _ _ _ (by simpa [nI,vGA] using h),o6 n _ _ _ _ _ h,List.append_assoc];congr 2
    simp only[];omega
theorem eMA(w:ByteArray)(n:Nat):vC (yK w n) [] [] ⟨0,0,⟨#[]⟩⟩ = .ok (uA (xI w n)):=by
 have hm:∀ k,(mK k (wrZ n)).length=n:=by
  intro k
  induction n generalizing k with
  | zero=>rfl
  | succ n ih=>rw[show wrZ (n+1)=nI::wrZ n from rfl,mK,List.length_cons,ih]
 unfold yK xI;rw[vF];simp only[show((2:Int)=1)=False by decide,if_false,if_true,List.length_nil,show((0:Nat)=60)=False by decide];by_cases h0:w.size=0
 · rw[if_pos h0,if_pos h0,List.nil_append,List.nil_append,o6 n _ _ _ _ _ (by decide),vF];simp[vC,uA,hm]
 · rw[if_neg h0,if_neg h0,List.append_assoc,List.cons_append,List.nil_append,vF];simp only[if_true];rw[o6 n _ _ _ _ _ (by decide),vF];simp[vC,uA,fA,hm];omega
theorem a5A : ∀ n k, nK (mK k (wrZ n)) ∧ (fA (mK k (wrZ n))).length = n ∧ ∀ y ∈ fA (mK k (wrZ n)), y.word.size ≤ 20
  | 0,k=>⟨trivial,rfl,fun y hy=>by cases hy⟩
  | n + 1, k => by
    obtain⟨h1,h2,h3⟩:=a5A n (k+1+(iF nI).length);rw[show wrZ (n+1)=nI::wrZ n from rfl,mK,fA];refine⟨⟨eSA nI sIA _,h1⟩,by rw[List.length_append,h2];simp[nI,fV,uA];omega,fun y hy=>?_⟩;rcases List.mem_append.1 hy with hy | hy
    · simp only[nI,fV,uA,List.mem_singleton]at hy;rw[hy];exact(by decide:(⟨#[122,101,114,111]⟩:ByteArray).size≤20)
    · exact h3 y hy
theorem aJA{w:ByteArray}(hs:w.size≤20)(n:Nat)(hn:n < 8):okS (xI w n)∧(uA (xI w n)).length≤20000∧∀ y∈uA (xI w n),y.word.size≤1000000:=by
 obtain⟨h1,h2,h3⟩:=a5A n (1+w.data.toList.length);unfold xI;by_cases h0:w.size=0
 · rw [if_pos h0, List.nil_append, uA]; refine ⟨h1, by rw [List.length_append, h2]; simp; omega, fun y hy => ?_⟩; rcases List.mem_append.1 hy with hy | hy
   · have:=h3 y hy;omega
   · rw[List.mem_singleton.1 hy];exact(by decide:(⟨#[]⟩:ByteArray).size≤1000000)
 · rw [if_neg h0, List.cons_append, List.nil_append, uA, fA, uA]; refine ⟨⟨h0, h1⟩, by rw [List.length_append, List.length_append, h2]; simp; omega, fun y hy => ?_⟩; rcases List.mem_append.1 hy with hy | hy
   · rcases List.mem_append.1 hy with hy | hy
     · rw[List.mem_singleton.1 hy];simp;omega
     · have:=h3 y hy;omega
   · rw[List.mem_singleton.1 hy];exact(by decide:(⟨#[]⟩:ByteArray).size≤1000000)
theorem p0A:((List.range 8).all fun n=>hCA (xH [] [] (xI ⟨#[]⟩ n))==false&&kR [] n==false)=true:=by decide +kernel
theorem b6A(w:ByteArray)(n:Nat)(hn:n < 8):hCA (xH [] [] (xI w n))=kR w.data.toList n:=by
 by_cases h0:w.size=0
 · obtain rfl:w=⟨#[]⟩:=ByteArray.ext (Array.ext' (rJA h0));have:=List.all_eq_true.1 p0A n (List.mem_range.2 hn);simp only[Bool.and_eq_true,beq_iff_eq]at this;rw[this.1];exact this.2.symm
 · rw[← dVA w n hn];unfold xI nFA;rw[if_neg h0,fV,xAA];rfl
theorem qHA{w:ByteArray}(hs:w.size≤20)(n:Nat)(hn:n < 8):(eF w n).size≤62:=by
 have h:∀ n,(fH (wrZ n)).length=5 * n:=by
  intro n
  induction n with
  | zero=>rfl
  | succ n ih=>rw[show wrZ (n+1)=nI::wrZ n from rfl,fH,List.length_cons,List.length_append,ih];simp[nI,iF];omega
 have e:w.data.toList.length=w.size:=by rw[Array.length_toList];rfl
 have:(eF w n).size=1+((wrB w n).length+1):=by simp[eF,ByteArray.size];omega
 rw[this];unfold wrB;rw[List.length_append,h,e];omega
theorem qRA{w:ByteArray}(n:Nat)(hn:n < 8):((yK w n).map nO).map Tok.p=yK w n∧(∀ t∈(yK w n).map nO,t.kind=1∨t.kind=2∨t.kind=3)∧((yK w n).map nO).length≤1000000:=by
 have key:∀ t∈yK w n,(nO t).p=t∧(t.kind=1∨t.kind=2∨t.kind=3):=by
  intro t ht;unfold yK at ht;rcases List.mem_cons.1 ht with rfl | ht
  · exact⟨rfl,.inr (.inl rfl)⟩
  rcases List.mem_append.1 ht with ht | ht
  · rcases List.mem_append.1 ht with ht | ht
    · split at ht
      · cases ht
      · rw[List.mem_singleton.1 ht];exact⟨rfl,.inl rfl⟩
    · exact sW _ (fun a _=>eAA a) _ t ht
  · rw[List.mem_singleton.1 ht];exact⟨rfl,.inr (.inr rfl)⟩
 have hl:∀ n k,(wF k (wrZ n)).length=n:=by
  intro n
  induction n with
  | zero=>intro k;rfl
  | succ n ih=>intro k;rw[show wrZ (n+1)=nI::wrZ n from rfl,wF,List.length_append,ih];simp[nI,uG];omega
 refine⟨?_,fun t ht=>?_,?_⟩
 · rw [List.map_map]
   conv=>rhs;rw[← List.map_id (yK w n)]
   exact List.map_congr_left fun t ht=>(key t ht).1
 · obtain⟨u,hu,rfl⟩:=List.mem_map.1 ht;exact(key u hu).2
 · rw [List.length_map]; unfold yK; simp only [List.length_cons, List.length_append, hl, List.length_nil]
   split<;>simp<;>omega
section
variable {w : ByteArray} {n : Nat}
theorem i1A(hw:∀ c∈w.data.toList,mG c=true)(hs:w.size≤20)(hn:n < 8)(W:World)(hE:StrcAt W)(hS:ShapesAt 0 W) :
 CallsG Tryz.prog 16 #[.agg #[.slice none 0 0,.slice none 0 0],.string (eF w n)] W (TermPost W (xH [] [] (xI w n))):=by
 obtain⟨t1,t2,t3⟩:=qRA (w:=w) n hn;obtain⟨o1,o2,o3⟩:=aJA hs n hn;obtain⟨acts,a1,a2⟩:=oYA hw n;have hz:=qHA hs n hn;exact mAA ⟨by omega,⟨acts,a1,by rw[a2,List.map_map];rfl⟩,t3⟩ t2 (by rw[t1];exact eMA w n) [] [] W o1 o2 o3 hE hS (TextsV.nil W) (TextsV.nil W) (by decide) (by decide)
theorem jXA{w0 w:World}{l:Value}{all:List Tok}(h:w.ownsRow w0.heap.size 178 3 l all.length (fG all)):∃ p cap,l = .slice p all.length cap∧z8 w p (all.map Tok.p):=by
 rcases h.2 with⟨rfl,h0⟩ | ⟨g,cap,cur,rfl,hb,hg,rest⟩
 · refine⟨none,0,by rw[h0],fun hne=>?_⟩;have:all=[]:=List.length_eq_zero_iff.1 h0;subst this;exact absurd rfl hne
 · refine⟨_,cap,rfl,fun _=>⟨g,0,rfl,(Array.getElem?_eq_some_iff.1 hg).1,fun k t ht=>?_⟩⟩;rw[List.getElem?_map]at ht;obtain⟨u,hu,rfl⟩:=Option.map_eq_some_iff.1 ht;obtain⟨h1,h2,h3⟩:=iAA all k u hu;rw[Nat.zero_add];exact⟨kD h rfl h1,kD h rfl h2,kD h rfl h3⟩
theorem jVA{s:ByteArray}{all:List Tok}{R:Except (Int×Int) (List Sx)}{w0:World}(hs:s.size≤20000)(hA:RS s 0 all)(hk:∀ t∈all,t.kind=1∨t.kind=2∨t.kind=3)(hl:all.length≤1000000)(hp:vC (all.map Tok.p) [] [] ⟨0,0,⟨#[]⟩⟩=R) :
 Calls Tryz.prog 39 #[.string s] w0 (vZA w0 R):=by
 have HX:=Lib.hid (dZA (w0:=w0) s hs all hA);go_enter Tryz.func39,Tryz.ntmps39;go_wp2_with fail;refine HX.out.mono ?_;rintro e w1 ⟨v,rfl,hown,hU1⟩;obtain⟨q,cap,rfl,hq⟩:=jXA hown;have hkk:∀ t∈all.map Tok.p,t.kind=1∨t.kind=2∨t.kind=3:=by
  intro t ht;obtain⟨u,hu,rfl⟩:=List.mem_map.1 ht;exact hk u hu
 have hc:=j7A (w0:=w1) (cap:=cap) (all.map Tok.p) (by rw[List.length_map];exact hl) hq hkk;rw[hp]at hc;simp only[List.length_map]at hc;have HC:=Lib.hid hc;have HU:=Lib.hid hU1;clear hc hU1 hown hq hkk HX hk hA hp;go_wp2_with fail;refine HC.out.mono ?_;rintro e w2 ⟨hU2,hR⟩;have HU2:=Lib.hid (HU.out.trans hU2);have hz:=HU.out.size;clear hU2
 cases R with
 | ok row =>
   obtain⟨vr,rfl,ho⟩:=hR;have HO:=Lib.hid ho;clear ho;go_wp2;go_ret3;exact⟨HU2.out,vr,rfl,iR HO.out hz⟩
 | error pc =>
   obtain⟨p',c⟩:=pc;subst hR;go_wp2;go_ret3;exact⟨HU2.out,rfl⟩
theorem TermPost.out{W w2:World}{R:Say}{v:Value}(h:TermPost W R v w2):TermOut W R (.returned v) w2:=by
 obtain⟨h1,h2⟩:=h
 cases R with
 | error p=>exact⟨h1,by rw[h2]⟩
 | ok t=>obtain⟨u,rfl,h3⟩:=h2;exact⟨h1,u,rfl,h3⟩
theorem rZA(hw:∀ c∈w.data.toList,mG c=true)(hs:w.size≤20)(hn:n < 8)(W:World) :
 Calls Tryz.prog 17 #[.agg #[.slice none 0 0,.slice none 0 0],.string (eF w n)] W (TermOut W (xH [] [] (xI w n))):=by
 obtain⟨t1,t2,t3⟩:=qRA (w:=w) n hn;obtain⟨o1,o2,o3⟩:=aJA hs n hn;have hz:=qHA hs n hn;have HR:=Lib.hid (fun w0=>jVA (w0:=w0) (R:=.ok (uA (xI w n))) (by omega) (t9A hw n) t2 t3 (by rw[t1];exact eMA w n));have HB0:=Lib.hid (xA W #[.slice none 0 0,.slice none 0 0] 35);have HU0:=Lib.hid (aA (Under.refl W) (.cells #[.slice none 0 0,.slice none 0 0] 35));generalize eF w n=s at *;generalize xI w n=T at *;clear t1 t2 t3 hz;go_enter Tryz.func17,Tryz.ntmps17;go_wp2_with fail;refine(HR.out _).mono ?_;rintro e w1 ⟨hU1,vr,rfl,hown⟩;obtain⟨q,cap,rfl,hcap,hsx⟩:=aZ hown;have HC:=Lib.hid (lDA (w0:=w1) T (q:=q) (cap:=cap) [] [] o1 o2 hcap hsx (p1:=none) (p2:=none) (d1:=0) (d2:=0) (TextsV.nil w1) (TextsV.nil w1) (by decide) (by decide));have HB1:=Lib.hid (HB0.out.under hU1);have HU1:=Lib.hid (HU0.out.trans hU1);have n0:w1.cell? ⟨W.heap.size,0,none⟩=some (.slice none 0 0):=HB1.out.cell 0;have n1:w1.cell? ⟨W.heap.size,1,none⟩=some (.slice none 0 0):=HB1.out.cell 1;have nl:W.heap.size < w1.heap.size:=HB1.out.lt;clear hU1 hown hsx hcap HR o3;go_wp2_with fail;refine HC.out.mono ?_;rintro e w2 hO;obtain⟨v,rfl,hP⟩:=hO.post HU1.out;have hv:∃ a b c,v = .tuple #[a,b,c]:=by
  obtain⟨_,h2⟩:=hP
  split at h2
  · obtain⟨u,e,_⟩:=h2;exact⟨_,_,_,e⟩
  · exact⟨_,_,_,h2⟩
 obtain⟨a,b,c,rfl⟩:=hv;have HP:=Lib.hid hP.out;clear hO hP;go_wp2;go_ret3;exact HP.out
end
noncomputable def vV:Code:=Tryz.f4.body.getD .skip
noncomputable def wwA:Code:=dA (dA (dA (dA (dA (dA (dA vV))))))
noncomputable def wwB:Code:=dA wwA
noncomputable def wwC:Code:=dA wwB
noncomputable def wwD:Code:=dA wwC
def pDA(word s:ByteArray)(n:Nat)(J:Nat→Value):Array Value:=#[.string word,J 1,J 2,J 3,J 4,J 5,.int .i64 (n:Int),.string s,J 8,J 9,J 10,J 11,J 12,J 13,J 14,J 15,J 16,J 17,J 18,J 19,J 20,J 21,J 22,J 23,J 24,J 25,J 26,J 27,J 28,J 29,J 30,J 31,J 32,J 33,J 34,J 35,J 36,J 37,J 38,J 39,J 40,J 41,J 42,J 43,J 44,J 45,J 46,J 47,J 48,J 49,J 50,J 51,J 52,J 53,J 54,J 55,J 56,J 57,J 58,J 59,J 60,J 61,J 62,J 63,J 64,J 65,J 66,J 67,J 68,J 69,J 70,J 71,J 72,J 73,J 74,J 75,J 76,J 77,J 78,J 79,J 80,J 81,J 82,J 83,J 84,J 85,J 86,J 87,J 88,J 89,J 90,J 91,J 92,J 93,J 94,J 95,J 96,J 97,J 98,J 99,J 100,J 101,J 102,J 103,J 104,J 105,J 106,J 107,J 108,J 109,J 110,J 111,J 112,J 113,J 114,J 115,J 116,J 117,J 118,J 119,J 120,J 121,J 122,J 123,J 124,J 125,J 126,J 127,J 128,J 129,J 130,J 131,J 132,J 133,J 134,J 135,J 136,J 137,J 138,J 139]
def tDA(word:ByteArray)(n:Nat)(ec:Int)(J:Nat→Value):Array Value:=#[.string word,J 1,J 2,J 3,J 4,J 5,.int .i64 (n:Int),J 7,J 8,J 9,J 10,.int .i64 ec,J 12,J 13,J 14,J 15,J 16,J 17,J 18,J 19,J 20,J 21,J 22,J 23,J 24,J 25,J 26,J 27,J 28,J 29,J 30,J 31,J 32,J 33,J 34,J 35,J 36,J 37,J 38,J 39,J 40,J 41,J 42,J 43,J 44,J 45,J 46,J 47,J 48,J 49,J 50,J 51,J 52,J 53,J 54,J 55,J 56,J 57,J 58,J 59,J 60,J 61,J 62,J 63,J 64,J 65,J 66,J 67,J 68,J 69,J 70,J 71,J 72,J 73,J 74,J 75,J 76,J 77,J 78,J 79,J 80,J 81,J 82,J 83,J 84,J 85,J 86,J 87,J 88,J 89,J 90,J 91,J 92,J 93,J 94,J 95,J 96,J 97,J 98,J 99,J 100,J 101,J 102,J 103,J 104,J 105,J 106,J 107,J 108,J 109,J 110,J 111,J 112,J 113,J 114,J 115,J 116,J 117,J 118,J 119,J 120,J 121,J 122,J 123,J 124,J 125,J 126,J 127,J 128,J 129,J 130,J 131,J 132,J 133,J 134,J 135,J 136,J 137,J 138,J 139]
section
variable {W : World}
theorem v1A(word:ByteArray)(n:Nat)(hn:n < 8)(ec:Int){w:World}(hU:Under W w)(hF:(ec==0)=kR word.data.toList n)(J:Nat→Value) :
 wwD.wp Tryz.prog (lK Tryz.prog Tryz.f4 (TrueU W)) ⟨tDA word n ec J,[]⟩ w:=by
 generalize hQ:lK Tryz.prog Tryz.f4 (TrueU W)=Q;have HQ:=Lib.hid hQ;have HU:=Lib.hid hU;clear hQ hU;unfold kR at hF;rw[← ByteArray.toList_eq]at hF;have HF:=Lib.hid hF;clear hF;have hn':n=0∨n=1∨n=2∨n=3∨n=4∨n=5∨n=6∨n=7:=by omega
 rcases hn' with rfl | rfl | rfl | rfl | rfl | rfl | rfl | rfl
 all_goals
  unfold wwD wwC wwB wwA vV;simp only[Tryz.f4,Option.getD_some,dA];unfold tDA;go_wp2
  all_goals
   rw[← HQ.out];refine fI rfl rfl ⟨?_,HU.out⟩;have hE:=HF.out
   cases he:(ec==0)<;>rw[he]at hE<;>first | rfl | (exfalso;simp[*]at hE;done) | (simp at he hE;first | (simp[he,hE];done) | (simp[he, *];done))
end
end Go.Proofs.YtlnlpdephijcoaaGreatDoor
