/- Part 29 of what the proof rests on. -/
import Derived.Laws.ResultCell
import Derived.Deep.QuietTactic
import Derived.Deep.RegionHeld3
import Derived.Deep.AppendLies
import Derived.Lib.SliceRun
import Derived.Laws.AppendOwnNone
import Derived.Test.YtggjbblgoddnjaaGreatDoorM01
import Derived.Test.YtggjbblgoddnjaaGreatDoorM12
import Derived.Test.YtggjbblgoddnjaaGreatDoorM14
import Derived.Test.YtggjbblgoddnjaaGreatDoorM15
import Derived.Test.YtggjbblgoddnjaaGreatDoorM27
import Derived.Test.YtggjbblgoddnjaaGreatDoorM28
set_option linter.unusedSimpArgs false
set_option linter.unusedVariables false
set_option maxRecDepth 100000
set_option maxHeartbeats 16000000
namespace Go.Proofs.YtggjbblgoddnjaaGreatDoor
open Go.Lx Go.RowKit
def wM(s v:Int):Int:=max s (v+1)
def aW(t:List Nd):Int:=tell t wM 0 (dH t)
theorem wZA{t:List Nd}(hr:∀ x∈t,yA x=true):∀(l:List (Nat×Nat)) (s:Int),0≤s→s≤100→0≤tell t wM s l∧tell t wM s l≤100:=by
 intro l
 induction l with
 | nil=>intro s h0 h1;exact⟨h0,h1⟩
 | cons x l ih =>
   intro s h0 h1;have:0≤lK t wM s x∧lK t wM s x≤100:=by
    unfold lK
    split
    · rename_i y hy
      split
      · rename_i h;have:=vP (hr y (List.mem_of_getElem? hy)) h.1;unfold wM;omega
      · exact⟨h0,h1⟩
    · exact⟨h0,h1⟩
   exact ih _ this.1 this.2
theorem aOA:Told 111 wM:=by
 refine⟨enters_of Tryz.func111 (by kernel_rfl) rfl,?_⟩;intro nb s v w h0 h1 h2 h3 hB;have e0:=hB.cell 0;have f0:=hB.free 0;have hl:=hB.lt;unfold wM;clear hB;by_cases hm:v+1≤s
 · rw [show max s (v + 1) = s by omega]; go_enter Tryz.func111, Tryz.ntmps111; go_wp2
   all_goals
    go_end0
    first
     | exact⟨⟨_,rfl⟩,rfl⟩
     | (refine⟨⟨_,rfl⟩,?_⟩;congr 2;omega)
 · rw [show max s (v + 1) = v + 1 by omega]; go_enter Tryz.func111, Tryz.ntmps111; go_wp2
   all_goals
    go_end0
    first
     | exact⟨⟨_,rfl⟩,rfl⟩
     | (refine⟨⟨_,rfl⟩,?_⟩;congr 2;omega)
def pPA(w0:World)(t:List Nd)(e:Ending)(w:World):Prop:=e = .returned (.tuple #[.int .i64 (if bC t=0 then aW t else 0),.int .i64 (bC t)])∧Under w0 w
theorem yJA{a a' b b':Int}(h:a=a')(h2:b=b'):Ending.returned (.tuple #[.int .i64 a,.int .i64 b]) = .returned (.tuple #[.int .i64 a',.int .i64 b']):=by rw[h,h2]
section
variable {w0 : World} {t : List Nd} {p : Option Addr} {c : Nat}
theorem aXA{W0:World}(f nb:Nat)(hn:t.length≤maxLen)(hs:∀ x∈t,x.s.size≤maxLen)(hp:RowArg W0 p (aC t))(hS:ShapesAt 3 W0)(hU:Under W0 w0)(hc:bC t≠0) :
 Calls Tryz.prog 110 #[.slice p t.length c,.func (.func f) #[] #[.pointer (some ⟨nb,0,none⟩)]] w0 fun e w=>e = .returned (.int .i64 (bC t))∧Under w0 w:=by
 have hU2:=aA (aA (Under.refl w0) (.cells #[.slice p t.length c] 30)) (.cells #[.func (.func f) #[] #[.pointer (some ⟨nb,0,none⟩)]] 174);have HC:=Lib.hid (pY (c:=c) t hn hs (hp.under (hU.trans hU2)) (hS.under (hU.trans hU2)));have HU2:=Lib.hid hU2;have hc':(bC t != 0)=true:=by simpa using hc
 clear hp hS hs hU2 hU hc;generalize bC t=ce at *;go_enter Tryz.func110,Tryz.ntmps110;go_wp2_with fail;refine HC.out.mono ?_;rintro e w1 ⟨rfl,hU1⟩;have HU1:=Lib.hid hU1;clear hU1;go_wp2;go_ret;exact⟨rfl,HU2.out.trans HU1.out⟩
theorem jVA(hcap:t.length≤c)(hn:t.length≤maxLen)(hs:∀ x∈t,x.s.size≤maxLen)(hp:RowArg w0 p (aC t))(hS:ShapesAt 3 w0) :
 Calls Tryz.prog 85 #[.slice p t.length c] w0 (pPA w0 t):=by
 have hB:=qA w0 #[.int .i64 0] 3;have hU:=aA (Under.refl w0) (.cells #[.int .i64 0] 3);by_cases hc:bC t=0
 · have HE:=Lib.hid (vVA (W0:=w0) (c:=c) (s0:=0) aOA hcap hn hs hp hS hU hB (Nat.le_refl _) hc (fun pre _=>by have:=wZA (xZ hc) pre 0 (by omega) (by omega);omega));have HF:=Lib.hid (show(if bC t=0 then aW t else 0)=tell t wM 0 (dH t) from if_pos hc);have HC:=Lib.hid hc;have HU:=Lib.hid hU;clear hp hS hs hU hc hB;go_enter Tryz.func85,Tryz.ntmps85;go_wp2_with fail;refine HE.out.mono ?_;rintro e w1 ⟨rfl,hT,hB1⟩;have e0:=hB1.cell 0;have hl:=hB1.lt;have HT:=Lib.hid hT;clear hT hB1;go_wp2;go_ret2;exact⟨yJA HF.out.symm HC.out.symm,HT.out.under HU.out (Nat.le_refl _)⟩
 · have HE:=Lib.hid (aXA (W0:=w0) (c:=c) 111 w0.heap.size hn hs hp hS hU hc);have HF:=Lib.hid (show(if bC t=0 then aW t else 0)=0 from if_neg hc);have HU:=Lib.hid hU;have HB:=Lib.hid hB;clear hp hS hs hU hc hB;go_enter Tryz.func85,Tryz.ntmps85;go_wp2_with fail;refine HE.out.mono ?_;rintro e w1 ⟨rfl,hU1⟩;have hB1:=HB.out.under hU1;have e0:=hB1.cell 0;have hl:=hB1.lt;have HU1:=Lib.hid hU1;clear hU1 hB1;go_wp2;go_ret2;exact⟨yJA HF.out.symm rfl,HU.out.trans HU1.out⟩
end
def hasB(ss:List ByteArray)(s:ByteArray):Bool:=ss.any fun x=>x.toList==s.toList
def v4A(w0:World)(ss:List ByteArray)(s:ByteArray)(i:Value)(wr:World):Prop:=∃ k:Nat,k≤ss.length∧i = .int .i64 (k:Int)∧(hasB ss s=hasB (ss.drop k) s)∧w0=wr
section
variable {w0 : World}
theorem y9(ss:List ByteArray)(s:ByteArray){v:Value}(hn:ss.length≤maxLen)(hv:TextsV w0 v ss):Calls Tryz.prog 28 #[v,.string s] w0 fun e w=>e = .returned (.bool (hasB ss s))∧w=w0:=by
 obtain⟨p,c,rfl,_,_,hr⟩:=hv;have HR:=Lib.hid hr;have hn0:(0:Int)≤(ss.length:Int):=by omega
 have hn':(ss.length:Int)≤9223372036854775807:=by unfold maxLen at hn;omega
 clear hr hn;go_enter Tryz.func28,Tryz.ntmps28;go_wp2;go_loopw [5] (fun i wr=>v4A w0 ss s i wr) (fun i _=>ss.length - (intOf i).toNat)
 case atStart=>exact⟨0,Nat.zero_le _,rfl,by simp,rfl⟩
 case round =>
   obtain⟨k,hk,rfl,hN,rfl⟩:=hrel;have HN:=Lib.hid hN;clear hN;by_cases hlt:k < ss.length
   · obtain ⟨b, off, rfl, hb, cc⟩ := bGA HR.out hlt; have hd : hasB (ss.drop k) s = (ss[k].toList == s.toList || hasB (ss.drop (k + 1)) s) := by rw [List.drop_eq_getElem_cons hlt]; rfl
     have HD:=Lib.hid hd;clear hd;generalize ss[k]=x at *
     cases hx:(x.toList==s.toList)
     · have HX := Lib.hid hx; go_wp2; go_roundw
       case rel=>exact⟨k+1,by omega,by go_num,by rw[HN.out,HD.out,HX.out];rfl,rfl⟩
       case measure=>simp[intOf];omega
     · have HX:=Lib.hid hx;go_wp2;go_ret;exact⟨by rw[HN.out,HD.out,HX.out];rfl,rfl⟩
   · obtain rfl : k = ss.length := by omega
     have HE:RowKit.Hid (hasB ss s=false):=Lib.hid (by rw[HN.out,List.drop_length];rfl);go_wp2;go_ret;exact⟨by rw[HE.out];rfl,rfl⟩
def mM : List ByteArray → List ByteArray → Bool
  | [],[]=>true
  | x::a,y::b=>x.toList==y.toList&&mM a b
  | _,_=>false
theorem fCA : ∀ {a b : List ByteArray}, a.length ≠ b.length → mM a b = false
  | [],[],h=>absurd rfl h
  | x :: a, y :: b, h => by
    simp only[mM];rw[fCA (a:=a) (b:=b) (by simpa using h)];simp
  | [],y::b,h=>rfl
  | x::a,[],h=>rfl
end
section
variable {w0 : World}
def sN(x y:Nd):Bool:=x.k==y.k&&(x.n==y.n&&(x.m==y.m&&x.s.toList==y.s.toList))
def nR : List Nd → List Nd → Bool
  | [],[]=>true
  | x::a,y::b=>sN x y&&nR a b
  | _,_=>false
theorem wSA(x:Nd):sN x x=true:=by simp[sN]
theorem kY : ∀ t : List Nd, nR t t = true
  | []=>rfl
  | x::t=>by simp[nR,wSA,kY t]
theorem cFA : ∀ {a b : List Nd}, a.length ≠ b.length → nR a b = false
  | [],[],h=>absurd rfl h
  | x :: a, y :: b, h => by
    simp only[nR];rw[cFA (a:=a) (b:=b) (by simpa using h)];simp
  | [],y::b,h=>rfl
  | x::a,[],h=>rfl
def y4A(w0:World)(a b:List Nd)(i:Value)(wr:World):Prop:=∃ k:Nat,k≤a.length∧i = .int .i64 (k:Int)∧(nR a b=nR (a.drop k) (b.drop k))∧Under w0 wr
theorem lBA(a b:List Nd){u v:Value}(hn:a.length≤maxLen)(hu:TermV w0 u a)(hv:TermV w0 v b):Calls Tryz.prog 40 #[u,v] w0 fun e w=>e = .returned (.bool (nR a b))∧Under w0 w:=by
 obtain⟨p,c,rfl,_,_,hr⟩:=hu;obtain⟨p2,c2,rfl,_,_,hr2⟩:=hv;have HR:=Lib.hid hr;have HR2:=Lib.hid hr2;have hn0:(0:Int)≤(a.length:Int):=by omega
 have hn':(a.length:Int)≤9223372036854775807:=by unfold maxLen at hn;omega
 clear hr hn hr2;by_cases hl:a.length=b.length
 · have HLb := Lib.hid hl; have hl1 : ((a.length : Int) == (b.length : Int)) = true := by rw [hl]; simp
   rw[← hl]at hl1 ⊢;clear hl;go_enter Tryz.func40,Tryz.ntmps40;go_wp2;go_loopw [5] (fun i wr=>y4A w0 a b i wr) (fun i _=>a.length - (intOf i).toNat)
   case atStart=>exact⟨0,Nat.zero_le _,rfl,by simp,Under.refl _⟩
   case round =>
     obtain⟨k,hk,rfl,hN,hU⟩:=hrel;have HN:=Lib.hid hN;clear hN;by_cases hlt:k < a.length
     · have hlt2 : k < b.length := by rw [← HLb.out]; exact hlt
       obtain⟨b1,off1,rfl,hb1,c0,c1,c2,c3⟩:=RowArg.node HR.out (List.getElem?_eq_getElem hlt);obtain⟨b2,off2,rfl,hb2,d0,d1,d2,d3⟩:=RowArg.node HR2.out (List.getElem?_eq_getElem hlt2);rw[← dA hU hb1]at c0 c1 c2 c3;rw[← dA hU hb2]at d0 d1 d2 d3;have hb1':=Nat.lt_of_lt_of_le hb1 hU.size;have hb2':=Nat.lt_of_lt_of_le hb2 hU.size;have hd:nR (a.drop k) (b.drop k)=(sN a[k] b[k]&&nR (a.drop (k+1)) (b.drop (k+1))):=by rw[List.drop_eq_getElem_cons hlt,List.drop_eq_getElem_cons hlt2];rfl
       have HD:=Lib.hid hd;have HU:=Lib.hid hU;clear hd hU;generalize a[k]=x at *;generalize b[k]=y at *
       cases h1:(x.k==y.k)
       · skip
         have HX:RowKit.Hid (sN x y=false):=Lib.hid (by unfold sN;simp[*]);go_wp2_with fail;go_quiet (fail);go_wp2;go_ret;exact⟨by rw[HN.out,HD.out,HX.out];rfl,aB HU.out _⟩
       cases h2:(x.n==y.n)
       · skip
         have HX:RowKit.Hid (sN x y=false):=Lib.hid (by unfold sN;simp[*]);go_wp2_with fail;go_quiet (fail);go_wp2;go_ret;exact⟨by rw[HN.out,HD.out,HX.out];rfl,aB HU.out _⟩
       cases h3:(x.m==y.m)
       · skip
         have HX:RowKit.Hid (sN x y=false):=Lib.hid (by unfold sN;simp[*]);go_wp2_with fail;go_quiet (fail);go_wp2;go_ret;exact⟨by rw[HN.out,HD.out,HX.out];rfl,aB HU.out _⟩
       cases h4:(x.s.toList==y.s.toList)
       · skip
         have HX:RowKit.Hid (sN x y=false):=Lib.hid (by unfold sN;simp[*]);go_wp2_with fail;go_quiet (fail);go_wp2;go_ret;exact⟨by rw[HN.out,HD.out,HX.out];rfl,aB HU.out _⟩
       have HX:RowKit.Hid (sN x y=true):=Lib.hid (by unfold sN;rw[h1,h2,h3,h4];rfl);go_wp2_with fail;go_quiet (fail);go_wp2;go_roundw
       case rel=>exact⟨k+1,by omega,by go_num,by rw[HN.out,HD.out,HX.out];rfl,aB HU.out _⟩
       case measure=>simp[intOf];omega
     · obtain rfl : k = a.length := by omega
       have HE:RowKit.Hid (nR a b=true):=Lib.hid (by rw[HN.out,List.drop_length,HLb.out,List.drop_length];rfl);have HU:=Lib.hid hU;clear hU;go_wp2;go_ret;exact⟨by rw[HE.out];rfl,HU.out⟩
 · have HE := Lib.hid (cFA hl); have hl1 : ((a.length : Int) == (b.length : Int)) = false := by simp; omega
   clear hl;go_enter Tryz.func40,Tryz.ntmps40;go_wp2;go_ret;exact⟨by rw[HE.out];rfl,Under.refl _⟩
end
section
variable {w0 : World}
theorem fLA{t:List Nd}{x:Nd}{v:Value}(hn:t.length≤1000000)(hx:t[t.length - 1]? = some x)(hv:TermV w0 v t):Calls Tryz.prog 141 #[v] w0 fun e w=>e = .returned (ndV x)∧Under w0 w:=by
 obtain⟨p,c,rfl,_,_,hr⟩:=hv;have hpos:0 < t.length:=by have:=(List.getElem?_eq_some_iff.1 hx).1;omega
 obtain⟨b,off,rfl,hb,c0,c1,c2,c3⟩:=RowArg.node hr hx;have hb0:(b < w0.heap.size):=hb;obtain⟨m,hm⟩:∃ m,t.length=m+1:=⟨t.length - 1,by omega⟩;have hmi:((m:Int)+1 - 1)=(m:Int):=by omega
 rw[hm]at c0 c1 c2 c3 ⊢;simp only[Nat.add_sub_cancel]at c0 c1 c2 c3;have hm1:(m:Int)≤1000000:=by omega
 have hm0:(0:Int)≤(m:Int):=by omega
 clear hx hr hm hn hpos;go_enter Tryz.func141,Tryz.ntmps141;go_wp2;refine bodyPost_ret (v:=ndV x) ?_ rfl ⟨rfl,aA (Under.refl _) _⟩;simp[results,Tryz.f141,go_sem,ndV]
end
def gQ(x:Nd):Bool:=(x.n==0)&&(x.m==0)&&x.s.toList.isEmpty
section
variable {w0 : World}
theorem qFA(x:Nd):Calls Tryz.prog 164 #[ndV x] w0 fun e w=>e = .returned (.bool (gQ x))∧w=w0.alloc (.cells #[.int .i64 x.k,.int .i64 x.n,.int .i64 x.m,.string x.s] 112):=by
 have HO:RowKit.Hid (gQ x=((x.n==0)&&(x.m==0)&&x.s.toList.isEmpty)):=Lib.hid rfl;generalize gQ x=r at *;unfold ndV
 cases h1:(x.n==0)
 · rw[h1]at HO;go_enter Tryz.func164,Tryz.ntmps164;go_wp2;go_ret;exact⟨by rw[HO.out];rfl,rfl⟩
 · rw [h1] at HO
   cases h2:(x.m==0)
   · rw[h2]at HO;go_enter Tryz.func164,Tryz.ntmps164;go_wp2;go_ret;exact⟨by rw[HO.out];rfl,rfl⟩
   · rw [h2] at HO
     cases h3:x.s.toList.isEmpty
     all_goals
      rw[h3]at HO;go_enter Tryz.func164,Tryz.ntmps164;go_wp2;go_ret;exact⟨by rw[HO.out];rfl,rfl⟩
def o7(n:Int):Bool:=decide (0≤n)&&decide (n≤9)
theorem eSA(n:Int):Calls Tryz.prog 181 #[.int .i64 n] w0 fun e w=>e = .returned (.bool (o7 n))∧w=w0:=by
 have HO:RowKit.Hid (o7 n=(decide (0≤n)&&decide (n≤9))):=Lib.hid rfl;generalize o7 n=r at *;by_cases h1:0≤n
 · by_cases h2 : n ≤ 9
   all_goals
    go_enter Tryz.func181,Tryz.ntmps181;go_wp2;go_ret;exact⟨by rw[HO.out];simp[h1];try omega,rfl⟩
 · go_enter Tryz.func181,Tryz.ntmps181;go_wp2;go_ret;exact⟨by rw[HO.out];simp;omega,rfl⟩
theorem fJA(n:Int):Calls Tryz.prog 163 #[.int .i64 n] w0 fun e w=>e = .returned (.int .i64 (if o7 n then 0 else 1))∧w=w0:=by
 have HL:=Lib.hid (eSA (w0:=w0) n)
 cases h:o7 n
 all_goals
  rw[h]at HL;go_enter Tryz.func163,Tryz.ntmps163;go_wp2_with fail;refine HL.out.mono ?_;rintro e w1 ⟨rfl,rfl⟩;go_wp2;go_ret;exact⟨rfl,rfl⟩
end
theorem yJ(w:World)(base:Nat)(e:TypeId)(size:Nat)(hb:base≤w.heap.size):(w.alloc (.cells #[] e)).ownsRow base e size (.slice (some ⟨w.heap.size,0,none⟩) 0 0) 0 [] :=
 ⟨by simp,.inr ⟨w.heap.size,0,#[],rfl,hb,qA w _ _,Nat.le_refl _,by unfold maxLen;omega,by simp,by simp⟩⟩
def BOut(w0:World)(l:List Nat)(b:Bool)(e:Ending)(w:World):Prop:=∃ q c,e = .returned (.tuple #[.slice q l.length c,.bool b])∧l.length≤c∧RowArg w q (bE l)∧Under w0 w
def uXA:List (Int×List Nat):=[(4,[0,1]),(5,[0,0]),(15,[0,0]),(19,[0,0]),(23,[0,0]),(7,[0,0,0]),(18,[0,0,0]),(8,[0]),(9,[0]),(12,[0]),(28,[0]),(13,[1,0,2,0]),(20,[0,0,0,0]),(21,[0,0,1,0,0,0]),(22,[0,2,0,0,0]),(24,[0,1,0,0])]
section
variable {w0 : World}
theorem zZA(k n m:Int)(s:ByteArray)(l:List Nat)(h:(k,l)∈uXA):Calls Tryz.prog 142 #[ndV ⟨k,n,m,s⟩] w0 (BOut w0 l (gQ ⟨k,n,m,s⟩)):=by
 obtain⟨i0,hi,hz0,hz1,hz2⟩:=info_parts Tryz.infoInt;obtain⟨x,Hx⟩:∃ x,RowKit.Hid (x=k):=⟨k,Lib.hid rfl⟩;have HPl:=Lib.hid (fun w=>qFA (w0:=w) ⟨k,n,m,s⟩);generalize gQ ⟨k,n,m,s⟩=pb at *;unfold ndV at *;simp only at HPl ⊢;obtain⟨WN,HW⟩:∃ WN,RowKit.Hid (WN=w0.alloc (.cells #[.int .i64 x,.int .i64 n,.int .i64 m,.string s] 112)):=⟨_,Lib.hid rfl⟩;obtain⟨hs,HBx,HU⟩:WN.heap.size=w0.heap.size+1∧RowKit.Hid (BoxAt (WN.alloc (.cells #[] 3)) w0.heap.size 112 #[.int .i64 x,.int .i64 n,.int .i64 m,.string s])∧RowKit.Hid (Under w0 (WN.alloc (.cells #[] 3))):=by
  rw[HW.out];exact⟨by simp,(qA w0 _ _).alloc _,aA (aA (Under.refl _) _) _⟩
 have HR:=Lib.hid (hs▸yJ WN (w0.heap.size+1) 3 1 (by omega));rw[← Hx.out]at HPl;simp only[uXA,List.mem_cons,Prod.mk.injEq,List.not_mem_nil,or_false]at h;rcases h with⟨rfl,rfl⟩ | ⟨rfl,rfl⟩ | ⟨rfl,rfl⟩ | ⟨rfl,rfl⟩ | ⟨rfl,rfl⟩ | ⟨rfl,rfl⟩ | ⟨rfl,rfl⟩ | ⟨rfl,rfl⟩ | ⟨rfl,rfl⟩ | ⟨rfl,rfl⟩ | ⟨rfl,rfl⟩ | ⟨rfl,rfl⟩ | ⟨rfl,rfl⟩ | ⟨rfl,rfl⟩ | ⟨rfl,rfl⟩ | ⟨rfl,rfl⟩
 all_goals
  go_enter Tryz.func142, Tryz.ntmps142; go_wp2_with fail; rw [← Hx.out, ← HW.out]; have Hs := Lib.hid hs; clear hs Hx HW; generalize WN.alloc (.cells #[] 3) = W1 at *; have c0 := HBx.out.cell 0; have c1 := HBx.out.cell 1; have c2 := HBx.out.cell 2; have c3 := HBx.out.cell 3; refine wp_region_noPanic ?_; go_region_held3 (fun w' => w'.cell? ⟨w0.heap.size, 0, none⟩ = some (.int .i64 x) ∧ w'.cell? ⟨w0.heap.size, 1, none⟩ = some (.int .i64 n) ∧ w'.cell? ⟨w0.heap.size, 2, none⟩ = some (.int .i64 m) ∧ w'.cell? ⟨w0.heap.size, 3, none⟩ = some (.string s))
    (first
      | exact⟨(HB2.out.alloc _).cell 0,(HB2.out.alloc _).cell 1,(HB2.out.alloc _).cell 2,(HB2.out.alloc _).cell 3⟩
      | exact⟨HBx.out.drew.cell 0,HBx.out.drew.cell 1,HBx.out.drew.cell 2,HBx.out.drew.cell 3⟩
      | exact⟨HB2.out.cell 0,HB2.out.cell 1,HB2.out.cell 2,HB2.out.cell 3⟩
      | exact⟨(HBx.out.alloc _).drew.cell 0,(HBx.out.alloc _).drew.cell 1,(HBx.out.alloc _).drew.cell 2,(HBx.out.alloc _).drew.cell 3⟩)
    (first
      | (go_at_call 164
         refine(HPl.out _).mono ?_;rintro e w3 ⟨rfl,rfl⟩)
      | (refine step_append_lies _ (by rfl) _ _ _ (by rfl) (w0.heap.size + 1) 3 i0 _ 1 8 Tryz.underlying123 hi hz0 hz1 hz2 rfl (by omega) _ 0 [] (by rfl) (HR.out.alloc _).drew ⟨W1.heap.size, 0, none⟩ _ _ _ (by rfl) (by rfl) (World.news_of_block (fr := (0, 0)) (heap_alloc_new W1 _)) (by simp [Value.oneCell']) (by omega) (by simp [maxLen]) (by simp) (by have := HBx.out.lt; simp; omega) (W1.heap.size + 1) (by simp) ?_
         intro gg cc w2 hown2 hgrow hat hlt;have HB2:=Lib.hid (BoxAt.grown ((HBx.out.alloc (.cells _ 3)).drew) hgrow (fun e=>by simp[Value.ownBlock]at e));have HU2:=Lib.hid (rA (fA (aA HU.out (.cells _ 3))) hgrow (fun g e=>by have:=HBx.out.lt;simp[Value.ownBlock]at e;omega));have HO2:=Lib.hid hown2;clear hown2 hgrow hat hlt))
  refine NoPanic.normal ?_;obtain⟨q,c,hv,hc,hr⟩:=RowArg.of_own HO2.out
  cases hv;go_wp2;go_ret2;exact⟨_,_,rfl,hc,hr.under (aA (Under.refl _) _),aA HU2.out _⟩
end
section
variable {w0 : World}
theorem Tryz.infoNdZ:(Tryz.prog.info? 112).map (fun i=>(i.zero,i.size,i.bytes))=some (some (.agg #[.int .i64 0,.int .i64 0,.int .i64 0,.string ⟨#[]⟩]),4,40):=by kernel_rfl
theorem gIA(t:List Nd):∀ u∈aC t,u.oneCell'=true:=by
 induction t with
 | nil=>intro u hu;simp[aC]at hu
 | cons x t ih =>
   intro u hu;simp only[aC,List.mem_cons]at hu;rcases hu with rfl | rfl | rfl | rfl | hu
   · rfl
   · rfl
   · rfl
   · rfl
   · exact ih u hu
theorem xIA(t:List Nd){a:Addr}{c:Nat}(hn:t.length≤2000000)(hc:t.length≤c)(hr:RowArg w0 (some a) (aC t)):Calls Tryz.prog 79 #[.slice (some a) t.length c] w0 fun e w=>∃ v,e = .returned v∧w.ownsRow w0.heap.size 112 4 v t.length (aC t)∧Under w0 w:=by
 obtain⟨i0,hi,hz0,hz1,hz2⟩:=info_parts Tryz.infoNdZ;have eqn:=Lib.run_eql_slice_nil (P:=Tryz.prog) w0 30 112 (some a) t.length c 0 0 Tryz.underlying30;have HR:=Lib.hid hr;clear hr;go_enter Tryz.func79,Tryz.ntmps79;go_wp2_with (at_builtin;refine vC rfl _ _ 30 rfl w0.heap.size 112 i0 _ 4 40 Tryz.underlying30 hi hz0 hz1 hz2 rfl (by decide) _ _ _ rfl (yJ w0 w0.heap.size _ _ (Nat.le_refl _)) (some a) t.length c (aC t) rfl (oZ t) hc (fun h=>by cases h) (HR.out.under (aA (Under.refl _) _)) (gIA t) (by simp only[maxLen];omega) (by omega) (by simp) ?_);intro v1 w1 hown hgrow;replace hown:w1.ownsRow w0.heap.size 112 4 v1 t.length (aC t):=by simpa using hown
 have HO:=Lib.hid hown;have HU:=Lib.hid (rA (aA (Under.refl w0) _) hgrow fun z e=>by cases e;exact Nat.le_refl _);obtain⟨q,d,rfl,_,_⟩:=RowArg.of_own hown;clear hown hgrow;go_wp2;go_ret;exact⟨_,rfl,HO.out,HU.out⟩
theorem dN{w:World}{base:Nat}{e:TypeId}{v:Value}{t:List Nd}(h:w.ownsRow base e 4 v t.length (aC t)):TermV w v t:=by
 have hc:∀ q n c,v = .slice q n c→q=none→c=0:=by
  intro q n c e hq;subst hq;rcases h.2 with⟨rfl,_⟩ | ⟨g,cap,cur,e',_⟩
  · cases e;rfl
  · rw[e']at e;cases e
 obtain⟨q,c,rfl,h1,h2⟩:=RowArg.of_own h;exact⟨q,c,rfl,h1,hc q _ c rfl,h2⟩
theorem sU(t:List Nd){v:Value}(hn:t.length≤2000000)(hv:TermV w0 v t):Calls Tryz.prog 79 #[v] w0 fun e w=>∃ v',e = .returned v'∧w.ownsRow w0.heap.size 112 4 v' t.length (aC t)∧Under w0 w:=by
 obtain⟨p,c,rfl,hc,h0,hr⟩:=hv
 cases p with
 | none =>
   obtain rfl:=h0 rfl;obtain rfl:t=[]:=List.eq_nil_of_length_eq_zero (by omega);have eqn:=Lib.run_eql_slice_nil (P:=Tryz.prog) w0 30 112 none 0 0 0 0 Tryz.underlying30;clear hr;go_enter Tryz.func79,Tryz.ntmps79;go_wp2;go_ret;exact⟨_,rfl,World.ownsRow_nil _ _ _ _,Under.refl _⟩
 | some a=>exact xIA t hn hc hr
end
theorem Tryz.info30:(Tryz.prog.info? 30).map (fun i=>(i.zero,i.size,i.bytes))=some (some (.slice none 0 0),1,24):=by kernel_rfl
section
variable {w0 : World}
theorem cEA(n:Nat)(hn:n≤5864062015658):Calls Tryz.prog 116 #[.slice none 0 0,.int .i64 (n:Int)] w0 fun e w=>∃ v,e = .returned v∧w.ownsRow w0.heap.size 30 1 v 0 []∧Under w0 w:=by
 obtain⟨i0,hi,hz0,hz1,hz2⟩:=info_parts Tryz.info30;by_cases h0:n=0
 · subst h0;go_enter Tryz.func116,Tryz.ntmps116;go_wp2;go_ret;exact⟨_,rfl,World.ownsRow_nil _ _ _ _,Under.refl _⟩
 · have h1 : (0 : Int) < n := by omega
   have h2:(n:Int)≤5864062015658:=by omega
   have h3:n * i0.bytes≤281474976710656:=by rw[hz2];omega
   have h4:1≤n:=by omega
   clear h0;go_enter Tryz.func116,Tryz.ntmps116;go_wp2_with (at_builtin;refine rO rfl _ _ w0.heap.size 96 3 30 rfl i0 (.slice none 0 0) Tryz.underlying96 Tryz.underlying3 hi hz0 hz1 rfl n rfl rfl h4 h3 (by simp only[maxLen];omega) (Nat.le_refl _) ?_;intro g c w1 hown hgrow);have hc:=nN hown (Nat.zero_le n);have HC:=Lib.hid hc;have HU:=Lib.hid (rA (Under.refl w0) hgrow fun g e=>by cases e);clear hown hgrow hc;go_wp2;go_ret;refine⟨_,rfl,?_,HU.out⟩;have:=HC.out;rw[Nat.zero_mul,List.take_zero]at this;exact this
theorem zEA{α:Type}(css:List (List α))(k:Nat)(h:k < css.length):(css.take (k+1)).flatten=(css.take k).flatten++css[k]:=by
 rw[List.take_succ_eq_append_getElem h,List.flatten_append];simp
theorem aAA{α:Type}(css:List (List α))(k:Nat):(css.take k).flatten.length≤css.flatten.length:=by
 have:css.flatten=(css.take k).flatten++(css.drop k).flatten:=by rw[← List.flatten_append,List.take_append_drop]
 rw[this,List.length_append];omega
def CI(w0:World)(css:List (List (List Nd)))(v i:Value)(w:World):Prop :=
 ∃ k vs N,k≤css.length∧i = .int .i64 (k:Nat)∧N=(css.take k).flatten.length∧w.ownsRow w0.heap.size 30 1 v N vs∧Zip (TermV w0) vs (css.take k).flatten∧Under w0 w
theorem p8(css:List (List (List Nd))){v:Value}(hn:css.length≤5864062014634)(ht:css.flatten.length≤5864062015658)(hv:ConsV w0 v css) :
 Calls Tryz.prog 89 #[v] w0 fun e w=>∃ v vs,e = .returned v∧w.ownsRow w0.heap.size 30 1 v css.flatten.length vs∧Zip (TermV w) vs css.flatten∧Under w0 w:=by
 obtain⟨i0,hi,hz0,hz1,hz2⟩:=info_parts Tryz.info30;obtain⟨p,c,us,rfl,hc,_,hr,hz⟩:=hv;have HR:=Lib.hid hr;have HZ:=Lib.hid hz;have HT:=Lib.hid ht;clear hr hz ht;go_enter Tryz.func89,Tryz.ntmps89;go_wp2
 go_loop [3,11] (fun sz i=>∃(k:Nat) (N:Nat),k≤css.length∧i = .int .i64 k∧sz = .int .i64 N∧N=(css.take k).flatten.length) (fun _ i=>css.length - (intOf i).toNat)
 case atStart=>exact⟨0,0,Nat.zero_le _,rfl,rfl,rfl⟩
 case round =>
   obtain⟨k,f,hk,rfl,rfl,hf0⟩:=hrel;have hb1:f≤5864062015658:=by rw[hf0];exact Nat.le_trans (aAA css k) HT.out
   have hfp:(0:Int)≤f:=Int.natCast_nonneg _;have HF0:=Lib.hid hf0;clear hf0;by_cases hlt:k < css.length
   · obtain ⟨u, hu, q, c', us', rfl, hc', h0', hr', hz'⟩ := HZ.out.at (List.getElem?_eq_getElem hlt); obtain ⟨b, off, rfl, hb, hcs⟩ := HR.out (fun e => by rw [e] at hu; simp at hu); have cc := hcs k _ hu; have hb2 := Nat.le_trans (aAA css (k + 1)) HT.out; have hf := congrArg List.length (zEA css k hlt); rw [List.length_append, ← HF0.out] at hf; have hb3 : f + css[k].length ≤ 5864062015658 := by omega
     have HF:=Lib.hid hf;clear hcs hr' hz' hf hb2 hu;generalize css[k].length=m at *;have hm0:(0:Int)≤m:=Int.natCast_nonneg _;have hb4:(f:Int)+m≤5864062015658:=by omega
     have hb5:¬(f:Int)+m < 0:=by omega
     go_wp2
     go_round
     case rel=>exact⟨k+1,f+m,by omega,by go_num,by go_num,by rw[HF.out]⟩
     case measure=>simp[intOf];omega
   · obtain rfl : k = css.length := by omega
     have HG:=Lib.hid (cEA (w0:=w0) f (by omega));clear hlt;go_wp2_with fail;refine HG.out.mono ?_;rintro e w1 ⟨v,rfl,hown,hU⟩;have HO:=Lib.hid hown;have HU:=Lib.hid hU;clear hown hU;go_wp2;go_loopw [6,27] (fun v i wr=>CI w0 css v i wr) (fun _ i _=>css.length - (intOf i).toNat)
     case atStart=>exact⟨0,[],0,Nat.zero_le _,rfl,rfl,HO.out,Zip.nil _,HU.out⟩
     case round =>
       obtain⟨k,vs,N,hk,rfl,hN,hown,hzip,hU⟩:=hrel;by_cases hlt:k < css.length
       · obtain ⟨u, hu, q, c', us', rfl, hc', h0', hr', hz'⟩ := HZ.out.at (List.getElem?_eq_getElem hlt); obtain ⟨b, off, rfl, hb, hcs⟩ := HR.out (fun e => by rw [e] at hu; simp at hu); have cc := hcs k _ hu; rw [← dA hU hb] at cc; have hb' := Nat.lt_of_lt_of_le hb hU.size; have hf := zEA css k hlt; have hb2 := Nat.le_trans (aAA css (k + 1)) HT.out; rw [hf, List.length_append, ← hN] at hb2; have HN := Lib.hid hN; have HF := Lib.hid hf; have HO2 := Lib.hid hown; have HU2 := Lib.hid hU; have HZ2 := Lib.hid hzip; have HR' := Lib.hid (hr'.under hU); have HZ' := Lib.hid hz'; have hmx : N + css[k].length ≤ maxLen := by simp only [maxLen]; omega
         have hby:((N+css[k].length)+(N+css[k].length) / 4+192) * 24≤281474976710656:=by omega
         have HL:=Lib.hid hz'.1;clear hcs hr' hz' hf hN hown hU hzip hu;generalize hm:css[k].length=m at *;have HM:=Lib.hid hm;clear hm
         cases q with
         | none =>
           obtain rfl:c'=0:=h0' rfl;obtain rfl:m=0:=by omega
           go_wp2_with (at_builtin;refine wpList_append_own_none rfl _ _ 96 rfl w0.heap.size 30 i0 1 Tryz.underlying96 hi _ N vs rfl HO2.out rfl ?_);go_roundw
           case rel=>exact⟨k+1,vs,N,by omega,by go_num,by rw[HF.out,List.length_append,← HN.out,HM.out];rfl,HO2.out,by rw[HF.out,List.eq_nil_of_length_eq_zero HM.out,List.append_nil];exact HZ2.out,HU2.out⟩
           case measure=>simp[intOf];omega
         | some a =>
           go_wp2_with (at_builtin;refine wpList_append_own_wide _ rfl _ _ 96 rfl w0.heap.size 30 i0 _ 1 24 Tryz.underlying96 hi hz0 hz1 hz2 rfl (by decide) _ N vs rfl HO2.out a m c' us' rfl ?c1 ?c2 ?c3 hmx hby ?c5 ?_)
           case c1=>rw[HL.out];omega
           case c2 =>
             intro j u hj;obtain⟨b2,off2,e,hb2,hc2⟩:=HR'.out (fun e=>by rw[e]at hj;cases hj)
             cases e;rw[jJ];exact hc2 j u hj
           case c3 =>
             intro u hu;obtain⟨i,hi⟩:=List.getElem?_of_mem hu;have hil:i < css[k].length:=by rw[HM.out,← HL.out];exact(List.getElem?_eq_some_iff.1 hi).1
             exact(HZ'.out.2 i u _ hi (List.getElem?_eq_getElem hil)).one
           case c5=>exact HU2.out.size
           intro v' w2 hown2 hgrow2 hnil2;have hU3:=rA HU2.out hgrow2 fun g e=>(vB HO2.out e).1
           have HO3:=Lib.hid hown2;have HU3:=Lib.hid hU3;clear hown2 hnil2 hU3;go_wp2;go_roundw
           case rel=>exact⟨k+1,vs++us',N+m,by omega,by go_num,by rw[HF.out,List.length_append,← HN.out,HM.out],HO3.out,by rw[HF.out];exact HZ2.out.app HZ'.out,HU3.out⟩
           case measure=>simp[intOf];omega
       · obtain rfl : k = css.length := by omega
         have HO2:=Lib.hid hown;have HU2:=Lib.hid hU;have HZ2:=Lib.hid hzip;have HN:=Lib.hid hN;clear hown hU hzip hN;go_wp2;go_ret;have e1:=HN.out;have e2:=HZ2.out;have e3:=HO2.out;rw[List.take_length]at e1 e2;rw[e1]at e3;exact⟨_,vs,rfl,e3,e2.mono fun v x h=>TermV.mono _ _ v x HU2.out h,HU2.out⟩
end
section
variable {w0 : World} {d : Dc} {v : Value}
theorem tTA{w:World}{u v:Value}{t s:List Nd}(hu:TermV w u t)(hv:TermV w v s)(T:TypeId):TermsV (w.alloc (.cells #[u,v] T)) (.slice (some ⟨w.heap.size,0,none⟩) 2 2) [t,s] :=
 ⟨_,2,[u,v],rfl,Nat.le_refl _,fun h=>by(cases h),nJ w [u,v] T (0,0),(Zip.one (TermV.mono _ _ _ _ (aA (Under.refl w) _) hu)).app (Zip.one (TermV.mono _ _ _ _ (aA (Under.refl w) _) hv))⟩
theorem yUA{w:World}{u:Value}{t:List Nd}(hu:TermV w u t)(T:TypeId):TermsV (w.alloc (.cells #[u] T)) (.slice (some ⟨w.heap.size,0,none⟩) 1 1) [t] :=
 ⟨_,1,[u],rfl,Nat.le_refl _,fun h=>by(cases h),nJ w [u] T (0,0),Zip.one (TermV.mono _ _ _ _ (aA (Under.refl w) _) hu)⟩
theorem aFA(hd:Small d)(hv:DcV w0 v d):Calls Tryz.prog 54 #[v] w0 fun e w=>∃ u,e = .returned u∧TermsV w u (nC d)∧Under w0 w:=by
 obtain⟨vt,vb,vc,rfl,ht,hb,hc⟩:=hv;have hU:=aA (Under.refl w0) (.cells #[.int .i64 d.kind,.int .i64 d.level,.string d.name,vt,vb,vc] 33);have HT:=Lib.hid (TermV.mono _ _ _ _ hU ht);have HB:=Lib.hid (TermV.mono _ _ _ _ hU hb);have HC:=Lib.hid (p8 d.cons hd.cons hd.flat (ConsV.mono _ _ _ _ hU hc));have hT:nC d=if d.kind=1 then [d.type,d.body] else if d.kind=2 then [d.type] else if d.kind=3 then d.cons.flatten else []:=rfl
 have HU:=Lib.hid hU;obtain⟨pt,ct,rfl,_⟩:=ht;obtain⟨pb,cb,rfl,_⟩:=hb;obtain⟨pc,cc,us,rfl,_⟩:=hc;clear hd hU;by_cases h1:d.kind=1
 · rw [if_pos h1] at hT; have HTm := Lib.hid hT; have b1 : (d.kind == 1) = true := by simpa using h1
   clear hT h1;go_enter Tryz.func54,Tryz.ntmps54;go_wp2;go_ret;refine⟨_,rfl,?_,HU.out.trans (aA (Under.refl _) _)⟩;rw[HTm.out]
   simpa using tTA HT.out HB.out 30
 rw[if_neg h1]at hT;have b1:(d.kind==1)=false:=by simpa using h1
 by_cases h2:d.kind=2
 · rw [if_pos h2] at hT; have HTm := Lib.hid hT; have b2 : (d.kind == 2) = true := by simpa using h2
   clear hT h1 h2;go_enter Tryz.func54,Tryz.ntmps54;go_wp2;go_ret;refine⟨_,rfl,?_,HU.out.trans (aA (Under.refl _) _)⟩;rw[HTm.out]
   simpa using yUA HT.out 30
 rw[if_neg h2]at hT;have b2:(d.kind==2)=false:=by simpa using h2
 by_cases h3:d.kind=3
 · rw [if_pos h3] at hT; have HTm := Lib.hid hT; have b3 : (d.kind == 3) = true := by simpa using h3
   clear hT h1 h2 h3;go_enter Tryz.func54,Tryz.ntmps54;go_wp2_with fail;refine HC.out.mono ?_;rintro e w1 ⟨u,vs,rfl,hown,hz,hU1⟩;have HV:=Lib.hid (ListV.of_own hown hz);have HU1:=Lib.hid hU1;clear hown hz hU1;go_wp2;go_ret;exact⟨_,rfl,by rw[HTm.out];exact HV.out,HU.out.trans HU1.out⟩
 · rw [if_neg h3] at hT; have HTm := Lib.hid hT; have b3 : (d.kind == 3) = false := by simpa using h3
   clear hT h1 h2 h3;go_enter Tryz.func54,Tryz.ntmps54;go_wp2;go_ret;exact⟨_,rfl,by rw[HTm.out];exact⟨none,0,[],rfl,Nat.le_refl _,fun _=>rfl,fun h=>absurd rfl h,Zip.nil _⟩,HU.out⟩
end
end Go.Proofs.YtggjbblgoddnjaaGreatDoor
