/- Part 15 of what the proof rests on. -/
import Derived.Deep.RegionHeld3
import Derived.Laws.ResultCell
import Derived.Test.YtggjbblgoddnjaaGreatDoorM00
import Derived.Test.YtggjbblgoddnjaaGreatDoorM04
import Derived.Test.YtggjbblgoddnjaaGreatDoorM05
import Derived.Test.YtggjbblgoddnjaaGreatDoorM08
import Derived.Test.YtggjbblgoddnjaaGreatDoorM10
import Derived.Test.YtggjbblgoddnjaaGreatDoorM12
import Derived.Test.YtggjbblgoddnjaaGreatDoorM13
import Derived.Test.YtggjbblgoddnjaaGreatDoorM14
set_option linter.unusedSimpArgs false
set_option linter.unusedVariables false
set_option maxRecDepth 100000
set_option maxHeartbeats 8000000
namespace Go.Proofs.YtggjbblgoddnjaaGreatDoor
open Go.Lx Go.RowKit
theorem gYA{w:World}{base:Nat}{e:TypeId}{v:Value}{t:List Nd}(h:w.ownsRow base e 4 v t.length (wB t)):TermV w v t:=by
 have hc:∀ q n c,v = .slice q n c→q=none→c=0:=by
  intro q n c e hq;subst hq;rcases h.2 with⟨rfl,_⟩ | ⟨g,cap,cur,e',_⟩
  · cases e;rfl
  · rw[e']at e;cases e
 obtain⟨q,c,rfl,h1,h2⟩:=RowArg.of_own h;exact⟨q,c,rfl,h1,hc q _ c rfl,h2⟩
theorem rG{w w':World}(h:w'=w):Under w w':=by subst h;exact Under.refl _
def gV(r:List Nd×Left):Option (List Nd):=if zF r.2≠0 then none else if gB r.1≠0 then none else some r.1
theorem wH(m:Nat)(acc:List Nd):gV (lI m none acc)=none:=by
 cases m with
 | zero=>rfl
 | succ m=>show gV ([],none)=none;rfl
def eY(kk:Nat)(s1:Left):Nd×Left :=
 let n:=if fN kk then iB 1 s1 else 0;let s2:=if fN kk then iA 1 s1 else s1
 let m:=if fM kk then iB 1 s2 else 0;let s3:=if fM kk then iA 1 s2 else s2
 if fS kk then(⟨kk,n,m,iF (iB 1 s3) (iA 1 s3)⟩,iA (iB 1 s3) (iA 1 s3)) else(⟨kk,n,m,⟨#[]⟩⟩,s3)
theorem l5A(s:ByteArray)(k n:Nat)(acc:List Nd)(hk:k≤s.size)(h:¬ k < s.size):gV (lI (n+1) (some (s.data.toList.drop k)) acc)=none:=by
 have e:lI (n+1) (some (s.data.toList.drop k)) acc=([],some (s.data.toList.drop k)):=if_pos (by rw[left_at s k hk];omega);rw[e];unfold gV;simp only;rw[left_at s k hk,if_neg (by omega),if_pos (by decide)]
theorem cAB(s:ByteArray)(k n:Nat)(acc:List Nd)(h:k < s.size):lI (n+1) (some (s.data.toList.drop k)) acc=lI n (eY (s[k]'h).toNat (some (s.data.toList.drop (k+1)))).2 (acc++[(eY (s[k]'h).toNat (some (s.data.toList.drop (k+1)))).1]):=by
 have e:lI (n+1) (some (s.data.toList.drop k)) acc=lI n (sI (some (s.data.toList.drop k))).2 (acc++[(sI (some (s.data.toList.drop k))).1]):=if_neg (by rw[left_at s k (by omega)];omega);have e2:sI (some (s.data.toList.drop k))=eY (iB 1 (some (s.data.toList.drop k))) (iA 1 (some (s.data.toList.drop k))):=rfl;rw[e,e2,(lJ s k h).1,(lJ s k h).2]
structure R5S (w0:World) (acc:List Nd) (v:Value) (nb:Nat) (x:Nd) (w:World):Prop where
 und:Under w0 w
 row:w.ownsRow w0.heap.size 112 4 v acc.length (wB acc)
 box:BoxAt w nb 112 (fJ x)
 ne:v.ownBlock≠some nb
 lo:w0.heap.size≤nb
section
variable {w0 w w' : World} {acc : List Nd} {v : Value} {nb : Nat} {x y : Nd}
theorem R5S.under(h:R5S w0 acc v nb x w)(hU:Under w w'):R5S w0 acc v nb x w':=⟨h.und.trans hU,uA h.row hU,h.box.under hU,h.ne,h.lo⟩
theorem R5S.set{j:Nat}{u:Value}(h:R5S w0 acc v nb x w)(he:(fJ x).setIfInBounds j u=fJ y):R5S w0 acc v nb y (w.setCell ⟨nb,j,none⟩ u) :=
 ⟨bC h.und h.lo j u,rD h.row h.ne j u,by have:=h.box.set j u;rwa [he]at this,h.ne,h.lo⟩
end
def eEB(w0:World)(PD:Option (List Nd))(s:ByteArray)(M:Nat)(a v i:Value)(wr:World):Prop:=∃(k j n:Nat) (acc:List Nd),a = .int .i64 (k:Int)∧i = .int .i64 (j:Int)∧k≤s.size∧j+n=M∧acc.length=j∧PD=gV (lI n (some (s.data.toList.drop k)) acc)∧wr.ownsRow w0.heap.size 112 4 v acc.length (wB acc)∧Under w0 wr
section
variable {w0 : World}
theorem kMA(s:ByteArray)(hs:s.size≤1000000):Calls Tryz.prog 100 #[.string s] w0 (q3A w0 (nG s)):=by
 have hO:nG s=gV (lI (iB 2 (some s.data.toList)) (iA 2 (some s.data.toList)) []):=rfl;have hs9:(s.size:Int)≤1000000:=by omega
 rcases Nat.lt_or_ge s.size 2 with h2 | h2
 · have h2' : (s.size : Int) < 2 := by omega
   have HPE:=aA (show nG s=none by rw[hO,show iA 2 (some s.data.toList)=none from(uJ s 0 2 (by omega) (by omega)).2];exact wH _ _);generalize nG s=PD at *;clear hO h2;go_enter Tryz.func100,Tryz.ntmps100;go_wp2;go_ret2;rw[HPE.out];exact⟨Under.refl _,rfl⟩
 have e2:iB 2 (some s.data.toList)=(s[0]'(by omega)).toNat+256 * (s[1]'(by omega)).toNat∧iA 2 (some s.data.toList)=some (s.data.toList.drop 2):=l2A s 0 (by omega);have h2':¬(s.size:Int) < 2:=by omega
 have h2a:(0:Int) < (s.size:Int):=by omega
 have h2b:(1:Int) < (s.size:Int):=by omega
 have hs0:0 < s.size:=by omega
 have hs1:1 < s.size:=by omega
 have hm0:=(s[0]'hs0).toNat_lt;have hm1:=(s[1]'hs1).toNat_lt;obtain⟨M,HM⟩:∃ M,Hid (M=(s[0]'hs0).toNat+256 * (s[1]'hs1).toNat):=⟨_,aA rfl⟩;have hMi:((s[0]'hs0).toNat:Int)+(256:Int) * ((s[1]'hs1).toNat:Int)=(M:Int):=by have:=HM.out;omega
 have hM9:(M:Int) < 65536:=by have:=HM.out;omega
 have hM0:(0:Int)≤(M:Int):=by omega
 have HD:RowKit.Hid (nG s=gV (lI M (some (s.data.toList.drop 2)) [])):=aA (by rw[hO,e2.1,e2.2,HM.out]);generalize nG s=PD at *;have hw2:∀ c:UInt8,IntKind.i64.wrap (c.toNat:Int)=(c.toNat:Int):=fun c=>by have:=c.toNat_lt;rw[IntKind.wrap_i64];omega
 have hw3:∀ c:UInt8,IntKind.i64.wrap (256 * (c.toNat:Int))=256 * (c.toNat:Int):=fun c=>by have:=c.toNat_lt;rw[IntKind.wrap_i64];omega
 have hw4:IntKind.i64.wrap (M:Int)=(M:Int):=by rw[IntKind.wrap_i64];omega
 clear hO e2;go_enter Tryz.func100,Tryz.ntmps100;go_wp2_with fail;go_quiet (fail);have HU0:=aA (bB (Under.refl w0) nq);generalize w0.drewN nq=w1 at *;generalize (s[0]'hs0).toNat=b0 at *;generalize (s[1]'hs1).toNat=b1 at *
 try rw[hMi]
 clear hw2 hw3 hw4 hMi;go_wp2;go_loopw [5,6,7] (fun a v i wr=>eEB w0 PD s M a v i wr) (fun _ _ i _=>65536 - (intOf i).toNat)
 case atStart=>exact⟨2,0,M,[],rfl,rfl,h2,by omega,rfl,HD.out,uR _ _ _ _ HU0.out.size,bA HU0.out _⟩
 case round =>
   obtain⟨k,j,n,acc,rfl,rfl,hk,hjn,hal,hpd,hrow,hU⟩:=hrel;have HRow:=aA hrow;have HU:=aA hU;have HPd:=aA hpd;have hk0:(0:Int)≤(k:Int):=by omega
   have hj0:(0:Int)≤(j:Int):=by omega
   have hk9:(k:Int)≤(s.size:Int):=by omega
   have HAl:=aA hal;clear hrow hU hpd hal h2 h2' h2a h2b hm0 hm1 HM hs0 hs1 HD
   cases n with
   | zero =>
     have hjm:¬(j:Int) < (M:Int):=by omega
     have HCk:=aA (kT (w0:=wr) acc (by simp only[maxLen];have:=HAl.out;omega) (gYA HRow.out));have HPE:=aA (show PD=if zF (some (s.data.toList.drop k))≠0 then none else if gB acc≠0 then none else some acc from HPd.out);by_cases hks:k=s.size
     · have HPD := aA (show PD = if gB acc ≠ 0 then none else some acc by rw [HPE.out, left_at s k hk, if_neg (by omega)]); have hks' : (k : Int) = (s.size : Int) := by omega
       subst hks;clear HPE HPd hjn;go_wp2_with fail;refine HCk.out.mono ?_;rintro e w2 ⟨rfl,hUc⟩;have HOw:=aA (show Ow1 w0.heap.size w2 u6 acc from uA HRow.out hUc);have HUc:=aA (HU.out.trans hUc);clear hUc HCk;by_cases hE:gB acc=0
       · have HPE:=aA (show PD=some acc by rw[HPD.out,if_neg (by omega)]);rw[hE];clear hE;go_wp2;go_ret2;rw[HPE.out];exact⟨HUc.out,_,rfl,HOw.out⟩
       · have HPE := aA (show PD = none by rw [HPD.out, if_pos hE]); have hE' : (gB acc != 0) = true := by simpa using hE
         clear hE;go_wp2;go_ret2;rw[HPE.out];exact⟨HUc.out,rfl⟩
     · have HPF := aA (show PD = none by rw [HPE.out, left_at s k hk, if_pos (by omega)]); have hks' : ((k : Int) != (s.size : Int)) = true := by simp; omega
       clear HPE HPd HCk hjn hks;go_wp2;go_ret2;rw[HPF.out];exact⟨HU.out,rfl⟩
   | succ n =>
     have hjm:(j:Int) < (M:Int):=by omega
     have hj9:(j:Int)≤65535:=by omega
     have hal:acc.length≤65535:=by have:=HAl.out;omega
     clear hM9 hM0;rcases(Nat.lt_or_ge k s.size).symm with hge | hkk
     · have hge' : (s.size : Int) ≤ (k : Int) := by omega
       have HPF:=aA (show PD=none by rw[HPd.out];exact l5A s k n acc hk (by omega));clear HPd;go_wp2;go_ret2;rw[HPF.out];exact⟨HU.out,rfl⟩
     obtain⟨p1,HE1⟩:∃ b,Hid (b=k+1):=⟨_,aA rfl⟩;have hi1:(k:Int)+1=(p1:Int):=by have:=HE1.out;omega
     have hle1:(p1:Int)≤(s.size:Int):=by have:=HE1.out;omega
     have hlt1:(k:Int) < (s.size:Int):=by omega
     have HPd:=aA (HPd.out.trans (by rw[cAB s k n acc hkk,← HE1.out]));have hk256:=(s[k]'hkk).toNat_lt;generalize hkv:(s[k]'hkk).toNat=kk at *;have hkb:(kk:Int) < 256:=by omega
     have hkb0:(0:Int)≤(kk:Int):=by omega
     have hHN:=fun w=>pFA (w0:=w) kk hk256
     have hHM:=fun w=>qEA (w0:=w) kk hk256
     have hHS:=fun w=>dFA (w0:=w) kk hk256
     obtain⟨i0,hi,hz0,hz1,hz2⟩:=info_parts Tryz.infoNdZ;have hmx:acc.length+1≤maxLen:=by simp only[maxLen];omega
     have hby:(acc.length+1) * 40≤140737488355328:=by omega
     have HS:=aA (show R5S w0 acc u6 wr.heap.size ⟨kk,0,0,⟨#[]⟩⟩ (wr.alloc (.cells #[.int .i64 kk,.int .i64 0,.int .i64 0,.string ⟨#[]⟩] 112)) from⟨bA HU.out _,uA HRow.out (bA (Under.refl _) _),rA wr _ _,fun e=>by have:=(jB HRow.out e).2;omega,HU.out.size⟩);rcases vX kk hk256 with⟨h1,h2,h3,h4⟩ | ⟨h1,h2,h3,h4⟩ | ⟨h1,h2,h3,h4⟩ | ⟨h1,h2,h3,h4⟩ | ⟨h1,h2,h3,h4⟩
     all_goals
      rw[h1]at hHN;rw[h2]at hHM;rw[h3]at hHS;have HNN:=aA hHN;have HNM:=aA hHM;have HNS:=aA hHS;have HPd:=aA (HPd.out.trans (by simp only[eY,h1,h2,h3,if_true,if_false,Bool.false_eq_true];rfl));clear hHN hHM hHS h1 h2 h3 h4 hk256
     · skip
       go_wp2_with fail;refine(HNN.out _).mono ?_;rintro e w2 ⟨rfl,hU2⟩;have HS:=aA (HS.out.under (by first | exact hU2 | exact rG hU2));clear hU2
       try clear n0 n1 n2 n3 f1 f2 f3 nl
       have n0:=HS.out.box.cell 0;have n1:=HS.out.box.cell 1;have n2:=HS.out.box.cell 2;have n3:=HS.out.box.cell 3;have f1:=HS.out.box.free 1;have f2:=HS.out.box.free 2;have f3:=HS.out.box.free 3;have nl:=HS.out.box.lt;dsimp only[fJ]at n0 n1 n2 n3;go_wp2_with fail;refine(HNM.out _).mono ?_;rintro e w2 ⟨rfl,hU2⟩;have HS:=aA (HS.out.under (by first | exact hU2 | exact rG hU2));clear hU2
       try clear n0 n1 n2 n3 f1 f2 f3 nl
       have n0:=HS.out.box.cell 0;have n1:=HS.out.box.cell 1;have n2:=HS.out.box.cell 2;have n3:=HS.out.box.cell 3;have f1:=HS.out.box.free 1;have f2:=HS.out.box.free 2;have f3:=HS.out.box.free 3;have nl:=HS.out.box.lt;dsimp only[fJ]at n0 n1 n2 n3;go_wp2_with fail;refine(HNS.out _).mono ?_;rintro e w2 ⟨rfl,hU2⟩;have HS:=aA (HS.out.under (by first | exact hU2 | exact rG hU2));clear hU2
       try clear n0 n1 n2 n3 f1 f2 f3 nl
       have n0:=HS.out.box.cell 0;have n1:=HS.out.box.cell 1;have n2:=HS.out.box.cell 2;have n3:=HS.out.box.cell 3;have f1:=HS.out.box.free 1;have f2:=HS.out.box.free 2;have f3:=HS.out.box.free 3;have nl:=HS.out.box.lt;dsimp only[fJ]at n0 n1 n2 n3;go_wp2_with (at_builtin;refine wpList_append_own_at _ rfl _ _ 30 rfl w0.heap.size 112 i0 _ 4 40 Tryz.underlying30 hi hz0 hz1 hz2 rfl (by decide) _ _ _ rfl (uA HS.out.row (bA (Under.refl _) _)) ⟨w2.heap.size,0,none⟩ 1 1 [.int .i64 kk,.int .i64 0,.int .i64 0,.string ⟨#[]⟩] rfl rfl ?c1 ?c2 hmx hby ?c5 ?_)
       try case c1=>exact tH (by simp) _ _
       case c2=>first | exact⟨rfl,rfl,rfl,rfl⟩ | (intro u hu;simp at hu;rcases hu with rfl | rfl | rfl | rfl<;>rfl)
       case c5=>have:=HS.out.und.size;first | omega | (simp;omega) | (simp at this ⊢;omega)
       intro v' w' hown hgrow hnil hat;have HU2:=aA (xA (bA HS.out.und _) hgrow fun g e=>(jB HS.out.row e).1);have HO':=aA (show w'.ownsRow w0.heap.size 112 4 v' (acc++[(⟨kk,0,0,⟨#[]⟩⟩:Nd)]).length (wB (acc++[⟨kk,0,0,⟨#[]⟩⟩])) by rw[gF,List.length_append];exact hown);clear hown hgrow hnil hat;go_wp2;go_roundw
       case rel=>exact⟨p1,j+1,n,_,by go_num,by go_num,by omega,by omega,by have:=HAl.out;simp;omega,HPd.out,HO'.out,HU2.out⟩
       case measure=>simp[intOf];omega
     · skip
       go_wp2_with fail;refine(HNN.out _).mono ?_;rintro e w2 ⟨rfl,hU2⟩;have HS:=aA (HS.out.under (by first | exact hU2 | exact rG hU2));clear hU2
       try clear n0 n1 n2 n3 f1 f2 f3 nl
       have n0:=HS.out.box.cell 0;have n1:=HS.out.box.cell 1;have n2:=HS.out.box.cell 2;have n3:=HS.out.box.cell 3;have f1:=HS.out.box.free 1;have f2:=HS.out.box.free 2;have f3:=HS.out.box.free 3;have nl:=HS.out.box.lt;dsimp only[fJ]at n0 n1 n2 n3;rcases(Nat.lt_or_ge p1 s.size).symm with hgep1 | hltp1
       · have hge' : (s.size : Int) ≤ (p1 : Int) := by omega
         have HPD:=aA (show PD=none by rw[HPd.out,(uJ s p1 1 (by omega) (by omega)).2];exact wH _ _);clear HPd;have HPE:=aA (show PD=none by rw[HPD.out]);go_wp2;go_ret2;rw[HPE.out];exact⟨HS.out.und,rfl⟩
       obtain⟨p2,HEp2⟩:∃ b,Hid (b=p1+1):=⟨_,aA rfl⟩;have hip2:(p1:Int)+1=(p2:Int):=by have:=HEp2.out;omega
       have hlep2:(p2:Int)≤(s.size:Int):=by have:=HEp2.out;omega
       have hlti:(p1:Int) < (s.size:Int):=by omega
       have HPd:=aA (HPd.out.trans (by rw[(lJ s p1 hltp1).1,(lJ s p1 hltp1).2,← HEp2.out]));generalize hvp2:(s[p1]'hltp1).toNat=nn at *;have hbvp2:(nn:Int) < 256:=by have:=(s[p1]'hltp1).toNat_lt;omega
       have HS:=aA (HS.out.set (j:=1) (u:=.int .i64 (nn:Int)) (y:=⟨kk,(nn:Int),0,⟨#[]⟩⟩) rfl);go_wp2_with fail;refine(HNM.out _).mono ?_;rintro e w2 ⟨rfl,hU2⟩;have HS:=aA (HS.out.under (by first | exact hU2 | exact rG hU2));clear hU2
       try clear n0 n1 n2 n3 f1 f2 f3 nl
       have n0:=HS.out.box.cell 0;have n1:=HS.out.box.cell 1;have n2:=HS.out.box.cell 2;have n3:=HS.out.box.cell 3;have f1:=HS.out.box.free 1;have f2:=HS.out.box.free 2;have f3:=HS.out.box.free 3;have nl:=HS.out.box.lt;dsimp only[fJ]at n0 n1 n2 n3;go_wp2_with fail;refine(HNS.out _).mono ?_;rintro e w2 ⟨rfl,hU2⟩;have HS:=aA (HS.out.under (by first | exact hU2 | exact rG hU2));clear hU2
       try clear n0 n1 n2 n3 f1 f2 f3 nl
       have n0:=HS.out.box.cell 0;have n1:=HS.out.box.cell 1;have n2:=HS.out.box.cell 2;have n3:=HS.out.box.cell 3;have f1:=HS.out.box.free 1;have f2:=HS.out.box.free 2;have f3:=HS.out.box.free 3;have nl:=HS.out.box.lt;dsimp only[fJ]at n0 n1 n2 n3;go_wp2_with (at_builtin;refine wpList_append_own_at _ rfl _ _ 30 rfl w0.heap.size 112 i0 _ 4 40 Tryz.underlying30 hi hz0 hz1 hz2 rfl (by decide) _ _ _ rfl (uA HS.out.row (bA (Under.refl _) _)) ⟨w2.heap.size,0,none⟩ 1 1 [.int .i64 kk,.int .i64 (nn:Int),.int .i64 0,.string ⟨#[]⟩] rfl rfl ?c1 ?c2 hmx hby ?c5 ?_)
       try case c1=>exact tH (by simp) _ _
       case c2=>first | exact⟨rfl,rfl,rfl,rfl⟩ | (intro u hu;simp at hu;rcases hu with rfl | rfl | rfl | rfl<;>rfl)
       case c5=>have:=HS.out.und.size;first | omega | (simp;omega) | (simp at this ⊢;omega)
       intro v' w' hown hgrow hnil hat;have HU2:=aA (xA (bA HS.out.und _) hgrow fun g e=>(jB HS.out.row e).1);have HO':=aA (show w'.ownsRow w0.heap.size 112 4 v' (acc++[(⟨kk,(nn:Int),0,⟨#[]⟩⟩:Nd)]).length (wB (acc++[⟨kk,(nn:Int),0,⟨#[]⟩⟩])) by rw[gF,List.length_append];exact hown);clear hown hgrow hnil hat;go_wp2;go_roundw
       case rel=>exact⟨p2,j+1,n,_,by go_num,by go_num,by omega,by omega,by have:=HAl.out;simp;omega,HPd.out,HO'.out,HU2.out⟩
       case measure=>simp[intOf];omega
     · skip
       go_wp2_with fail;refine(HNN.out _).mono ?_;rintro e w2 ⟨rfl,hU2⟩;have HS:=aA (HS.out.under (by first | exact hU2 | exact rG hU2));clear hU2
       try clear n0 n1 n2 n3 f1 f2 f3 nl
       have n0:=HS.out.box.cell 0;have n1:=HS.out.box.cell 1;have n2:=HS.out.box.cell 2;have n3:=HS.out.box.cell 3;have f1:=HS.out.box.free 1;have f2:=HS.out.box.free 2;have f3:=HS.out.box.free 3;have nl:=HS.out.box.lt;dsimp only[fJ]at n0 n1 n2 n3;go_wp2_with fail;refine(HNM.out _).mono ?_;rintro e w2 ⟨rfl,hU2⟩;have HS:=aA (HS.out.under (by first | exact hU2 | exact rG hU2));clear hU2
       try clear n0 n1 n2 n3 f1 f2 f3 nl
       have n0:=HS.out.box.cell 0;have n1:=HS.out.box.cell 1;have n2:=HS.out.box.cell 2;have n3:=HS.out.box.cell 3;have f1:=HS.out.box.free 1;have f2:=HS.out.box.free 2;have f3:=HS.out.box.free 3;have nl:=HS.out.box.lt;dsimp only[fJ]at n0 n1 n2 n3;go_wp2_with fail;refine(HNS.out _).mono ?_;rintro e w2 ⟨rfl,hU2⟩;have HS:=aA (HS.out.under (by first | exact hU2 | exact rG hU2));clear hU2
       try clear n0 n1 n2 n3 f1 f2 f3 nl
       have n0:=HS.out.box.cell 0;have n1:=HS.out.box.cell 1;have n2:=HS.out.box.cell 2;have n3:=HS.out.box.cell 3;have f1:=HS.out.box.free 1;have f2:=HS.out.box.free 2;have f3:=HS.out.box.free 3;have nl:=HS.out.box.lt;dsimp only[fJ]at n0 n1 n2 n3;rcases(Nat.lt_or_ge p1 s.size).symm with hgeS | hltS
       · have hge' : (s.size : Int) ≤ (p1 : Int) := by omega
         have HPD:=aA (show PD=none by rw[HPd.out,(uJ s p1 1 (by omega) (by omega)).2];exact wH _ _);clear HPd;have HPE:=aA (show PD=none by rw[HPD.out]);go_wp2;go_ret2;rw[HPE.out];exact⟨HS.out.und,rfl⟩
       obtain⟨pp,HEp⟩:∃ b,Hid (b=p1+1):=⟨_,aA rfl⟩;have hip:(p1:Int)+1=(pp:Int):=by have:=HEp.out;omega
       have hlep:(pp:Int)≤(s.size:Int):=by have:=HEp.out;omega
       have hltiS:(p1:Int) < (s.size:Int):=by omega
       have HPd:=aA (HPd.out.trans (by rw[(lJ s p1 hltS).1,(lJ s p1 hltS).2,← HEp.out]));have hq9:=(s[p1]'hltS).toNat_lt;generalize hvq:(s[p1]'hltS).toNat=q at *;have hbq:(q:Int) < 256:=by omega
       have hq0:(0:Int)≤(q:Int):=by omega
       have hp0:(0:Int)≤(pp:Int):=by omega
       obtain⟨pq,HEq⟩:∃ b,Hid (b=pp+q):=⟨_,aA rfl⟩;have hiq:(pp:Int)+(q:Int)=(pq:Int):=by have:=HEq.out;omega
       have hpqw:(pq:Int)≤1000300:=by omega
       have hp0q:(0:Int)≤(pq:Int):=by omega
       rcases Nat.lt_or_ge s.size pq with hbig | hsm
       · have hbig' : (s.size : Int) < (pq : Int) := by omega
         have HPD:=aA (show PD=none by rw[HPd.out,(uJ s pp q (by have:=HEq.out;omega) (by omega)).2];exact wH _ _);clear HPd;have HPE:=aA (show PD=none by rw[HPD.out]);go_wp2;go_ret2;rw[HPE.out];exact⟨HS.out.und,rfl⟩
       have hsm':(pq:Int)≤(s.size:Int):=by omega
       have hpq':(pp:Int)≤(pq:Int):=by omega
       have hnb:¬(s.size:Int) < (pq:Int):=by omega
       obtain⟨X,hX⟩:∃ X,s.extract pp pq=X:=⟨_,rfl⟩;have HPd:=aA (HPd.out.trans (by rw[(jN s pp q (by have:=HEq.out;omega)).1,(jN s pp q (by have:=HEq.out;omega)).2,← HEq.out,hX]));have hxs:X.size=q:=by rw[← hX,ByteArray.size_extract,Nat.min_eq_left hsm];have:=HEq.out;omega
       have HS:=aA (HS.out.set (j:=3) (u:=.string X) (y:=⟨kk,0,0,X⟩) rfl);go_wp2_with (at_builtin;refine wpList_append_own_at _ rfl _ _ 30 rfl w0.heap.size 112 i0 _ 4 40 Tryz.underlying30 hi hz0 hz1 hz2 rfl (by decide) _ _ _ rfl (uA HS.out.row (bA (Under.refl _) _)) ⟨w2.heap.size,0,none⟩ 1 1 [.int .i64 kk,.int .i64 0,.int .i64 0,.string X] rfl rfl ?c1 ?c2 hmx hby ?c5 ?_)
       try case c1=>exact tH (by simp) _ _
       case c2=>first | exact⟨rfl,rfl,rfl,rfl⟩ | (intro u hu;simp at hu;rcases hu with rfl | rfl | rfl | rfl<;>rfl)
       case c5=>have:=HS.out.und.size;first | omega | (simp;omega) | (simp at this ⊢;omega)
       intro v' w' hown hgrow hnil hat;have HU2:=aA (xA (bA HS.out.und _) hgrow fun g e=>(jB HS.out.row e).1);have HO':=aA (show w'.ownsRow w0.heap.size 112 4 v' (acc++[(⟨kk,0,0,X⟩:Nd)]).length (wB (acc++[⟨kk,0,0,X⟩])) by rw[gF,List.length_append];exact hown);clear hown hgrow hnil hat;go_wp2;go_roundw
       case rel=>exact⟨pq,j+1,n,_,by go_num,by go_num,by omega,by omega,by have:=HAl.out;simp;omega,HPd.out,HO'.out,HU2.out⟩
       case measure=>simp[intOf];omega
     · skip
       go_wp2_with fail;refine(HNN.out _).mono ?_;rintro e w2 ⟨rfl,hU2⟩;have HS:=aA (HS.out.under (by first | exact hU2 | exact rG hU2));clear hU2
       try clear n0 n1 n2 n3 f1 f2 f3 nl
       have n0:=HS.out.box.cell 0;have n1:=HS.out.box.cell 1;have n2:=HS.out.box.cell 2;have n3:=HS.out.box.cell 3;have f1:=HS.out.box.free 1;have f2:=HS.out.box.free 2;have f3:=HS.out.box.free 3;have nl:=HS.out.box.lt;dsimp only[fJ]at n0 n1 n2 n3;rcases(Nat.lt_or_ge p1 s.size).symm with hgep1 | hltp1
       · have hge' : (s.size : Int) ≤ (p1 : Int) := by omega
         have HPD:=aA (show PD=none by rw[HPd.out,(uJ s p1 1 (by omega) (by omega)).2];exact wH _ _);clear HPd;have HPE:=aA (show PD=none by rw[HPD.out]);go_wp2;go_ret2;rw[HPE.out];exact⟨HS.out.und,rfl⟩
       obtain⟨p2,HEp2⟩:∃ b,Hid (b=p1+1):=⟨_,aA rfl⟩;have hip2:(p1:Int)+1=(p2:Int):=by have:=HEp2.out;omega
       have hlep2:(p2:Int)≤(s.size:Int):=by have:=HEp2.out;omega
       have hlti:(p1:Int) < (s.size:Int):=by omega
       have HPd:=aA (HPd.out.trans (by rw[(lJ s p1 hltp1).1,(lJ s p1 hltp1).2,← HEp2.out]));generalize hvp2:(s[p1]'hltp1).toNat=nn at *;have hbvp2:(nn:Int) < 256:=by have:=(s[p1]'hltp1).toNat_lt;omega
       have HS:=aA (HS.out.set (j:=1) (u:=.int .i64 (nn:Int)) (y:=⟨kk,(nn:Int),0,⟨#[]⟩⟩) rfl);go_wp2_with fail;refine(HNM.out _).mono ?_;rintro e w2 ⟨rfl,hU2⟩;have HS:=aA (HS.out.under (by first | exact hU2 | exact rG hU2));clear hU2
       try clear n0 n1 n2 n3 f1 f2 f3 nl
       have n0:=HS.out.box.cell 0;have n1:=HS.out.box.cell 1;have n2:=HS.out.box.cell 2;have n3:=HS.out.box.cell 3;have f1:=HS.out.box.free 1;have f2:=HS.out.box.free 2;have f3:=HS.out.box.free 3;have nl:=HS.out.box.lt;dsimp only[fJ]at n0 n1 n2 n3;rcases(Nat.lt_or_ge p2 s.size).symm with hgep2 | hltp2
       · have hge' : (s.size : Int) ≤ (p2 : Int) := by omega
         have HPD:=aA (show PD=none by rw[HPd.out,(uJ s p2 1 (by omega) (by omega)).2];exact wH _ _);clear HPd;have HPE:=aA (show PD=none by rw[HPD.out]);go_wp2;go_ret2;rw[HPE.out];exact⟨HS.out.und,rfl⟩
       obtain⟨p3,HEp3⟩:∃ b,Hid (b=p2+1):=⟨_,aA rfl⟩;have hip3:(p2:Int)+1=(p3:Int):=by have:=HEp3.out;omega
       have hlep3:(p3:Int)≤(s.size:Int):=by have:=HEp3.out;omega
       have hlti:(p2:Int) < (s.size:Int):=by omega
       have HPd:=aA (HPd.out.trans (by rw[(lJ s p2 hltp2).1,(lJ s p2 hltp2).2,← HEp3.out]));generalize hvp3:(s[p2]'hltp2).toNat=mm at *;have hbvp3:(mm:Int) < 256:=by have:=(s[p2]'hltp2).toNat_lt;omega
       have HS:=aA (HS.out.set (j:=2) (u:=.int .i64 (mm:Int)) (y:=⟨kk,(nn:Int),(mm:Int),⟨#[]⟩⟩) rfl);go_wp2_with fail;refine(HNS.out _).mono ?_;rintro e w2 ⟨rfl,hU2⟩;have HS:=aA (HS.out.under (by first | exact hU2 | exact rG hU2));clear hU2
       try clear n0 n1 n2 n3 f1 f2 f3 nl
       have n0:=HS.out.box.cell 0;have n1:=HS.out.box.cell 1;have n2:=HS.out.box.cell 2;have n3:=HS.out.box.cell 3;have f1:=HS.out.box.free 1;have f2:=HS.out.box.free 2;have f3:=HS.out.box.free 3;have nl:=HS.out.box.lt;dsimp only[fJ]at n0 n1 n2 n3;rcases(Nat.lt_or_ge p3 s.size).symm with hgeS | hltS
       · have hge' : (s.size : Int) ≤ (p3 : Int) := by omega
         have HPD:=aA (show PD=none by rw[HPd.out,(uJ s p3 1 (by omega) (by omega)).2];exact wH _ _);clear HPd;have HPE:=aA (show PD=none by rw[HPD.out]);go_wp2;go_ret2;rw[HPE.out];exact⟨HS.out.und,rfl⟩
       obtain⟨pp,HEp⟩:∃ b,Hid (b=p3+1):=⟨_,aA rfl⟩;have hip:(p3:Int)+1=(pp:Int):=by have:=HEp.out;omega
       have hlep:(pp:Int)≤(s.size:Int):=by have:=HEp.out;omega
       have hltiS:(p3:Int) < (s.size:Int):=by omega
       have HPd:=aA (HPd.out.trans (by rw[(lJ s p3 hltS).1,(lJ s p3 hltS).2,← HEp.out]));have hq9:=(s[p3]'hltS).toNat_lt;generalize hvq:(s[p3]'hltS).toNat=q at *;have hbq:(q:Int) < 256:=by omega
       have hq0:(0:Int)≤(q:Int):=by omega
       have hp0:(0:Int)≤(pp:Int):=by omega
       obtain⟨pq,HEq⟩:∃ b,Hid (b=pp+q):=⟨_,aA rfl⟩;have hiq:(pp:Int)+(q:Int)=(pq:Int):=by have:=HEq.out;omega
       have hpqw:(pq:Int)≤1000300:=by omega
       have hp0q:(0:Int)≤(pq:Int):=by omega
       rcases Nat.lt_or_ge s.size pq with hbig | hsm
       · have hbig' : (s.size : Int) < (pq : Int) := by omega
         have HPD:=aA (show PD=none by rw[HPd.out,(uJ s pp q (by have:=HEq.out;omega) (by omega)).2];exact wH _ _);clear HPd;have HPE:=aA (show PD=none by rw[HPD.out]);go_wp2;go_ret2;rw[HPE.out];exact⟨HS.out.und,rfl⟩
       have hsm':(pq:Int)≤(s.size:Int):=by omega
       have hpq':(pp:Int)≤(pq:Int):=by omega
       have hnb:¬(s.size:Int) < (pq:Int):=by omega
       obtain⟨X,hX⟩:∃ X,s.extract pp pq=X:=⟨_,rfl⟩;have HPd:=aA (HPd.out.trans (by rw[(jN s pp q (by have:=HEq.out;omega)).1,(jN s pp q (by have:=HEq.out;omega)).2,← HEq.out,hX]));have hxs:X.size=q:=by rw[← hX,ByteArray.size_extract,Nat.min_eq_left hsm];have:=HEq.out;omega
       have HS:=aA (HS.out.set (j:=3) (u:=.string X) (y:=⟨kk,(nn:Int),(mm:Int),X⟩) rfl);go_wp2_with (at_builtin;refine wpList_append_own_at _ rfl _ _ 30 rfl w0.heap.size 112 i0 _ 4 40 Tryz.underlying30 hi hz0 hz1 hz2 rfl (by decide) _ _ _ rfl (uA HS.out.row (bA (Under.refl _) _)) ⟨w2.heap.size,0,none⟩ 1 1 [.int .i64 kk,.int .i64 (nn:Int),.int .i64 (mm:Int),.string X] rfl rfl ?c1 ?c2 hmx hby ?c5 ?_)
       try case c1=>exact tH (by simp) _ _
       case c2=>first | exact⟨rfl,rfl,rfl,rfl⟩ | (intro u hu;simp at hu;rcases hu with rfl | rfl | rfl | rfl<;>rfl)
       case c5=>have:=HS.out.und.size;first | omega | (simp;omega) | (simp at this ⊢;omega)
       intro v' w' hown hgrow hnil hat;have HU2:=aA (xA (bA HS.out.und _) hgrow fun g e=>(jB HS.out.row e).1);have HO':=aA (show w'.ownsRow w0.heap.size 112 4 v' (acc++[(⟨kk,(nn:Int),(mm:Int),X⟩:Nd)]).length (wB (acc++[⟨kk,(nn:Int),(mm:Int),X⟩])) by rw[gF,List.length_append];exact hown);clear hown hgrow hnil hat;go_wp2;go_roundw
       case rel=>exact⟨pq,j+1,n,_,by go_num,by go_num,by omega,by omega,by have:=HAl.out;simp;omega,HPd.out,HO'.out,HU2.out⟩
       case measure=>simp[intOf];omega
     · skip
       go_wp2_with fail;refine(HNN.out _).mono ?_;rintro e w2 ⟨rfl,hU2⟩;have HS:=aA (HS.out.under (by first | exact hU2 | exact rG hU2));clear hU2
       try clear n0 n1 n2 n3 f1 f2 f3 nl
       have n0:=HS.out.box.cell 0;have n1:=HS.out.box.cell 1;have n2:=HS.out.box.cell 2;have n3:=HS.out.box.cell 3;have f1:=HS.out.box.free 1;have f2:=HS.out.box.free 2;have f3:=HS.out.box.free 3;have nl:=HS.out.box.lt;dsimp only[fJ]at n0 n1 n2 n3;go_wp2_with fail;refine(HNM.out _).mono ?_;rintro e w2 ⟨rfl,hU2⟩;have HS:=aA (HS.out.under (by first | exact hU2 | exact rG hU2));clear hU2
       try clear n0 n1 n2 n3 f1 f2 f3 nl
       have n0:=HS.out.box.cell 0;have n1:=HS.out.box.cell 1;have n2:=HS.out.box.cell 2;have n3:=HS.out.box.cell 3;have f1:=HS.out.box.free 1;have f2:=HS.out.box.free 2;have f3:=HS.out.box.free 3;have nl:=HS.out.box.lt;dsimp only[fJ]at n0 n1 n2 n3;rcases(Nat.lt_or_ge p1 s.size).symm with hgep1 | hltp1
       · have hge' : (s.size : Int) ≤ (p1 : Int) := by omega
         have HPD:=aA (show PD=none by rw[HPd.out,(uJ s p1 1 (by omega) (by omega)).2];exact wH _ _);clear HPd;have HPE:=aA (show PD=none by rw[HPD.out]);go_wp2;go_ret2;rw[HPE.out];exact⟨HS.out.und,rfl⟩
       obtain⟨p2,HEp2⟩:∃ b,Hid (b=p1+1):=⟨_,aA rfl⟩;have hip2:(p1:Int)+1=(p2:Int):=by have:=HEp2.out;omega
       have hlep2:(p2:Int)≤(s.size:Int):=by have:=HEp2.out;omega
       have hlti:(p1:Int) < (s.size:Int):=by omega
       have HPd:=aA (HPd.out.trans (by rw[(lJ s p1 hltp1).1,(lJ s p1 hltp1).2,← HEp2.out]));generalize hvp2:(s[p1]'hltp1).toNat=mm at *;have hbvp2:(mm:Int) < 256:=by have:=(s[p1]'hltp1).toNat_lt;omega
       have HS:=aA (HS.out.set (j:=2) (u:=.int .i64 (mm:Int)) (y:=⟨kk,0,(mm:Int),⟨#[]⟩⟩) rfl);go_wp2_with fail;refine(HNS.out _).mono ?_;rintro e w2 ⟨rfl,hU2⟩;have HS:=aA (HS.out.under (by first | exact hU2 | exact rG hU2));clear hU2
       try clear n0 n1 n2 n3 f1 f2 f3 nl
       have n0:=HS.out.box.cell 0;have n1:=HS.out.box.cell 1;have n2:=HS.out.box.cell 2;have n3:=HS.out.box.cell 3;have f1:=HS.out.box.free 1;have f2:=HS.out.box.free 2;have f3:=HS.out.box.free 3;have nl:=HS.out.box.lt;dsimp only[fJ]at n0 n1 n2 n3;rcases(Nat.lt_or_ge p2 s.size).symm with hgeS | hltS
       · have hge' : (s.size : Int) ≤ (p2 : Int) := by omega
         have HPD:=aA (show PD=none by rw[HPd.out,(uJ s p2 1 (by omega) (by omega)).2];exact wH _ _);clear HPd;have HPE:=aA (show PD=none by rw[HPD.out]);go_wp2;go_ret2;rw[HPE.out];exact⟨HS.out.und,rfl⟩
       obtain⟨pp,HEp⟩:∃ b,Hid (b=p2+1):=⟨_,aA rfl⟩;have hip:(p2:Int)+1=(pp:Int):=by have:=HEp.out;omega
       have hlep:(pp:Int)≤(s.size:Int):=by have:=HEp.out;omega
       have hltiS:(p2:Int) < (s.size:Int):=by omega
       have HPd:=aA (HPd.out.trans (by rw[(lJ s p2 hltS).1,(lJ s p2 hltS).2,← HEp.out]));have hq9:=(s[p2]'hltS).toNat_lt;generalize hvq:(s[p2]'hltS).toNat=q at *;have hbq:(q:Int) < 256:=by omega
       have hq0:(0:Int)≤(q:Int):=by omega
       have hp0:(0:Int)≤(pp:Int):=by omega
       obtain⟨pq,HEq⟩:∃ b,Hid (b=pp+q):=⟨_,aA rfl⟩;have hiq:(pp:Int)+(q:Int)=(pq:Int):=by have:=HEq.out;omega
       have hpqw:(pq:Int)≤1000300:=by omega
       have hp0q:(0:Int)≤(pq:Int):=by omega
       rcases Nat.lt_or_ge s.size pq with hbig | hsm
       · have hbig' : (s.size : Int) < (pq : Int) := by omega
         have HPD:=aA (show PD=none by rw[HPd.out,(uJ s pp q (by have:=HEq.out;omega) (by omega)).2];exact wH _ _);clear HPd;have HPE:=aA (show PD=none by rw[HPD.out]);go_wp2;go_ret2;rw[HPE.out];exact⟨HS.out.und,rfl⟩
       have hsm':(pq:Int)≤(s.size:Int):=by omega
       have hpq':(pp:Int)≤(pq:Int):=by omega
       have hnb:¬(s.size:Int) < (pq:Int):=by omega
       obtain⟨X,hX⟩:∃ X,s.extract pp pq=X:=⟨_,rfl⟩;have HPd:=aA (HPd.out.trans (by rw[(jN s pp q (by have:=HEq.out;omega)).1,(jN s pp q (by have:=HEq.out;omega)).2,← HEq.out,hX]));have hxs:X.size=q:=by rw[← hX,ByteArray.size_extract,Nat.min_eq_left hsm];have:=HEq.out;omega
       have HS:=aA (HS.out.set (j:=3) (u:=.string X) (y:=⟨kk,0,(mm:Int),X⟩) rfl);go_wp2_with (at_builtin;refine wpList_append_own_at _ rfl _ _ 30 rfl w0.heap.size 112 i0 _ 4 40 Tryz.underlying30 hi hz0 hz1 hz2 rfl (by decide) _ _ _ rfl (uA HS.out.row (bA (Under.refl _) _)) ⟨w2.heap.size,0,none⟩ 1 1 [.int .i64 kk,.int .i64 0,.int .i64 (mm:Int),.string X] rfl rfl ?c1 ?c2 hmx hby ?c5 ?_)
       try case c1=>exact tH (by simp) _ _
       case c2=>first | exact⟨rfl,rfl,rfl,rfl⟩ | (intro u hu;simp at hu;rcases hu with rfl | rfl | rfl | rfl<;>rfl)
       case c5=>have:=HS.out.und.size;first | omega | (simp;omega) | (simp at this ⊢;omega)
       intro v' w' hown hgrow hnil hat;have HU2:=aA (xA (bA HS.out.und _) hgrow fun g e=>(jB HS.out.row e).1);have HO':=aA (show w'.ownsRow w0.heap.size 112 4 v' (acc++[(⟨kk,0,(mm:Int),X⟩:Nd)]).length (wB (acc++[⟨kk,0,(mm:Int),X⟩])) by rw[gF,List.length_append];exact hown);clear hown hgrow hnil hat;go_wp2;go_roundw
       case rel=>exact⟨pq,j+1,n,_,by go_num,by go_num,by omega,by omega,by have:=HAl.out;simp;omega,HPd.out,HO'.out,HU2.out⟩
       case measure=>simp[intOf];omega
end
section
variable {w0 : World}
theorem sLA(ts:List (List Nd)){v:Value}(hl:ts.length≤100000)(hv:TermsV w0 v ts)(ht:Fair ts) :
 Calls Tryz.prog 60 #[v] w0 fun e w=>∃ u,e = .returned u∧StrsV w u (ts.map iC)∧Under w0 w:=by
 obtain⟨p,c,vs,rfl,hc,h0,hr,hz⟩:=hv;obtain⟨i0,hi,hz0,hz1,hz2⟩:=info_parts Tryz.infoStr;have HR:=aA hr;have HZ:=aA hz;have HT:=aA ht;clear hr hz ht hc h0;have hl0:(0:Int)≤(ts.length:Int):=by omega
 go_enter Tryz.func60,Tryz.ntmps60;go_wp2;go_loopw [3,4] (fun v i wr=>hBB w0 ts v i wr) (fun _ i _=>ts.length - (intOf i).toNat)
 case atStart=>exact⟨0,Nat.zero_le _,rfl,uR _ _ _ _ (Nat.le_refl _),bA (Under.refl _) _⟩
 case round =>
   obtain⟨k,hk,rfl,hown,hU⟩:=hrel;by_cases hlt:k < ts.length
   · obtain ⟨u, hu, q, c', rfl, hc', h0', hr'⟩ := HZ.out.at (List.getElem?_eq_getElem hlt); obtain ⟨b, off, rfl, hb, hcs⟩ := HR.out (fun e => by rw [e] at hu; simp at hu); have cc := hcs k _ hu; rw [← fA hU hb] at cc; have hb' := Nat.lt_of_lt_of_le hb hU.size; have hlen : ((ts.take k).map iC).length = k := by simp; omega
     have htk:((ts.take (k+1)).map iC)=((ts.take k).map iC)++[iC ts[k]]:=by rw[List.take_succ_eq_append_getElem hlt,List.map_append];rfl
     have HTK:=aA htk;have HL:=aA hlen;have HO:=aA hown;have HU:=aA hU;have HE:=aA (fMA (w0:=wr) ts[k] (by have:=(HT.out _ (List.getElem_mem hlt)).1;simp only[maxLen];omega) (TermV.mono _ _ _ _ hU ⟨q,c',rfl,hc',h0',hr'⟩));rw[rJA]at HE;have hmx:((ts.take k).map iC).length+1≤maxLen:=by rw[hlen];simp only[maxLen];omega
     have hby:(((ts.take k).map iC).length+1) * 16≤140737488355328:=by rw[hlen];omega
     clear hcs hu hr' h0' hc' hlen htk hown hU;generalize gB ts[k]=ce at *;generalize iC ts[k]=cd at *;generalize ts[k].length=m at *;generalize (ts.take k).map iC=done at *;go_wp2_with fail;refine HE.out.mono ?_;rintro e w1 ⟨rfl,hU1⟩;have HU1:=aA hU1;clear hU1;go_wp2_with (at_builtin;refine wpList_append_own_at _ rfl _ _ 50 rfl w0.heap.size 9 i0 _ 1 16 Tryz.underlying50 hi hz0 hz1 hz2 rfl (by decide) _ _ _ rfl ((uA HO.out HU1.out).alloc _) ⟨w1.heap.size,0,none⟩ 1 1 [.string cd] rfl rfl ?c1 ?c2 hmx hby ?c5 ?_)
     case c1 =>
       intro j u hj
       match j,hj with
       | 0,hj=>cases hj;simp[Addr.add]
     case c2=>intro u hu;simp at hu;rcases hu with rfl;rfl
     case c5=>have:=HU.out.size;have:=HU1.out.size;simp;omega
     intro v' w' hown hgrow hnil hat;have HW:=aA hown;have HU2:=aA (xA (bA (HU.out.trans HU1.out) _) hgrow fun g e=>(jB HO.out e).1);clear hown hgrow hnil hat;go_wp2;go_roundw
     case rel=>exact⟨k+1,by omega,by go_num,by rw[HTK.out,List.map_append,List.length_append];exact HW.out,HU2.out⟩
     case measure=>simp[intOf];omega
   · obtain rfl : k = ts.length := by omega
     have hS':StrsV wr u3 (ts.map iC):=by
      rw[List.take_length]at hown;exact .of_own hown
     obtain⟨q,c2,rfl,hc2,hn2,hr2⟩:=hS';have HX:=aA (show StrsV wr (.slice q (ts.map iC).length c2) (ts.map iC) from⟨q,c2,rfl,hc2,hn2,hr2⟩);have HU:=aA hU;clear hown hU hc2 hn2 hr2;generalize (ts.map iC).length=m at *;go_wp2;go_ret;exact⟨_,rfl,HX.out,HU.out⟩
end
def yMA(T:Tm):Prop:=okT T→∀(w0:World) (v:Value) (t s r:List Nd) (e z:Nat),t=s++flat T++r→t.length≤1000000→TermV w0 v t→e+1=s.length+(flat T).length→z=s.length →
 Calls Tryz.prog 165 #[v,.int .i64 (e:Int)] w0 fun x w=>x = .returned (.int .i64 (z:Int))∧Under w0 w
def tDB(w0:World)(s:List Nd)(l:List Tm)(a i:Value)(wr:World):Prop:=∃ j M z:Nat,j+M=l.length∧z=s.length+(zB (l.take M)).length∧a = .int .i64 (z:Int)∧i = .int .i64 (j:Int)∧Under w0 wr
theorem t9A(x:Nd)(l:List Tm)(ih:∀ a∈l,yMA a):yMA (.mk x l):=by
 rintro⟨hx,hl,hls⟩ w0 v t s r e z ht hn hv he hz;have HV:=aA hv;have HN:=aA hn;have HT:=aA ht;have he':e=s.length+(zB l).length:=by rw[flat,List.length_append]at he;simp at he;omega
 have hte:t[e]? = some x:=by
  rw[ht,flat,he',List.append_assoc,List.append_assoc,List.getElem?_append_right (by omega),Nat.add_sub_cancel_left,List.getElem?_append_right (Nat.le_refl _),Nat.sub_self];rfl
 have hlt:e < t.length:=(List.getElem?_eq_some_iff.1 hte).1;obtain⟨p,c,rfl,_,_,hr⟩:=hv;obtain⟨b1,off1,rfl,hb1,c0,c1,c2,c3⟩:=RowArg.node hr hte;have HC:=aA (fun w=>uP (w0:=w) x);have HX:=aA hx;have HLs:=aA hls;have HE:=aA he';have HZ:=aA hz;have HIH:=aA ih;have hlt':(e:Int) < (t.length:Int):=by omega
 have hn':(t.length:Int)≤1000000:=by omega
 have he0:(0:Int)≤(e:Int):=by omega
 have hB8:=aM hx;have hL0:(0:Int)≤(l.length:Int):=by omega
 have hL8:(l.length:Int)≤8:=by omega
 have HL:=aA hl;clear ht hn hr hte he hz hls hx ih he' hB8 hl;go_enter Tryz.func165,Tryz.ntmps165;go_wp2_with fail;refine(HC.out _).mono ?_;rintro e1 w1 ⟨lb,hlb,q,c',rfl,hlc,hrl,hU1⟩;obtain rfl:=hlb HX.out;have hU1':=hU1;rw[HX.out,← HL.out];have HU1:=aA (show Under w0 w1 from hU1');clear hU1 hU1' hlc hrl HC c0 c1 c2 c3 hlb;go_wp2;go_loopw [7,8] (fun a i wr=>tDB w0 s l a i wr) (fun _ i _=>l.length - (intOf i).toNat)
 case atStart=>exact⟨0,l.length,e,by omega,by rw[List.take_length];exact HE.out,rfl,rfl,HU1.out⟩
 case round =>
   obtain⟨j,M,y,hj,hy,rfl,rfl,hU⟩:=hrel;have HU:=aA hU;clear hU;have hj0:(0:Int)≤(j:Int):=by omega
   by_cases hjl:j < l.length
   · obtain ⟨M, rfl⟩ : ∃ m, M = m + 1 := ⟨M - 1, by omega⟩; have hM : M < l.length := by omega
     have hjl':(j:Int) < (l.length:Int):=by omega
     have htk:zB (l.take (M+1))=zB (l.take M)++flat l[M]:=by
      rw[List.take_succ_eq_append_getElem hM,xI];simp[zB]
     have hfl:zB l=zB (l.take M)++flat l[M]++zB (l.drop (M+1)):=by
      rw[← htk,← xI,List.take_append_drop]
     have hpos:=ePA l[M];rw[htk,List.length_append]at hy;obtain⟨y,rfl⟩:∃ m,y=m+1:=⟨y - 1,by omega⟩;have hyt:y+1≤t.length:=by
      have:=congrArg List.length HT.out;rw[flat,hfl]at this;simp only[List.length_append]at this;omega
     obtain⟨z',hz'⟩:∃ z',z'=s.length+(zB (l.take M)).length:=⟨_,rfl⟩;have HQ:=aA (HIH.out l[M] (List.getElem_mem hM) (oHA.1 HLs.out _ (List.getElem_mem hM)) wr _ t (s++zB (l.take M)) (zB (l.drop (M+1))++[x]++r) y z' (by rw[HT.out,flat,hfl];simp only[List.append_assoc]) HN.out (TermV.mono _ _ _ _ HU.out HV.out) (by rw[List.length_append];omega) (by rw[List.length_append];exact hz'));have HZ':=aA hz';have hy1:(y:Int)≤1000000:=by omega
     have hy0:(0:Int)≤(y:Int):=by omega
     have hz0:(0:Int)≤(z':Int):=by omega
     have hMe:((y:Int)+1 - 1)=(y:Int):=by omega
     clear hz' hy htk hfl hpos hyt;go_wp2_with fail;refine HQ.out.mono ?_;rintro e2 w2 ⟨rfl,hU2⟩;have HU2:=aA (HU.out.trans hU2);clear hU2;go_wp2;go_roundw
     case rel=>exact⟨j+1,M,z',by omega,HZ'.out,by go_num,by go_num,HU2.out⟩
     case measure=>simp[intOf];omega
   · obtain rfl : M = 0 := by omega
     obtain rfl:j=l.length:=by omega
     obtain rfl:y=z:=by rw[hy,HZ.out];simp[zB]
     go_wp2;go_ret;exact⟨rfl,HU.out⟩
theorem a2A(T:Tm):yMA T:=by
 induction T using Tm.rec (motive_2:=fun l=>∀ a∈l,yMA a) with
 | mk x l ih=>exact t9A x l ih
 | nil=>rename_i a ha;cases ha
 | cons a l iha ihl =>
   rename_i b hb;rcases List.mem_cons.1 hb with rfl | hb
   · exact iha
   · exact ihl b hb
theorem Tryz.infoNds:(Tryz.prog.info? 30).map (fun i=>(i.zero,i.size,i.bytes))=some (some (.slice none 0 0),1,24):=by kernel_rfl
theorem k4A(w:World)(base:Nat)(hb:base≤w.heap.size)(e:TypeId)(v:Value):(w.alloc (.cells #[v] e)).ownsRow base e 1 (.slice (some ⟨w.heap.size,0,none⟩) 1 1) 1 [v] :=
 ⟨rfl,.inr ⟨w.heap.size,1,#[v],rfl,hb,heap_alloc_new w _,Nat.le_refl _,by decide,rfl,rfl⟩⟩
theorem k9A{w:World}{b off:Nat}{A B C:List Value}(h:RowArg w (some ⟨b,off,none⟩) (A++B++C)):RowArg w (some ⟨b,off+A.length,none⟩) B:=fun hne=>by
 obtain ⟨b', off', e, hb, hc⟩ := h (by
   intro e;simp only[List.append_eq_nil_iff]at e;exact hne e.1.2)
 cases e;refine⟨b,off+A.length,rfl,hb,fun j u hj=>?_⟩;have hjl:j < B.length:=(List.getElem?_eq_some_iff.1 hj).1;have:=hc (A.length+j) u (by rw[List.append_assoc,List.getElem?_append_right (by omega),Nat.add_sub_cancel_left,List.getElem?_append_left hjl];exact hj)
 rwa [Nat.add_assoc]
theorem e4A{w:World}{b off n c:Nat}{A B C:List Nd}(h:RowArg w (some ⟨b,off,none⟩) (wB (A++B++C)))(hn:n=B.length)(hc:n≤c):TermV w (.slice (some ⟨b,off+A.length * 4,none⟩) n c) B:=by
 subst hn;refine⟨_,c,rfl,hc,fun e=>(by cases e),?_⟩;rw[gF,gF]at h;rw[← gDA];exact k9A h
def bDB(w0:World)(l:List Tm)(en out i:Value)(wr:World):Prop:=∃(j M E g c2:Nat) (vs:List Value),j+M=l.length∧E=(zB (l.take M)).length∧en = .int .i64 (E:Int)∧out = .slice (some ⟨g,0,none⟩) j c2∧i = .int .i64 (j:Int) ∧
 wr.ownsRow w0.heap.size 30 1 (.slice (some ⟨g,0,none⟩) j c2) j vs∧Zip (TermV w0) vs ((l.drop M).map flat)∧Under w0 wr
section
variable {w0 : World}
theorem yUA(x:Nd)(l:List Tm){t:List Nd}{v:Value}(hok:okT (.mk x l))(ht:t=flat (.mk x l))(hn:t.length≤1000000)(hv:TermV w0 v t) :
 Calls Tryz.prog 143 #[v] w0 fun e w=>∃ vr,e = .returned vr∧TermsV w vr (l.map flat)∧Under w0 w:=by
 obtain⟨hx,hl,hls⟩:=hok;have HV:=aA hv;have HN:=aA hn;have hte:t[(zB l).length]? = some x:=by
  rw[ht,flat,List.getElem?_append_right (Nat.le_refl _),Nat.sub_self];rfl
 have hlen:t.length=(zB l).length+1:=by rw[ht,flat,List.length_append];rfl
 have HT:=aA ht;obtain⟨p,c,rfl,hc,_,hr⟩:=hv;obtain⟨b1,off1,rfl,hb1,c0,c1,c2,c3⟩:=RowArg.node hr hte;obtain⟨i0,hi,hz0,hz1,hz2⟩:=info_parts Tryz.infoNds;have HR:=aA hr;have HC:=aA (fun w=>uP (w0:=w) x);have HX:=aA hx;have HLs:=aA hls;have HLen:=aA hlen;rw[hlen]at hn hc ⊢;obtain⟨m,hm⟩:∃ m,m=(zB l).length:=⟨_,rfl⟩;have HM:=aA hm;rw[← hm]at c0 c1 c2 c3 hn hc ⊢;have hmi:((m:Int)+1 - 1)=(m:Int):=by omega
 have hm0:(0:Int)≤(m:Int):=by omega
 have hm1:(m:Int)≤1000000:=by omega
 have hB8:=aM hx;have hL0:(0:Int)≤(l.length:Int):=by omega
 have hL8:(l.length:Int)≤8:=by omega
 have HL:=aA hl;clear ht hn hr hte hls hx hB8 hl hlen hm;go_enter Tryz.func143,Tryz.ntmps143;go_wp2_with fail;refine(HC.out _).mono ?_;rintro e1 w1 ⟨lb,hlb,q,c',rfl,hlc,hrl,hU1⟩;obtain rfl:=hlb HX.out;have hU1':=hU1;rw[HX.out,← HL.out];have HU1:=aA (show Under w0 w1 from hU1');clear hU1 hU1' hlc hrl HC c0 c1 c2 c3 hlb;go_wp2;go_loopw [3,6,7] (fun en out i wr=>bDB w0 l en out i wr) (fun _ _ i _=>l.length - (intOf i).toNat)
 case atStart=>exact⟨0,l.length,m,w1.heap.size,0,[],by omega,by rw[List.take_length];exact HM.out,rfl,rfl,rfl,gM w1 _ _ _ HU1.out.size,by rw[List.drop_length];exact Zip.nil _,bA HU1.out _⟩
 case round =>
   obtain⟨j,M,E,g,gc,vs,hj,hE,rfl,rfl,rfl,hO,hZ,hU⟩:=hrel;have HU:=aA hU;have HO:=aA hO;have HZ:=aA hZ;clear hU hO hZ;have hj0:(0:Int)≤(j:Int):=by omega
   by_cases hjl:j < l.length
   · obtain ⟨M, rfl⟩ : ∃ m, M = m + 1 := ⟨M - 1, by omega⟩; have hM : M < l.length := by omega
     have hjl':(j:Int) < (l.length:Int):=by omega
     have htk:zB (l.take (M+1))=zB (l.take M)++flat l[M]:=by
      rw[List.take_succ_eq_append_getElem hM,xI];simp[zB]
     have hfl:zB l=zB (l.take M)++flat l[M]++zB (l.drop (M+1)):=by
      rw[← htk,← xI,List.take_append_drop]
     have hpos:=ePA l[M];rw[htk,List.length_append]at hE;obtain⟨y,hy⟩:∃ y,E=y+1:=⟨E - 1,by omega⟩;have hEm:E≤m:=by
      rw[HM.out,hfl];simp only[List.length_append];omega
     obtain⟨z',hz'⟩:∃ z',z'=(zB (l.take M)).length:=⟨_,rfl⟩;have hTs:t=zB (l.take M)++flat l[M]++(zB (l.drop (M+1))++[x]):=by rw[HT.out,flat,hfl];simp only[List.append_assoc]
     have HQ:=aA (a2A l[M] (oHA.1 HLs.out _ (List.getElem_mem hM)) wr _ t (zB (l.take M)) (zB (l.drop (M+1))++[x]) y z' hTs HN.out (TermV.mono _ _ _ _ HU.out HV.out) (by omega) hz');rw[HLen.out,← HM.out]at HQ;have HPc:=aA (e4A (n:=E - z') (c:=c - z') (by rw[← hTs];exact HR.out) (by omega) (by omega));rw[← hz']at HPc;have HZ':=aA hz';have hzE:z' < E:=by omega
     have hDr:(l.drop M).map flat=flat l[M]::(l.drop (M+1)).map flat:=by rw[List.drop_eq_getElem_cons hM];rfl
     have HDr:=aA hDr;generalize l[M]=T at *;have hE1:(E:Int)≤1000000:=by omega
     have hE0:(0:Int)≤(E:Int):=by omega
     have hzz0:(0:Int)≤(z':Int):=by omega
     have hzE':(z':Int)≤(E:Int):=by omega
     have hEc:(E:Int)≤(c:Int):=by omega
     have hzc:¬ c=z':=by omega
     have hMe:((E:Int) - 1)=(y:Int):=by omega
     have hmx:1+j≤maxLen:=by simp only[maxLen];omega
     have hby:(1+j) * 24≤140737488355328:=by omega
     clear hz' htk hfl hpos hE hy hTs hDr hEm;go_wp2_with fail;refine HQ.out.mono ?_;rintro e2 w2 ⟨rfl,hU2⟩;have HU2:=aA hU2;have hs1:=HU.out.size;have hs2:=hU2.size;clear hU2;go_wp2_with (at_builtin;refine wpList_append_own_at _ rfl _ _ 96 rfl w0.heap.size 30 i0 _ 1 24 Tryz.underlying96 hi hz0 hz1 hz2 rfl (by decide) _ _ _ rfl (k4A w2 w0.heap.size (by omega) 30 _) ⟨g,0,none⟩ j gc vs rfl ?c0 ?c1 ?c2 hmx hby ?c5 ?_)
     case c0=>have:=HO.out.1;omega
     case c1 =>
       intro j u hj;rw[zM,Nat.zero_add];exact eD ((uA HO.out HU2.out).alloc _) rfl hj
     case c2 =>
       intro u hu;obtain⟨i,hi'⟩:=List.mem_iff_getElem?.1 hu;have hil:i < ((l.drop (M+1)).map flat).length:=by rw[← HZ.out.1];exact(List.getElem?_eq_some_iff.1 hi').1
       exact(HZ.out.2 i u _ hi' (List.getElem?_eq_getElem hil)).one
     case c5=>simp;omega
     intro v' w3 hown hgrow hnil hat;obtain⟨g',gc',rfl,_⟩:=dE hown (by omega);have HO3:=aA hown;have HU3:=aA (xA (bA (HU.out.trans HU2.out) _) hgrow fun g e=>by cases e;show w0.heap.size≤w2.heap.size;omega);clear hown hgrow hnil hat;go_wp2;go_roundw
     case rel =>
       refine⟨j+1,M,z',g',gc',_::vs,by omega,HZ'.out,by go_num,by rw[Nat.add_comm j 1],by go_num,by rw[Nat.add_comm j 1];exact HO3.out,?_,HU3.out⟩;rw[HDr.out];exact(Zip.one HPc.out).app HZ.out
     case measure=>simp[intOf];omega
   · obtain rfl : M = 0 := by omega
     obtain rfl:j=l.length:=by omega
     go_wp2;go_ret;refine⟨_,rfl,?_,HU.out⟩;have hlm:(l.map flat).length=l.length:=List.length_map ..;have hz:=HZ.out;rw[List.drop_zero]at hz;refine ListV.of_own (vs:=vs) (by rw[hlm];exact HO.out) (hz.mono fun v x h=>TermV.mono _ _ _ _ HU.out h)
end
mutual
def zL : Tm → Nat → Int
  | .mk x l,u=>if x.k=0 then(if(u:Int)≤x.n then x.n - u else -1) else xK l (binds x) u
def xK : List Tm → List Nat → Nat → Int
  | [],_,_ => -1
  | a::l,bs,u=>max (zL a (u+bs.headD 0)) (xK l bs.tail u)
end
theorem a0A{w w':World}{p:Option Addr}{cs:List Value}(h:RowArg w p cs)(hU:Under w w'):RowArg w' p cs:=h.under hU
theorem m4A{l:List Tm}{bs:List Nat}{u j:Nat}(hj:j < l.length)(hb:j < bs.length):xK (l.drop j) (bs.drop j) u=max (zL l[j] (u+bs[j])) (xK (l.drop (j+1)) (bs.drop (j+1)) u):=by
 rw[List.drop_eq_getElem_cons hj,List.drop_eq_getElem_cons hb];rfl
def tAA(T:Tm):Prop:=okT T→∀(w0:World) (v:Value) (t:List Nd) (u:Nat),t=flat T→t.length≤4000→TermV w0 v t→u+2 * t.length≤100000 →
 Calls Tryz.prog 115 #[v,.int .i64 (-1),.int .i64 (u:Int)] w0 fun e w=>∃ many:Nat,many≤t.length∧e = .returned (.tuple #[.int .i64 (many:Int),.int .i64 (zL T u)])∧Under w0 w
def oDB(w1:World)(x:Nd)(l:List Tm)(u:Nat)(mv tv i:Value)(wr:World):Prop:=∃(j n:Nat) (y:Int),j≤l.length∧n≤(zB (l.take j)).length∧-1≤y∧mv = .int .i64 (n:Int)∧tv = .int .i64 y∧i = .int .i64 (j:Int) ∧
 xK l (binds x) u=max y (xK (l.drop j) ((binds x).drop j) u)∧Under w1 wr
theorem jZA(x:Nd)(l:List Tm)(hk:x.k=0):tAA (.mk x l):=by
 rintro⟨hx,hl,hls⟩ w0 v t u ht hn hv hu;have hte:t[t.length - 1]? = some x:=by rw[ht,flat];simp
 have hpos:1≤t.length:=by rw[ht,flat];simp
 have hv2:=dU hx hk;have HR:=aA (fOA (by omega) hte hv);have hu0:(0:Int)≤(u:Int):=by omega
 have hu1:(u:Int)≤100000:=by omega
 have h1:=hv2.1;have h2:=hv2.2;have HT:RowKit.Hid (zL (.mk x l) u=if(u:Int)≤x.n then x.n - u else -1):=aA (by unfold zL;rw[if_pos hk]);clear hte hv2 ht hx hl hls hv;obtain⟨k,n,m,s⟩:=x;simp only at hk h1 h2 HT;subst hk;unfold ndV at HR;simp only at HR;by_cases h:(u:Int)≤n
 · have h3 : (0 : Int) ≤ n - (u : Int) := by omega
   rw[if_pos h]at HT;go_enter Tryz.func115,Tryz.ntmps115;go_wp2_with fail;refine HR.out.mono ?_;rintro e w1 ⟨rfl,hU1⟩;have HU1:=aA hU1;clear hU1;go_wp2;go_ret2;exact⟨1,by omega,by rw[HT.out];rfl,bA HU1.out _⟩
 · have h3 : n - (u : Int) < 0 := by omega
   rw[if_neg h]at HT;go_enter Tryz.func115,Tryz.ntmps115;go_wp2_with fail;refine HR.out.mono ?_;rintro e w1 ⟨rfl,hU1⟩;have HU1:=aA hU1;clear hU1;go_wp2;go_ret2;exact⟨0,by omega,by rw[HT.out];rfl,bA HU1.out _⟩
theorem wSA(x:Nd)(l:List Tm)(hk:x.k≠0)(ih:∀ a∈l,tAA a):tAA (.mk x l):=by
 intro hok w0 v t u ht hn hv hu;have HOk:=aA hok;obtain⟨hx,hl,hls⟩:=hok;have hte:t[t.length - 1]? = some x:=by rw[ht,flat];simp
 have hfl:t.length=(zB l).length+1:=by rw[ht,flat];simp
 have HFl:=aA hfl;have HR:=aA (fOA (by omega) hte hv);have HC:=aA (fun w=>uP (w0:=w) x);have HV:=aA hv;have HPa:=aA (fun w (hU:Under w0 w)=>yUA (w0:=w) x l HOk.out ht (by omega) (TermV.mono _ _ _ _ hU hv));have HT:RowKit.Hid (zL (.mk x l) u=xK l (binds x) u):=aA (by unfold zL;rw[if_neg hk]);have HX:=aA hx;have HL:=aA hl;have HLs:=aA hls;have HIH:=aA ih;have HU0:=aA hu;have HN0:=aA hn;have hB8:=aM hx;have hB2:RowKit.Hid (∀ b∈binds x,b≤2):=aA (by have:=fCA (x:=x);unfold wG at this;rwa [if_pos hx]at this);have hk':(x.k==0)=false:=by simpa using hk
 have hu0:(0:Int)≤(u:Int):=by omega
 have hu1:(u:Int)≤100000:=by omega
 have hL0:(0:Int)≤(l.length:Int):=by omega
 have hL8:(l.length:Int)≤8:=by omega
 clear hte ht hx hl hls hv hk ih hB8 hfl hu hn;unfold ndV at HR;unfold ndV at HC;go_enter Tryz.func115,Tryz.ntmps115;go_wp2_with fail;refine HR.out.mono ?_;rintro e w1 ⟨rfl,hU1⟩;have HU1:=aA hU1;clear hU1;go_wp2_with fail;refine(HC.out _).mono ?_;rintro e w2 ⟨lb,hlb,q,cq,rfl,hlc,hrl,hU2⟩;obtain rfl:=hlb HX.out;have HU2:=aA (show Under w0 w2 from(bA HU1.out _).trans hU2);have HQ:=aA hrl;rw[HX.out,← HL.out];clear hU2 hrl hlc hlb HR HC;go_wp2_with fail;refine(HPa.out _ HU2.out).mono ?_;rintro e w3 ⟨vr,rfl,⟨p3,c3,vs,rfl,h31,_,h32,h33⟩,hU3⟩;have hlm:(l.map flat).length=l.length:=List.length_map ..;rw[hlm]at h31 ⊢;have HQ3:=aA (a0A HQ.out hU3);have HU3:=aA (HU2.out.trans hU3);have HP3:=aA h32;have HZ3:=aA h33;clear hU3 h32 h33 hlm HPa;go_wp2;go_loopw [13,14,15] (fun mv tv i wr=>oDB w3 x l u mv tv i wr) (fun _ _ i _=>l.length - (intOf i).toNat)
 case atStart => exact ⟨0, 0, -1, Nat.zero_le _, Nat.zero_le _, by omega, rfl, rfl, rfl, by
   rw[List.drop_zero,List.drop_zero];have:∀(l:List Tm) (bs:List Nat),-1≤xK l bs u:=fun l=>by
    induction l with
    | nil=>intro bs;exact Int.le_refl _
    | cons a l ih=>intro bs;have:=ih bs.tail;show -1≤max _ _;omega
   have:=this l (binds x);omega,Under.refl _⟩
 case round =>
   obtain⟨j,n,y,hj,hnm,hy,rfl,rfl,rfl,hTo,hU⟩:=hrel;have HU:=aA hU;have HTo:=aA hTo;have HNm:=aA hnm;clear hU hTo;have hj0:(0:Int)≤(j:Int):=by omega
   have hfle:(zB (l.take j)).length≤(zB l).length:=by
    have:=congrArg List.length (xI (l.take j) (l.drop j));rw[List.take_append_drop,List.length_append]at this;omega
   have hn0:(0:Int)≤(n:Int):=by omega
   have hn4:(n:Int)≤4000:=by have:=HFl.out;have:=HN0.out;omega
   by_cases hjl:j < l.length
   · have hjb : j < (binds x).length := by rw [← HL.out]; exact hjl
     obtain⟨tv,htv,hterm⟩:=HZ3.out.at (i:=j) (x:=flat l[j]) (by rw[List.getElem?_map,List.getElem?_eq_getElem hjl];rfl);have hok:=oHA.1 HLs.out _ (List.getElem_mem hjl);have hb2:=hB2.out _ (List.getElem_mem hjb);have htk:zB (l.take (j+1))=zB (l.take j)++flat l[j]:=by
      rw[List.take_succ_eq_append_getElem hjl,xI];simp[zB]
     have hfl2:(zB (l.take (j+1))).length≤(zB l).length:=by
      have:=congrArg List.length (xI (l.take (j+1)) (l.drop (j+1)));rw[List.take_append_drop,List.length_append]at this;omega
     rw[htk,List.length_append]at hfl2;have hQ:=fun w (hU:Under w3 w)=>HIH.out l[j] (List.getElem_mem hjl) hok w tv (flat l[j]) (u+(binds x)[j]) rfl (by have:=HFl.out;have:=HN0.out;omega) (TermV.mono _ _ _ _ hU hterm) (by have:=HFl.out;have:=HU0.out;omega)
     simp only [Int.natCast_add] at hQ; have HCq := aA hQ; have HTs := aA (m4A (u := u) hjl hjb); have HTk := aA (congrArg List.length htk); have HF4 := aA (show (zB (l.take j)).length + (flat l[j]).length ≤ 4000 by have := HFl.out; have := HN0.out; omega); obtain ⟨pt, ct, rfl, _⟩ := hterm; obtain ⟨bt, ot, rfl, hbt, hct⟩ := HP3.out (fun e => by rw [e] at htv; simp at htv); have cc := hct j _ htv; obtain ⟨bb, ob, rfl, hbb, hcb⟩ := HQ3.out (fun e => by
       have:=congrArg List.length e;unfold uE at this;rw[List.length_map,List.length_nil]at this;omega)
     have cb:=hcb j _ (rOA (List.getElem?_eq_getElem hjb));rw[← fA HU.out hbt]at cc;rw[← fA HU.out hbb]at cb;have hbt':=Nat.lt_of_lt_of_le hbt HU.out.size;have hbb':=Nat.lt_of_lt_of_le hbb HU.out.size;clear hQ htk hfl2 hct hcb htv hok hfle;generalize (binds x)[j]=bj at *;generalize l[j]=T at *;have hbj0:(0:Int)≤(bj:Int):=by omega
     have hbj2:(bj:Int)≤2:=by omega
     have hjl':(j:Int) < (l.length:Int):=by omega
     have hwr:IntKind.i64.wrap ((u:Int)+(bj:Int))=(u:Int)+(bj:Int):=by rw[IntKind.wrap_i64];omega
     go_wp2_with fail; go_region_held3 (fun w' => w'.cell? ⟨bt, ot + j, none⟩ = some (.slice pt (flat T).length ct) ∧ w'.cell? ⟨bb, ob + j, none⟩ = some (.int .i64 (bj : Int)))
       (first
         | go_keep
         | (refine ⟨?_, ?_⟩
            · (rw[fA hU4 hbt'];assumption)
            · (rw[fA hU4 hbb'];assumption)))
       ((go_simp;(try rw[hwr]);go_at_call 115;refine(HCq.out _ (nA HU.out)).mono ?_;rintro e w4 ⟨n4,hn4,rfl,hU4⟩))
     have HU4:=aA ((nA HU.out).trans hU4);have hn40:(0:Int)≤(n4:Int):=by omega
     have hn41:(n4:Int)≤4000:=by have:=HF4.out;omega
     have HN4:=aA hn4;generalize zL T (u+bj)=y4 at *;clear hU4 hn4;by_cases hyy:y4≤y
     · have hyy' : y4 ≤ y := hyy; go_wp2
       all_goals
        go_roundw
        case rel=>exact⟨j+1,n+n4,max y y4,by omega,by rw[HTk.out,List.length_append];have:=HN4.out;have:=HNm.out;omega,by omega,by go_num,by exact congrArg (Value.int .i64) (by omega),by go_num,by rw[HTo.out,HTs.out];omega,HU4.out⟩
        case measure=>simp[intOf];omega
     · have hyy' : y < y4 := by omega
       go_wp2
       all_goals
        go_roundw
        case rel=>exact⟨j+1,n+n4,max y y4,by omega,by rw[HTk.out,List.length_append];have:=HN4.out;have:=HNm.out;omega,by omega,by go_num,by exact congrArg (Value.int .i64) (by omega),by go_num,by rw[HTo.out,HTs.out];omega,HU4.out⟩
        case measure=>simp[intOf];omega
   · obtain rfl : j = l.length := by omega
     go_wp2;go_ret2;refine⟨n,by have:=HFl.out;omega,?_,HU3.out.trans HU.out⟩;rw[HT.out,HTo.out,List.drop_length];have:max y (xK [] ((binds x).drop l.length) u)=y:=by show max y (-1)=y;omega
     rw[this];rfl
theorem b0A(T:Tm):tAA T:=by
 induction T using Tm.rec (motive_2:=fun l=>∀ a∈l,tAA a) with
 | mk x l ih =>
   by_cases hk:x.k=0
   · exact jZA x l hk
   · exact wSA x l hk ih
 | nil=>rename_i a ha;cases ha
 | cons a l iha ihl =>
   rename_i b hb;rcases List.mem_cons.1 hb with rfl | hb
   · exact iha
   · exact ihl b hb
theorem dZ(T:Tm):okT T→∀ u,-1≤zL T u∧zL T u≤99:=by
 induction T using Tm.rec (motive_2:=fun l=>gT l→∀ bs u,-1≤xK l bs u∧xK l bs u≤99) with
 | mk x l ih =>
   rintro⟨hx,_,hls⟩ u;unfold zL;by_cases hk:x.k=0
   · have := dU hx hk; rw [if_pos hk]; by_cases h : (u : Int) ≤ x.n
     · rw[if_pos h];omega
     · rw[if_neg h];omega
   · rw[if_neg hk];exact ih hls _ u
 | nil=>rename_i hh bs u;show -1≤(-1:Int)∧(-1:Int)≤99;omega
 | cons a l iha ihl =>
   rename_i hh bs u;have h1:=iha hh.1 (u+bs.headD 0);have h2:=ihl hh.2 bs.tail u
   show -1≤max (zL a (u+bs.headD 0)) (xK l bs.tail u)∧max (zL a (u+bs.headD 0)) (xK l bs.tail u)≤99
   omega
section
variable {w0 : World}
theorem hYA(t:List Nd){v:Value}(hn:t.length≤maxLen)(hv:TermV w0 v t)(h:gB t≠0):Calls Tryz.prog 88 #[v] w0 fun e w=>e = .returned (.tuple #[.int .i64 0,.int .i64 (gB t)])∧Under w0 w:=by
 have HC:=aA (kT t hn hv);have h':(gB t==0)=false:=by simpa using h
 clear hn hv h;generalize gB t=ce at *;go_enter Tryz.func88,Tryz.ntmps88;go_wp2_with fail;refine HC.out.mono ?_;rintro e w1 ⟨rfl,hU1⟩;have HU1:=aA hU1;clear hU1;go_wp2;go_ret2;exact⟨rfl,HU1.out⟩
theorem m6A(T:Tm){v:Value}(hok:okT T)(hd:aG T≤60)(hl:(flat T).length≤4000)(hv:TermV w0 v (flat T)):Calls Tryz.prog 88 #[v] w0 fun e w=>e = .returned (.tuple #[.int .i64 (zL T 0+1),.int .i64 0])∧Under w0 w:=by
 have HC:=aA (kT (flat T) (by simp only[maxLen];omega) hv);rw[uIA hok hd hl]at HC;have HQ:=aA (fun w (hU:Under w0 w)=>b0A T hok w v (flat T) 0 rfl hl (TermV.mono _ _ _ _ hU hv) (by omega));have hr:=dZ T hok 0;have h1:=hr.1;have h2:=hr.2;clear hok hd hl hv hr;generalize zL T 0=y at *;go_enter Tryz.func88,Tryz.ntmps88;go_wp2_with fail;refine HC.out.mono ?_;rintro e w1 ⟨rfl,hU1⟩;have HU1:=aA hU1;clear hU1;go_wp2_with fail;refine(HQ.out _ HU1.out).mono ?_;rintro e w2 ⟨many,hm,rfl,hU2⟩;have HU2:=aA (HU1.out.trans hU2);clear hU2;go_wp2;go_ret2;exact⟨rfl,HU2.out⟩
end
theorem f1A(t:List Nd)(g:Int→Int→Int)(s:Int)(x:Nat×Nat)(l:List (Nat×Nat)):tell t g s (x::l)=tell t g (aN t g s x) l:=rfl
theorem v7A(T:Tm)(h:okT T)(u:Nat) : -1≤zL T u:=(dZ T h u).1
theorem uZA(t:List Nd)(T:Tm):okT T→∀(pre post:List Nd) (u:Nat) (st:List Nat) (s:Int),t=pre++flat T++post→0≤s →
 tell t iP s (dG t (pre.length+(flat T).length) (u::st))=tell t iP (max s (zL T u+1)) (dG t pre.length st):=by
 induction T using Tm.rec (motive_2 := fun l => gT l → ∀ (bs : List Nat), bs.length = l.length → ∀ (pre post : List Nd) (u : Nat) (st : List Nat) (s : Int), t = pre ++ zB l ++ post → 0 ≤ s →
   tell t iP s (dG t (pre.length+(zB l).length) ((bs.map (u + ·)).reverse++st))=tell t iP (max s (xK l bs u+1)) (dG t pre.length st)) with
 | mk x l ih =>
   rintro⟨hx,hl,hls⟩ pre post u st s ht hs;rw[flat]at ht;have hg:t[pre.length+(zB l).length]? = some x:=by
    rw[ht,List.append_assoc,List.append_assoc,List.getElem?_append_right (by omega),Nat.add_sub_cancel_left,List.getElem?_append_right (by omega),Nat.sub_self];rfl
   have hb:wG x=binds x:=by unfold wG;rw[if_pos hx]
   rw[flat,List.length_append,List.length_singleton,← Nat.add_assoc,aU hg,f1A,hb];have ho:aN t iP s (pre.length+(zB l).length,u)=if x.k=0∧(u:Int)≤x.n then max s (x.n - u+1) else s:=by
    unfold aN;rw[hg];rfl
   rw[ho];have ht2:t=pre++zB l++([x]++post):=by rw[ht];simp
   have hT:zL (.mk x l) u=if x.k=0 then(if(u:Int)≤x.n then x.n - u else -1) else xK l (binds x) u:=by rw[zL]
   rw[hT];by_cases hk:x.k=0
   · have hb0 : binds x = [] := by simp [binds, hk, jH]
     have hl0:l=[]:=List.eq_nil_of_length_eq_zero (by rw[hl,hb0];rfl);subst hl0;rw[hb0,if_pos hk];by_cases hu:(u:Int)≤x.n
     · rw[if_pos ⟨hk,hu⟩,if_pos hu];simp[zB]
     · rw [if_neg (fun h => hu h.2), if_neg hu]; have : max s (-1 + 1) = s := by omega
       rw[this];simp[zB]
   · rw[if_neg (fun h=>hk h.1),if_neg hk];exact ih hls (binds x) hl.symm pre _ u st s ht2 hs
 | nil =>
   rename_i hh bs hb pre post u st s ht hs;have:bs=[]:=List.eq_nil_of_length_eq_zero hb;subst this;have e:max s (xK [] [] u+1)=s:=by simp[xK];omega
   rw[e];simp[zB]
 | cons a l iha ihl =>
   rename_i hh bs hb pre post u st s ht hs
   cases bs with
   | nil=>simp at hb
   | cons b bs =>
     rw[zB]at ht;have h1:=ihl hh.2 bs (by simpa using hb) (pre++flat a) post u ((u+b)::st) s (by rw[ht];simp) hs;have h2:=iha hh.1 pre (zB l++post) (u+b) st (max s (xK l bs u+1)) (by rw[ht];simp) (by omega);rw[List.map_cons,List.reverse_cons,List.append_assoc,zB,List.length_append,← Nat.add_assoc];rw[List.length_append]at h1;rw[List.singleton_append,h1,h2];congr 1
     show max (max s (xK l bs u+1)) (zL a (u+b)+1)=max s (max (zL a (u+b)) (xK l bs u)+1)
     omega
theorem nSA(T:Tm)(h:okT T):y9 (flat T)=zL T 0+1:=by
 have:=uZA (flat T) T h [] [] 0 [] 0 (by simp) (Int.le_refl _);have h0:=v7A T h 0;have e:dG (flat T) 0 []=[]:=rfl;rw[List.length_nil,Nat.zero_add,e]at this
 show tell (flat T) iP 0 (dG (flat T) (flat T).length [0])=_
 rw[this]
 show max 0 (zL T 0+1)=_
 omega
theorem mZA(w:World)(base:Nat)(e:TypeId)(size:Nat)(hb:base≤w.heap.size):(w.alloc (.cells #[] e)).ownsRow base e size (.slice (some ⟨w.heap.size,0,none⟩) 0 0) 0 [] :=
 ⟨by simp,.inr ⟨w.heap.size,0,#[],rfl,hb,rA w _ _,Nat.le_refl _,by unfold maxLen;omega,by simp,by simp⟩⟩
structure RtH (w0:World) (cs:Array Value) (v:Value) (ts:List (List Nd)) (us:List Value) (w:World):Prop where
 low:Under w0 w
 box:BoxAt w w0.heap.size 37 cs
 row:w.ownsRow (w0.heap.size+1) 30 1 v us.length us
 zip:Zip (TermV w0) us ts
def jDB(w0:World)(cs:Array Value)(css:List (List (List Nd)))(v i:Value)(wr:World):Prop:=∃(k:Nat) (us:List Value),k≤css.length∧i = .int .i64 (k:Int)∧RtH w0 cs v (css.take k).flatten us wr
theorem RtH.grown {w0 w w' : World} {cs : Array Value} {v v' : Value} {ts : List (List Nd)} {us : List Value} {rs : List (List Nd)} {xs : List Value} (h : RtH w0 cs v ts us w) (hown : w'.ownsRow (w0.heap.size + 1) 30 1 v' (us.length + xs.length) (us ++ xs))
    (hgrow:w.grownBy w' v.ownBlock) (hz:Zip (TermV w0) xs rs):RtH w0 cs v' (ts++rs) (us++xs) w' :=
  ⟨xA h.low hgrow fun g e=>by have:=(jB h.row e).1;omega,h.box.grown hgrow fun e=>by have:=(jB h.row e.symm).1;omega,by rw[List.length_append];exact hown,h.zip.app hz⟩
theorem RtH.alloc{w0 w:World}{cs:Array Value}{v:Value}{ts:List (List Nd)}{us:List Value}(h:RtH w0 cs v ts us w)(o:Obj):RtH w0 cs v ts us (w.alloc o) :=
 ⟨bA h.low o,h.box.alloc o,h.row.alloc o,h.zip⟩
theorem RtH.terms{w0 w:World}{cs:Array Value}{v:Value}{ts:List (List Nd)}{us:List Value}(h:RtH w0 cs v ts us w):TermsV w v ts:=by
 have hr:=h.row;rw[h.zip.1]at hr;exact ListV.of_own hr (h.zip.mono fun v x hx=>TermV.mono _ _ _ _ h.low hx)
section
variable {w0 : World} {d : Dc} {v : Value}
theorem rHA(hd:d.cons.length≤5864062014634)(hd2:d.cons.flatten.length≤5864062015658)(hv:DcV w0 v d):Calls Tryz.prog 52 #[v] w0 fun e w=>∃ u,e = .returned u∧TermsV w u (aB d)∧Under w0 w:=by
 obtain⟨vt,vb,vc,rfl,ht,hb,hc⟩:=hv;obtain⟨i0,hi,hz0,hz1,hz2⟩:=info_parts Tryz.info30;have hT:aB d=if d.kind=1 then [d.type,d.body] else if d.kind=2 then [d.type] else if d.kind=3 then d.cons.flatten else []:=rfl
 have HT:=aA ht;have HB:=aA hb;have HC:=aA hc;have hR0:RtH w0 #[.int .i64 d.kind,.int .i64 d.level,.string d.name,vt,vb,vc] (.slice (some ⟨w0.heap.size+1,0,none⟩) 0 0) [] [] ((w0.alloc (.cells #[.int .i64 d.kind,.int .i64 d.level,.string d.name,vt,vb,vc] 37)).alloc (.cells #[] 30)):=by
  refine⟨bA (bA (Under.refl _) _) _,(rA _ _ _).alloc _,?_,Zip.nil _⟩;have:=mZA (w0.alloc (.cells #[.int .i64 d.kind,.int .i64 d.level,.string d.name,vt,vb,vc] 37)) (w0.heap.size+1) 30 1 (by simp)
  simpa using this
 have HR0:=aA hR0;obtain⟨pt,ct,rfl,_⟩:=ht;obtain⟨pb,cb,rfl,_⟩:=hb;obtain⟨pc,cc,us,rfl,hcl,hc0,hrow,hzip⟩:=hc;have HRow:=aA hrow;have HZip:=aA hzip;clear hR0 hrow hzip hcl hc0;by_cases h1:d.kind=1
 · rw [if_pos h1] at hT; have HTm := aA hT; have b1 : (d.kind == 1) = true := by simpa using h1
   have b3:(d.kind==3)=false:=by simp[h1]
   clear hT h1;go_enter Tryz.func52,Tryz.ntmps52;go_wp2_with (at_builtin;refine nE rfl _ _ 96 rfl (w0.heap.size+1) 30 i0 _ 1 24 Tryz.underlying96 hi hz0 hz1 hz2 rfl (by decide) _ _ _ rfl (HR0.out.alloc (.cells #[(.slice pt d.type.length ct)] 30)).row _ 1 1 [(.slice pt d.type.length ct)] rfl rfl (Nat.le_refl _) (fun h=>by cases h) (fVA _ ((.slice pt d.type.length ct)) 30 (by simp)) (fun u hu=>by simp at hu;subst hu;rfl) (by simp[maxLen]) (by simp) (by have:=HR0.out.box.lt;rw[uC,Array.size_push];omega) ?_);intro v' w' hown hgrow;have hR:=(HR0.out.alloc (.cells #[(.slice pt d.type.length ct)] 30)).grown hown hgrow (Zip.one HT.out);obtain⟨q',c',rfl,hc',hr'⟩:=RowArg.of_own hown;have c0:w'.cell? ⟨w0.heap.size,0,none⟩=some (.int .i64 d.kind):=hR.box.cell 0;have c1:w'.cell? ⟨w0.heap.size,1,none⟩=some (.int .i64 d.level):=hR.box.cell 1;have c2:w'.cell? ⟨w0.heap.size,2,none⟩=some (.string d.name):=hR.box.cell 2;have c3:w'.cell? ⟨w0.heap.size,3,none⟩=some (.slice pt d.type.length ct):=hR.box.cell 3;have c4:w'.cell? ⟨w0.heap.size,4,none⟩=some (.slice pb d.body.length cb):=hR.box.cell 4;have c5:w'.cell? ⟨w0.heap.size,5,none⟩=some (.slice pc d.cons.length cc):=hR.box.cell 5;have lb:=hR.box.lt;have HR1:=aA hR;clear hown hgrow hc' hr' hR;go_wp2_with (at_builtin;refine nE rfl _ _ 96 rfl (w0.heap.size+1) 30 i0 _ 1 24 Tryz.underlying96 hi hz0 hz1 hz2 rfl (by decide) _ _ _ rfl (HR1.out.alloc (.cells #[(.slice pb d.body.length cb)] 30)).row _ 1 1 [(.slice pb d.body.length cb)] rfl rfl (Nat.le_refl _) (fun h=>by cases h) (fVA _ ((.slice pb d.body.length cb)) 30 (by simp)) (fun u hu=>by simp at hu;subst hu;rfl) (by simp[maxLen]) (by simp) (by have:=HR1.out.box.lt;rw[uC,Array.size_push];omega) ?_);intro v' w' hown hgrow;have hR:=(HR1.out.alloc (.cells #[(.slice pb d.body.length cb)] 30)).grown hown hgrow (Zip.one HB.out);obtain⟨q',c',rfl,hc',hr'⟩:=RowArg.of_own hown;have c0:w'.cell? ⟨w0.heap.size,0,none⟩=some (.int .i64 d.kind):=hR.box.cell 0;have c1:w'.cell? ⟨w0.heap.size,1,none⟩=some (.int .i64 d.level):=hR.box.cell 1;have c2:w'.cell? ⟨w0.heap.size,2,none⟩=some (.string d.name):=hR.box.cell 2;have c3:w'.cell? ⟨w0.heap.size,3,none⟩=some (.slice pt d.type.length ct):=hR.box.cell 3;have c4:w'.cell? ⟨w0.heap.size,4,none⟩=some (.slice pb d.body.length cb):=hR.box.cell 4;have c5:w'.cell? ⟨w0.heap.size,5,none⟩=some (.slice pc d.cons.length cc):=hR.box.cell 5;have lb:=hR.box.lt;have HR2:=aA hR;clear hown hgrow hc' hr' hR;go_wp2;go_ret;exact⟨_,rfl,by rw[HTm.out];exact HR2.out.terms,HR2.out.low⟩
 rw[if_neg h1]at hT;have b1:(d.kind==1)=false:=by simpa using h1
 by_cases h2:d.kind=2
 · rw [if_pos h2] at hT; have HTm := aA hT; have b2 : (d.kind == 2) = true := by simpa using h2
   have b3:(d.kind==3)=false:=by simp[h2]
   clear hT h1 h2;go_enter Tryz.func52,Tryz.ntmps52;go_wp2_with (at_builtin;refine nE rfl _ _ 96 rfl (w0.heap.size+1) 30 i0 _ 1 24 Tryz.underlying96 hi hz0 hz1 hz2 rfl (by decide) _ _ _ rfl (HR0.out.alloc (.cells #[(.slice pt d.type.length ct)] 30)).row _ 1 1 [(.slice pt d.type.length ct)] rfl rfl (Nat.le_refl _) (fun h=>by cases h) (fVA _ ((.slice pt d.type.length ct)) 30 (by simp)) (fun u hu=>by simp at hu;subst hu;rfl) (by simp[maxLen]) (by simp) (by have:=HR0.out.box.lt;rw[uC,Array.size_push];omega) ?_);intro v' w' hown hgrow;have hR:=(HR0.out.alloc (.cells #[(.slice pt d.type.length ct)] 30)).grown hown hgrow (Zip.one HT.out);obtain⟨q',c',rfl,hc',hr'⟩:=RowArg.of_own hown;have c0:w'.cell? ⟨w0.heap.size,0,none⟩=some (.int .i64 d.kind):=hR.box.cell 0;have c1:w'.cell? ⟨w0.heap.size,1,none⟩=some (.int .i64 d.level):=hR.box.cell 1;have c2:w'.cell? ⟨w0.heap.size,2,none⟩=some (.string d.name):=hR.box.cell 2;have c3:w'.cell? ⟨w0.heap.size,3,none⟩=some (.slice pt d.type.length ct):=hR.box.cell 3;have c4:w'.cell? ⟨w0.heap.size,4,none⟩=some (.slice pb d.body.length cb):=hR.box.cell 4;have c5:w'.cell? ⟨w0.heap.size,5,none⟩=some (.slice pc d.cons.length cc):=hR.box.cell 5;have lb:=hR.box.lt;have HR1:=aA hR;clear hown hgrow hc' hr' hR;go_wp2;go_ret;exact⟨_,rfl,by rw[HTm.out];exact HR1.out.terms,HR1.out.low⟩
 rw[if_neg h2]at hT;have b2:(d.kind==2)=false:=by simpa using h2
 by_cases h3:d.kind=3
 · rw [if_pos h3] at hT; have HTm := aA hT; have b3 : (d.kind == 3) = true := by simpa using h3
   clear hT h1 h2 h3;have hn0:(0:Int)≤(d.cons.length:Int):=by omega
   go_enter Tryz.func52,Tryz.ntmps52;go_wp2;go_loopw [3,4] (fun v i wr=>jDB w0 #[.int .i64 d.kind,.int .i64 d.level,.string d.name,.slice pt d.type.length ct,.slice pb d.body.length cb,.slice pc d.cons.length cc] d.cons v i wr) (fun _ i _=>d.cons.length - (intOf i).toNat)
   case atStart=>exact⟨0,[],Nat.zero_le _,rfl,HR0.out⟩
   case round =>
     obtain⟨k,us',hk,rfl,hR⟩:=hrel;have lb:=hR.box.lt;have c0:wr.cell? ⟨w0.heap.size,0,none⟩=some (.int .i64 d.kind):=hR.box.cell 0;have c5:wr.cell? ⟨w0.heap.size,5,none⟩=some (.slice pc d.cons.length cc):=hR.box.cell 5;by_cases hlt:k < d.cons.length
     · obtain ⟨u, hu, hterms⟩ := HZip.out.at (List.getElem?_eq_getElem hlt); obtain ⟨q, cq, vs', rfl, hq1, hq2, hq3, hq4⟩ := hterms; obtain ⟨b, off, rfl, hb, hcs⟩ := HRow.out (fun e => by rw [e] at hu; simp at hu); have cc' := hcs k _ hu; rw [← fA hR.low hb] at cc'; have hb' := Nat.lt_of_lt_of_le hb hR.low.size; have hflat : (d.cons.take (k + 1)).flatten = (d.cons.take k).flatten ++ d.cons[k] := by rw [List.take_succ_eq_append_getElem hlt, List.flatten_append]; simp
       have hfk:=cEA d.cons (k+1);rw[hflat,List.length_append]at hfk;have hm:d.cons[k].length≤5864062015658:=by omega
       have hus:us'.length+d.cons[k].length≤5864062015658:=by rw[hR.zip.1];omega
       have HR:=aA hR;have HF:=aA hflat;have HQ3:=aA (hq3.under hR.low);have HQ4:=aA hq4;have hq4l:=hq4.1;have HQL:=aA hq4l;clear hR hflat hcs hu hq3 hq4 hq4l;generalize hcl:d.cons[k]=cl at *;have HCL:=aA hcl;clear hcl;generalize hml:cl.length=m at *;have HML:=aA hml;clear hml;go_wp2_with (at_builtin;refine pR rfl _ _ 96 rfl (w0.heap.size+1) 30 i0 _ 1 24 Tryz.underlying96 hi hz0 hz1 hz2 rfl (by decide) _ _ _ rfl HR.out.row q m cq vs' rfl (by rw[HQL.out];omega) hq1 hq2 HQ3.out (fun u hu=>?c3) (by simp only[maxLen];omega) (by omega) (by omega) ?_)
       case c3 =>
         obtain⟨i,hi⟩:=List.getElem?_of_mem hu;have hil:i < cl.length:=by rw[HML.out,← HQL.out];exact(List.getElem?_eq_some_iff.1 hi).1
         exact(HQ4.out.2 i u _ hi (List.getElem?_eq_getElem hil)).one
       intro v' w' hown hgrow;have hR2:RtH w0 _ v' ((d.cons.take k).flatten++cl) (us'++vs') w':=HR.out.grown (xs:=vs') (rs:=cl) (by rw[HQL.out];exact hown) hgrow HQ4.out;have HR2:=aA hR2;clear hR2 hown hgrow;go_wp2;go_roundw
       case rel=>exact⟨k+1,us'++vs',by omega,by go_num,by rw[HF.out];exact HR2.out⟩
       case measure=>simp[intOf];omega
     · obtain rfl : k = d.cons.length := by omega
       rw[List.take_length]at hR;have hr:=hR.row;obtain⟨q',c',rfl,hc',hr'⟩:=RowArg.of_own hr;have HR:=aA hR;clear hR hr hc' hr';go_wp2;go_ret;exact⟨_,rfl,by rw[HTm.out];exact HR.out.terms,HR.out.low⟩
 · rw [if_neg h3] at hT; have HTm := aA hT; have b3 : (d.kind == 3) = false := by simpa using h3
   clear hT h1 h2 h3;go_enter Tryz.func52,Tryz.ntmps52;go_wp2;go_ret;exact⟨_,rfl,by rw[HTm.out];exact HR0.out.terms,HR0.out.low⟩
end
def zX(s:ByteArray):Int×Int×List UInt8×Bool:=if s.toList==[84,121,112,101] then(2,0,[110],true) else if s.toList==[112,105] then(3,0,[46,118,46],true) else if s.toList==[112,105,49] then(3,1,[46,118,46],true) else if s.toList==[112,105,50] then(3,2,[46,118,46],true) else if s.toList==[112,105,51] then(3,3,[46,118,46],true) else if s.toList==[115,105,103] then(6,0,[46,118,46],true) else if s.toList==[115,105,103,49] then(6,1,[46,118,46],true) else if s.toList==[115,105,103,50] then(6,2,[46,118,46],true) else if s.toList==[115,105,103,51] then(6,3,[46,118,46],true) else if s.toList==[108,97,109] then(4,0,[46,118,46],true) else if s.toList==[97,112,112] then(5,0,[46,46],true) else if s.toList==[112,97,105,114] then(7,0,[46,46,46],true) else if s.toList==[102,115,116] then(8,0,[46],true) else if s.toList==[115,110,100] then(9,0,[46],true) else if s.toList==[115,117,99] then(12,0,[46],true) else if s.toList==[112,114,102] then(28,0,[46],true) else if s.toList==[114,101,99] then(13,0,[118,46,46,86,46,46],true) else if s.toList==[97,98,111,114,116] then(15,0,[46,46],true) else if s.toList==[101,113] then(18,0,[46,46,46],true) else if s.toList==[114,101,102,108] then(19,0,[46,46],true) else if s.toList==[99,97,115,116] then(20,0,[46,46,46,46],true) else if s.toList==[116,114,97,110,115,112] then(21,0,[46,46,118,46,46,46,46],true) else if s.toList==[113,117,111,116] then(22,0,[46,86,46,46,46,46],true) else if s.toList==[99,108,97,115,115] then(23,0,[46,46],true) else if s.toList==[113,101,108,105,109] then(24,0,[46,118,46,46,46],true) else if s.toList==[100,97,116,97] then(25,0,[100],true) else if s.toList==[99,111,110] then(26,0,[100,110,42],true) else if s.toList==[101,108,105,109] then(27,0,[100,118,46,42,46],true) else(0,0,[],false)
def wCA(s:ByteArray):Int×Bool:=if s.toList==[80,114,111,112] then(2,true) else if s.toList==[78,97,116] then(10,true) else if s.toList==[122,101,114,111] then(11,true) else if s.toList==[69,109,112,116,121] then(14,true) else if s.toList==[85,110,105,116] then(16,true) else if s.toList==[115,116,97,114] then(17,true) else if s.toList==[116,105,99,107] then(29,true) else(0,false)
theorem toList_data(s:ByteArray)(x:List UInt8):(s.toList==x)=decide (s.data.toList=x):=by
 rw[ByteArray.toList_eq,Bool.eq_iff_iff];simp
theorem d3A(s:ByteArray):wCA s=((nS s).getD 0,(nS s).isSome):=by
 unfold wCA nS leafT;simp only[sPA,toList_data,decide_eq_true_eq]
 repeat' split
 all_goals first | rfl | (simp_all;done)
theorem v4A(s:ByteArray):zX s=match tJA s with | some (k,n,p)=>(k,n,wEB p,true) | none=>(0,0,[],false):=by
 unfold zX tJA;simp only[toList_data,decide_eq_true_eq];generalize s.data.toList=w;by_cases h0:w=[84,121,112,101]
 · subst h0;rfl
 by_cases h1:w=[112,105]
 · subst h1;rfl
 by_cases h2:w=[112,105,49]
 · subst h2;rfl
 by_cases h3:w=[112,105,50]
 · subst h3;rfl
 by_cases h4:w=[112,105,51]
 · subst h4;rfl
 by_cases h5:w=[115,105,103]
 · subst h5;rfl
 by_cases h6:w=[115,105,103,49]
 · subst h6;rfl
 by_cases h7:w=[115,105,103,50]
 · subst h7;rfl
 by_cases h8:w=[115,105,103,51]
 · subst h8;rfl
 by_cases h9:w=[108,97,109]
 · subst h9;rfl
 by_cases h10:w=[97,112,112]
 · subst h10;rfl
 by_cases h11:w=[112,97,105,114]
 · subst h11;rfl
 by_cases h12:w=[102,115,116]
 · subst h12;rfl
 by_cases h13:w=[115,110,100]
 · subst h13;rfl
 by_cases h14:w=[115,117,99]
 · subst h14;rfl
 by_cases h15:w=[112,114,102]
 · subst h15;rfl
 by_cases h16:w=[114,101,99]
 · subst h16;rfl
 by_cases h17:w=[97,98,111,114,116]
 · subst h17;rfl
 by_cases h18:w=[101,113]
 · subst h18;rfl
 by_cases h19:w=[114,101,102,108]
 · subst h19;rfl
 by_cases h20:w=[99,97,115,116]
 · subst h20;rfl
 by_cases h21:w=[116,114,97,110,115,112]
 · subst h21;rfl
 by_cases h22:w=[113,117,111,116]
 · subst h22;rfl
 by_cases h23:w=[99,108,97,115,115]
 · subst h23;rfl
 by_cases h24:w=[113,101,108,105,109]
 · subst h24;rfl
 by_cases h25:w=[100,97,116,97]
 · subst h25;rfl
 by_cases h26:w=[99,111,110]
 · subst h26;rfl
 by_cases h27:w=[101,108,105,109]
 · subst h27;rfl
 · simp[aRA,formT, *]
section
variable {w0 : World}
theorem vZA(s:ByteArray):Calls Tryz.prog 113 #[.string s] w0 fun e w=>e = .returned (.tuple #[.agg #[.int .i64 (zX s).1,.int .i64 (zX s).2.1,.string ⟨(zX s).2.2.1.toArray⟩],.bool (zX s).2.2.2])∧Under w0 w:=by
 have HO:RowKit.Hid (zX s=if s.toList==[84,121,112,101] then(2,0,[110],true) else if s.toList==[112,105] then(3,0,[46,118,46],true) else if s.toList==[112,105,49] then(3,1,[46,118,46],true) else if s.toList==[112,105,50] then(3,2,[46,118,46],true) else if s.toList==[112,105,51] then(3,3,[46,118,46],true) else if s.toList==[115,105,103] then(6,0,[46,118,46],true) else if s.toList==[115,105,103,49] then(6,1,[46,118,46],true) else if s.toList==[115,105,103,50] then(6,2,[46,118,46],true) else if s.toList==[115,105,103,51] then(6,3,[46,118,46],true) else if s.toList==[108,97,109] then(4,0,[46,118,46],true) else if s.toList==[97,112,112] then(5,0,[46,46],true) else if s.toList==[112,97,105,114] then(7,0,[46,46,46],true) else if s.toList==[102,115,116] then(8,0,[46],true) else if s.toList==[115,110,100] then(9,0,[46],true) else if s.toList==[115,117,99] then(12,0,[46],true) else if s.toList==[112,114,102] then(28,0,[46],true) else if s.toList==[114,101,99] then(13,0,[118,46,46,86,46,46],true) else if s.toList==[97,98,111,114,116] then(15,0,[46,46],true) else if s.toList==[101,113] then(18,0,[46,46,46],true) else if s.toList==[114,101,102,108] then(19,0,[46,46],true) else if s.toList==[99,97,115,116] then(20,0,[46,46,46,46],true) else if s.toList==[116,114,97,110,115,112] then(21,0,[46,46,118,46,46,46,46],true) else if s.toList==[113,117,111,116] then(22,0,[46,86,46,46,46,46],true) else if s.toList==[99,108,97,115,115] then(23,0,[46,46],true) else if s.toList==[113,101,108,105,109] then(24,0,[46,118,46,46,46],true) else if s.toList==[100,97,116,97] then(25,0,[100],true) else if s.toList==[99,111,110] then(26,0,[100,110,42],true) else if s.toList==[101,108,105,109] then(27,0,[100,118,46,42,46],true) else(0,0,[],false)):=aA rfl;generalize zX s=r at *;go_enter Tryz.func113,Tryz.ntmps113;go_wp2
 all_goals
  refine bodyPost_ret ((results_cell_tmp rfl _ _ _).trans (by simp[go_sem];first | exact⟨rfl,rfl⟩ | rfl | exact⟨⟨rfl,rfl⟩,rfl⟩)) rfl ⟨by rw[HO.out];simp[*],?_⟩
  first | exact bA (Under.refl _) _ | skip
theorem zYA(s:ByteArray):Calls Tryz.prog 114 #[.string s] w0 fun e w=>e = .returned (.tuple #[.agg #[.int .i64 (wCA s).1,.int .i64 0,.int .i64 0,.string ⟨#[]⟩],.bool (wCA s).2])∧Under w0 w:=by
 have HO:RowKit.Hid (wCA s=if s.toList==[80,114,111,112] then(2,true) else if s.toList==[78,97,116] then(10,true) else if s.toList==[122,101,114,111] then(11,true) else if s.toList==[69,109,112,116,121] then(14,true) else if s.toList==[85,110,105,116] then(16,true) else if s.toList==[115,116,97,114] then(17,true) else if s.toList==[116,105,99,107] then(29,true) else(0,false)):=aA rfl;generalize wCA s=r at *;go_enter Tryz.func114,Tryz.ntmps114;go_wp2
 all_goals
  refine bodyPost_ret ((results_cell_tmp rfl _ _ _).trans (by simp[go_sem];first | exact⟨rfl,rfl⟩ | rfl | exact⟨⟨rfl,rfl⟩,rfl⟩)) rfl ⟨by rw[HO.out];simp[*],?_⟩
  first | exact bA (Under.refl _) _ | skip
end
section
variable {w0 : World}
theorem kwU(s:ByteArray):((zX s).2.2.2||(wCA s).2)=kwW s:=by
 rw[v4A,d3A];unfold kwW
 cases tJA s with
 | none=>rfl
 | some y=>rfl
theorem dNA(s:ByteArray):Calls Tryz.prog 87 #[.string s] w0 fun e w=>e = .returned (.bool (kwW s))∧Under w0 w:=by
 have HF:=aA (fun w=>vZA (w0:=w) s);have HL:=aA (fun w=>zYA (w0:=w) s);have HK:=aA (kwU s);generalize zX s=a at *;generalize wCA s=b at *;obtain⟨k1,n1,x1,a⟩:=a;obtain⟨k2,b⟩:=b;simp only at HF HL HK
 cases a
 all_goals cases b
 all_goals
  go_enter Tryz.func87,Tryz.ntmps87;go_wp2_with fail;refine(HF.out _).mono ?_;rintro e w1 ⟨rfl,hU1⟩;have HU1:=aA hU1;clear hU1;go_wp2_with fail;refine(HL.out _).mono ?_;rintro e w2 ⟨rfl,hU2⟩;have HU2:=aA ((bA HU1.out _).trans hU2);clear hU2;go_wp2;go_ret;exact⟨by rw[← HK.out];rfl,bA HU2.out _⟩
end
end Go.Proofs.YtggjbblgoddnjaaGreatDoor
