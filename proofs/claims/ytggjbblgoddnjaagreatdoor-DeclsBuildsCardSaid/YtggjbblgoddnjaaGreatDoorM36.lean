/- Part 36 of what the proof rests on. -/
import Derived.Deep.RegionHeld3
import Derived.Laws.ResultCell
import Derived.Test.YtggjbblgoddnjaaGreatDoorM01
import Derived.Test.YtggjbblgoddnjaaGreatDoorM12
import Derived.Test.YtggjbblgoddnjaaGreatDoorM14
import Derived.Test.YtggjbblgoddnjaaGreatDoorM22
import Derived.Test.YtggjbblgoddnjaaGreatDoorM27
import Derived.Test.YtggjbblgoddnjaaGreatDoorM29
import Derived.Test.YtggjbblgoddnjaaGreatDoorM35
set_option linter.unusedSimpArgs false
set_option linter.unusedVariables false
set_option maxRecDepth 100000
set_option maxHeartbeats 8000000
namespace Go.Proofs.YtggjbblgoddnjaaGreatDoor
open Go.Lx Go.RowKit
mutual
def uJ : Tm → Nat → Int
  | .mk x l,u=>if x.k=0 then(if(u:Int)≤x.n then x.n - u else -1) else bJ l (binds x) u
def bJ : List Tm → List Nat → Nat → Int
  | [],_,_ => -1
  | a::l,bs,u=>max (uJ a (u+bs.headD 0)) (bJ l bs.tail u)
end
theorem zSA{w w':World}{p:Option Addr}{cs:List Value}(h:RowArg w p cs)(hU:Under w w'):RowArg w' p cs:=h.under hU
theorem qXA{l:List Tm}{bs:List Nat}{u j:Nat}(hj:j < l.length)(hb:j < bs.length):bJ (l.drop j) (bs.drop j) u=max (uJ l[j] (u+bs[j])) (bJ (l.drop (j+1)) (bs.drop (j+1)) u):=by
 rw[List.drop_eq_getElem_cons hj,List.drop_eq_getElem_cons hb];rfl
def nV(T:Tm):Prop:=okT T→∀(w0:World) (v:Value) (t:List Nd) (u:Nat),t=flat T→t.length≤4000→TermV w0 v t→u+2 * t.length≤100000 →
 Calls Tryz.prog 115 #[v,.int .i64 (-1),.int .i64 (u:Int)] w0 fun e w=>∃ many:Nat,many≤t.length∧e = .returned (.tuple #[.int .i64 (many:Int),.int .i64 (uJ T u)])∧Under w0 w
def r3A(w1:World)(x:Nd)(l:List Tm)(u:Nat)(mv tv i:Value)(wr:World):Prop:=∃(j n:Nat) (y:Int),j≤l.length∧n≤(jB (l.take j)).length∧-1≤y∧mv = .int .i64 (n:Int)∧tv = .int .i64 y∧i = .int .i64 (j:Int) ∧
 bJ l (binds x) u=max y (bJ (l.drop j) ((binds x).drop j) u)∧Under w1 wr
theorem pSA(x:Nd)(l:List Tm)(hk:x.k=0):nV (.mk x l):=by
 rintro⟨hx,hl,hls⟩ w0 v t u ht hn hv hu;have hte:t[t.length - 1]? = some x:=by rw[ht,flat];simp
 have hpos:1≤t.length:=by rw[ht,flat];simp
 have hv2:=vP hx hk;have HR:=Lib.hid (fLA (by omega) hte hv);have hu0:(0:Int)≤(u:Int):=by omega
 have hu1:(u:Int)≤100000:=by omega
 have h1:=hv2.1;have h2:=hv2.2;have HT:RowKit.Hid (uJ (.mk x l) u=if(u:Int)≤x.n then x.n - u else -1):=Lib.hid (by unfold uJ;rw[if_pos hk]);clear hte hv2 ht hx hl hls hv;obtain⟨k,n,m,s⟩:=x;simp only at hk h1 h2 HT;subst hk;unfold ndV at HR;simp only at HR;by_cases h:(u:Int)≤n
 · have h3 : (0 : Int) ≤ n - (u : Int) := by omega
   rw[if_pos h]at HT;go_enter Tryz.func115,Tryz.ntmps115;go_wp2_with fail;refine HR.out.mono ?_;rintro e w1 ⟨rfl,hU1⟩;have HU1:=Lib.hid hU1;clear hU1;go_wp2;go_ret2;exact⟨1,by omega,by rw[HT.out];rfl,aA HU1.out _⟩
 · have h3 : n - (u : Int) < 0 := by omega
   rw[if_neg h]at HT;go_enter Tryz.func115,Tryz.ntmps115;go_wp2_with fail;refine HR.out.mono ?_;rintro e w1 ⟨rfl,hU1⟩;have HU1:=Lib.hid hU1;clear hU1;go_wp2;go_ret2;exact⟨0,by omega,by rw[HT.out];rfl,aA HU1.out _⟩
theorem vNA(x:Nd)(l:List Tm)(hk:x.k≠0)(ih:∀ a∈l,nV a):nV (.mk x l):=by
 intro hok w0 v t u ht hn hv hu;have HOk:=Lib.hid hok;obtain⟨hx,hl,hls⟩:=hok;have hte:t[t.length - 1]? = some x:=by rw[ht,flat];simp
 have hfl:t.length=(jB l).length+1:=by rw[ht,flat];simp
 have HFl:=Lib.hid hfl;have HR:=Lib.hid (fLA (by omega) hte hv);have HC:=Lib.hid (fun w=>jM (w0:=w) x);have HV:=Lib.hid hv;have HPa:=Lib.hid (fun w (hU:Under w0 w)=>fMA (w0:=w) x l HOk.out ht (by omega) (TermV.mono _ _ _ _ hU hv));have HT:RowKit.Hid (uJ (.mk x l) u=bJ l (binds x) u):=Lib.hid (by unfold uJ;rw[if_neg hk]);have HX:=Lib.hid hx;have HL:=Lib.hid hl;have HLs:=Lib.hid hls;have HIH:=Lib.hid ih;have HU0:=Lib.hid hu;have HN0:=Lib.hid hn;have hB8:=gK hx;have hB2:RowKit.Hid (∀ b∈binds x,b≤2):=Lib.hid (by have:=gY (x:=x);unfold yF at this;rwa [if_pos hx]at this);have hk':(x.k==0)=false:=by simpa using hk
 have hu0:(0:Int)≤(u:Int):=by omega
 have hu1:(u:Int)≤100000:=by omega
 have hL0:(0:Int)≤(l.length:Int):=by omega
 have hL8:(l.length:Int)≤8:=by omega
 clear hte ht hx hl hls hv hk ih hB8 hfl hu hn;unfold ndV at HR;unfold ndV at HC;go_enter Tryz.func115,Tryz.ntmps115;go_wp2_with fail;refine HR.out.mono ?_;rintro e w1 ⟨rfl,hU1⟩;have HU1:=Lib.hid hU1;clear hU1;go_wp2_with fail;refine(HC.out _).mono ?_;rintro e w2 ⟨lb,hlb,q,cq,rfl,hlc,hrl,hU2⟩;obtain rfl:=hlb HX.out;have HU2:=Lib.hid (show Under w0 w2 from(aA HU1.out _).trans hU2);have HQ:=Lib.hid hrl;rw[HX.out,← HL.out];clear hU2 hrl hlc hlb HR HC;go_wp2_with fail;refine(HPa.out _ HU2.out).mono ?_;rintro e w3 ⟨vr,rfl,⟨p3,c3,vs,rfl,h31,_,h32,h33⟩,hU3⟩;have hlm:(l.map flat).length=l.length:=List.length_map ..;rw[hlm]at h31 ⊢;have HQ3:=Lib.hid (zSA HQ.out hU3);have HU3:=Lib.hid (HU2.out.trans hU3);have HP3:=Lib.hid h32;have HZ3:=Lib.hid h33;clear hU3 h32 h33 hlm HPa;go_wp2;go_loopw [13,14,15] (fun mv tv i wr=>r3A w3 x l u mv tv i wr) (fun _ _ i _=>l.length - (intOf i).toNat)
 case atStart => exact ⟨0, 0, -1, Nat.zero_le _, Nat.zero_le _, by omega, rfl, rfl, rfl, by
   rw[List.drop_zero,List.drop_zero];have:∀(l:List Tm) (bs:List Nat),-1≤bJ l bs u:=fun l=>by
    induction l with
    | nil=>intro bs;exact Int.le_refl _
    | cons a l ih=>intro bs;have:=ih bs.tail;show -1≤max _ _;omega
   have:=this l (binds x);omega,Under.refl _⟩
 case round =>
   obtain⟨j,n,y,hj,hnm,hy,rfl,rfl,rfl,hTo,hU⟩:=hrel;have HU:=Lib.hid hU;have HTo:=Lib.hid hTo;have HNm:=Lib.hid hnm;clear hU hTo;have hj0:(0:Int)≤(j:Int):=by omega
   have hfle:(jB (l.take j)).length≤(jB l).length:=by
    have:=congrArg List.length (rH (l.take j) (l.drop j));rw[List.take_append_drop,List.length_append]at this;omega
   have hn0:(0:Int)≤(n:Int):=by omega
   have hn4:(n:Int)≤4000:=by have:=HFl.out;have:=HN0.out;omega
   by_cases hjl:j < l.length
   · have hjb : j < (binds x).length := by rw [← HL.out]; exact hjl
     obtain⟨tv,htv,hterm⟩:=HZ3.out.at (i:=j) (x:=flat l[j]) (by rw[List.getElem?_map,List.getElem?_eq_getElem hjl];rfl);have hok:=lCA.1 HLs.out _ (List.getElem_mem hjl);have hb2:=hB2.out _ (List.getElem_mem hjb);have htk:jB (l.take (j+1))=jB (l.take j)++flat l[j]:=by
      rw[List.take_succ_eq_append_getElem hjl,rH];simp[jB]
     have hfl2:(jB (l.take (j+1))).length≤(jB l).length:=by
      have:=congrArg List.length (rH (l.take (j+1)) (l.drop (j+1)));rw[List.take_append_drop,List.length_append]at this;omega
     rw[htk,List.length_append]at hfl2;have hQ:=fun w (hU:Under w3 w)=>HIH.out l[j] (List.getElem_mem hjl) hok w tv (flat l[j]) (u+(binds x)[j]) rfl (by have:=HFl.out;have:=HN0.out;omega) (TermV.mono _ _ _ _ hU hterm) (by have:=HFl.out;have:=HU0.out;omega)
     simp only [Int.natCast_add] at hQ; have HCq := Lib.hid hQ; have HTs := Lib.hid (qXA (u := u) hjl hjb); have HTk := Lib.hid (congrArg List.length htk); have HF4 := Lib.hid (show (jB (l.take j)).length + (flat l[j]).length ≤ 4000 by have := HFl.out; have := HN0.out; omega); obtain ⟨pt, ct, rfl, _⟩ := hterm; obtain ⟨bt, ot, rfl, hbt, hct⟩ := HP3.out (fun e => by rw [e] at htv; simp at htv); have cc := hct j _ htv; obtain ⟨bb, ob, rfl, hbb, hcb⟩ := HQ3.out (fun e => by
       have:=congrArg List.length e;unfold bE at this;rw[List.length_map,List.length_nil]at this;omega)
     have cb:=hcb j _ (cKA (List.getElem?_eq_getElem hjb));rw[← dA HU.out hbt]at cc;rw[← dA HU.out hbb]at cb;have hbt':=Nat.lt_of_lt_of_le hbt HU.out.size;have hbb':=Nat.lt_of_lt_of_le hbb HU.out.size;clear hQ htk hfl2 hct hcb htv hok hfle;generalize (binds x)[j]=bj at *;generalize l[j]=T at *;have hbj0:(0:Int)≤(bj:Int):=by omega
     have hbj2:(bj:Int)≤2:=by omega
     have hjl':(j:Int) < (l.length:Int):=by omega
     have hwr:IntKind.i64.wrap ((u:Int)+(bj:Int))=(u:Int)+(bj:Int):=by rw[IntKind.wrap_i64];omega
     go_wp2_with fail; go_region_held3 (fun w' => w'.cell? ⟨bt, ot + j, none⟩ = some (.slice pt (flat T).length ct) ∧ w'.cell? ⟨bb, ob + j, none⟩ = some (.int .i64 (bj : Int)))
       (first
         | go_keep
         | (refine ⟨?_, ?_⟩
            · (rw[dA hU4 hbt'];assumption)
            · (rw[dA hU4 hbb'];assumption)))
       ((go_simp;(try rw[hwr]);go_at_call 115;refine(HCq.out _ (fA HU.out)).mono ?_;rintro e w4 ⟨n4,hn4,rfl,hU4⟩))
     have HU4:=Lib.hid ((fA HU.out).trans hU4);have hn40:(0:Int)≤(n4:Int):=by omega
     have hn41:(n4:Int)≤4000:=by have:=HF4.out;omega
     have HN4:=Lib.hid hn4;generalize uJ T (u+bj)=y4 at *;clear hU4 hn4;by_cases hyy:y4≤y
     · have hyy' : y4 ≤ y := hyy; go_wp2
       all_goals
        go_roundw
        case rel=>exact⟨j+1,n+n4,max y y4,by omega,by rw[HTk.out,List.length_append];have:=HN4.out;have:=HNm.out;omega,by omega,by go_num,by exact congrArg (Value.int .i64) (by omega),by go_num,by rw[HTo.out,HTs.out];omega,HU4.out⟩
        case measure=>simp[intOf];omega
     · have hyy' : y < y4 := by omega
       go_wp2
       all_goals
        go_roundw
        case rel=>exact⟨j+1,n+n4,max y y4,by omega,by rw[HTk.out,List.length_append];have:=HN4.out;have:=HNm.out;omega,by omega,by go_num,by exact congrArg (Value.int .i64) (by omega),by go_num,by rw[HTo.out,HTs.out];omega,HU4.out⟩
        case measure=>simp[intOf];omega
   · obtain rfl : j = l.length := by omega
     go_wp2;go_ret2;refine⟨n,by have:=HFl.out;omega,?_,HU3.out.trans HU.out⟩;rw[HT.out,HTo.out,List.drop_length];have:max y (bJ [] ((binds x).drop l.length) u)=y:=by show max y (-1)=y;omega
     rw[this];rfl
theorem yTA(T:Tm):nV T:=by
 induction T using Tm.rec (motive_2:=fun l=>∀ a∈l,nV a) with
 | mk x l ih =>
   by_cases hk:x.k=0
   · exact pSA x l hk
   · exact vNA x l hk ih
 | nil=>rename_i a ha;cases ha
 | cons a l iha ihl =>
   rename_i b hb;rcases List.mem_cons.1 hb with rfl | hb
   · exact iha
   · exact ihl b hb
theorem iU(T:Tm):okT T→∀ u,-1≤uJ T u∧uJ T u≤99:=by
 induction T using Tm.rec (motive_2:=fun l=>qQ l→∀ bs u,-1≤bJ l bs u∧bJ l bs u≤99) with
 | mk x l ih =>
   rintro⟨hx,_,hls⟩ u;unfold uJ;by_cases hk:x.k=0
   · have := vP hx hk; rw [if_pos hk]; by_cases h : (u : Int) ≤ x.n
     · rw[if_pos h];omega
     · rw[if_neg h];omega
   · rw[if_neg hk];exact ih hls _ u
 | nil=>rename_i hh bs u;show -1≤(-1:Int)∧(-1:Int)≤99;omega
 | cons a l iha ihl =>
   rename_i hh bs u;have h1:=iha hh.1 (u+bs.headD 0);have h2:=ihl hh.2 bs.tail u
   show -1≤max (uJ a (u+bs.headD 0)) (bJ l bs.tail u)∧max (uJ a (u+bs.headD 0)) (bJ l bs.tail u)≤99
   omega
section
variable {w0 : World}
theorem dTA(t:List Nd){v:Value}(hn:t.length≤maxLen)(hv:TermV w0 v t)(h:bC t≠0):Calls Tryz.prog 88 #[v] w0 fun e w=>e = .returned (.tuple #[.int .i64 0,.int .i64 (bC t)])∧Under w0 w:=by
 have HC:=Lib.hid (zCA t hn hv);have h':(bC t==0)=false:=by simpa using h
 clear hn hv h;generalize bC t=ce at *;go_enter Tryz.func88,Tryz.ntmps88;go_wp2_with fail;refine HC.out.mono ?_;rintro e w1 ⟨rfl,hU1⟩;have HU1:=Lib.hid hU1;clear hU1;go_wp2;go_ret2;exact⟨rfl,HU1.out⟩
theorem yVA(T:Tm){v:Value}(hok:okT T)(hd:eF T≤60)(hl:(flat T).length≤4000)(hv:TermV w0 v (flat T)):Calls Tryz.prog 88 #[v] w0 fun e w=>e = .returned (.tuple #[.int .i64 (uJ T 0+1),.int .i64 0])∧Under w0 w:=by
 have HC:=Lib.hid (zCA (flat T) (by simp only[maxLen];omega) hv);rw[jEA hok hd hl]at HC;have HQ:=Lib.hid (fun w (hU:Under w0 w)=>yTA T hok w v (flat T) 0 rfl hl (TermV.mono _ _ _ _ hU hv) (by omega));have hr:=iU T hok 0;have h1:=hr.1;have h2:=hr.2;clear hok hd hl hv hr;generalize uJ T 0=y at *;go_enter Tryz.func88,Tryz.ntmps88;go_wp2_with fail;refine HC.out.mono ?_;rintro e w1 ⟨rfl,hU1⟩;have HU1:=Lib.hid hU1;clear hU1;go_wp2_with fail;refine(HQ.out _ HU1.out).mono ?_;rintro e w2 ⟨many,hm,rfl,hU2⟩;have HU2:=Lib.hid (HU1.out.trans hU2);clear hU2;go_wp2;go_ret2;exact⟨rfl,HU2.out⟩
end
theorem mSA(t:List Nd)(g:Int→Int→Int)(s:Int)(x:Nat×Nat)(l:List (Nat×Nat)):tell t g s (x::l)=tell t g (lK t g s x) l:=rfl
theorem b0A(T:Tm)(h:okT T)(u:Nat) : -1≤uJ T u:=(iU T h u).1
theorem dUA(t:List Nd)(T:Tm):okT T→∀(pre post:List Nd) (u:Nat) (st:List Nat) (s:Int),t=pre++flat T++post→0≤s →
 tell t wM s (fF t (pre.length+(flat T).length) (u::st))=tell t wM (max s (uJ T u+1)) (fF t pre.length st):=by
 induction T using Tm.rec (motive_2 := fun l => qQ l → ∀ (bs : List Nat), bs.length = l.length → ∀ (pre post : List Nd) (u : Nat) (st : List Nat) (s : Int), t = pre ++ jB l ++ post → 0 ≤ s →
   tell t wM s (fF t (pre.length+(jB l).length) ((bs.map (u + ·)).reverse++st))=tell t wM (max s (bJ l bs u+1)) (fF t pre.length st)) with
 | mk x l ih =>
   rintro⟨hx,hl,hls⟩ pre post u st s ht hs;rw[flat]at ht;have hg:t[pre.length+(jB l).length]? = some x:=by
    rw[ht,List.append_assoc,List.append_assoc,List.getElem?_append_right (by omega),Nat.add_sub_cancel_left,List.getElem?_append_right (by omega),Nat.sub_self];rfl
   have hb:yF x=binds x:=by unfold yF;rw[if_pos hx]
   rw[flat,List.length_append,List.length_singleton,← Nat.add_assoc,sP hg,mSA,hb];have ho:lK t wM s (pre.length+(jB l).length,u)=if x.k=0∧(u:Int)≤x.n then max s (x.n - u+1) else s:=by
    unfold lK;rw[hg];rfl
   rw[ho];have ht2:t=pre++jB l++([x]++post):=by rw[ht];simp
   have hT:uJ (.mk x l) u=if x.k=0 then(if(u:Int)≤x.n then x.n - u else -1) else bJ l (binds x) u:=by rw[uJ]
   rw[hT];by_cases hk:x.k=0
   · have hb0 : binds x = [] := by simp [binds, hk, gG]
     have hl0:l=[]:=List.eq_nil_of_length_eq_zero (by rw[hl,hb0];rfl);subst hl0;rw[hb0,if_pos hk];by_cases hu:(u:Int)≤x.n
     · rw[if_pos ⟨hk,hu⟩,if_pos hu];simp[jB]
     · rw [if_neg (fun h => hu h.2), if_neg hu]; have : max s (-1 + 1) = s := by omega
       rw[this];simp[jB]
   · rw[if_neg (fun h=>hk h.1),if_neg hk];exact ih hls (binds x) hl.symm pre _ u st s ht2 hs
 | nil =>
   rename_i hh bs hb pre post u st s ht hs;have:bs=[]:=List.eq_nil_of_length_eq_zero hb;subst this;have e:max s (bJ [] [] u+1)=s:=by simp[bJ];omega
   rw[e];simp[jB]
 | cons a l iha ihl =>
   rename_i hh bs hb pre post u st s ht hs
   cases bs with
   | nil=>simp at hb
   | cons b bs =>
     rw[jB]at ht;have h1:=ihl hh.2 bs (by simpa using hb) (pre++flat a) post u ((u+b)::st) s (by rw[ht];simp) hs;have h2:=iha hh.1 pre (jB l++post) (u+b) st (max s (bJ l bs u+1)) (by rw[ht];simp) (by omega);rw[List.map_cons,List.reverse_cons,List.append_assoc,jB,List.length_append,← Nat.add_assoc];rw[List.length_append]at h1;rw[List.singleton_append,h1,h2];congr 1
     show max (max s (bJ l bs u+1)) (uJ a (u+b)+1)=max s (max (uJ a (u+b)) (bJ l bs u)+1)
     omega
theorem uMA(T:Tm)(h:okT T):aW (flat T)=uJ T 0+1:=by
 have:=dUA (flat T) T h [] [] 0 [] 0 (by simp) (Int.le_refl _);have h0:=b0A T h 0;have e:fF (flat T) 0 []=[]:=rfl;rw[List.length_nil,Nat.zero_add,e]at this
 show tell (flat T) wM 0 (fF (flat T) (flat T).length [0])=_
 rw[this]
 show max 0 (uJ T 0+1)=_
 omega
def vT(s:ByteArray):Int×Int×List UInt8×Bool:=if s.toList==[84,121,112,101] then(2,0,[110],true) else if s.toList==[112,105] then(3,0,[46,118,46],true) else if s.toList==[112,105,49] then(3,1,[46,118,46],true) else if s.toList==[112,105,50] then(3,2,[46,118,46],true) else if s.toList==[112,105,51] then(3,3,[46,118,46],true) else if s.toList==[115,105,103] then(6,0,[46,118,46],true) else if s.toList==[115,105,103,49] then(6,1,[46,118,46],true) else if s.toList==[115,105,103,50] then(6,2,[46,118,46],true) else if s.toList==[115,105,103,51] then(6,3,[46,118,46],true) else if s.toList==[108,97,109] then(4,0,[46,118,46],true) else if s.toList==[97,112,112] then(5,0,[46,46],true) else if s.toList==[112,97,105,114] then(7,0,[46,46,46],true) else if s.toList==[102,115,116] then(8,0,[46],true) else if s.toList==[115,110,100] then(9,0,[46],true) else if s.toList==[115,117,99] then(12,0,[46],true) else if s.toList==[112,114,102] then(28,0,[46],true) else if s.toList==[114,101,99] then(13,0,[118,46,46,86,46,46],true) else if s.toList==[97,98,111,114,116] then(15,0,[46,46],true) else if s.toList==[101,113] then(18,0,[46,46,46],true) else if s.toList==[114,101,102,108] then(19,0,[46,46],true) else if s.toList==[99,97,115,116] then(20,0,[46,46,46,46],true) else if s.toList==[116,114,97,110,115,112] then(21,0,[46,46,118,46,46,46,46],true) else if s.toList==[113,117,111,116] then(22,0,[46,86,46,46,46,46],true) else if s.toList==[99,108,97,115,115] then(23,0,[46,46],true) else if s.toList==[113,101,108,105,109] then(24,0,[46,118,46,46,46],true) else if s.toList==[100,97,116,97] then(25,0,[100],true) else if s.toList==[99,111,110] then(26,0,[100,110,42],true) else if s.toList==[101,108,105,109] then(27,0,[100,118,46,42,46],true) else(0,0,[],false)
def zZ(s:ByteArray):Int×Bool:=if s.toList==[80,114,111,112] then(2,true) else if s.toList==[78,97,116] then(10,true) else if s.toList==[122,101,114,111] then(11,true) else if s.toList==[69,109,112,116,121] then(14,true) else if s.toList==[85,110,105,116] then(16,true) else if s.toList==[115,116,97,114] then(17,true) else if s.toList==[116,105,99,107] then(29,true) else(0,false)
theorem toList_data(s:ByteArray)(x:List UInt8):(s.toList==x)=decide (s.data.toList=x):=by
 rw[ByteArray.toList_eq,Bool.eq_iff_iff];simp
theorem dXA(s:ByteArray):zZ s=((yO s).getD 0,(yO s).isSome):=by
 unfold zZ yO leafT;simp only[lIA,toList_data,decide_eq_true_eq]
 repeat' split
 all_goals first | rfl | (simp_all;done)
theorem fXA(s:ByteArray):vT s=match rFA s with | some (k,n,p)=>(k,n,p5A p,true) | none=>(0,0,[],false):=by
 unfold vT rFA;simp only[toList_data,decide_eq_true_eq];generalize s.data.toList=w;by_cases h0:w=[84,121,112,101]
 · subst h0;rfl
 by_cases h1:w=[112,105]
 · subst h1;rfl
 by_cases h2:w=[112,105,49]
 · subst h2;rfl
 by_cases h3:w=[112,105,50]
 · subst h3;rfl
 by_cases h4:w=[112,105,51]
 · subst h4;rfl
 by_cases h5:w=[115,105,103]
 · subst h5;rfl
 by_cases h6:w=[115,105,103,49]
 · subst h6;rfl
 by_cases h7:w=[115,105,103,50]
 · subst h7;rfl
 by_cases h8:w=[115,105,103,51]
 · subst h8;rfl
 by_cases h9:w=[108,97,109]
 · subst h9;rfl
 by_cases h10:w=[97,112,112]
 · subst h10;rfl
 by_cases h11:w=[112,97,105,114]
 · subst h11;rfl
 by_cases h12:w=[102,115,116]
 · subst h12;rfl
 by_cases h13:w=[115,110,100]
 · subst h13;rfl
 by_cases h14:w=[115,117,99]
 · subst h14;rfl
 by_cases h15:w=[112,114,102]
 · subst h15;rfl
 by_cases h16:w=[114,101,99]
 · subst h16;rfl
 by_cases h17:w=[97,98,111,114,116]
 · subst h17;rfl
 by_cases h18:w=[101,113]
 · subst h18;rfl
 by_cases h19:w=[114,101,102,108]
 · subst h19;rfl
 by_cases h20:w=[99,97,115,116]
 · subst h20;rfl
 by_cases h21:w=[116,114,97,110,115,112]
 · subst h21;rfl
 by_cases h22:w=[113,117,111,116]
 · subst h22;rfl
 by_cases h23:w=[99,108,97,115,115]
 · subst h23;rfl
 by_cases h24:w=[113,101,108,105,109]
 · subst h24;rfl
 by_cases h25:w=[100,97,116,97]
 · subst h25;rfl
 by_cases h26:w=[99,111,110]
 · subst h26;rfl
 by_cases h27:w=[101,108,105,109]
 · subst h27;rfl
 · simp[xJA,formT, *]
section
variable {w0 : World}
theorem kSA(s:ByteArray):Calls Tryz.prog 113 #[.string s] w0 fun e w=>e = .returned (.tuple #[.agg #[.int .i64 (vT s).1,.int .i64 (vT s).2.1,.string ⟨(vT s).2.2.1.toArray⟩],.bool (vT s).2.2.2])∧Under w0 w:=by
 have HO:RowKit.Hid (vT s=if s.toList==[84,121,112,101] then(2,0,[110],true) else if s.toList==[112,105] then(3,0,[46,118,46],true) else if s.toList==[112,105,49] then(3,1,[46,118,46],true) else if s.toList==[112,105,50] then(3,2,[46,118,46],true) else if s.toList==[112,105,51] then(3,3,[46,118,46],true) else if s.toList==[115,105,103] then(6,0,[46,118,46],true) else if s.toList==[115,105,103,49] then(6,1,[46,118,46],true) else if s.toList==[115,105,103,50] then(6,2,[46,118,46],true) else if s.toList==[115,105,103,51] then(6,3,[46,118,46],true) else if s.toList==[108,97,109] then(4,0,[46,118,46],true) else if s.toList==[97,112,112] then(5,0,[46,46],true) else if s.toList==[112,97,105,114] then(7,0,[46,46,46],true) else if s.toList==[102,115,116] then(8,0,[46],true) else if s.toList==[115,110,100] then(9,0,[46],true) else if s.toList==[115,117,99] then(12,0,[46],true) else if s.toList==[112,114,102] then(28,0,[46],true) else if s.toList==[114,101,99] then(13,0,[118,46,46,86,46,46],true) else if s.toList==[97,98,111,114,116] then(15,0,[46,46],true) else if s.toList==[101,113] then(18,0,[46,46,46],true) else if s.toList==[114,101,102,108] then(19,0,[46,46],true) else if s.toList==[99,97,115,116] then(20,0,[46,46,46,46],true) else if s.toList==[116,114,97,110,115,112] then(21,0,[46,46,118,46,46,46,46],true) else if s.toList==[113,117,111,116] then(22,0,[46,86,46,46,46,46],true) else if s.toList==[99,108,97,115,115] then(23,0,[46,46],true) else if s.toList==[113,101,108,105,109] then(24,0,[46,118,46,46,46],true) else if s.toList==[100,97,116,97] then(25,0,[100],true) else if s.toList==[99,111,110] then(26,0,[100,110,42],true) else if s.toList==[101,108,105,109] then(27,0,[100,118,46,42,46],true) else(0,0,[],false)):=Lib.hid rfl;generalize vT s=r at *;go_enter Tryz.func113,Tryz.ntmps113;go_wp2
 all_goals
  refine bodyPost_ret ((results_cell_tmp rfl _ _ _).trans (by simp[go_sem];first | exact⟨rfl,rfl⟩ | rfl | exact⟨⟨rfl,rfl⟩,rfl⟩)) rfl ⟨by rw[HO.out];simp[*],?_⟩
  first | exact aA (Under.refl _) _ | skip
theorem tSA(s:ByteArray):Calls Tryz.prog 114 #[.string s] w0 fun e w=>e = .returned (.tuple #[.agg #[.int .i64 (zZ s).1,.int .i64 0,.int .i64 0,.string ⟨#[]⟩],.bool (zZ s).2])∧Under w0 w:=by
 have HO:RowKit.Hid (zZ s=if s.toList==[80,114,111,112] then(2,true) else if s.toList==[78,97,116] then(10,true) else if s.toList==[122,101,114,111] then(11,true) else if s.toList==[69,109,112,116,121] then(14,true) else if s.toList==[85,110,105,116] then(16,true) else if s.toList==[115,116,97,114] then(17,true) else if s.toList==[116,105,99,107] then(29,true) else(0,false)):=Lib.hid rfl;generalize zZ s=r at *;go_enter Tryz.func114,Tryz.ntmps114;go_wp2
 all_goals
  refine bodyPost_ret ((results_cell_tmp rfl _ _ _).trans (by simp[go_sem];first | exact⟨rfl,rfl⟩ | rfl | exact⟨⟨rfl,rfl⟩,rfl⟩)) rfl ⟨by rw[HO.out];simp[*],?_⟩
  first | exact aA (Under.refl _) _ | skip
end
section
variable {w0 : World}
theorem kwU(s:ByteArray):((vT s).2.2.2||(zZ s).2)=kwW s:=by
 rw[fXA,dXA];unfold kwW
 cases rFA s with
 | none=>rfl
 | some y=>rfl
theorem tGA(s:ByteArray):Calls Tryz.prog 87 #[.string s] w0 fun e w=>e = .returned (.bool (kwW s))∧Under w0 w:=by
 have HF:=Lib.hid (fun w=>kSA (w0:=w) s);have HL:=Lib.hid (fun w=>tSA (w0:=w) s);have HK:=Lib.hid (kwU s);generalize vT s=a at *;generalize zZ s=b at *;obtain⟨k1,n1,x1,a⟩:=a;obtain⟨k2,b⟩:=b;simp only at HF HL HK
 cases a
 all_goals cases b
 all_goals
  go_enter Tryz.func87,Tryz.ntmps87;go_wp2_with fail;refine(HF.out _).mono ?_;rintro e w1 ⟨rfl,hU1⟩;have HU1:=Lib.hid hU1;clear hU1;go_wp2_with fail;refine(HL.out _).mono ?_;rintro e w2 ⟨rfl,hU2⟩;have HU2:=Lib.hid ((aA HU1.out _).trans hU2);clear hU2;go_wp2;go_ret;exact⟨by rw[← HK.out];rfl,aA HU2.out _⟩
end
end Go.Proofs.YtggjbblgoddnjaaGreatDoor
