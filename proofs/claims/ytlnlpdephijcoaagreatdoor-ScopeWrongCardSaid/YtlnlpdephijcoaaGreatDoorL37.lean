/- Part 37 of what the proof rests on. -/
import Derived.Deep.RegionHeld3
import Derived.Laws.ResultCell
import Derived.Test.YtlnlpdephijcoaaGreatDoorL13
import Derived.Test.YtlnlpdephijcoaaGreatDoorL15
import Derived.Test.YtlnlpdephijcoaaGreatDoorL16
import Derived.Test.YtlnlpdephijcoaaGreatDoorL23
import Derived.Test.YtlnlpdephijcoaaGreatDoorL34
import Derived.Test.YtlnlpdephijcoaaGreatDoorL36
set_option linter.unusedSimpArgs false
set_option linter.unusedVariables false
set_option maxRecDepth 100000
set_option maxHeartbeats 2000000
namespace Go.Proofs.YtlnlpdephijcoaaGreatDoor
open Go.Lx Go.RowKit
def g5A(s:ByteArray)(v i:Value):Prop:=∃ k n:Nat,k≤s.size∧i = .int .i64 (k:Int)∧v = .int .i64 (n:Int)∧n=mJA (s.data.toList.take k)∧(∀ c∈s.data.toList.take k,l6 c=true)∧n < 10 ^ k
theorem iUA{s:ByteArray}(h1:¬ s.size < 1)(h2:¬ 2 < s.size)(hz:s.size=2→s.data.toList[0]?≠some 48)(hd:∀ c∈s.data.toList,l6 c=true):uP s=(mJA s.data.toList:Int):=by
 have hs:s.data.toList.length=s.size:=by rw[Array.length_toList];rfl
 match h:s.data.toList with
 | []=>rw[h]at hs;simp at hs;omega
 | [c]=>rw[← h];rw[rYA h (hd c (by rw[h];simp)),h]
 | [c, d] =>
   rw[h]at hs;have:=hz (by simpa using hs.symm);rw[h]at this;rw[m0A h (fun e=>this (by rw[e];rfl)) (hd c (by rw[h];simp)) (hd d (by rw[h];simp))]
 | _::_::_::_=>rw[h]at hs;simp at hs;omega
theorem wTA{s:ByteArray}(hs2:s.size=2)(h0:s.data.toList[0]? = some 48):uP s = -1:=by
 have hs:s.data.toList.length=s.size:=by rw[Array.length_toList];rfl
 match h:s.data.toList with
 | []=>rw[h]at hs;simp at hs;omega
 | [c]=>rw[h]at hs;simp at hs;omega
 | [c, d] =>
   rw[h]at h0;simp at h0;subst h0;exact xVA h
 | _::_::_::_=>rw[h]at hs;simp at hs;omega
section
variable {w0 : World}
theorem nMA(c:UInt8):l6 c=(decide (48≤(c.toNat:Int))&&decide ((c.toNat:Int)≤57)):=by
 unfold l6;rw[Bool.eq_iff_iff];simp;omega
theorem yJA(s:ByteArray):Calls Tryz.prog 68 #[.string s] w0 fun e w=>e = .returned (.int .i64 (uP s))∧w=w0:=by
 by_cases h1:s.size < 1
 · have HU := Lib.hid (hHA (.inl h1)); have h1' : (s.size : Int) < 1 := by omega
   clear h1;go_enter Tryz.func68,Tryz.ntmps68;go_wp2;go_ret;exact⟨by rw[HU.out];rfl,rfl⟩
 by_cases h2:2 < s.size
 · have HU := Lib.hid (hHA (.inr h2)); have h1' : ¬ (s.size : Int) < 1 := by omega
   have h2':(2:Int) < (s.size:Int):=by omega
   clear h1 h2;go_enter Tryz.func68,Tryz.ntmps68;go_wp2;go_ret;exact⟨by rw[HU.out];rfl,rfl⟩
 have hsl:s.data.toList.length=s.size:=by rw[Array.length_toList];rfl
 have h1':¬(s.size:Int) < 1:=by omega
 have h2':¬(2:Int) < (s.size:Int):=by omega
 have hp0:0 < s.size:=by omega
 have hg0:s.data.toList[0]? = some s[0]:=by rw[List.getElem?_eq_getElem (by omega)];rfl
 by_cases hl:s.size=2∧s[0]=48
 · have HU := Lib.hid (wTA hl.1 (by rw [hg0, hl.2])); have e2 : ((s.size : Int) == 2) = true := by simp; omega
   have e0:(((s[0]'hp0).toNat:Int)==48)=true:=by rw[hl.2];rfl
   clear hl hg0 hsl h1 h2;go_enter Tryz.func68,Tryz.ntmps68;go_wp2;go_ret;exact⟨by rw[HU.out];rfl,rfl⟩
 have HG:=Lib.hid (fun hd=>iUA h1 h2 (fun e h=>hl ⟨e,by rw[hg0]at h;exact Option.some.inj h⟩) hd);have e20:(((s.size:Int)==2)&&(((s[0]'hp0).toNat:Int)==48))=false:=by
  cases hx:(((s.size:Int)==2)&&(((s[0]'hp0).toNat:Int)==48))
  · rfl
  · exfalso;simp only[Bool.and_eq_true,beq_iff_eq]at hx;exact hl ⟨by omega,UInt8.toNat_inj.1 (by have:=hx.2;show(s[0]'hp0).toNat=48;omega)⟩
 have HSl:=Lib.hid hsl;have HS2:=Lib.hid h2;clear hl hg0 hsl h1 h2;have e20':((s.size:Int)==2)=false∨(((s.size:Int)==2)=true∧(((s[0]'hp0).toNat:Int)==48)=false):=by
  cases hx:((s.size:Int)==2)
  · exact .inl rfl
  · rw[hx]at e20;exact .inr ⟨rfl,by simpa using e20⟩
 clear e20;rcases e20' with e2 | ⟨e2,e0⟩
 · go_enter Tryz.func68, Tryz.ntmps68; go_wp2
   go_loop [3,4] (fun v i=>g5A s v i) (fun _ i=>s.size - (intOf i).toNat)
   case atStart=>exact⟨0,0,Nat.zero_le _,rfl,rfl,rfl,(fun c hc=>by simp at hc),by decide⟩
   case round =>
     obtain⟨k,n,hk,rfl,rfl,hn,hd,hb⟩:=hrel;have hn9:n≤99:=by
      have h2:=HS2.out;have:k=0∨k=1∨k=2:=by omega
      rcases this with h | h | h<;>rw[h]at hb<;>omega
     have hn0:(0:Int)≤(n:Int):=by omega
     have hn9':(n:Int)≤99:=by omega
     have HN:=Lib.hid hn;have HD:=Lib.hid hd;have HB:=Lib.hid hb;clear hn hd hb hn9;by_cases hlt:k < s.size
     · have hc : s.data.toList[k]? = some s[k] := by rw [List.getElem?_eq_getElem (by have := HSl.out; omega)]; rfl
       have hm:s[k]∈s.data.toList:=List.mem_of_getElem? hc;have htk:s.data.toList.take (k+1)=s.data.toList.take k++[s[k]]:=by
        obtain⟨h1,h2⟩:=List.getElem?_eq_some_iff.1 hc;rw[List.take_succ_eq_append_getElem h1,h2]
       have HTk:=Lib.hid htk;have hdi:=nMA s[k];have hc255:((s[k]).toNat:Int)≤255:=by have:=(s[k]).toNat_lt;omega
       by_cases hlo:((s[k]).toNat:Int) < 48
       · have HU:=Lib.hid (vY hm (by rw[hdi];simp;omega));clear hc hm htk hdi;go_wp2;go_ret;exact⟨by rw[HU.out];rfl,rfl⟩
       · by_cases hhi : (57 : Int) < ((s[k]).toNat : Int)
         · have HU:=Lib.hid (vY hm (by rw[hdi];simp;omega));clear hc hm htk hdi;go_wp2;go_ret;exact⟨by rw[HU.out];rfl,rfl⟩
         · have HDk := Lib.hid (show l6 s[k] = true by rw [hdi]; simp; omega); have HIn := Lib.hid (show (48 : Int) ≤ ((s[k]).toNat : Int) ∧ ((s[k]).toNat : Int) ≤ 57 by omega); have hw8 : IntKind.u8.wrap (((s[k]).toNat : Int) - 48) = ((s[k]).toNat : Int) - 48 := by
            simp[IntKind.wrap,IntKind.bits,IntKind.signed];omega
           clear hc hm htk hdi;go_wp2
           go_round
           case rel =>
             have h5:=HIn.out;refine⟨k+1,n * 10+((s[k]).toNat - 48),by omega,by go_num,by congr 1;omega,?_,?_,?_⟩
             · rw[HTk.out,kHA,← HN.out]
             · intro c hc; rw [HTk.out] at hc; rcases List.mem_append.1 hc with h | h
               · exact HD.out c h
               · rw[List.mem_singleton.1 h];exact HDk.out
             · have:=HB.out;rw[Nat.pow_succ];omega
           case measure=>simp[intOf];omega
     · obtain rfl : k = s.size := by omega
       have ht:s.data.toList.take s.size=s.data.toList:=by rw[← HSl.out,List.take_length]
       rw[ht]at HN HD;have HU:=Lib.hid (HG.out HD.out);clear ht;go_wp2;go_ret;exact⟨by rw[HU.out,← HN.out];rfl,rfl⟩
 · go_enter Tryz.func68, Tryz.ntmps68; go_wp2
   go_loop [3,4] (fun v i=>g5A s v i) (fun _ i=>s.size - (intOf i).toNat)
   case atStart=>exact⟨0,0,Nat.zero_le _,rfl,rfl,rfl,(fun c hc=>by simp at hc),by decide⟩
   case round =>
     obtain⟨k,n,hk,rfl,rfl,hn,hd,hb⟩:=hrel;have hn9:n≤99:=by
      have h2:=HS2.out;have:k=0∨k=1∨k=2:=by omega
      rcases this with h | h | h<;>rw[h]at hb<;>omega
     have hn0:(0:Int)≤(n:Int):=by omega
     have hn9':(n:Int)≤99:=by omega
     have HN:=Lib.hid hn;have HD:=Lib.hid hd;have HB:=Lib.hid hb;clear hn hd hb hn9;by_cases hlt:k < s.size
     · have hc : s.data.toList[k]? = some s[k] := by rw [List.getElem?_eq_getElem (by have := HSl.out; omega)]; rfl
       have hm:s[k]∈s.data.toList:=List.mem_of_getElem? hc;have htk:s.data.toList.take (k+1)=s.data.toList.take k++[s[k]]:=by
        obtain⟨h1,h2⟩:=List.getElem?_eq_some_iff.1 hc;rw[List.take_succ_eq_append_getElem h1,h2]
       have HTk:=Lib.hid htk;have hdi:=nMA s[k];have hc255:((s[k]).toNat:Int)≤255:=by have:=(s[k]).toNat_lt;omega
       by_cases hlo:((s[k]).toNat:Int) < 48
       · have HU:=Lib.hid (vY hm (by rw[hdi];simp;omega));clear hc hm htk hdi;go_wp2;go_ret;exact⟨by rw[HU.out];rfl,rfl⟩
       · by_cases hhi : (57 : Int) < ((s[k]).toNat : Int)
         · have HU:=Lib.hid (vY hm (by rw[hdi];simp;omega));clear hc hm htk hdi;go_wp2;go_ret;exact⟨by rw[HU.out];rfl,rfl⟩
         · have HDk := Lib.hid (show l6 s[k] = true by rw [hdi]; simp; omega); have HIn := Lib.hid (show (48 : Int) ≤ ((s[k]).toNat : Int) ∧ ((s[k]).toNat : Int) ≤ 57 by omega); have hw8 : IntKind.u8.wrap (((s[k]).toNat : Int) - 48) = ((s[k]).toNat : Int) - 48 := by
            simp[IntKind.wrap,IntKind.bits,IntKind.signed];omega
           clear hc hm htk hdi;go_wp2
           go_round
           case rel =>
             have h5:=HIn.out;refine⟨k+1,n * 10+((s[k]).toNat - 48),by omega,by go_num,by congr 1;omega,?_,?_,?_⟩
             · rw[HTk.out,kHA,← HN.out]
             · intro c hc; rw [HTk.out] at hc; rcases List.mem_append.1 hc with h | h
               · exact HD.out c h
               · rw[List.mem_singleton.1 h];exact HDk.out
             · have:=HB.out;rw[Nat.pow_succ];omega
           case measure=>simp[intOf];omega
     · obtain rfl : k = s.size := by omega
       have ht:s.data.toList.take s.size=s.data.toList:=by rw[← HSl.out,List.take_length]
       rw[ht]at HN HD;have HU:=Lib.hid (HG.out HD.out);clear ht;go_wp2;go_ret;exact⟨by rw[HU.out,← HN.out];rfl,rfl⟩
end
section
variable {w0 : World}
theorem kwU(s:ByteArray):((pV s).2.2.2||(kT s).2)=kwW s:=by
 rw[fEA,eY];unfold kwW
 cases uM s with
 | none=>rfl
 | some y=>rfl
theorem gL(s:ByteArray):Calls Tryz.prog 14 #[.string s] w0 fun e w=>e = .returned (.bool (kwW s))∧Under w0 w:=by
 have HF:=Lib.hid (fun w=>mHA (w0:=w) s);have HL:=Lib.hid (fun w=>sU (w0:=w) s);have HK:=Lib.hid (kwU s);generalize pV s=a at *;generalize kT s=b at *;obtain⟨k1,n1,x1,a⟩:=a;obtain⟨k2,b⟩:=b;simp only at HF HL HK
 cases a
 all_goals cases b
 all_goals
  go_enter Tryz.func14,Tryz.ntmps14;go_wp2_with fail;refine(HF.out _).mono ?_;rintro e w1 ⟨rfl,hU1⟩;have HU1:=Lib.hid hU1;clear hU1;go_wp2_with fail;refine(HL.out _).mono ?_;rintro e w2 ⟨rfl,hU2⟩;have HU2:=Lib.hid ((aA HU1.out _).trans hU2);clear hU2;go_wp2;go_ret;exact⟨by rw[← HK.out];rfl,aA HU2.out _⟩
theorem gI(T:ST){q:Option Addr}{cap:Nat}(hn:(uA T).length≤1000000)(hq:SxArg w0 q (uA T)):Calls Tryz.prog 34 #[.slice q (uA T).length cap] w0 fun e w=>e = .returned (sxV T.last)∧Under w0 w:=by
 obtain⟨init,hi⟩:=bJ T;obtain⟨b,off,rfl,hb,ht⟩:=hq (by rw[hi];simp);obtain⟨c0,c1,c2⟩:=ht init.length T.last (by rw[hi];simp);have hl:(uA T).length=init.length+1:=by rw[hi];simp
 rw[hl]at hn ⊢;generalize T.last=x at *;generalize init.length=m at *;have hmi:((m:Int)+1 - 1)=(m:Int):=by omega
 have hm1:(m:Int)≤1000000:=by omega
 have hm0:(0:Int)≤(m:Int):=by omega
 clear hi ht hl hn;go_enter Tryz.func34,Tryz.ntmps34;go_wp2;refine bodyPost_ret (v:=sxV x) ?_ rfl ⟨rfl,aA (Under.refl _) _⟩;simp[results,Tryz.f34,go_sem,sxV]
theorem xXA{s:ByteArray}(h:(s.toList==[])=true):mH s=false:=by
 have:s.size=0:=by
  rw[ByteArray.toList_eq]at h;have h:s.data.toList=[]:=by simpa using h
  have h2:=congrArg List.length h;rw[Array.length_toList]at h2;exact h2
 unfold mH jD;simp[this]
theorem vR(T:ST){q:Option Addr}{cap:Nat}(hn:(uA T).length≤1000000)(hq:SxArg w0 q (uA T)):Calls Tryz.prog 67 #[.slice q (uA T).length cap] w0 fun e w=>e = .returned (.bool (mH T.last.word))∧Under w0 w:=by
 have HL:=Lib.hid (gI (cap:=cap) T hn hq);generalize T.last=x at *;obtain⟨m,p,s⟩:=x;simp only[sxV]at HL ⊢;have HNm:=Lib.hid (fun w=>jK (w0:=w) s);have HKw:=Lib.hid (fun w=>gL (w0:=w) s);have HKd:RowKit.Hid (mH s=(jD s && !kwW s)):=Lib.hid rfl;have HKe:=Lib.hid (fun h=>xXA (s:=s) h);generalize mH s=R at *;generalize jD s=a at *;generalize kwW s=b at *
 cases hs:(s.toList==[])
 · have he : s.toList.isEmpty = false := by
     cases h:s.toList with
     | nil=>rw[h]at hs;simp at hs
     | cons x l=>rfl
   have hne:¬ s.toList=[]:=by simpa using hs
   cases a
   · go_enter Tryz.func67,Tryz.ntmps67;go_wp2_with fail;refine HL.out.mono ?_;rintro e w1 ⟨rfl,hU1⟩;have HU1:=Lib.hid (aA hU1 (.cells #[.int .i64 m,.int .i64 p,.string s] 73));clear hU1;go_wp2_with fail;refine(HNm.out _).mono ?_;rintro e w2 ⟨rfl,rfl⟩;go_wp2;go_ret;exact⟨by rw[HKd.out];rfl,HU1.out⟩
   · go_enter Tryz.func67,Tryz.ntmps67;go_wp2_with fail;refine HL.out.mono ?_;rintro e w1 ⟨rfl,hU1⟩;have hB:=xA w1 #[.int .i64 m,.int .i64 p,.string s] 73;have HU1:=Lib.hid (aA hU1 (.cells #[.int .i64 m,.int .i64 p,.string s] 73));have HB:=Lib.hid hB;clear hU1 hB;go_wp2_with fail;refine(HNm.out _).mono ?_;rintro e w2 ⟨rfl,rfl⟩;go_wp2_with fail;refine(HKw.out _).mono ?_;rintro e w3 ⟨rfl,hU3⟩;have HU3:=Lib.hid (HU1.out.trans hU3);clear hU3;go_wp2;go_ret;exact⟨by rw[HKd.out];rfl,HU3.out⟩
 · have he : s.toList.isEmpty = true := by simpa using hs
   have hne:s.toList=[]:=by simpa using hs
   go_enter Tryz.func67,Tryz.ntmps67;go_wp2_with fail;refine HL.out.mono ?_;rintro e w1 ⟨rfl,hU1⟩;have HU1:=Lib.hid (aA hU1 (.cells #[.int .i64 m,.int .i64 p,.string s] 73));have HKf:=Lib.hid (HKe.out hs);clear hU1;go_wp2;go_ret;exact⟨by rw[HKf.out];rfl,HU1.out⟩
end
def bEA(w0:World)(R:Say)(e:Ending)(w:World):Prop:=Under w0 w∧match R with
 | .ok t=>∃ v,e = .returned (.tuple #[v,.agg #[.int .i64 0,.int .i64 0]])∧TermV w v t
 | .error (c,p)=>e = .returned (.tuple #[.slice none 0 0,.agg #[.int .i64 c,.int .i64 p]])
theorem oEA(w:World)(x:Nd):TermV (w.alloc (.cells #[.int .i64 x.k,.int .i64 x.n,.int .i64 x.m,.string x.s] 76)) (.slice (some ⟨w.heap.size,0,none⟩) 1 1) [x] :=
 ⟨_,1,rfl,Nat.le_refl _,(fun e=>by cases e),vBA w (lC [x]) _ _⟩
def f8A(w0:World)(st:List ByteArray)(s:ByteArray)(i:Value)(wr:World):Prop:=∃ k:Nat,k≤st.length∧i = .int .i64 (k:Int)∧uJ st s=((st.reverse.drop k).findIdx? fun x=>x.toList==s.toList).map (· + k)∧Under w0 wr
section
variable {w0 : World}
theorem uNA(x:Sx)(cs st:List ByteArray){cv dv bv:Value}{k:Int}(hl:qM x.word=some k) :
 Calls Tryz.prog 64 #[.agg #[cv,dv],sxV x,bv] w0 (bEA w0 (yF cs x.pos x.word st)):=by
 have hW:yF cs x.pos x.word st = .ok [⟨k,0,0,⟨#[]⟩⟩]:=by unfold yF;rw[hl]
 rw[hW];have HF:=Lib.hid (fun w=>sU (w0:=w) x.word);have hlu:kT x.word=(k,true):=by rw[eY,hl];rfl
 rw [hlu] at HF; clear hW hl hlu; obtain ⟨mm, pp, s⟩ := x; simp only at *; unfold sxV; simp only; have HX := Lib.hid (show BoxAt (((w0.alloc (.cells #[cv, dv] 35)).alloc (.cells #[.int .i64 mm, .int .i64 pp, .string s] 73)).alloc (.cells #[.int .i64 0, .int .i64 0] 70)) (w0.heap.size + 1) 73 #[.int .i64 mm, .int .i64 pp, .string s] from by
   have:=xA (w0.alloc (.cells #[cv,dv] 35)) #[.int .i64 mm,.int .i64 pp,.string s] 73;rw[World.size_alloc]at this;exact this.alloc _)
 have HNa := Lib.hid (show BoxAt (((w0.alloc (.cells #[cv, dv] 35)).alloc (.cells #[.int .i64 mm, .int .i64 pp, .string s] 73)).alloc (.cells #[.int .i64 0, .int .i64 0] 70)) w0.heap.size 35 #[cv, dv] from ((xA w0 _ _).alloc _).alloc _); have HFt := Lib.hid (show BoxAt (((w0.alloc (.cells #[cv, dv] 35)).alloc (.cells #[.int .i64 mm, .int .i64 pp, .string s] 73)).alloc (.cells #[.int .i64 0, .int .i64 0] 70)) (w0.heap.size + 1 + 1) 70 #[.int .i64 0, .int .i64 0] from by
   have:=xA ((w0.alloc (.cells #[cv,dv] 35)).alloc (.cells #[.int .i64 mm,.int .i64 pp,.string s] 73)) #[.int .i64 0,.int .i64 0] 70;rw[World.size_alloc,World.size_alloc]at this;exact this)
 have HUa:=Lib.hid (show Under w0 (((w0.alloc (.cells #[cv,dv] 35)).alloc (.cells #[.int .i64 mm,.int .i64 pp,.string s] 73)).alloc (.cells #[.int .i64 0,.int .i64 0] 70)) from aA (aA (aA (Under.refl _) _) _) _);go_enter Tryz.func64,Tryz.ntmps64;go_wp2_with fail;generalize ((w0.alloc (.cells #[cv,dv] 35)).alloc (.cells #[.int .i64 mm,.int .i64 pp,.string s] 73)).alloc (.cells #[.int .i64 0,.int .i64 0] 70)=wA at *;refine(HF.out _).mono ?_;rintro e w1 ⟨rfl,hU1⟩;have HX1:=Lib.hid (HX.out.under (aA hU1 (.cells #[.int .i64 (k),.int .i64 0,.int .i64 0,.string ⟨#[]⟩] 76)));have HN1:=Lib.hid (HNa.out.under (aA hU1 (.cells #[.int .i64 (k),.int .i64 0,.int .i64 0,.string ⟨#[]⟩] 76)));have HF1:=Lib.hid (HFt.out.under (aA hU1 (.cells #[.int .i64 (k),.int .i64 0,.int .i64 0,.string ⟨#[]⟩] 76)));have HU1:=Lib.hid (HUa.out.trans (aA hU1 (.cells #[.int .i64 (k),.int .i64 0,.int .i64 0,.string ⟨#[]⟩] 76)));have HB1:=Lib.hid (xA w1 #[.int .i64 (k),.int .i64 0,.int .i64 0,.string ⟨#[]⟩] 76);have x0:=HX1.out.cell 0;have x1:(w1.alloc (.cells #[.int .i64 (k),.int .i64 0,.int .i64 0,.string ⟨#[]⟩] 76)).cell? ⟨w0.heap.size+1,1,none⟩=some (.int .i64 pp):=HX1.out.cell 1;have x2:(w1.alloc (.cells #[.int .i64 (k),.int .i64 0,.int .i64 0,.string ⟨#[]⟩] 76)).cell? ⟨w0.heap.size+1,2,none⟩=some (.string s):=HX1.out.cell 2;have xl:=HX1.out.lt;have xl2:w0.heap.size+1 < w1.heap.size+1:=by simpa using xl
 have f0:(w1.alloc (.cells #[.int .i64 (k),.int .i64 0,.int .i64 0,.string ⟨#[]⟩] 76)).cell? ⟨w0.heap.size+1+1,0,none⟩=some (.int .i64 0):=HF1.out.cell 0;have f1:(w1.alloc (.cells #[.int .i64 (k),.int .i64 0,.int .i64 0,.string ⟨#[]⟩] 76)).cell? ⟨w0.heap.size+1+1,1,none⟩=some (.int .i64 0):=HF1.out.cell 1;have fl:=HF1.out.lt;have fl2:w0.heap.size+1+1 < w1.heap.size+1:=by simpa using fl
 have ff0:=HF1.out.free 0;have ff1:=HF1.out.free 1;clear hU1 HX HNa HFt HUa HF;go_wp2;have hlow:w0.heap.size≤w0.heap.size+1+1:=by omega
 obtain⟨wC,hC⟩:∃ z,z=((w1.alloc (.cells #[.int .i64 k,.int .i64 0,.int .i64 0,.string ⟨#[]⟩] 76)).setCell ⟨w0.heap.size+1+1,0,none⟩ (.int .i64 0)).setCell ⟨w0.heap.size+1+1,1,none⟩ (.int .i64 0):=⟨_,rfl⟩;have hsz:wC.heap.size=w1.heap.size+1:=by rw[hC,pJ,pJ];exact World.size_alloc ..
 have hFE:BoxAt wC (w0.heap.size+1+1) 70 #[.int .i64 0,.int .i64 0]:=by rw[hC];exact(HF1.out.set 0 (.int .i64 0)).set 1 (.int .i64 0)
 have hUE:Under w0 wC:=by rw[hC];exact qA (qA HU1.out hlow 0 (.int .i64 0)) hlow 1 (.int .i64 0)
 rw[← hC];clear hC;have hTE:=oEA wC ⟨k,0,0,⟨#[]⟩⟩;have hFE2:=hFE.alloc (.cells #[.int .i64 (k),.int .i64 (0),.int .i64 (0),.string ⟨#[]⟩] 76);have hUE2:=aA hUE (.cells #[.int .i64 (k),.int .i64 (0),.int .i64 (0),.string ⟨#[]⟩] 76);rw[hsz]at hTE;have e0:(wC.alloc (.cells #[.int .i64 (k),.int .i64 (0),.int .i64 (0),.string ⟨#[]⟩] 76)).cell? ⟨w0.heap.size+1+1,0,none⟩=some (.int .i64 0):=hFE2.cell 0;have e1:(wC.alloc (.cells #[.int .i64 (k),.int .i64 (0),.int .i64 (0),.string ⟨#[]⟩] 76)).cell? ⟨w0.heap.size+1+1,1,none⟩=some (.int .i64 0):=hFE2.cell 1;generalize wC.alloc (.cells #[.int .i64 (k),.int .i64 (0),.int .i64 (0),.string ⟨#[]⟩] 76)=wE at *;refine bodyPost_ret (v:=.tuple #[.slice (some ⟨w1.heap.size+1,0,none⟩) 1 1,.agg #[.int .i64 0,.int .i64 0]]) ((dC rfl _ _ _).trans ?_) rfl ⟨hUE2,⟨_,rfl,hTE⟩⟩;simp[go_sem,e0,e1]
end
section
variable {w0 : World}
theorem pOA(x:Sx)(cs st:List ByteArray){cv dv bv:Value}(hl:qM x.word=none)(hk:mH x.word=false) :
 Calls Tryz.prog 64 #[.agg #[cv,dv],sxV x,bv] w0 (bEA w0 (yF cs x.pos x.word st)):=by
 have hW:yF cs x.pos x.word st = .error (71,x.pos):=by simp[yF,hl,hk]
 rw[hW];have HF:=Lib.hid (fun w=>sU (w0:=w) x.word);have hlu:kT x.word=(0,false):=by rw[eY,hl];rfl
 rw[hlu]at HF;have HNm:=Lib.hid (fun w=>jK (w0:=w) x.word);have HKw:=Lib.hid (fun w=>gL (w0:=w) x.word);have hnk:jD x.word=false∨(jD x.word=true∧kwW x.word=true):=by
  unfold mH at hk
  cases h:jD x.word
  · exact .inl rfl
  · rw[h]at hk;exact .inr ⟨rfl,by simpa using hk⟩
 clear hW hl hlu hk;rcases hnk with ha | ⟨ha,hb⟩
 · rw [ha] at HNm; clear ha; obtain ⟨mm, pp, s⟩ := x; simp only at *; unfold sxV; simp only; have HX := Lib.hid (show BoxAt (((w0.alloc (.cells #[cv, dv] 35)).alloc (.cells #[.int .i64 mm, .int .i64 pp, .string s] 73)).alloc (.cells #[.int .i64 0, .int .i64 0] 70)) (w0.heap.size + 1) 73 #[.int .i64 mm, .int .i64 pp, .string s] from by
     have:=xA (w0.alloc (.cells #[cv,dv] 35)) #[.int .i64 mm,.int .i64 pp,.string s] 73;rw[World.size_alloc]at this;exact this.alloc _)
   have HNa := Lib.hid (show BoxAt (((w0.alloc (.cells #[cv, dv] 35)).alloc (.cells #[.int .i64 mm, .int .i64 pp, .string s] 73)).alloc (.cells #[.int .i64 0, .int .i64 0] 70)) w0.heap.size 35 #[cv, dv] from ((xA w0 _ _).alloc _).alloc _); have HFt := Lib.hid (show BoxAt (((w0.alloc (.cells #[cv, dv] 35)).alloc (.cells #[.int .i64 mm, .int .i64 pp, .string s] 73)).alloc (.cells #[.int .i64 0, .int .i64 0] 70)) (w0.heap.size + 1 + 1) 70 #[.int .i64 0, .int .i64 0] from by
     have:=xA ((w0.alloc (.cells #[cv,dv] 35)).alloc (.cells #[.int .i64 mm,.int .i64 pp,.string s] 73)) #[.int .i64 0,.int .i64 0] 70;rw[World.size_alloc,World.size_alloc]at this;exact this)
   have HUa:=Lib.hid (show Under w0 (((w0.alloc (.cells #[cv,dv] 35)).alloc (.cells #[.int .i64 mm,.int .i64 pp,.string s] 73)).alloc (.cells #[.int .i64 0,.int .i64 0] 70)) from aA (aA (aA (Under.refl _) _) _) _);go_enter Tryz.func64,Tryz.ntmps64;go_wp2_with fail;generalize ((w0.alloc (.cells #[cv,dv] 35)).alloc (.cells #[.int .i64 mm,.int .i64 pp,.string s] 73)).alloc (.cells #[.int .i64 0,.int .i64 0] 70)=wA at *;refine(HF.out _).mono ?_;rintro e w1 ⟨rfl,hU1⟩;have HX1:=Lib.hid (HX.out.under (aA hU1 (.cells #[.int .i64 (0),.int .i64 0,.int .i64 0,.string ⟨#[]⟩] 76)));have HN1:=Lib.hid (HNa.out.under (aA hU1 (.cells #[.int .i64 (0),.int .i64 0,.int .i64 0,.string ⟨#[]⟩] 76)));have HF1:=Lib.hid (HFt.out.under (aA hU1 (.cells #[.int .i64 (0),.int .i64 0,.int .i64 0,.string ⟨#[]⟩] 76)));have HU1:=Lib.hid (HUa.out.trans (aA hU1 (.cells #[.int .i64 (0),.int .i64 0,.int .i64 0,.string ⟨#[]⟩] 76)));have HB1:=Lib.hid (xA w1 #[.int .i64 (0),.int .i64 0,.int .i64 0,.string ⟨#[]⟩] 76);have x0:=HX1.out.cell 0;have x1:(w1.alloc (.cells #[.int .i64 (0),.int .i64 0,.int .i64 0,.string ⟨#[]⟩] 76)).cell? ⟨w0.heap.size+1,1,none⟩=some (.int .i64 pp):=HX1.out.cell 1;have x2:(w1.alloc (.cells #[.int .i64 (0),.int .i64 0,.int .i64 0,.string ⟨#[]⟩] 76)).cell? ⟨w0.heap.size+1,2,none⟩=some (.string s):=HX1.out.cell 2;have xl:=HX1.out.lt;have xl2:w0.heap.size+1 < w1.heap.size+1:=by simpa using xl
   have f0:(w1.alloc (.cells #[.int .i64 (0),.int .i64 0,.int .i64 0,.string ⟨#[]⟩] 76)).cell? ⟨w0.heap.size+1+1,0,none⟩=some (.int .i64 0):=HF1.out.cell 0;have f1:(w1.alloc (.cells #[.int .i64 (0),.int .i64 0,.int .i64 0,.string ⟨#[]⟩] 76)).cell? ⟨w0.heap.size+1+1,1,none⟩=some (.int .i64 0):=HF1.out.cell 1;have fl:=HF1.out.lt;have fl2:w0.heap.size+1+1 < w1.heap.size+1:=by simpa using fl
   have ff0 := HF1.out.free 0; have ff1 := HF1.out.free 1; clear hU1 HX HNa HFt HUa HF; go_wp2_with fail; generalize w1.alloc (.cells #[.int .i64 0, .int .i64 0, .int .i64 0, .string ⟨#[]⟩] 76) = wN at *; clear fl2 xl2; refine (HNm.out _).mono ?_; rintro e w2 ⟨rfl, rfl⟩; go_wp2_with fail; go_region_held3 (fun w' => w'.cell? ⟨w0.heap.size + 1, 1, none⟩ = some (.int .i64 pp))
     (first
       | exact x1
       | go_keep)
     (fail)
   rename_i hHeld;clear hHeld;go_wp2;have hlow:w0.heap.size≤w0.heap.size+1+1:=by omega
   have hFE:=(HF1.out.set 0 (.int .i64 (71))).set 1 (.int .i64 pp);have hUE:=bA (qA (qA HU1.out hlow 0 (.int .i64 (71))) hlow 1 (.int .i64 pp));have e0:((w2.setCell ⟨w0.heap.size+1+1,0,none⟩ (.int .i64 (71))).setCell ⟨w0.heap.size+1+1,1,none⟩ (.int .i64 pp)).cell? ⟨w0.heap.size+1+1,0,none⟩=some (.int .i64 (71)):=hFE.cell 0;have e1:((w2.setCell ⟨w0.heap.size+1+1,0,none⟩ (.int .i64 (71))).setCell ⟨w0.heap.size+1+1,1,none⟩ (.int .i64 pp)).cell? ⟨w0.heap.size+1+1,1,none⟩=some (.int .i64 pp):=hFE.cell 1;generalize (w2.setCell ⟨w0.heap.size+1+1,0,none⟩ (.int .i64 (71))).setCell ⟨w0.heap.size+1+1,1,none⟩ (.int .i64 pp)=wE at *;refine bodyPost_ret (v:=.tuple #[.slice none 0 0,.agg #[.int .i64 (71),.int .i64 pp]]) ((dC rfl _ _ _).trans ?_) rfl ⟨hUE,rfl⟩;simp[go_sem,e0,e1]
 · rw [ha] at HNm; rw [hb] at HKw; clear ha hb; obtain ⟨mm, pp, s⟩ := x; simp only at *; unfold sxV; simp only; have HX := Lib.hid (show BoxAt (((w0.alloc (.cells #[cv, dv] 35)).alloc (.cells #[.int .i64 mm, .int .i64 pp, .string s] 73)).alloc (.cells #[.int .i64 0, .int .i64 0] 70)) (w0.heap.size + 1) 73 #[.int .i64 mm, .int .i64 pp, .string s] from by
     have:=xA (w0.alloc (.cells #[cv,dv] 35)) #[.int .i64 mm,.int .i64 pp,.string s] 73;rw[World.size_alloc]at this;exact this.alloc _)
   have HNa := Lib.hid (show BoxAt (((w0.alloc (.cells #[cv, dv] 35)).alloc (.cells #[.int .i64 mm, .int .i64 pp, .string s] 73)).alloc (.cells #[.int .i64 0, .int .i64 0] 70)) w0.heap.size 35 #[cv, dv] from ((xA w0 _ _).alloc _).alloc _); have HFt := Lib.hid (show BoxAt (((w0.alloc (.cells #[cv, dv] 35)).alloc (.cells #[.int .i64 mm, .int .i64 pp, .string s] 73)).alloc (.cells #[.int .i64 0, .int .i64 0] 70)) (w0.heap.size + 1 + 1) 70 #[.int .i64 0, .int .i64 0] from by
     have:=xA ((w0.alloc (.cells #[cv,dv] 35)).alloc (.cells #[.int .i64 mm,.int .i64 pp,.string s] 73)) #[.int .i64 0,.int .i64 0] 70;rw[World.size_alloc,World.size_alloc]at this;exact this)
   have HUa:=Lib.hid (show Under w0 (((w0.alloc (.cells #[cv,dv] 35)).alloc (.cells #[.int .i64 mm,.int .i64 pp,.string s] 73)).alloc (.cells #[.int .i64 0,.int .i64 0] 70)) from aA (aA (aA (Under.refl _) _) _) _);go_enter Tryz.func64,Tryz.ntmps64;go_wp2_with fail;generalize ((w0.alloc (.cells #[cv,dv] 35)).alloc (.cells #[.int .i64 mm,.int .i64 pp,.string s] 73)).alloc (.cells #[.int .i64 0,.int .i64 0] 70)=wA at *;refine(HF.out _).mono ?_;rintro e w1 ⟨rfl,hU1⟩;have HX1:=Lib.hid (HX.out.under (aA hU1 (.cells #[.int .i64 (0),.int .i64 0,.int .i64 0,.string ⟨#[]⟩] 76)));have HN1:=Lib.hid (HNa.out.under (aA hU1 (.cells #[.int .i64 (0),.int .i64 0,.int .i64 0,.string ⟨#[]⟩] 76)));have HF1:=Lib.hid (HFt.out.under (aA hU1 (.cells #[.int .i64 (0),.int .i64 0,.int .i64 0,.string ⟨#[]⟩] 76)));have HU1:=Lib.hid (HUa.out.trans (aA hU1 (.cells #[.int .i64 (0),.int .i64 0,.int .i64 0,.string ⟨#[]⟩] 76)));have HB1:=Lib.hid (xA w1 #[.int .i64 (0),.int .i64 0,.int .i64 0,.string ⟨#[]⟩] 76);have x0:=HX1.out.cell 0;have x1:(w1.alloc (.cells #[.int .i64 (0),.int .i64 0,.int .i64 0,.string ⟨#[]⟩] 76)).cell? ⟨w0.heap.size+1,1,none⟩=some (.int .i64 pp):=HX1.out.cell 1;have x2:(w1.alloc (.cells #[.int .i64 (0),.int .i64 0,.int .i64 0,.string ⟨#[]⟩] 76)).cell? ⟨w0.heap.size+1,2,none⟩=some (.string s):=HX1.out.cell 2;have xl:=HX1.out.lt;have xl2:w0.heap.size+1 < w1.heap.size+1:=by simpa using xl
   have f0:(w1.alloc (.cells #[.int .i64 (0),.int .i64 0,.int .i64 0,.string ⟨#[]⟩] 76)).cell? ⟨w0.heap.size+1+1,0,none⟩=some (.int .i64 0):=HF1.out.cell 0;have f1:(w1.alloc (.cells #[.int .i64 (0),.int .i64 0,.int .i64 0,.string ⟨#[]⟩] 76)).cell? ⟨w0.heap.size+1+1,1,none⟩=some (.int .i64 0):=HF1.out.cell 1;have fl:=HF1.out.lt;have fl2:w0.heap.size+1+1 < w1.heap.size+1:=by simpa using fl
   have ff0 := HF1.out.free 0; have ff1 := HF1.out.free 1; clear hU1 HX HNa HFt HUa HF; go_wp2_with fail; generalize w1.alloc (.cells #[.int .i64 0, .int .i64 0, .int .i64 0, .string ⟨#[]⟩] 76) = wN at *; clear fl2 xl2; refine (HNm.out _).mono ?_; rintro e w2 ⟨rfl, rfl⟩; go_wp2_with fail; refine (HKw.out _).mono ?_; rintro e w3 ⟨rfl, hU3⟩; have HX1 := Lib.hid (HX1.out.under hU3); have HN1 := Lib.hid (HN1.out.under hU3); have HF1 := Lib.hid (HF1.out.under hU3); have HU1 := Lib.hid (HU1.out.trans hU3); have x0 := HX1.out.cell 0; have x1 : w3.cell? ⟨w0.heap.size + 1, 1, none⟩ = some (.int .i64 pp) := HX1.out.cell 1; have x2 : w3.cell? ⟨w0.heap.size + 1, 2, none⟩ = some (.string s) := HX1.out.cell 2; have xl := HX1.out.lt; have f0 : w3.cell? ⟨w0.heap.size + 1 + 1, 0, none⟩ = some (.int .i64 0) := HF1.out.cell 0; have f1 : w3.cell? ⟨w0.heap.size + 1 + 1, 1, none⟩ = some (.int .i64 0) := HF1.out.cell 1; have fl := HF1.out.lt; have ff0 := HF1.out.free 0; have ff1 := HF1.out.free 1; clear hU3; go_wp2_with fail; go_region_held3 (fun w' => w'.cell? ⟨w0.heap.size + 1, 1, none⟩ = some (.int .i64 pp))
     (first
       | exact x1
       | go_keep)
     (fail)
   rename_i hHeld;clear hHeld;go_wp2;have hlow:w0.heap.size≤w0.heap.size+1+1:=by omega
   have hFE:=(HF1.out.set 0 (.int .i64 (71))).set 1 (.int .i64 pp);have hUE:=bA (qA (qA HU1.out hlow 0 (.int .i64 (71))) hlow 1 (.int .i64 pp));have e0:((w3.setCell ⟨w0.heap.size+1+1,0,none⟩ (.int .i64 (71))).setCell ⟨w0.heap.size+1+1,1,none⟩ (.int .i64 pp)).cell? ⟨w0.heap.size+1+1,0,none⟩=some (.int .i64 (71)):=hFE.cell 0;have e1:((w3.setCell ⟨w0.heap.size+1+1,0,none⟩ (.int .i64 (71))).setCell ⟨w0.heap.size+1+1,1,none⟩ (.int .i64 pp)).cell? ⟨w0.heap.size+1+1,1,none⟩=some (.int .i64 pp):=hFE.cell 1;generalize (w3.setCell ⟨w0.heap.size+1+1,0,none⟩ (.int .i64 (71))).setCell ⟨w0.heap.size+1+1,1,none⟩ (.int .i64 pp)=wE at *;refine bodyPost_ret (v:=.tuple #[.slice none 0 0,.agg #[.int .i64 (71),.int .i64 pp]]) ((dC rfl _ _ _).trans ?_) rfl ⟨hUE,rfl⟩;simp[go_sem,e0,e1]
end
end Go.Proofs.YtlnlpdephijcoaaGreatDoor
