/- Part 25 of what the proof rests on. -/
import Derived.Lib.SlBytesRow
import Derived.Lib.BufferRead
import Derived.Lib.ItoaLen
import Derived.Deep.AppendLies
import Derived.Deep.RegionHeld3
import Derived.Lib.SliceRun
import Derived.Test.YtlnlpdephijcoaaGreatDoorL00
import Derived.Test.YtlnlpdephijcoaaGreatDoorL01
import Derived.Test.YtlnlpdephijcoaaGreatDoorL13
import Derived.Test.YtlnlpdephijcoaaGreatDoorL16
import Derived.Test.YtlnlpdephijcoaaGreatDoorL23
set_option linter.unusedSimpArgs false
set_option linter.unusedVariables false
set_option maxRecDepth 100000
set_option maxHeartbeats 4000000
namespace Go.Proofs.YtlnlpdephijcoaaGreatDoor
open Go.Lx Go.RowKit
def rM(L n:Nat)(c:UInt8):List UInt8:=if c=42 then List.replicate (n+1 - L) c else [c]
theorem oNA(l:List UInt8)(n:Nat):yA l n=l.flatMap (rM l.length n):=rfl
theorem dIA(l:List UInt8)(L n k:Nat)(c:UInt8)(hk:l[k]? = some c):(l.take (k+1)).flatMap (rM L n)=(l.take k).flatMap (rM L n)++rM L n c:=by
 obtain⟨h1,h2⟩:=List.getElem?_eq_some_iff.1 hk;rw[List.take_succ_eq_append_getElem h1,List.flatMap_append,h2];simp
theorem tSA(L n:Nat)(c:UInt8):(rM L n c).length≤n+1:=by
 unfold rM
 split
 · rw[List.length_replicate];omega
 · simp
theorem yP (L n : Nat) : ∀ l : List UInt8, (l.flatMap (rM L n)).length ≤ l.length * (n + 1)
  | []=>by simp
  | c :: l => by
    rw[List.flatMap_cons,List.length_append,List.length_cons];have h1:=tSA L n c;have h2:=yP L n l;rw[Nat.add_mul];omega
def kM(l:List UInt8):List Value:=l.map fun c=>.int .u8 (c.toNat:Int)
theorem yAA(a b:List UInt8):kM (a++b)=kM a++kM b:=List.map_append
theorem Tryz.infoU8:(Tryz.prog.info? 5).map (fun i=>(i.zero,i.size,i.bytes))=some (some (.int .u8 0),1,1):=by kernel_rfl
theorem qVA{w:World}{base n:Nat}{e:TypeId}{g c:Nat}{l:List UInt8}(h:w.ownsRow base e 1 (.slice (some ⟨g,0,none⟩) n c) n (kM l)):Lib.Bytes w g 0 ⟨l.toArray⟩:=by
 intro i hi;have hi':i < l.length:=by simpa [ByteArray.size] using hi
 have:(kM l)[i]? = some (.int .u8 (l[i].toNat:Int)):=by unfold kM;rw[List.getElem?_map,List.getElem?_eq_getElem hi'];rfl
 rw[Nat.zero_add,kD h rfl this];rfl
def d9A(w0:World)(s:ByteArray)(n:Nat)(v i:Value)(wr:World):Prop :=
 ∃ k N:Nat,k≤s.size∧i = .int .i64 (k:Int)∧N=((s.data.toList.take k).flatMap (rM s.size n)).length∧wr.ownsRow w0.heap.size 5 1 v N (kM ((s.data.toList.take k).flatMap (rM s.size n)))∧Under w0 wr
def g9A(w0:World)(pre:List UInt8)(c:UInt8)(m:Int)(v i:Value)(wr:World):Prop :=
 ∃ j N:Nat,((j:Int)≤m∨j=0)∧i = .int .i64 (j:Int)∧N=(pre++List.replicate j c).length∧wr.ownsRow w0.heap.size 5 1 v N (kM (pre++List.replicate j c))∧Under w0 wr
section
variable {w0 : World}
theorem qGA(k0 n0 m0:Int)(x0 s:ByteArray)(n:Nat)(hs:s.size≤20)(hn:n≤100000) :
 Calls Tryz.prog 58 #[.agg #[.int .i64 k0,.int .i64 n0,.int .i64 m0,.string x0,.string s],.int .i64 (n:Int)] w0 fun e w=>e = .returned (.tuple #[.string ⟨(yA s.data.toList n).toArray⟩,.bool (decide ((yA s.data.toList n).length=n))])∧Under w0 w:=by
 obtain⟨i0,hi,hz0,hz1,hz2⟩:=info_parts Tryz.infoU8;have hsl:s.data.toList.length=s.size:=by rw[Array.length_toList];rfl
 have hB:=xA w0 #[.int .i64 k0,.int .i64 n0,.int .i64 m0,.string x0,.string s] 114;have hU0:=aA (Under.refl w0) (.cells #[.int .i64 k0,.int .i64 n0,.int .i64 m0,.string x0,.string s] 114);have hsz0:(w0.alloc (.cells #[.int .i64 k0,.int .i64 n0,.int .i64 m0,.string x0,.string s] 114)).heap.size=w0.heap.size+1:=by simp
 have HSp:RowKit.Hid (yA s.data.toList n=(s.data.toList.take s.size).flatMap (rM s.size n)):=Lib.hid (by rw[oNA,← hsl,List.take_length]);generalize yA s.data.toList n=R at *;obtain⟨b0,hb0⟩:∃ b,b=w0.heap.size:=⟨_,rfl⟩;have HU0:=Lib.hid hU0;have HB:=Lib.hid hB;have HS0:=Lib.hid hsz0;have hn0:(0:Int)≤(n:Int):=by omega
 have hn9:(n:Int)≤100000:=by omega
 have hs9:(s.size:Int)≤20:=by omega
 have hs0:(0:Int)≤(s.size:Int):=by omega
 clear hU0 hB hsz0 hb0 b0;go_enter Tryz.func58,Tryz.ntmps58;go_wp2;obtain⟨W1,hW1⟩:∃ W,W=w0.alloc (.cells #[.int .i64 k0,.int .i64 n0,.int .i64 m0,.string x0,.string s] 114):=⟨_,rfl⟩;rw[← hW1]at HU0 HB HS0;rw[← hW1];clear hW1;go_loopw [6,12] (fun v i wr=>d9A W1 s n v i wr) (fun _ i _=>s.size - (intOf i).toNat)
 case atStart=>exact⟨0,0,Nat.zero_le _,rfl,rfl,World.ownsRow_nil _ _ _ _,Under.refl _⟩
 case round =>
   obtain⟨k,N,hk,rfl,hN,hown,hU⟩:=hrel;have hBw:=HB.out.under hU;have b4:=hBw.cell 4;have blt:=hBw.lt;have HUr:=Lib.hid hU;have HO:=Lib.hid hown;have HN:=Lib.hid hN;clear hU hown hN;by_cases hlt:k < s.size
   · have hk' : s.data.toList[k]? = some s[k] := by rw [List.getElem?_eq_getElem (by omega)]; rfl
     have HT:=Lib.hid (dIA s.data.toList s.size n k s[k] hk');have hNl:N≤20 * 100001:=by
      rw[HN.out];refine Nat.le_trans (yP s.size n _) ?_;refine Nat.mul_le_mul ?_ (by omega);rw[List.length_take];omega
     obtain⟨pre,hpre⟩:∃ pre,pre=(s.data.toList.take k).flatMap (rM s.size n):=⟨_,rfl⟩;rw[← hpre]at HT HO HN;clear hk' hpre
     cases hc:(((s[k]).toNat:Int)==42)
     · have HMy : RowKit.Hid (rM s.size n s[k] = List.replicate 1 s[k]) := Lib.hid (by
         have:s[k]≠42:=fun e=>by rw[e]at hc;exact absurd hc (by decide)
         unfold rM;rw[if_neg this];rfl)
       go_wp2;go_loopw [6,27] (fun v i wr=>g9A W1 pre s[k] 1 v i wr) (fun _ i _=>(1:Int).toNat - (intOf i).toNat)
       case atStart=>exact⟨0,N,.inr rfl,rfl,by rw[HN.out];simp,by simpa using HO.out,HUr.out⟩
       case round =>
         obtain⟨j,N2,hj,rfl,hN2,hown2,hU2⟩:=hrel;have hBw2:=HB.out.under hU2;have b4:=hBw2.cell 4;have blt:=hBw2.lt;have HU2:=Lib.hid hU2;have HO2:=Lib.hid hown2;have HN2:=Lib.hid hN2;clear hU2 hown2 hN2 hBw2;by_cases hjm:(j:Int) < (1:Int)
         · have hN2l : N2 ≤ 2200120 := by rw [HN2.out, List.length_append, ← HN.out, List.length_replicate]; omega
           have hmx:N2+1≤maxLen:=by simp only[maxLen];omega
           have hby:(N2+1) * 1≤140737488355328:=by omega
           go_wp2_with (at_builtin;refine wpList_append_own_at _ rfl _ _ 161 rfl W1.heap.size 5 i0 _ 1 1 Tryz.underlying161 hi hz0 hz1 hz2 rfl (by decide) _ _ _ rfl (HO2.out.alloc _) ⟨wr.heap.size,0,none⟩ 1 1 [.int .u8 (s[k].toNat:Int)] rfl rfl ?c1 ?c2 hmx hby ?c5 ?_)
           case c1 =>
             intro j u hj
             match j,hj with
             | 0,hj=>cases hj;simp[Addr.add]
           case c2=>intro u hu;simp at hu;subst hu;rfl
           case c5=>have:=HU2.out.size;simp;omega
           intro v' w' hown hgrow hnil hat;have HW:=Lib.hid hown;have HU3:=Lib.hid (bB (aA HU2.out _) hgrow fun g e=>(iC HO2.out e).1);clear hown hgrow hnil hat;go_wp2;go_roundw
           case rel =>
             refine⟨j+1,N2+1,by omega,by go_num,?_,?_,HU3.out⟩
             · rw[HN2.out,List.replicate_succ'];simp[Nat.add_assoc]
             · have := HW.out; rw [List.replicate_succ', ← List.append_assoc, yAA]
               simpa [kM] using this
           case measure=>simp[intOf];omega
         · go_wp2; go_roundw
           case rel =>
             have hj':rM s.size n s[k]=List.replicate j s[k]:=by
              rw[HMy.out];congr 1
              omega
             refine⟨k+1,N2,by omega,by go_num,?_,?_,HU2.out⟩
             · rw[HT.out,hj',HN2.out]
             · rw[HT.out,hj'];exact HO2.out
           case measure=>simp[intOf];omega
     · have HMy : RowKit.Hid (rM s.size n s[k] = List.replicate (n + 1 - s.size) s[k]) := Lib.hid (by
         have:s[k]=42:=by
          have h2:(s[k]).toNat=42:=by have:=beq_iff_eq.1 hc;omega
          exact UInt8.toNat_inj.1 h2
         unfold rM;rw[if_pos this])
       go_wp2;go_loopw [6,27] (fun v i wr=>g9A W1 pre s[k] ((n:Int) - (s.size:Int)+1) v i wr) (fun _ i _=>(((n:Int) - (s.size:Int)+1):Int).toNat - (intOf i).toNat)
       case atStart=>exact⟨0,N,.inr rfl,rfl,by rw[HN.out];simp,by simpa using HO.out,HUr.out⟩
       case round =>
         obtain⟨j,N2,hj,rfl,hN2,hown2,hU2⟩:=hrel;have hBw2:=HB.out.under hU2;have b4:=hBw2.cell 4;have blt:=hBw2.lt;have HU2:=Lib.hid hU2;have HO2:=Lib.hid hown2;have HN2:=Lib.hid hN2;clear hU2 hown2 hN2 hBw2;by_cases hjm:(j:Int) < (((n:Int) - (s.size:Int)+1):Int)
         · have hN2l : N2 ≤ 2200120 := by rw [HN2.out, List.length_append, ← HN.out, List.length_replicate]; omega
           have hmx:N2+1≤maxLen:=by simp only[maxLen];omega
           have hby:(N2+1) * 1≤140737488355328:=by omega
           go_wp2_with (at_builtin;refine wpList_append_own_at _ rfl _ _ 161 rfl W1.heap.size 5 i0 _ 1 1 Tryz.underlying161 hi hz0 hz1 hz2 rfl (by decide) _ _ _ rfl (HO2.out.alloc _) ⟨wr.heap.size,0,none⟩ 1 1 [.int .u8 (s[k].toNat:Int)] rfl rfl ?c1 ?c2 hmx hby ?c5 ?_)
           case c1 =>
             intro j u hj
             match j,hj with
             | 0,hj=>cases hj;simp[Addr.add]
           case c2=>intro u hu;simp at hu;subst hu;rfl
           case c5=>have:=HU2.out.size;simp;omega
           intro v' w' hown hgrow hnil hat;have HW:=Lib.hid hown;have HU3:=Lib.hid (bB (aA HU2.out _) hgrow fun g e=>(iC HO2.out e).1);clear hown hgrow hnil hat;go_wp2;go_roundw
           case rel =>
             refine⟨j+1,N2+1,by omega,by go_num,?_,?_,HU3.out⟩
             · rw[HN2.out,List.replicate_succ'];simp[Nat.add_assoc]
             · have := HW.out; rw [List.replicate_succ', ← List.append_assoc, yAA]
               simpa [kM] using this
           case measure=>simp[intOf];omega
         · go_wp2; go_roundw
           case rel =>
             have hj':rM s.size n s[k]=List.replicate j s[k]:=by
              rw[HMy.out];congr 1
              omega
             refine⟨k+1,N2,by omega,by go_num,?_,?_,HU2.out⟩
             · rw[HT.out,hj',HN2.out]
             · rw[HT.out,hj'];exact HO2.out
           case measure=>simp[intOf];omega
   · obtain rfl : k = s.size := by omega
     rw[← HSp.out]at HO HN;have hR:R.length=N:=HN.out.symm;have HRe:=Lib.hid (show(R.length=n)=((N:Int)=(n:Int)) by rw[hR];simp;omega);have hNl:N≤20 * 100001:=by
      rw[HN.out,HSp.out];refine Nat.le_trans (yP s.size n _) ?_;refine Nat.mul_le_mul ?_ (by omega);rw[List.length_take];omega
     have hown:=HO.out;have hbs:∀ g c,u6 = .slice (some ⟨g,0,none⟩) N c→Lib.Bytes wr g 0 ⟨R.toArray⟩:=fun g c e=>by subst e;exact qVA hown
     rcases hown.2 with⟨rfl,h0⟩ | ⟨g,c,cur,rfl,_,hg,h1,h2,_⟩
     · have hR0:R=[]:=List.eq_nil_of_length_eq_zero (by omega);have HR0:=Lib.hid hR0;subst h0;clear hR hbs hown;have hcv:=Lib.run_convert_nil_bytes (P:=Tryz.prog) wr 161 9 5 0 Tryz.underlying161 Tryz.underlying5 Tryz.underlying9;go_wp2;go_ret2;exact⟨by rw[HR0.out];simp;rw[Bool.eq_iff_iff];simp;omega,HU0.out.trans HUr.out⟩
     · have hsz : (⟨R.toArray⟩ : ByteArray).size = N := by rw [← hR]; simp [ByteArray.size]
       have hcv:=Lib.run_convert_whole (P:=Tryz.prog) wr 161 5 9 Tryz.underlying161 Tryz.underlying5 Tryz.underlying9 g 0 ⟨R.toArray⟩ (hbs g c rfl) c;rw[hsz]at hcv;clear hR hbs hown hsz hg;go_wp2;go_ret2;exact⟨by simp[HRe.out];rw[Bool.eq_iff_iff];simp,HU0.out.trans HUr.out⟩
end
abbrev Pow10 (w : World) : Prop := Lib.TabIs Tryz.prog w "internal/strconv.uint64pow10" .u64 Lib.pow10Tab
theorem mP{w:World}(k:Nat)(os:Array Obj):Under w (Go.Sort.grow (w.drewN k) os) :=
 ⟨rfl, rfl, by simp [Go.Sort.grow], fun b hb => by
   show(w.heap++os)[b]? = _
   rw[Array.getElem?_append_left hb]⟩
theorem gPow : Tryz.prog.globalNamed "internal/strconv.uint64pow10" = some 3 := by kernel_rfl
theorem Pow10.under{W w:World}(h:Pow10 W)(hU:Under W w):Pow10 w:=by
 unfold Pow10 Lib.TabIs World.var? at *;rw[gPow]at *;simp only[Option.bind_some]at *;have hlt:3 < W.heap.size:=by
  cases hb:W.heap[3]? with
  | none=>simp[hb]at h
  | some o=>exact(Array.getElem?_eq_some_iff.1 hb).1
 rw[hU.low _ hlt];exact h
def bYA(v:Value):Prop:=v = .nilIface∨∃ te pe,v = .iface te pe
structure StrcAt (w:World):Prop where
 es:∃ v,w.cell? ⟨1,0,none⟩=some v∧bYA v
 er:∃ v,w.cell? ⟨2,0,none⟩=some v∧bYA v
 pow:Pow10 w
theorem zX{w:World}{a:Addr}{v:Value}(h:w.cell? a=some v):a.block < w.heap.size:=by
 unfold World.cell? at h
 cases hb:w.heap[a.block]? with
 | none=>simp[hb]at h
 | some o=>exact(Array.getElem?_eq_some_iff.1 hb).1
theorem StrcAt.under{W w:World}(h:StrcAt W)(hU:Under W w):StrcAt w:=by
 obtain⟨⟨v,h1,h2⟩,⟨u,h3,h4⟩,h5⟩:=h;exact⟨⟨v,(jA hU (zX h1) 0).trans h1,h2⟩,⟨u,(jA hU (zX h3) 0).trans h3,h4⟩,h5.under hU⟩
theorem sZ(w:World)(t:TypeId)(s:ByteArray):Under w (Lib.bytesWorld w t s) :=
 ⟨rfl,rfl,by rw[Lib.bytesWorld_size];omega,fun b hb=>Lib.bytesWorld_at_old _ _ _ _ hb⟩
theorem aZA(s:ByteArray)(hs:s.size≤281474976710656)(w:World)(hE:StrcAt w) :
 Calls Tryz.prog 101 #[.string s] w fun e w'=>(∃ v ev,e = .returned (.tuple #[.int .i64 v,ev])∧((ev = .nilIface∧Lib.atoiAll s.data.toList = .ok v)∨((∃ te pe,ev = .iface te pe)∧∀ v,Lib.atoiAll s.data.toList≠.ok v)))∧Under w w':=by
 obtain⟨⟨v1,h1,h2⟩,⟨v2,h3,h4⟩,_⟩:=hE;rcases h:Lib.atoiAll s.data.toList with v | _ | _
 · skip
   refine(Tryz.strconv_Atoi_ok s (by omega) v h w).mono ?_;rintro e w' ⟨rfl,hw⟩;refine⟨⟨v,.nilIface,rfl,.inl ⟨rfl,rfl⟩⟩,?_⟩;rcases hw with rfl | ⟨t,rfl⟩
   · exact Under.refl _
   · exact sZ ..
 · refine(Tryz.strconv_Atoi_syntax s hs (fun v e=>by rw[h]at e;cases e) (fun e=>by rw[h]at e;cases e) v1 w h1 h2).mono ?_;rintro e w' ⟨N,rfl,_,_,hB⟩;exact⟨⟨0,_,rfl,.inr ⟨⟨_,_,rfl⟩,fun v e=>by cases e⟩⟩,aP hB⟩
 · refine(Tryz.strconv_Atoi_range s hs h v2 w h3 h4).mono ?_;rintro e w' ⟨N,rfl,_,_,hB⟩;exact⟨⟨_,_,rfl,.inr ⟨⟨_,_,rfl⟩,fun v e=>by cases e⟩⟩,aP hB⟩
section
variable {w0 : World}
def b8A(w0:World)(R:Option Nat)(e:Ending)(w:World):Prop:=(∃ n:Int,e = .returned (.tuple #[.int .i64 n,.bool R.isSome])∧∀ k,R=some k→n=(k:Int))∧Under w0 w
theorem pR(s:ByteArray)(a b:Nat)(hb:b < 100)(hab:a≤b)(hs:s.size≤1000000)(hE:StrcAt w0):Calls Tryz.prog 60 #[.string s,.int .i64 (a:Int),.int .i64 (b:Int)] w0 (b8A w0 (lV s a b)):=by
 have HA:=Lib.hid (aZA s (by omega) w0 hE);have HE:=Lib.hid hE;have hb0:(0:Int)≤(a:Int):=by omega
 have hb1:(b:Int) < 100:=by omega
 go_enter Tryz.func60,Tryz.ntmps60;go_wp2_with fail;refine HA.out.mono ?_;rintro e w1 ⟨⟨v,ev,rfl,hev⟩,hU1⟩;have HU1:=Lib.hid hU1;rcases hev with⟨rfl,hv⟩ | ⟨⟨te,pe,rfl⟩,hv⟩
 · obtain ⟨hv1, hv2⟩ := Lib.atoiAll_bounds hv; have HN := Lib.hid (mWA hv (a := a) (b := b) (by omega)); have HI := Lib.hid (Tryz.strconv_Itoa v hv1 hv2 w1 (HE.out.under hU1).pow); have hq0 : (Lib.itoa v == s.toList) = decide (Lib.itoa v = s.data.toList) := by
    rw[ByteArray.toList_eq,Bool.eq_iff_iff];simp
   have HQ:=Lib.hid hq0;clear hv hU1 hq0;generalize lV s a b=R at *;generalize hL:Lib.itoa v=L at *;clear hL
   cases hq:(L==s.toList)
   · have h1 : ¬ L = s.data.toList := by have := HQ.out; rw [hq] at this; simpa using this.symm
     have HR:RowKit.Hid (R=none):=Lib.hid (by rw[HN.out,if_neg fun h=>h1 h.1]);clear h1;go_wp2_with fail;refine HI.out.mono ?_;rintro e w2 ⟨rfl,kk,os,rfl⟩;have HU:=Lib.hid (mP (w:=w1) kk os);go_wp2;go_ret2;rw[HR.out];exact⟨⟨_,rfl,fun k h=>by cases h⟩,HU1.out.trans HU.out⟩
   · have h1 : L = s.data.toList := by have := HQ.out; rw [hq] at this; simpa using this.symm
     by_cases ha:(a:Int)≤v
     · by_cases hb2 : v ≤ (b : Int)
       · have HR:RowKit.Hid (R=some v.toNat):=Lib.hid (by rw[HN.out,if_pos ⟨h1,ha,hb2⟩]);have HV:=Lib.hid (show(v.toNat:Int)=v by omega);clear h1;go_wp2_with fail;refine HI.out.mono ?_;rintro e w2 ⟨rfl,kk,os,rfl⟩;have HU:=Lib.hid (mP (w:=w1) kk os);go_wp2;go_ret2;rw[HR.out];exact⟨⟨_,rfl,fun k h=>by cases h;exact HV.out.symm⟩,HU1.out.trans HU.out⟩
       · have HR:RowKit.Hid (R=none):=Lib.hid (by rw[HN.out,if_neg fun h=>hb2 h.2.2]);clear h1;go_wp2_with fail;refine HI.out.mono ?_;rintro e w2 ⟨rfl,kk,os,rfl⟩;have HU:=Lib.hid (mP (w:=w1) kk os);go_wp2;go_ret2;rw[HR.out];exact⟨⟨v,by show Ending.returned (.tuple #[.int .i64 v,.bool (decide (v≤(b:Int)))])=_;rw[decide_eq_false (by omega)];rfl,fun k h=>by cases h⟩,HU1.out.trans HU.out⟩
     · have HR:RowKit.Hid (R=none):=Lib.hid (by rw[HN.out,if_neg fun h=>ha h.2.1]);clear h1;go_wp2_with fail;refine HI.out.mono ?_;rintro e w2 ⟨rfl,kk,os,rfl⟩;have HU:=Lib.hid (mP (w:=w1) kk os);go_wp2;go_ret2;rw[HR.out];exact⟨⟨_,rfl,fun k h=>by cases h⟩,HU1.out.trans HU.out⟩
 · have HN:=Lib.hid (r3A hv a b);clear hv hU1;go_wp2;go_ret2;rw[HN.out];exact⟨⟨_,rfl,fun k h=>by cases h⟩,HU1.out⟩
end
end Go.Proofs.YtlnlpdephijcoaaGreatDoor
namespace Go.Proofs.YtlnlpdephijcoaaGreatDoor
open Go.Conc Go.Lx Go.RowKit
section
variable {w0 : World} {b off n cap k : Nat}
theorem yX:∀(row:List Sx) (j:Nat) (u:Value),(nC row)[j]? = some u→∃ k x,row[k]? = some x∧((j=k * 3∧u = .int .i64 x.many)∨(j=k * 3+1∧u = .int .i64 x.pos)∨(j=k * 3+2∧u = .string x.word)):=by
 intro row
 induction row with
 | nil=>intro j u h;simp[nC]at h
 | cons x row ih =>
   intro j u h
   match j,h with
   | 0,h=>cases h;exact⟨0,x,rfl,.inl ⟨rfl,rfl⟩⟩
   | 1,h=>cases h;exact⟨0,x,rfl,.inr (.inl ⟨rfl,rfl⟩)⟩
   | 2,h=>cases h;exact⟨0,x,rfl,.inr (.inr ⟨rfl,rfl⟩)⟩
   | j + 3, h =>
     obtain⟨k,y,h1,h2⟩:=ih j u h;refine⟨k+1,y,h1,?_⟩;rcases h2 with⟨rfl,rfl⟩ | ⟨rfl,rfl⟩ | ⟨rfl,rfl⟩
     · exact .inl ⟨by omega,rfl⟩
     · exact .inr (.inl ⟨by omega,rfl⟩)
     · exact .inr (.inr ⟨by omega,rfl⟩)
theorem m1A{row:List Sx}(h:xFA w0 b off row){j:Nat}{u:Value}(hj:(nC row)[j]? = some u):w0.cell? ⟨b,off+j,none⟩=some u:=by
 obtain⟨k,x,h1,h2⟩:=yX row j u hj;obtain⟨c0,c1,c2⟩:=h k x h1;rcases h2 with⟨rfl,rfl⟩ | ⟨rfl,rfl⟩ | ⟨rfl,rfl⟩
 · exact c0
 · exact c1
 · exact c2
theorem m6A{row:List Sx}{u:Value}(h:u∈nC row):u.oneCell'=true:=by
 obtain⟨j,hj⟩:=List.getElem?_of_mem h;obtain⟨k,x,_,h2⟩:=yX row j u hj;rcases h2 with⟨_,rfl⟩ | ⟨_,rfl⟩ | ⟨_,rfl⟩<;>rfl
theorem jTA(row:List Sx)(hne:row≠[])(hn:row.length≤1000000)(hb0:b < w0.heap.size)(ht:xFA w0 b off row) :
 Calls Tryz.prog 52 #[.slice (some ⟨b,off,none⟩) row.length cap] w0 fun e w'=>∃ v,e = .returned v∧w'.ownsRow w0.heap.size 29 3 v row.length (nC row)∧Under w0 w':=by
 obtain⟨i0,hi,hz0,hz1,hz2⟩:=info_parts Tryz.info29;have hmx:0+row.length≤maxLen:=by simp only[maxLen];omega
 have hby:(0+row.length) * 32≤140737488355328:=by omega
 have HT:=Lib.hid ht;clear ht;have eqn:=Lib.run_eql_slice_nil (P:=Tryz.prog) w0 25 29 (some ⟨b,off,none⟩) row.length cap 0 0 Tryz.underlying25;go_enter Tryz.func52,Tryz.ntmps52;go_wp2_with (at_builtin;refine wpList_append_own_at _ rfl _ _ 25 rfl w0.heap.size 29 i0 _ 3 32 Tryz.underlying25 hi hz0 hz1 hz2 rfl (by decide) _ _ _ rfl (wI w0 _ _ _ (Nat.le_refl _)) ⟨b,off,none⟩ row.length cap (nC row) rfl (uH row) ?c1 (fun u hu=>m6A hu) hmx hby ?c5 ?_)
 case c1 =>
   intro j u hj;rw[fP];exact(jA (W:=w0) (aA ⟨rfl,rfl,Nat.le_refl _,fun _ _=>rfl⟩ _) hb0 _).trans (m1A HT.out hj)
 case c5=>simp
 intro v' w1 hown hgrow hnil hat;have HW:=Lib.hid hown;have HU2:=Lib.hid (bB (W:=w0) (aA ⟨rfl,rfl,Nat.le_refl _,fun _ _=>rfl⟩ _) hgrow fun g e=>by cases e;exact Nat.le_refl _);clear hown hgrow hnil hat;go_wp2;go_ret;exact⟨v',rfl,HW.out,HU2.out⟩
def SxOwns (w : World) (base : Nat) : List Value → List (List Sx) → Prop
  | [],[]=>True
  | v::vs,l::ls=>w.ownsRow base 29 3 v l.length (nC l)∧SxOwns w base vs ls
  | _,_=>False
theorem SxOwns.app {w : World} {base : Nat} : ∀ {vs : List Value} {ls : List (List Sx)} {v : Value} {l : List Sx}, SxOwns w base vs ls → w.ownsRow base 29 3 v l.length (nC l) → SxOwns w base (vs ++ [v]) (ls ++ [l])
  | [],[],_,_,_,h=>⟨h,trivial⟩
  | _::_,_::_,_,_,h,h'=>⟨h.1,SxOwns.app h.2 h'⟩
  | [],_::_,_,_,h,_=>h.elim
  | _::_,[],_,_,h,_=>h.elim
theorem SxOwns.map {w w' : World} {base base' : Nat} : ∀ {vs : List Value} {ls : List (List Sx)}, SxOwns w base vs ls → (∀ v n xs, w.ownsRow base 29 3 v n xs → w'.ownsRow base' 29 3 v n xs) → SxOwns w' base' vs ls
  | [],[],_,_=>trivial
  | _::_,_::_,h,h'=>⟨h' _ _ _ h.1,SxOwns.map h.2 h'⟩
  | [],_::_,h,_=>h.elim
  | _::_,[],h,_=>h.elim
theorem SxOwns.at {w : World} {base : Nat} : ∀ {vs : List Value} {ls : List (List Sx)}, SxOwns w base vs ls → ∀ {i : Nat} {l : List Sx}, ls[i]? = some l → ∃ v, vs[i]? = some v ∧ w.ownsRow base 29 3 v l.length (nC l)
  | [],[],_,_,_,hi=>by simp at hi
  | v::_,_::_,h,0,_,hi=>by cases hi;exact⟨v,rfl,h.1⟩
  | _ :: _, _ :: _, h, i + 1, _, hi => by
    obtain⟨v,h1,h2⟩:=SxOwns.at h.2 (i:=i) hi;exact⟨v,h1,h2⟩
  | [],_::_,h,_,_,_=>h.elim
  | _::_,[],h,_,_,_=>h.elim
structure IH (w0:World) (va:Value) (bs:List Nat) (vo:Value) (ls:List (List Sx)) (w:World):Prop where
 at_:w.ownsRow w0.heap.size 3 1 va bs.length (bI bs)
 out:∃ vs,w.ownsRow w0.heap.size 25 1 vo ls.length vs∧SxOwns w w0.heap.size vs ls
 low:Under w0 w
theorem Tryz.info25:(Tryz.prog.info? 25).map (fun i=>(i.zero,i.size,i.bytes))=some (some (.slice none 0 0),1,24):=by kernel_rfl
noncomputable def yQA:Code:=Tryz.f26.body.getD .skip
noncomputable def kQA:Code:=rA (dA (dA (dA (dA yQA))))
noncomputable def itRound:Code:=bC (bC (dA kQA))
def bM(l va:Value)(m k:Nat)(vo:Value)(J:Nat→Value):Array Value :=
 #[l, J 1, J 2, J 3, va, J 5, vo, J 7, J 8, J 9, J 10, J 11, J 12, J 13, J 14, J 15, J 16, .int .i64 (m : Int), .int .i64 (k : Int), J 19, J 20, J 21, J 22, J 23, J 24, J 25, J 26, J 27, J 28, J 29, J 30, J 31, J 32, J 33, J 34, J 35, J 36, J 37]
def nZA(w0:World)(l va:Value)(m k:Nat)(bs:List Nat)(ls:List (List Sx))(a':Act)(w':World):Prop :=
 ∃ vo J,a'=⟨bM l va m k vo J,[]⟩∧IH w0 va bs vo ls w'
def v9A(l va:Value)(m:Nat)(vo:Value)(w:World)(e:Exit)(a':Act)(w':World):Prop:=e = .exit 0∧∃ J,a'=⟨bM l va m m vo J,[]⟩∧w'=w
theorem r4A{l va vo:Value}{m:Nat}(J:Nat→Value)(w:World) :
 itRound.wp Tryz.prog (Exit.then (fun _ _=>False) (v9A l va m vo w)) ⟨bM l va m m vo J,[]⟩ w:=by
 unfold itRound kQA yQA;simp only[Tryz.f26,Option.getD_some,rA,dA,bC];unfold bM;go_wp2;exact⟨rfl,nA (F:=bM l va m m vo) (by rfl) rfl⟩
theorem nZ(row:List Sx){a c:Nat}(hc:c≤row.length):(piece row a c).length=c - a:=by
 unfold piece;rw[List.length_take,List.length_drop];omega
theorem pMA{row:List Sx}{a c:Nat}(h:xFA w0 b off row):xFA w0 b (off+a * 3) (piece row a c):=by
 intro k x hk;unfold piece at hk;have:row[a+k]? = some x:=by
  rw[List.getElem?_take]at hk
  split at hk
  · rw[List.getElem?_drop]at hk;exact hk
  · cases hk
 have:=h (a+k) x this;rw[Nat.add_mul]at this
 simpa [Nat.add_assoc] using this
theorem p7A {row : List Sx} {bs : List Nat} {va vo : Value} {ls : List (List Sx)} {a c : Nat} (hk : k + 1 < bs.length) (hbs : bs.length ≤ 1000001) (ha : bs[k]? = some a) (hc : bs[k + 1]? = some c) (hac : a < c) (hcn : c ≤ row.length) (hn : row.length ≤ 1000000) (hcap : row.length ≤ cap) (hls : ls.length = k) (J : Nat → Value) (w : World) (hP : IH w0 va bs vo ls w)
    (hb0:b < w0.heap.size) (ht:xFA w0 b off row) :
    itRound.wp Tryz.prog (Exit.then (nZA w0 (.slice (some ⟨b,off,none⟩) row.length cap) va (bs.length - 1) (k+1) bs (ls++[piece row a c])) (fun _ _ _=>False)) ⟨bM (.slice (some ⟨b,off,none⟩) row.length cap) va (bs.length - 1) k vo J,[]⟩ w:=by
  have hb:=Nat.lt_of_lt_of_le hb0 hP.low.size;obtain⟨i0,hi,hz0,hz1,hz2⟩:=info_parts Tryz.info25;obtain⟨m,hm⟩:∃ m,bs.length=m+1:=⟨bs.length - 1,by omega⟩;obtain⟨vs,ho,hel⟩:=hP.out;obtain⟨ga,gac,hva,hga,hgab,hgal,_,_⟩:=fD hP.at_ (by omega);have hne:=own_ne ho hP.at_ (by decide);rw[hm]at hva;subst hva;have ca:=kD hP.at_ hga (nM ha);have cc:=kD hP.at_ hga (nM hc);have hat0:=hP.at_;have hU:=hP.low;rw[hm]at hk hbs ⊢;rw[Nat.add_sub_cancel];clear hP;have hin:(k:Int) < m:=by omega
  have hk0:(0:Int)≤k:=Int.natCast_nonneg _;have ix1:(k:Int) < (m:Int)+1:=by omega
  have ix2:(k:Int)+1 < (m:Int)+1:=by omega
  have ix3:(0:Int)≤(k:Int)+1:=by omega
  have wr:IntKind.i64.wrap ((k:Int)+1)=(k:Int)+1:=by rw[IntKind.wrap_i64];omega
  have a0:(0:Int)≤a:=Int.natCast_nonneg _;have a1:(a:Int)≤c:=by omega
  have a2:(c:Int)≤cap:=by omega
  have hmx:k+1≤maxLen:=by simp only[maxLen];omega
  have hby:(k+1) * 24≤140737488355328:=by omega
  have HO:=Lib.hid ho;have HE:=Lib.hid hel;have HA:=Lib.hid hat0;have HU:=Lib.hid hU;have HT:=Lib.hid ht;clear ho hel hat0 hU ht;have hca:¬ cap=a:=by omega
  have hpl:(piece row a c).length=c - a:=nZ row hcn;have HC0:Calls Tryz.prog 52 #[.slice (some ⟨b,off+a * 3,none⟩) (c - a) (cap - a)] w.drew fun e w1=>∃ g1 c1,e = .returned (.slice (some ⟨g1,0,none⟩) (c - a) c1)∧w1.ownsRow w0.heap.size 29 3 (.slice (some ⟨g1,0,none⟩) (c - a) c1) (c - a) (nC (piece row a c))∧Under w w1:=by
   have := jTA (w0 := w.drew) (b := b) (off := off + a * 3) (cap := cap - a) (piece row a c) (fun e => by rw [e] at hpl; simp at hpl; omega) (by omega) hb (pMA fun k x hk => by
     have:=HT.out k x hk;rw[← jA HU.out hb0,← jA HU.out hb0,← jA HU.out hb0]at this;exact this)
   rw[hpl]at this;refine this.mono ?_;rintro e w1 ⟨v,rfl,h1,h2⟩;obtain⟨g1,c1,rfl,_⟩:=fD h1 (by omega);exact⟨g1,c1,rfl,kDA h1 HU.out.size,⟨h2.os,h2.output,h2.size,h2.low⟩⟩
  have HC:=Lib.hid HC0;clear HC0;have hnx:some ga≠vo.ownBlock:=by
   rcases hne with e | e
   · rw[e];simp
   · exact fun e'=>e (e'.symm)
  subst hls; clear hpl hne ca cc; unfold itRound kQA yQA; simp only [Tryz.f26, Option.getD_some, rA, dA, bC]; unfold bM; have ca := kD HA.out hga (nM ha); have cc := kD HA.out hga (nM hc); go_wp2_with fail; go_region_held3 (fun w' => w'.cell? ⟨ga, ls.length, none⟩ = some (.int .i64 (a : Int)) ∧ w'.cell? ⟨ga, ls.length + 1, none⟩ = some (.int .i64 (c : Int)))
    (first
      | go_keep
      | (go_split_ands
         refine⟨?_,?_⟩
         · (rw[hgrow.cell_far _ (by have:=hU1.size;simp;omega) hnx];assumption)
         · (rw[hgrow.cell_far _ (by have:=hU1.size;simp;omega) hnx];assumption))
      | (refine ⟨?_, ?_⟩
         · (rw[jA hU1 hgal];assumption)
         · (rw[jA hU1 hgal];assumption)))
    (first
      | (go_simp;go_at_call 52;refine HC.out.mono ?_;rintro e w1 ⟨g1,c1,rfl,hown1,hU1⟩;have HU1:=Lib.hid hU1;have HW1:=Lib.hid hown1)
      | (refine step_append_lies _ (by rfl) _ _ _ (by rfl) w0.heap.size 25 i0 _ 1 24 Tryz.underlying54 hi hz0 hz1 hz2 rfl (by omega) vo ls.length vs (by rfl) ((yB HO.out hU1).alloc _) ⟨w1.heap.size,0,none⟩ 1 1 [.slice (some ⟨g1,0,none⟩) (c - a) c1] (by rfl) (by rfl) (World.news_of_block (cs:=#[.slice (some ⟨g1,0,none⟩) (c - a) c1]) (t:=25) (fr:=(0,0)) (heap_alloc_new w1 _)) (by simp[Value.oneCell']) (by omega) hmx hby (by have:=HU1.out.size;have:=HU.out.size;simp;omega) (w1.heap.size+1) (by simp) ?_;intro gg cc' w2 hown2 hgrow hat2 hlt2))
  have hpl:(piece row a c).length=c - a:=nZ row hcn;have HP2:IH w0 (.slice (some ⟨ga,0,none⟩) (m+1) gac) bs (.slice (some ⟨gg,0,none⟩) (ls.length+1) cc') (ls++[piece row a c]) w2:=by
   refine⟨bG ((yB HA.out hU1).alloc _) hgrow (.inr (by rw[hga];exact hnx)),⟨_,by rw[List.length_append];exact hown2,?_⟩,bB (aA (HU.out.trans hU1) _) hgrow fun g e=>(iC HO.out e).1⟩;refine SxOwns.app (HE.out.map fun v n xs h=>bG ((yB h hU1).alloc _) hgrow (own_ne h HO.out (by decide))) ?_;rw[hpl];exact bG (hown1.alloc _) hgrow (own_ne hown1 (yB HO.out hU1) (by decide))
  have HP3:=Lib.hid HP2;clear hown2 hgrow hat2 hlt2 hown1 hU1 HP2 hpl;go_wp2;exact⟨_,nA (F:=bM _ _ m (ls.length+1) _) (by rfl) HP3.out⟩
end
end Go.Proofs.YtlnlpdephijcoaaGreatDoor
