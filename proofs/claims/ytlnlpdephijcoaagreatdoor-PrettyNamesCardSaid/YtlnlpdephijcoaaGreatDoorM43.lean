/- Part 43 of what the proof rests on. -/
import Derived.Shelf.SlIter.Nil
import Derived.Shelf.SortM.Plain
import Derived.Shelf.SortM.SortNone
import Derived.Ground.GgzProg
import Derived.Ground.SlgmProg
import Derived.Test.YtlnlpdephijcoaaGreatDoorProg
import Derived.Maps.OwnOps
import Derived.Test.YtlnlpdephijcoaaGreatDoorM27
import Derived.Test.YtlnlpdephijcoaaGreatDoorM33
import Derived.Test.YtlnlpdephijcoaaGreatDoorM35
import Derived.Test.YtlnlpdephijcoaaGreatDoorM38
import Derived.Test.YtlnlpdephijcoaaGreatDoorM42
set_option linter.unusedSimpArgs false
set_option linter.unusedVariables false
set_option maxRecDepth 100000
set_option maxHeartbeats 2000000
namespace Go.Proofs
open Go.RowKit Go.Maps Go.Sort Go.Shelf
def Tryz.keys47_ren:Go.Shelf.Ren:=⟨fun | 7=>47 | 10=>91 | n=>n,fun | 23=>91 | 26=>9 | 3=>3 | 28=>100 | 0=>0 | 27=>99 | 33=>39 | 4=>4 | n=>n,fun | n=>n⟩
theorem Tryz.keys47 : Go.Proofs.SlLaysZ.n7 Tryz.prog Tryz.keys47_ren := {
  mixed:=by kernel_rfl
  f7:=⟨Tryz.f47.name,by decide,Tryz.func47.trans (congrArg some (by kernel_rfl))⟩
  f10:=⟨Tryz.f91.name,by decide,Tryz.func91.trans (congrArg some (by kernel_rfl))⟩
  t0:=Tryz.underlying0
  a0:=Tryz.isAgg0
  z0:=Tryz.sizeOf0
  v0:=Tryz.zeroValue0
  t4:=Tryz.underlying4
  a4:=Tryz.isAgg4
  z4:=Tryz.sizeOf4
  v4:=Tryz.zeroValue4
  t23:=Tryz.underlying91
  a23:=Tryz.isAgg91
  z23:=Tryz.sizeOf91
  v23:=Tryz.zeroValue91
  t26:=Tryz.underlying9
  a26:=Tryz.isAgg9
  z26:=Tryz.sizeOf9
  v26:=Tryz.zeroValue9
  t27:=Tryz.underlying99
  a27:=Tryz.isAgg99
  z27:=Tryz.sizeOf99
  v27:=Tryz.zeroValue99
  t28:=Tryz.underlying100
  a28:=Tryz.isAgg100
  z28:=Tryz.sizeOf100
  v28:=Tryz.zeroValue100
  t33:=Tryz.underlying39
  a33:=Tryz.isAgg39
  z33:=Tryz.sizeOf39
  v33:=Tryz.zeroValue39 }
def Tryz.sorted46_ren:Go.Shelf.Ren:=⟨fun | 6=>46 | 8=>89 | 9=>90 | 11=>118 | 13=>120 | 12=>119 | 23=>143 | 24=>144 | 14=>134 | 15=>135 | 16=>136 | 17=>137 | 18=>138 | 19=>139 | 20=>140 | 21=>141 | 22=>142 | 25=>162 | 26=>163 | 27=>164 | 28=>165 | 29=>166 | 30=>167 | 31=>180 | n=>n,fun | 26=>9 | 28=>100 | 24=>22 | 0=>0 | 3=>3 | 37=>203 | 48=>227 | 50=>229 | 4=>4 | 40=>220 | 39=>219 | 45=>119 | 5=>5 | 9=>9 | 51=>246 | 55=>250 | 57=>262 | 58=>96 | 33=>39 | n=>n,fun | n=>n⟩
theorem Tryz.sorted46 : Go.Proofs.SlLaysZ.n6 Tryz.prog Tryz.sorted46_ren := {
  mixed:=by kernel_rfl
  f6:=⟨Tryz.f46.name,by decide,Tryz.func46.trans (congrArg some (by kernel_rfl))⟩
  f8:=⟨Tryz.f89.name,by decide,Tryz.func89.trans (congrArg some (by kernel_rfl))⟩
  f11:=⟨Tryz.f118.name,by decide,Tryz.func118.trans (congrArg some (by kernel_rfl))⟩
  t0:=Tryz.underlying0
  a0:=Tryz.isAgg0
  z0:=Tryz.sizeOf0
  v0:=Tryz.zeroValue0
  t24:=Tryz.underlying22
  a24:=Tryz.isAgg22
  z24:=Tryz.sizeOf22
  v24:=Tryz.zeroValue22
  t26:=Tryz.underlying9
  a26:=Tryz.isAgg9
  z26:=Tryz.sizeOf9
  v26:=Tryz.zeroValue9
  t28:=Tryz.underlying100
  a28:=Tryz.isAgg100
  z28:=Tryz.sizeOf100
  v28:=Tryz.zeroValue100
  i26:=by kernel_rfl }
def Tryz.sort90_ren:Go.Shelf.Ren:=⟨fun | 6=>90 | 8=>120 | 9=>119 | 19=>143 | 20=>144 | 21=>134 | 22=>135 | 23=>136 | 24=>137 | 25=>138 | 26=>139 | 27=>140 | 28=>141 | 29=>142 | 36=>162 | 31=>163 | 32=>164 | 37=>165 | 38=>166 | 39=>167 | 41=>180 | n=>n,fun | 27=>22 | 29=>9 | 3=>3 | 32=>203 | 26=>22 | 0=>0 | 44=>227 | 46=>229 | 4=>4 | 36=>220 | 35=>219 | 41=>119 | 5=>5 | 9=>9 | 53=>246 | 57=>250 | 63=>262 | 64=>96 | n=>n,fun | n=>n⟩
theorem Tryz.sort90 : Go.Proofs.SlLaysM.n6 Tryz.prog Tryz.sort90_ren := {
  mixed:=by kernel_rfl
  f6:=⟨Tryz.f90.name,by decide,Tryz.func90.trans (congrArg some (by kernel_rfl))⟩
  f8:=Tryz.func120.trans (congrArg some (by kernel_rfl))
  f9:=⟨Tryz.f119.name,by decide,Tryz.func119.trans (congrArg some (by kernel_rfl))⟩
  f19:=Tryz.func143.trans (congrArg some (by kernel_rfl))
  f20:=Tryz.func144.trans (congrArg some (by kernel_rfl))
  f21:=⟨Tryz.f134.name,by decide,Tryz.func134.trans (congrArg some (by kernel_rfl))⟩
  f22:=⟨Tryz.f135.name,by decide,Tryz.func135.trans (congrArg some (by kernel_rfl))⟩
  f23:=⟨Tryz.f136.name,by decide,Tryz.func136.trans (congrArg some (by kernel_rfl))⟩
  f24:=⟨Tryz.f137.name,by decide,Tryz.func137.trans (congrArg some (by kernel_rfl))⟩
  f25:=⟨Tryz.f138.name,by decide,Tryz.func138.trans (congrArg some (by kernel_rfl))⟩
  f26:=⟨Tryz.f139.name,by decide,Tryz.func139.trans (congrArg some (by kernel_rfl))⟩
  f27:=⟨Tryz.f140.name,by decide,Tryz.func140.trans (congrArg some (by kernel_rfl))⟩
  f28:=⟨Tryz.f141.name,by decide,Tryz.func141.trans (congrArg some (by kernel_rfl))⟩
  f29:=⟨Tryz.f142.name,by decide,Tryz.func142.trans (congrArg some (by kernel_rfl))⟩
  f31:=Tryz.func163.trans (congrArg some (by kernel_rfl))
  f32:=Tryz.func164.trans (congrArg some (by kernel_rfl))
  f36:=⟨Tryz.f162.name,by decide,Tryz.func162.trans (congrArg some (by kernel_rfl))⟩
  f37:=⟨Tryz.f165.name,by decide,Tryz.func165.trans (congrArg some (by kernel_rfl))⟩
  f38:=⟨Tryz.f166.name,by decide,Tryz.func166.trans (congrArg some (by kernel_rfl))⟩
  f39:=⟨Tryz.f167.name,by decide,Tryz.func167.trans (congrArg some (by kernel_rfl))⟩
  f41:=⟨Tryz.f180.name,by decide,Tryz.func180.trans (congrArg some (by kernel_rfl))⟩
  t0:=Tryz.underlying0
  a0:=Tryz.isAgg0
  z0:=Tryz.sizeOf0
  v0:=Tryz.zeroValue0
  t3:=Tryz.underlying3
  a3:=Tryz.isAgg3
  z3:=Tryz.sizeOf3
  v3:=Tryz.zeroValue3
  t4:=Tryz.underlying4
  a4:=Tryz.isAgg4
  z4:=Tryz.sizeOf4
  v4:=Tryz.zeroValue4
  t5:=Tryz.underlying5
  a5:=Tryz.isAgg5
  z5:=Tryz.sizeOf5
  v5:=Tryz.zeroValue5
  t9:=Tryz.underlying9
  a9:=Tryz.isAgg9
  z9:=Tryz.sizeOf9
  v9:=Tryz.zeroValue9
  t26:=Tryz.underlying22
  a26:=Tryz.isAgg22
  z26:=Tryz.sizeOf22
  v26:=Tryz.zeroValue22
  t27:=Tryz.underlying22
  a27:=Tryz.isAgg22
  z27:=Tryz.sizeOf22
  v27:=Tryz.zeroValue22
  t29:=Tryz.underlying9
  a29:=Tryz.isAgg9
  z29:=Tryz.sizeOf9
  v29:=Tryz.zeroValue9
  t32:=Tryz.underlying203
  a32:=Tryz.isAgg203
  z32:=Tryz.sizeOf203
  v32:=Tryz.zeroValue203
  t35:=Tryz.underlying219
  a35:=Tryz.isAgg219
  z35:=Tryz.sizeOf219
  v35:=Tryz.zeroValue219
  t36:=Tryz.underlying220
  a36:=Tryz.isAgg220
  z36:=Tryz.sizeOf220
  v36:=Tryz.zeroValue220
  t41:=Tryz.underlying119
  a41:=Tryz.isAgg119
  z41:=Tryz.sizeOf119
  v41:=Tryz.zeroValue119
  t44:=Tryz.underlying227
  a44:=Tryz.isAgg227
  z44:=Tryz.sizeOf227
  v44:=Tryz.zeroValue227
  t46:=Tryz.underlying229
  a46:=Tryz.isAgg229
  z46:=Tryz.sizeOf229
  v46:=Tryz.zeroValue229
  t53:=Tryz.underlying246
  a53:=Tryz.isAgg246
  z53:=Tryz.sizeOf246
  v53:=Tryz.zeroValue246
  t57:=Tryz.underlying250
  a57:=Tryz.isAgg250
  z57:=Tryz.sizeOf250
  v57:=Tryz.zeroValue250
  t63:=Tryz.underlying262
  a63:=Tryz.isAgg262
  z63:=Tryz.sizeOf262
  v63:=Tryz.zeroValue262
  t64:=Tryz.underlying96
  a64:=Tryz.isAgg96
  z64:=Tryz.sizeOf96
  v64:=Tryz.zeroValue96 }
theorem Tryz.sorts46(m:Nat):AnyZ.SortsIn Tryz.prog Tryz.sorted46_ren Fence.wide m :=
 ⟨fun blk off cap ss W hH hblk hsz=>callsIn_wide.2 (AnyM.slices_Sort_string Tryz.sort90 blk off cap ss W hH hblk hsz),
  fun p cap W=>callsIn_wide.2 (AnyM.slices_Sort_string_none Tryz.sort90 p cap W)⟩
theorem Tryz.maps_Keys_47(mb:Option Nat)(W:World):CallsIn Fence.wide 5 Tryz.prog 47 #[.map mb] W fun e w'=>e = .returned (.func (.func 91) #[] #[.pointer (some ⟨W.heap.size,0,none⟩)])∧w'=W.alloc (.cells #[.map mb] 91) :=
 AnyZ.keys_in Tryz.keys47 Fence.wide 5 trivial rfl mb W
theorem Tryz.slices_Sorted_keys_46_47{H:Type}(b nn:Nat)(D0:DataW H)(R:Value→Option (DataW H×List MemPlace))(w:World)(hown:w.ownsMap Tryz.prog 9 R b nn D0)(hmax:Maps.size D0≤maxLen)(hbytes:Maps.size D0 * 16≤140737488355328) :
 CallsIn Fence.wide 5 Tryz.prog 46 #[.func (.func 91) #[] #[.pointer (some ⟨w.heap.size,0,none⟩)]] (w.alloc (.cells #[.map (some b)] 91)) fun e w'=>∃(v:Value) (ss:List (List UInt8)),e = .returned v∧ss.Perm (strKeys D0) ∧
  w'.ownsRow (w.alloc (.cells #[.map (some b)] 91)).heap.size 9 1 v ss.length ((ss.mergeSort (fun x y=>decide (x≤y))).map encStr)∧(v = .slice none 0 0↔ss=[])∧Below (w.alloc (.cells #[.map (some b)] 91)).heap.size (w.alloc (.cells #[.map (some b)] 91)) w':=by
 have hbl:=hown.lt;have hseq:SeqGives Fence.wide 2 Tryz.prog 91 #[.pointer (some ⟨w.heap.size,0,none⟩)] encStr (fun ss=>ss.Perm (strKeys D0)) (Maps.size D0) (w.alloc (.cells #[.map (some b)] 91)) :=
  AnyZ.keys_gives (ρ := Tryz.keys47_ren) { Tryz.keys47 with } Fence.wide _ trivial rfl (by omega) w.heap.size b nn D0 _ (by simp) (by simp) (by
    obtain⟨es,clock,hb,Ft,hs,hD⟩:=hown;exact⟨es,clock,(Below.heap_alloc _ _ b hbl).trans hb,Ft,hs,hD⟩)
 exact AnyZ.sorted_in Tryz.sorted46 Fence.wide 5 trivial trivial trivial trivial rfl (by omega) (Tryz.sorts46 _) (enters_of Tryz.func90 (by kernel_rfl) rfl) 91 #[.pointer (some ⟨w.heap.size,0,none⟩)] trivial (enters_of Tryz.func91 (by kernel_rfl) rfl) _ _ hmax hbytes _ hseq
end Go.Proofs
namespace Go.Proofs.YtlnlpdephijcoaaGreatDoor
open Go.Lx Go.RowKit
theorem bXA:Maps.Keyed Tryz.prog 9:=Maps.string_keyed Tryz.underlying9
theorem iVA(w:World):(zeroValue 3).run Tryz.prog w = .ok (.int .i64 0) w:=by kernel_rfl
theorem NzMap.kept{p:Nd→Bool}{w w':World}{b n:Nat}{t:List Nd}(h:NzMap p w b n t)(hb:w'.heap[b]? = w.heap[b]?):NzMap p w' b n t:=by
 obtain⟨D,⟨es,cl,h1,h2⟩,hm⟩:=h;exact⟨D,⟨es,cl,hb.trans h1,h2⟩,hm⟩
theorem NzMap.lt{p:Nd→Bool}{w:World}{b n:Nat}{t:List Nd}(h:NzMap p w b n t):b < w.heap.size:=by
 obtain⟨D,h,_⟩:=h;exact h.lt
section
variable {w0 : World}
theorem yTA(t:List Nd){p:Option Addr}{c:Nat}(hn:t.length≤maxLen)(hs:∀ x∈t,x.s.size≤maxLen)(hp:RowArg w0 p (zB t))(hS:ShapesAt 0 w0)(h:vB t≠0) :
 Calls Tryz.prog 22 #[.slice p t.length c] w0 fun e w=>e = .returned (.tuple #[.slice none 0 0,.slice none 0 0,.int .i64 (vB t)])∧Under w0 w:=by
 have HC:=Lib.hid (bS (c:=c) t hn hs hp hS);have h':(vB t==0)=false:=by simpa using h
 clear hn hs hp hS h;generalize vB t=ce at *;go_enter Tryz.func22,Tryz.ntmps22;go_wp2_with fail;refine HC.out.mono ?_;rintro e w1 ⟨rfl,hU1⟩;have HU1:=Lib.hid hU1;clear hU1;go_wp2;go_ret3;exact⟨rfl,HU1.out⟩
theorem qIA(t:List Nd){p:Option Addr}{c:Nat}(hs:∀ x∈t,x.s.size≤100000)(hn4:t.length≤90000)(hp:RowArg w0 p (zB t))(hS:ShapesAt 0 w0)(h:vB t=0) :
 Calls Tryz.prog 22 #[.slice p t.length c] w0 fun e w=>∃ a b,e = .returned (.tuple #[a,b,.int .i64 0])∧w.ownsRow w0.heap.size 9 1 a (aC vG [] t).length ((aC vG [] t).map .string)∧w.ownsRow w0.heap.size 9 1 b (aC qJ [] t).length ((aC qJ [] t).map .string)∧Under w0 w:=by
 have HC:=Lib.hid (bS (c:=c) t (by simp only[maxLen];omega) (fun x hx=>by have:=hs x hx;simp only[maxLen];omega) hp hS);rw[h]at HC;have hmm:=@run_makeMap Tryz.prog;have HR:=Lib.hid hp;have HSz:=Lib.hid hs;have hn':(t.length:Int)≤90000:=by omega
 clear hp h hS hs;go_enter Tryz.func22,Tryz.ntmps22;go_wp2_with fail;refine HC.out.mono ?_;rintro e w1 ⟨rfl,hU1⟩;have HU1:=Lib.hid hU1;have hb1:=hU1.size;clear hU1;go_wp2;go_loopw [19] (fun i wr=>mDB w0 w1.heap.size (w1.heap.size+1) t i wr) (fun i _=>t.length - (intOf i).toNat)
 case atStart =>
   have e0:∀ x:List UInt8,Maps.has (H:=Unit) (.map []) (.string x)=true↔∃ y∈t.take 0,vG y=true∧byt y.s=x:=fun x=>by simp[Maps.has]
   have e1:∀ x:List UInt8,Maps.has (H:=Unit) (.map []) (.string x)=true↔∃ y∈t.take 0,qJ y=true∧byt y.s=x:=fun x=>by simp[Maps.has]
   exact⟨0,Nat.zero_le _,rfl,⟨_,(World.ownsMap_made w1 _ _ _).alloc _,e0⟩,⟨_,by have:=World.ownsMap_made (w1.alloc (.map #[] 0)) Tryz.prog 9 (plainElem (H:=Unit) Tryz.prog 3);rwa [World.size_alloc]at this,e1⟩,aA (aA HU1.out _) _⟩
 case round =>
   obtain⟨k,hk,rfl,hA,hB,hU⟩:=hrel;have hk0:(0:Int)≤(k:Int):=by omega
   have HA:=Lib.hid hA;have HB:=Lib.hid hB;have HU:=Lib.hid hU;clear hA hB hU;by_cases hlt:k < t.length
   · obtain ⟨b1, off1, rfl, hb1', c0, c1, c2, c3⟩ := RowArg.node (HR.out.under HU.out) (List.getElem?_eq_getElem hlt); have HTk := Lib.hid (List.take_succ_eq_append_getElem hlt); have hsz := HSz.out _ (List.getElem_mem hlt); generalize t[k] = x at *; have hlt' : (k : Int) < (t.length : Int) := by omega
     have hkey:=Go.WideMaps.keyOf_string_mk Tryz.underlying9 (s:=x.s) (by simp only[maxLen];omega);have HKey:=Lib.hid hkey;have hbx:=yA wr #[.int .i64 x.k,.int .i64 x.n,.int .i64 x.m,.string x.s] 76;have HBx:=Lib.hid hbx;clear hkey hbx;obtain⟨Da,hDa,hma⟩:=HA.out;obtain⟨Db,hDb,hmb⟩:=HB.out;have HDa:=Lib.hid (hDa.alloc (.cells #[.int .i64 x.k,.int .i64 x.n,.int .i64 x.m,.string x.s] 76));have HDb:=Lib.hid (hDb.alloc (.cells #[.int .i64 x.k,.int .i64 x.n,.int .i64 x.m,.string x.s] 76));have HTa:=Lib.hid (hDa.tidy bXA).isMap;have HTb:=Lib.hid (hDb.tidy bXA).isMap;have HMa:=Lib.hid hma;have HMb:=Lib.hid hmb;clear hDa hDb hma hmb
     cases hk1:(x.k==1)
     · cases hs : (x.s.toList == [])
       · have hpa : vG x = false := by simp [vG, hk1]
         have hpb:qJ x=true:=by simp[qJ,hk1,hs]
         have HA2 := Lib.hid (lDA hpa HMa.out); go_wp2_with (first
           | (refine wpList_lookup_own_int _ rfl _ _ 91 rfl 9 3 .i64 bXA Tryz.underlying91 Tryz.underlying3 (iVA _) (w1.heap.size+1) k Db rfl HDb.out _ _ rfl HKey.out ?_;intro cc hat hwf)
           | (at_mapUpdate;refine wpList_mapUpdate_own _ rfl _ _ _ 91 rfl 9 3 bXA Tryz.underlying91 _ (w1.heap.size+1) k _ rfl HDb.out (by unfold maxLen;omega) _ _ _ rfl rfl HKey.out _ [] (plainElem_int Tryz.underlying3 (wrap64_wf _)) ?_))
         intro w2 hown2 hgr2;have HO2:=Lib.hid hown2;have HG2:=Lib.hid hgr2;clear hown2 hgr2 hat hwf;go_wp2;go_roundw
         case rel=>exact⟨k+1,by omega,by go_num,by rw[HTk.out];exact⟨Da,(HDa.out.kept HG2.out (by simp)).mono (Nat.le_succ _),HA2.out⟩,by rw[HTk.out];exact⟨_,HO2.out,a2A HTb.out hpb HMb.out⟩,eB (aA HU.out _) HG2.out (fun g e=>by cases e;omega)⟩
         case measure=>simp[intOf];omega
       · have hpa : vG x = false := by simp [vG, hk1]
         have hpb:qJ x=false:=by simp[qJ,hk1,hs]
         have HA2:=Lib.hid (lDA hpa HMa.out);have HB2:=Lib.hid (lDA hpb HMb.out);go_wp2;go_roundw
         case rel=>exact⟨k+1,by omega,by go_num,by rw[HTk.out];exact⟨Da,HDa.out.mono (Nat.le_succ _),HA2.out⟩,by rw[HTk.out];exact⟨Db,HDb.out.mono (Nat.le_succ _),HB2.out⟩,aA HU.out _⟩
         case measure=>simp[intOf];omega
     · have hpa : vG x = true := by simp [vG, hk1]
       have hpb:qJ x=false:=by simp[qJ,hk1]
       have HB2 := Lib.hid (lDA hpb HMb.out); go_wp2_with (first
         | (refine wpList_lookup_own_int _ rfl _ _ 91 rfl 9 3 .i64 bXA Tryz.underlying91 Tryz.underlying3 (iVA _) w1.heap.size k Da rfl HDa.out _ _ rfl HKey.out ?_;intro cc hat hwf)
         | (at_mapUpdate;refine wpList_mapUpdate_own _ rfl _ _ _ 91 rfl 9 3 bXA Tryz.underlying91 _ w1.heap.size k _ rfl HDa.out (by unfold maxLen;omega) _ _ _ rfl rfl HKey.out _ [] (plainElem_int Tryz.underlying3 (wrap64_wf _)) ?_))
       intro w2 hown2 hgr2;have HO2:=Lib.hid hown2;have HG2:=Lib.hid hgr2;clear hown2 hgr2 hat hwf;go_wp2;go_roundw
       case rel=>exact⟨k+1,by omega,by go_num,by rw[HTk.out];exact⟨_,HO2.out,a2A HTa.out hpa HMa.out⟩,by rw[HTk.out];exact⟨Db,(HDb.out.kept HG2.out (by simp)).mono (Nat.le_succ _),HB2.out⟩,eB (aA HU.out _) HG2.out (fun g e=>by cases e;omega)⟩
       case measure=>simp[intOf];omega
   · obtain rfl : k = t.length := by omega
     obtain⟨Da,hDa,hma⟩:=HA.out;obtain⟨Db,hDb,hmb⟩:=HB.out;rw[List.take_length]at hma hmb;have HDa:=Lib.hid hDa;have HDb:=Lib.hid hDb;have HMa:=Lib.hid hma;have HMb:=Lib.hid hmb;have hsa:∀ {b:Nat} {D:DataW Unit},wr.ownsMap Tryz.prog 9 (plainElem Tryz.prog 3) b t.length D→Maps.size D≤90000:=by
      intro b D h;obtain⟨es,cl,_,_,h1,rfl⟩:=h;simp only[Maps.size,length_sorted,List.length_map,Array.length_toList];omega
     have hza:=hsa hDa;have hzb:=hsa hDb;have hbase:=HU.out.size;clear hDa hDb hma hmb hsa;go_wp2_with fail;refine(callsIn_wide.1 (Tryz.maps_Keys_47 _ _)).mono ?_;rintro e w3 ⟨rfl,rfl⟩;go_wp2_with fail;refine(callsIn_wide.1 (Tryz.slices_Sorted_keys_46_47 w1.heap.size t.length Da (plainElem Tryz.prog 3) wr HDa.out (by simp only[maxLen];omega) (by omega))).mono ?_;rintro e w4 ⟨v4,ss4,rfl,hp4,hr4,_,hb4⟩;have HU4:=Lib.hid ((aA (Under.refl wr) (.cells #[.map (some w1.heap.size)] 91)).trans (zI hb4));have HN4:=Lib.hid (rMA vG t HDa.out HMa.out hp4);have HR4:=Lib.hid hr4;have hz4:=HU4.out.size;have hdb4:w4.ownsMap Tryz.prog 9 (plainElem Tryz.prog 3) (w1.heap.size+1) t.length Db:=by
      obtain⟨es,cl,h1,h2⟩:=HDb.out;exact⟨es,cl,(HU4.out.low _ (Array.getElem?_eq_some_iff.1 h1).1).trans h1,h2⟩
     have HDb4:=Lib.hid hdb4;have hw1:(wr.alloc (.cells #[.map (some w1.heap.size)] 91)).heap.size=wr.heap.size+1:=by simp
     obtain⟨q4,d4,rfl,_,_⟩:=RowArg.of_own hr4;clear hp4 hr4 hb4 hdb4;go_wp2_with fail;refine(callsIn_wide.1 (Tryz.maps_Keys_47 _ _)).mono ?_;rintro e w5 ⟨rfl,rfl⟩;go_wp2_with fail;refine(callsIn_wide.1 (Tryz.slices_Sorted_keys_46_47 (w1.heap.size+1) t.length Db (plainElem Tryz.prog 3) w4 HDb4.out (by simp only[maxLen];omega) (by omega))).mono ?_;rintro e w6 ⟨v6,ss6,rfl,hp6,hr6,_,hb6⟩;have HU6:=Lib.hid ((aA (Under.refl w4) (.cells #[.map (some (w1.heap.size+1))] 91)).trans (zI hb6));have HN6:=Lib.hid (rMA qJ t HDb4.out HMb.out hp6);have HR6:=Lib.hid hr6;have hw4:(w4.alloc (.cells #[.map (some (w1.heap.size+1))] 91)).heap.size=w4.heap.size+1:=by simp
     obtain⟨q6,d6,rfl,_,_⟩:=RowArg.of_own hr6;clear hp6 hr6 hb6;go_wp2;go_ret3;refine⟨_,_,rfl,?_,?_,HU.out.trans (HU4.out.trans HU6.out)⟩
     · have h:=uA (kN HR4.out (base':=w0.heap.size) (by omega)) HU6.out;rw[HN4.out.1,HN4.out.2]at h;rw[HN4.out.2];exact h
     · have h:=kN HR6.out (base':=w0.heap.size) (by omega);rw[HN6.out.1,HN6.out.2]at h;rw[HN6.out.2];exact h
end
theorem iZA(t:List Nd)(g:Int→Int→Int)(s:Int)(x:Nat×Nat)(l:List (Nat×Nat)):tell t g s (x::l)=tell t g (sM t g s x) l:=rfl
theorem a7A(T:Tm)(h:okT T)(u:Nat) : -1≤sJ T u:=(iP T h u).1
theorem aXA(t:List Nd)(T:Tm):okT T→∀(pre post:List Nd) (u:Nat) (st:List Nat) (s:Int),t=pre++flat T++post→0≤s →
 tell t jP s (qF t (pre.length+(flat T).length) (u::st))=tell t jP (max s (sJ T u+1)) (qF t pre.length st):=by
 induction T using Tm.rec (motive_2 := fun l => jM l → ∀ (bs : List Nat), bs.length = l.length → ∀ (pre post : List Nd) (u : Nat) (st : List Nat) (s : Int), t = pre ++ qA l ++ post → 0 ≤ s →
   tell t jP s (qF t (pre.length+(qA l).length) ((bs.map (u + ·)).reverse++st))=tell t jP (max s (aI l bs u+1)) (qF t pre.length st)) with
 | mk x l ih =>
   rintro⟨hx,hl,hls⟩ pre post u st s ht hs;rw[flat]at ht;have hg:t[pre.length+(qA l).length]? = some x:=by
    rw[ht,List.append_assoc,List.append_assoc,List.getElem?_append_right (by omega),Nat.add_sub_cancel_left,List.getElem?_append_right (by omega),Nat.sub_self];rfl
   have hb:oF x=binds x:=by unfold oF;rw[if_pos hx]
   rw[flat,List.length_append,List.length_singleton,← Nat.add_assoc,vT hg,iZA,hb];have ho:sM t jP s (pre.length+(qA l).length,u)=if x.k=0∧(u:Int)≤x.n then max s (x.n - u+1) else s:=by
    unfold sM;rw[hg];rfl
   rw[ho];have ht2:t=pre++qA l++([x]++post):=by rw[ht];simp
   have hT:sJ (.mk x l) u=if x.k=0 then(if(u:Int)≤x.n then x.n - u else -1) else aI l (binds x) u:=by rw[sJ]
   rw[hT];by_cases hk:x.k=0
   · have hb0 : binds x = [] := by simp [binds, hk, pE]
     have hl0:l=[]:=List.eq_nil_of_length_eq_zero (by rw[hl,hb0];rfl);subst hl0;rw[hb0,if_pos hk];by_cases hu:(u:Int)≤x.n
     · rw[if_pos ⟨hk,hu⟩,if_pos hu];simp[qA]
     · rw [if_neg (fun h => hu h.2), if_neg hu]; have : max s (-1 + 1) = s := by omega
       rw[this];simp[qA]
   · rw[if_neg (fun h=>hk h.1),if_neg hk];exact ih hls (binds x) hl.symm pre _ u st s ht2 hs
 | nil =>
   rename_i hh bs hb pre post u st s ht hs;have:bs=[]:=List.eq_nil_of_length_eq_zero hb;subst this;have e:max s (aI [] [] u+1)=s:=by simp[aI];omega
   rw[e];simp[qA]
 | cons a l iha ihl =>
   rename_i hh bs hb pre post u st s ht hs
   cases bs with
   | nil=>simp at hb
   | cons b bs =>
     rw[qA]at ht;have h1:=ihl hh.2 bs (by simpa using hb) (pre++flat a) post u ((u+b)::st) s (by rw[ht];simp) hs;have h2:=iha hh.1 pre (qA l++post) (u+b) st (max s (aI l bs u+1)) (by rw[ht];simp) (by omega);rw[List.map_cons,List.reverse_cons,List.append_assoc,qA,List.length_append,← Nat.add_assoc];rw[List.length_append]at h1;rw[List.singleton_append,h1,h2];congr 1
     show max (max s (aI l bs u+1)) (sJ a (u+b)+1)=max s (max (sJ a (u+b)) (aI l bs u)+1)
     omega
theorem qFA(T:Tm)(h:okT T):wVA (flat T)=sJ T 0+1:=by
 have:=aXA (flat T) T h [] [] 0 [] 0 (by simp) (Int.le_refl _);have h0:=a7A T h 0;have e:qF (flat T) 0 []=[]:=rfl;rw[List.length_nil,Nat.zero_add,e]at this
 show tell (flat T) jP 0 (qF (flat T) (flat T).length [0])=_
 rw[this]
 show max 0 (sJ T 0+1)=_
 omega
theorem oMA:TakenIs [] []:=fun s=>rfl
theorem n0A(ks:lD)(k:ByteArray)(v:Value)(s:ByteArray):nH (lV ks k v) s=if s=k then some v else nH ks s:=by
 induction ks with
 | nil=>simp[lV,nH]
 | cons p r ih =>
   obtain⟨a,u⟩:=p;by_cases h:k=a
   · subst h; simp only [lV, if_true, nH]
     split<;>rfl
   · simp only [lV, if_neg h, nH, ih]; by_cases h1 : s = a
     · subst h1;rw[if_pos rfl,if_neg (fun e=>h e.symm),if_pos rfl]
     · rw[if_neg h1,if_neg h1]
theorem TakenIs.put{ks:lD}{L:List ByteArray}{k:ByteArray}(h:TakenIs ks L):TakenIs (lV ks k (.int .i64 1)) (L++[k]):=by
 intro s;rw[n0A,h s,mHA];by_cases e:s=k
 · subst e;simp[rD]
 · have : rD [k] s = false := by
     unfold rD;simp only[List.any_cons,List.any_nil,Bool.or_false];simp;intro e';rw[ByteArray.toList_eq,ByteArray.toList_eq]at e';exact e (vL e'.symm)
   rw[if_neg e,this];simp
def jDB(w5:World)(tb:Nat)(L:List ByteArray)(i:Value)(wr:World):Prop :=
 ∃(k:Nat) (ks:lD),k≤L.length∧i = .int .i64 (k:Int)∧TakenIs ks (L.take k)∧MapAt wr tb ks∧Ch (fun b=>b=tb) w5 wr
section
variable {w0 : World}
theorem pDA(t:List Nd){p:Option Addr}{c:Nat}{va:Value}(hcap:t.length≤c)(hn:t.length≤maxLen)(hs:∀ x∈t,x.s.size≤maxLen)(hp:RowArg w0 p (zB t))(hS:ShapesAt 0 w0)(h:vB t≠0) :
 Calls Tryz.prog 20 #[.slice p t.length c,va] w0 fun e w=>e = .returned (.tuple #[.string ⟨#[]⟩,.int .i64 (vB t)])∧Under w0 w:=by
 have HC:=Lib.hid (show Calls Tryz.prog 41 #[.slice p t.length c] w0 fun e w=>e = .returned (.tuple #[.int .i64 0,.int .i64 (vB t)])∧Under w0 w from(oDA (c:=c) hcap hn hs hp hS).mono fun e w hF=>by unfold iDA at hF;rw[if_neg h]at hF;exact hF);have h':(vB t != 0)=true:=by simpa using h
 clear hn hs hp hS h;generalize vB t=ce at *;go_enter Tryz.func20,Tryz.ntmps20;go_wp2_with fail;refine HC.out.mono ?_;rintro e w1 ⟨rfl,hU1⟩;have HU1:=Lib.hid hU1;clear hU1;go_wp2;go_ret2;exact⟨rfl,HU1.out⟩
theorem dCA(T:Tm){p:Option Addr}{c:Nat}{va:Value}(hok:okT T)(hd:rC T≤60)(hl:(flat T).length≤4000)(hcap:(flat T).length≤c)(hs:∀ x∈flat T,x.s.size≤maxLen)(hp:RowArg w0 p (zB (flat T)))(hS:ShapesAt 0 w0)(h:¬ inT T 0) :
 Calls Tryz.prog 20 #[.slice p (flat T).length c,va] w0 fun e w=>e = .returned (.tuple #[.string ⟨#[]⟩,.int .i64 30])∧Under w0 w:=by
 have HC:=Lib.hid (show Calls Tryz.prog 41 #[.slice p (flat T).length c] w0 fun e w=>e = .returned (.tuple #[.int .i64 (sJ T 0+1),.int .i64 0])∧Under w0 w from(oDA (c:=c) hcap (by simp only[maxLen];omega) hs hp hS).mono fun e w hF=>by unfold iDA at hF;rw[gH hok hd hl,if_pos rfl,qFA T hok]at hF;exact hF);have h':=(fZ T hok 0).2 h;have h'':=(iP T hok 0).2;clear hok hd hl hs hp hS h;generalize sJ T 0=ce at *;have h3:(0:Int) < ce+1:=by omega
 go_enter Tryz.func20,Tryz.ntmps20;go_wp2_with fail;refine HC.out.mono ?_;rintro e w1 ⟨rfl,hU1⟩;have HU1:=Lib.hid hU1;clear hU1;go_wp2;go_ret2;exact⟨rfl,HU1.out⟩
theorem vAA(T:Tm)(av:List ByteArray){p:Option Addr}{c:Nat}{va:Value}(hok:okT T)(hd:rC T≤60)(hl:(flat T).length≤4000)(ha:av.length≤50000)(hs:∀ x∈flat T,x.s.size≤100000)(hcap:(flat T).length≤c)(hp0:p=none→c=0)(hp:RowArg w0 p (zB (flat T)))(hva:TextsV w0 va av)(hS:ShapesAt 0 w0)(hW:Pow10 w0)(h:inT T 0) :
 Calls Tryz.prog 20 #[.slice p (flat T).length c,va] w0 fun e w=>e = .returned (.tuple #[.string ⟨(aG (aC vG [] (flat T)++av) T []).toArray⟩,.int .i64 0])∧Under w0 w:=by
 have hck:=gH hok hd hl;have HC:=Lib.hid (show Calls Tryz.prog 41 #[.slice p (flat T).length c] w0 fun e w=>e = .returned (.tuple #[.int .i64 0,.int .i64 0])∧Under w0 w from(oDA (c:=c) hcap (by simp only[maxLen];omega) (fun x hx=>by have:=hs x hx;simp only[maxLen];omega) hp hS).mono fun e w hF=>by unfold iDA at hF;rw[hck,if_pos rfl,qFA T hok,(fZ T hok 0).1 h]at hF;exact hF);have HN:=Lib.hid (fun w (hU:Under w0 w)=>qIA (w0:=w) (c:=c) (flat T) hs (by omega) (hp.under hU) (hS.under hU) hck);have hnl:=lM vG (flat T) [];rw[List.length_nil,Nat.zero_add]at hnl;have hTV:TermV w0 (.slice p (flat T).length c) (flat T):=⟨p,c,rfl,hcap,hp0,hp⟩;have hlast:(flat T)[(flat T).length - 1]? = some T.root:=by
  rw[← List.getLast?_eq_getElem?,List.getLast?_eq_some_getLast (qKA T),lXA]
 have hab:∀ b off x n' c',(Value.slice p (flat T).length c) = .slice (some ⟨b,off,x⟩) n' c'→b < w0.heap.size:=fun b off x n' c' e=>by
  obtain⟨b',off',e',hb',_⟩:=RowArg.node hp hlast
  cases e
  cases e';exact hb'
 have HWd := Lib.hid (fun (w : World) (pb hb tb : Nat) (ks : lD) (hP : PrS w0 pb hb tb ks [] (.slice none 0 0) w) (hT : TakenIs ks ((aC vG [] (flat T) ++ av) ++ [])) => eYA T hok hd hl w0 w pb hb tb ks [] (aC vG [] (flat T) ++ av) (.slice none 0 0) (.slice p (flat T).length c) hW hS hP hT (TermV.mono _ _ _ _ hP.und hTV)
   (fun b off x n' c' e hc => by
     have h1:=hab b off x n' c' e;have h2:=hP.low b hc;omega) (by rw[List.length_append];omega) (by simp;omega) (fun s hs=>by simp at hs) h)
 generalize hNN:aC vG [] (flat T)=N at *;generalize aG (N++av) T []=R at *;have HVa:=Lib.hid hva;obtain⟨qa,ca,rfl,_,_,_⟩:=hva;clear hok hd hs hp hTV hlast hab hS hW hck h hNN;generalize (flat T).length=tl at *;go_enter Tryz.func20,Tryz.ntmps20;go_wp2_with fail;refine HC.out.mono ?_;rintro e w1 ⟨rfl,hU1⟩;have HU1:=Lib.hid hU1;clear hU1;go_wp2_with fail;refine(HN.out _ HU1.out).mono ?_;rintro e w2 ⟨a,b,rfl,hA,hB,hU2⟩;have HU2:=Lib.hid (HU1.out.trans hU2);have HA:=Lib.hid (TextsV.of_own hA);have hbase2:=HU2.out.size;obtain⟨q2,d2,rfl,_,_⟩:=RowArg.of_own hA;obtain⟨q3,d3,rfl,_,_⟩:=RowArg.of_own hB;clear hA hB hU2;have hmm:=@run_makeMap Tryz.prog;go_wp2_with fail;refine(nXA (w0:=w2)).mono ?_;rintro e w3 ⟨rfl,hM3,hU3⟩;have HM3:=Lib.hid hM3;have HU3:=Lib.hid hU3;have hsz3:=hM3.lt;clear hM3 hU3;obtain⟨wB,hwB⟩:∃ wB,wB=(w3.alloc (.map #[] 0)).alloc (.cells #[.map (some w2.heap.size),.map (some w3.heap.size),.slice none 0 0] 93):=⟨_,rfl⟩;have hUB:Under w3 wB:=by rw[hwB];exact aA (aA (Under.refl w3) _) _
 have hzB:wB.heap.size=w3.heap.size+2:=by rw[hwB];simp
 have hBB:BoxAt wB (w3.heap.size+1) 93 #[.map (some w2.heap.size),.map (some w3.heap.size),.slice none 0 0]:=by
  have:=yA (w3.alloc (.map #[] 0)) #[.map (some w2.heap.size),.map (some w3.heap.size),.slice none 0 0] 93;rw[World.size_alloc]at this;rw[hwB];exact this
 have hTB:MapAt wB w3.heap.size []:=by rw[hwB];exact(zLA w3).under (aA (Under.refl _) _)
 have hHB : MapIAt wB w2.heap.size vE := HM3.out.same (hUB.low _ hsz3); have hUC := aA (Under.refl wB) (.cells #[.slice q2 N.length d2, .slice qa av.length ca] 22); have HCc := Lib.hid (zU (w0 := wB.alloc (.cells #[.slice q2 N.length d2, .slice qa av.length ca] 22)) [N, av] (v := .slice (some ⟨w3.heap.size + 1 + 1, 0, none⟩) 2 2) (by simp) (by simp; omega)
   ⟨some ⟨w3.heap.size + 1 + 1, 0, none⟩, 2, [.slice q2 N.length d2, .slice qa av.length ca], rfl, by simp, (fun h => by cases h), (by have := gDA wB [.slice q2 N.length d2, .slice qa av.length ca] 22 (0, 0); rw [hzB] at this; exact this),
     (Zip.one (HA.out.under (HU3.out.trans (hUB.trans hUC)))).app (Zip.one (HVa.out.under (HU2.out.trans (HU3.out.trans (hUB.trans hUC)))))⟩)
 have hflat:[N,av].flatten=N++av:=by simp
 rw[hflat]at HCc;have HUB:=Lib.hid hUB;have HBB:=Lib.hid hBB;have HTB:=Lib.hid hTB;have HHB:=Lib.hid hHB;have HWB:=Lib.hid hwB;have HZB:=Lib.hid hzB;have HUC:=Lib.hid hUC;have hLlen:(N++av).length≤100000:=by rw[List.length_append];omega
 have HWd':=Lib.hid (fun w pb hb tb ks hP (hT:TakenIs ks (N++av))=>HWd.out w pb hb tb ks hP (by rw[List.append_nil];exact hT));clear hUB hBB hTB hHB hzB hUC hflat HWd;generalize N++av=L at *;go_wp2_with fail;rw[← HWB.out];refine HCc.out.mono ?_;rintro e w5 ⟨v5,rfl,hr5,hU5⟩;have HR5:=Lib.hid hr5;have hU5':=HUC.out.trans hU5;have HB5:=Lib.hid (HBB.out.under hU5');have HT5:=Lib.hid (HTB.out.under hU5');have HH5:=Lib.hid (HHB.out.same (hU5'.low _ HHB.out.lt));have HU5:=Lib.hid (HUB.out.trans hU5');have HU05:=Lib.hid (HU2.out.trans (HU3.out.trans HU5.out));have hb0:w0.heap.size≤w2.heap.size:=hbase2;have hb3:=HU3.out.size;obtain⟨q5,d5,rfl,_,_⟩:=RowArg.of_own hr5;have hL0:(0:Int)≤(L.length:Int):=by omega
 have hL9:(L.length:Int)≤100000:=by omega
 have hlen5:(wB.alloc (.cells #[.slice q2 N.length d2,.slice qa av.length ca] 22)).heap.size=w3.heap.size+3:=by rw[World.size_alloc,HZB.out]
 have HZ5:=Lib.hid hlen5;clear hr5 hU5 hU5' hwB hlen5;go_wp2;go_loopw [41] (fun i wr=>jDB w5 w3.heap.size L i wr) (fun i _=>L.length - (intOf i).toNat)
 case atStart=>exact⟨0,[],Nat.zero_le _,rfl,oMA,HT5.out,Ch.refl _⟩
 case round =>
   obtain⟨k,ks,hk,rfl,hT,hM,hC⟩:=hrel;have HM:=Lib.hid hM;have HT:=Lib.hid hT;have HC':=Lib.hid hC;have hBw:=pF HB5.out hC (by omega);have hRw:=fK HR5.out hC (fun g hg e=>by have:=(iC HR5.out hg).1;rw[HZ5.out]at this;omega);have HBw:=Lib.hid hBw;have HRw:=Lib.hid hRw;have e1:wr.cell? ⟨w3.heap.size+1,1,none⟩=some (.map (some w3.heap.size)):=hBw.cell 1;have el:=hBw.lt;clear hM hT hC hBw hRw;by_cases hlt:k < L.length
   · obtain ⟨q', c', eq', _, hra⟩ := RowArg.of_own HRw.out
     cases eq';obtain⟨b1,off1,rfl,hb1,cc⟩:=fMA hra hlt;have HTk:=Lib.hid (show L.take (k+1)=L.take k++[L[k]] from List.take_succ_eq_append_getElem hlt);clear hra;generalize L[k]=x at *;have hlt':(k:Int) < (L.length:Int):=by omega
     go_wp2_with (refine uG rfl _ _ _ (Or.inr rfl) Tryz.underlying91 Tryz.underlying9 rfl HM.out rfl rfl ?_);intro w6 hM6 hT6;have HM6:=Lib.hid hM6;have HC6:=Lib.hid (HC'.out.turned hT6 (fun g e _=>by cases e;rfl));clear hM6 hT6;go_wp2;go_roundw
     case rel=>exact⟨k+1,_,by omega,by go_num,by rw[HTk.out];exact HT.out.put,HM6.out,HC6.out⟩
     case measure=>simp[intOf];omega
   · obtain rfl : k = L.length := by omega
     have HT2 := HT.out; rw [List.take_length] at HT2; have HP := Lib.hid (show PrS w0 (w3.heap.size + 1) w2.heap.size w3.heap.size ks [] (.slice none 0 0) wr from
       ⟨HBw.out,HH5.out.same (HC'.out.block _ HH5.out.lt (by omega)),HM.out,World.ownsRow_nil _ _ _ _,zK HU05.out HC'.out (fun b hb=>by omega),⟨by omega,by omega,by omega⟩⟩)
     have HQ:=Lib.hid (HWd'.out wr _ _ _ _ HP.out HT2);clear HT2 e1 el;go_wp2_with fail;refine HQ.out.mono ?_;rintro e w7 ⟨rfl,sv7,hP7,_,_⟩;have HU7:=Lib.hid hP7.und;clear hP7;go_wp2;go_ret2;exact⟨rfl,HU7.out⟩
end
end Go.Proofs.YtlnlpdephijcoaaGreatDoor
