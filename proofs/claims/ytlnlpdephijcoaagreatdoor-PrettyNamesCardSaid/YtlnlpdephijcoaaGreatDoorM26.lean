/- Part 26 of what the proof rests on. -/
import Derived.Lib.ItoaLen
import Derived.Deep.AppendLies
import Derived.Deep.RegionHeld3
import Derived.Lib.SliceRun
import Derived.Test.YtlnlpdephijcoaaGreatDoorM01
import Derived.Test.YtlnlpdephijcoaaGreatDoorM11
import Derived.Test.YtlnlpdephijcoaaGreatDoorM16
import Derived.Test.YtlnlpdephijcoaaGreatDoorM23
import Derived.Test.YtlnlpdephijcoaaGreatDoorM24
set_option linter.unusedSimpArgs false
set_option linter.unusedVariables false
set_option maxRecDepth 100000
set_option maxHeartbeats 4000000
namespace Go.Proofs.YtlnlpdephijcoaaGreatDoor
open Go.Lx Go.RowKit
abbrev Pow10 (w : World) : Prop := Lib.TabIs Tryz.prog w "internal/strconv.uint64pow10" .u64 Lib.pow10Tab
theorem qK{w:World}(k:Nat)(os:Array Obj):Under w (Go.Sort.grow (w.drewN k) os) :=
 ⟨rfl, rfl, by simp [Go.Sort.grow], fun b hb => by
   show(w.heap++os)[b]? = _
   rw[Array.getElem?_append_left hb]⟩
theorem gPow : Tryz.prog.globalNamed "internal/strconv.uint64pow10" = some 3 := by kernel_rfl
theorem Pow10.under{W w:World}(h:Pow10 W)(hU:Under W w):Pow10 w:=by
 unfold Pow10 Lib.TabIs World.var? at *;rw[gPow]at *;simp only[Option.bind_some]at *;have hlt:3 < W.heap.size:=by
  cases hb:W.heap[3]? with
  | none=>simp[hb]at h
  | some o=>exact(Array.getElem?_eq_some_iff.1 hb).1
 rw[hU.low _ hlt];exact h
def m4A(v:Value):Prop:=v = .nilIface∨∃ te pe,v = .iface te pe
structure StrcAt (w:World):Prop where
 es:∃ v,w.cell? ⟨1,0,none⟩=some v∧m4A v
 er:∃ v,w.cell? ⟨2,0,none⟩=some v∧m4A v
 pow:Pow10 w
theorem jZ{w:World}{a:Addr}{v:Value}(h:w.cell? a=some v):a.block < w.heap.size:=by
 unfold World.cell? at h
 cases hb:w.heap[a.block]? with
 | none=>simp[hb]at h
 | some o=>exact(Array.getElem?_eq_some_iff.1 hb).1
theorem StrcAt.under{W w:World}(h:StrcAt W)(hU:Under W w):StrcAt w:=by
 obtain⟨⟨v,h1,h2⟩,⟨u,h3,h4⟩,h5⟩:=h;exact⟨⟨v,(jA hU (jZ h1) 0).trans h1,h2⟩,⟨u,(jA hU (jZ h3) 0).trans h3,h4⟩,h5.under hU⟩
theorem xAA(w:World)(t:TypeId)(s:ByteArray):Under w (Lib.bytesWorld w t s) :=
 ⟨rfl,rfl,by rw[Lib.bytesWorld_size];omega,fun b hb=>Lib.bytesWorld_at_old _ _ _ _ hb⟩
theorem p3A(s:ByteArray)(hs:s.size≤281474976710656)(w:World)(hE:StrcAt w) :
 Calls Tryz.prog 101 #[.string s] w fun e w'=>(∃ v ev,e = .returned (.tuple #[.int .i64 v,ev])∧((ev = .nilIface∧Lib.atoiAll s.data.toList = .ok v)∨((∃ te pe,ev = .iface te pe)∧∀ v,Lib.atoiAll s.data.toList≠.ok v)))∧Under w w':=by
 obtain⟨⟨v1,h1,h2⟩,⟨v2,h3,h4⟩,_⟩:=hE;rcases h:Lib.atoiAll s.data.toList with v | _ | _
 · skip
   refine(Tryz.strconv_Atoi_ok s (by omega) v h w).mono ?_;rintro e w' ⟨rfl,hw⟩;refine⟨⟨v,.nilIface,rfl,.inl ⟨rfl,rfl⟩⟩,?_⟩;rcases hw with rfl | ⟨t,rfl⟩
   · exact Under.refl _
   · exact xAA ..
 · refine(Tryz.strconv_Atoi_syntax s hs (fun v e=>by rw[h]at e;cases e) (fun e=>by rw[h]at e;cases e) v1 w h1 h2).mono ?_;rintro e w' ⟨N,rfl,_,_,hB⟩;exact⟨⟨0,_,rfl,.inr ⟨⟨_,_,rfl⟩,fun v e=>by cases e⟩⟩,zI hB⟩
 · refine(Tryz.strconv_Atoi_range s hs h v2 w h3 h4).mono ?_;rintro e w' ⟨N,rfl,_,_,hB⟩;exact⟨⟨_,_,rfl,.inr ⟨⟨_,_,rfl⟩,fun v e=>by cases e⟩⟩,zI hB⟩
section
variable {w0 : World}
def kDB(w0:World)(R:Option Nat)(e:Ending)(w:World):Prop:=(∃ n:Int,e = .returned (.tuple #[.int .i64 n,.bool R.isSome])∧∀ k,R=some k→n=(k:Int))∧Under w0 w
theorem nS(s:ByteArray)(a b:Nat)(hb:b < 100)(hab:a≤b)(hs:s.size≤1000000)(hE:StrcAt w0):Calls Tryz.prog 60 #[.string s,.int .i64 (a:Int),.int .i64 (b:Int)] w0 (kDB w0 (zW s a b)):=by
 have HA:=Lib.hid (p3A s (by omega) w0 hE);have HE:=Lib.hid hE;have hb0:(0:Int)≤(a:Int):=by omega
 have hb1:(b:Int) < 100:=by omega
 go_enter Tryz.func60,Tryz.ntmps60;go_wp2_with fail;refine HA.out.mono ?_;rintro e w1 ⟨⟨v,ev,rfl,hev⟩,hU1⟩;have HU1:=Lib.hid hU1;rcases hev with⟨rfl,hv⟩ | ⟨⟨te,pe,rfl⟩,hv⟩
 · obtain ⟨hv1, hv2⟩ := Lib.atoiAll_bounds hv; have HN := Lib.hid (z1A hv (a := a) (b := b) (by omega)); have HI := Lib.hid (Tryz.strconv_Itoa v hv1 hv2 w1 (HE.out.under hU1).pow); have hq0 : (Lib.itoa v == s.toList) = decide (Lib.itoa v = s.data.toList) := by
    rw[ByteArray.toList_eq,Bool.eq_iff_iff];simp
   have HQ:=Lib.hid hq0;clear hv hU1 hq0;generalize zW s a b=R at *;generalize hL:Lib.itoa v=L at *;clear hL
   cases hq:(L==s.toList)
   · have h1 : ¬ L = s.data.toList := by have := HQ.out; rw [hq] at this; simpa using this.symm
     have HR:RowKit.Hid (R=none):=Lib.hid (by rw[HN.out,if_neg fun h=>h1 h.1]);clear h1;go_wp2_with fail;refine HI.out.mono ?_;rintro e w2 ⟨rfl,kk,os,rfl⟩;have HU:=Lib.hid (qK (w:=w1) kk os);go_wp2;go_ret2;rw[HR.out];exact⟨⟨_,rfl,fun k h=>by cases h⟩,HU1.out.trans HU.out⟩
   · have h1 : L = s.data.toList := by have := HQ.out; rw [hq] at this; simpa using this.symm
     by_cases ha:(a:Int)≤v
     · by_cases hb2 : v ≤ (b : Int)
       · have HR:RowKit.Hid (R=some v.toNat):=Lib.hid (by rw[HN.out,if_pos ⟨h1,ha,hb2⟩]);have HV:=Lib.hid (show(v.toNat:Int)=v by omega);clear h1;go_wp2_with fail;refine HI.out.mono ?_;rintro e w2 ⟨rfl,kk,os,rfl⟩;have HU:=Lib.hid (qK (w:=w1) kk os);go_wp2;go_ret2;rw[HR.out];exact⟨⟨_,rfl,fun k h=>by cases h;exact HV.out.symm⟩,HU1.out.trans HU.out⟩
       · have HR:RowKit.Hid (R=none):=Lib.hid (by rw[HN.out,if_neg fun h=>hb2 h.2.2]);clear h1;go_wp2_with fail;refine HI.out.mono ?_;rintro e w2 ⟨rfl,kk,os,rfl⟩;have HU:=Lib.hid (qK (w:=w1) kk os);go_wp2;go_ret2;rw[HR.out];exact⟨⟨v,by show Ending.returned (.tuple #[.int .i64 v,.bool (decide (v≤(b:Int)))])=_;rw[decide_eq_false (by omega)];rfl,fun k h=>by cases h⟩,HU1.out.trans HU.out⟩
     · have HR:RowKit.Hid (R=none):=Lib.hid (by rw[HN.out,if_neg fun h=>ha h.2.1]);clear h1;go_wp2_with fail;refine HI.out.mono ?_;rintro e w2 ⟨rfl,kk,os,rfl⟩;have HU:=Lib.hid (qK (w:=w1) kk os);go_wp2;go_ret2;rw[HR.out];exact⟨⟨_,rfl,fun k h=>by cases h⟩,HU1.out.trans HU.out⟩
 · have HN:=Lib.hid (g7A hv a b);clear hv hU1;go_wp2;go_ret2;rw[HN.out];exact⟨⟨_,rfl,fun k h=>by cases h⟩,HU1.out⟩
end
end Go.Proofs.YtlnlpdephijcoaaGreatDoor
namespace Go.Proofs.YtlnlpdephijcoaaGreatDoor
open Go.Conc Go.Lx Go.RowKit
section
variable {w0 : World} {b off n cap k : Nat}
theorem j3:∀(row:List Sx) (j:Nat) (u:Value),(wD row)[j]? = some u→∃ k x,row[k]? = some x∧((j=k * 3∧u = .int .i64 x.many)∨(j=k * 3+1∧u = .int .i64 x.pos)∨(j=k * 3+2∧u = .string x.word)):=by
 intro row
 induction row with
 | nil=>intro j u h;simp[wD]at h
 | cons x row ih =>
   intro j u h
   match j,h with
   | 0,h=>cases h;exact⟨0,x,rfl,.inl ⟨rfl,rfl⟩⟩
   | 1,h=>cases h;exact⟨0,x,rfl,.inr (.inl ⟨rfl,rfl⟩)⟩
   | 2,h=>cases h;exact⟨0,x,rfl,.inr (.inr ⟨rfl,rfl⟩)⟩
   | j + 3, h =>
     obtain⟨k,y,h1,h2⟩:=ih j u h;refine⟨k+1,y,h1,?_⟩;rcases h2 with⟨rfl,rfl⟩ | ⟨rfl,rfl⟩ | ⟨rfl,rfl⟩
     · exact .inl ⟨by omega,rfl⟩
     · exact .inr (.inl ⟨by omega,rfl⟩)
     · exact .inr (.inr ⟨by omega,rfl⟩)
theorem e9A{row:List Sx}(h:lUA w0 b off row){j:Nat}{u:Value}(hj:(wD row)[j]? = some u):w0.cell? ⟨b,off+j,none⟩=some u:=by
 obtain⟨k,x,h1,h2⟩:=j3 row j u hj;obtain⟨c0,c1,c2⟩:=h k x h1;rcases h2 with⟨rfl,rfl⟩ | ⟨rfl,rfl⟩ | ⟨rfl,rfl⟩
 · exact c0
 · exact c1
 · exact c2
theorem vBB{row:List Sx}{u:Value}(h:u∈wD row):u.oneCell'=true:=by
 obtain⟨j,hj⟩:=List.getElem?_of_mem h;obtain⟨k,x,_,h2⟩:=j3 row j u hj;rcases h2 with⟨_,rfl⟩ | ⟨_,rfl⟩ | ⟨_,rfl⟩<;>rfl
theorem eZA(row:List Sx)(hne:row≠[])(hn:row.length≤1000000)(hb0:b < w0.heap.size)(ht:lUA w0 b off row) :
 Calls Tryz.prog 52 #[.slice (some ⟨b,off,none⟩) row.length cap] w0 fun e w'=>∃ v,e = .returned v∧w'.ownsRow w0.heap.size 29 3 v row.length (wD row)∧Under w0 w':=by
 obtain⟨i0,hi,hz0,hz1,hz2⟩:=info_parts Tryz.info29;have hmx:0+row.length≤maxLen:=by simp only[maxLen];omega
 have hby:(0+row.length) * 32≤140737488355328:=by omega
 have HT:=Lib.hid ht;clear ht;have eqn:=Lib.run_eql_slice_nil (P:=Tryz.prog) w0 25 29 (some ⟨b,off,none⟩) row.length cap 0 0 Tryz.underlying25;go_enter Tryz.func52,Tryz.ntmps52;go_wp2_with (at_builtin;refine wpList_append_own_at _ rfl _ _ 25 rfl w0.heap.size 29 i0 _ 3 32 Tryz.underlying25 hi hz0 hz1 hz2 rfl (by decide) _ _ _ rfl (g6A w0 _ _ _ (Nat.le_refl _)) ⟨b,off,none⟩ row.length cap (wD row) rfl (rH row) ?c1 (fun u hu=>vBB hu) hmx hby ?c5 ?_)
 case c1 =>
   intro j u hj;rw[eO];exact(jA (W:=w0) (aA ⟨rfl,rfl,Nat.le_refl _,fun _ _=>rfl⟩ _) hb0 _).trans (e9A HT.out hj)
 case c5=>simp
 intro v' w1 hown hgrow hnil hat;have HW:=Lib.hid hown;have HU2:=Lib.hid (eB (W:=w0) (aA ⟨rfl,rfl,Nat.le_refl _,fun _ _=>rfl⟩ _) hgrow fun g e=>by cases e;exact Nat.le_refl _);clear hown hgrow hnil hat;go_wp2;go_ret;exact⟨v',rfl,HW.out,HU2.out⟩
def SxOwns (w : World) (base : Nat) : List Value → List (List Sx) → Prop
  | [],[]=>True
  | v::vs,l::ls=>w.ownsRow base 29 3 v l.length (wD l)∧SxOwns w base vs ls
  | _,_=>False
theorem SxOwns.app {w : World} {base : Nat} : ∀ {vs : List Value} {ls : List (List Sx)} {v : Value} {l : List Sx}, SxOwns w base vs ls → w.ownsRow base 29 3 v l.length (wD l) → SxOwns w base (vs ++ [v]) (ls ++ [l])
  | [],[],_,_,_,h=>⟨h,trivial⟩
  | _::_,_::_,_,_,h,h'=>⟨h.1,SxOwns.app h.2 h'⟩
  | [],_::_,_,_,h,_=>h.elim
  | _::_,[],_,_,h,_=>h.elim
theorem SxOwns.map {w w' : World} {base base' : Nat} : ∀ {vs : List Value} {ls : List (List Sx)}, SxOwns w base vs ls → (∀ v n xs, w.ownsRow base 29 3 v n xs → w'.ownsRow base' 29 3 v n xs) → SxOwns w' base' vs ls
  | [],[],_,_=>trivial
  | _::_,_::_,h,h'=>⟨h' _ _ _ h.1,SxOwns.map h.2 h'⟩
  | [],_::_,h,_=>h.elim
  | _::_,[],h,_=>h.elim
theorem SxOwns.at {w : World} {base : Nat} : ∀ {vs : List Value} {ls : List (List Sx)}, SxOwns w base vs ls → ∀ {i : Nat} {l : List Sx}, ls[i]? = some l → ∃ v, vs[i]? = some v ∧ w.ownsRow base 29 3 v l.length (wD l)
  | [],[],_,_,_,hi=>by simp at hi
  | v::_,_::_,h,0,_,hi=>by cases hi;exact⟨v,rfl,h.1⟩
  | _ :: _, _ :: _, h, i + 1, _, hi => by
    obtain⟨v,h1,h2⟩:=SxOwns.at h.2 (i:=i) hi;exact⟨v,h1,h2⟩
  | [],_::_,h,_,_,_=>h.elim
  | _::_,[],h,_,_,_=>h.elim
structure IH (w0:World) (va:Value) (bs:List Nat) (vo:Value) (ls:List (List Sx)) (w:World):Prop where
 at_:w.ownsRow w0.heap.size 3 1 va bs.length (zH bs)
 out:∃ vs,w.ownsRow w0.heap.size 25 1 vo ls.length vs∧SxOwns w w0.heap.size vs ls
 low:Under w0 w
theorem Tryz.info25:(Tryz.prog.info? 25).map (fun i=>(i.zero,i.size,i.bytes))=some (some (.slice none 0 0),1,24):=by kernel_rfl
noncomputable def tUA:Code:=Tryz.f26.body.getD .skip
noncomputable def kSA:Code:=xA (fA (fA (fA (fA tUA))))
noncomputable def itRound:Code:=oC (oC (fA kSA))
def rM(l va:Value)(m k:Nat)(vo:Value)(J:Nat→Value):Array Value :=
 #[l, J 1, J 2, J 3, va, J 5, vo, J 7, J 8, J 9, J 10, J 11, J 12, J 13, J 14, J 15, J 16, .int .i64 (m : Int), .int .i64 (k : Int), J 19, J 20, J 21, J 22, J 23, J 24, J 25, J 26, J 27, J 28, J 29, J 30, J 31, J 32, J 33, J 34, J 35, J 36, J 37]
def r2A(w0:World)(l va:Value)(m k:Nat)(bs:List Nat)(ls:List (List Sx))(a':Act)(w':World):Prop :=
 ∃ vo J,a'=⟨rM l va m k vo J,[]⟩∧IH w0 va bs vo ls w'
def eCB(l va:Value)(m:Nat)(vo:Value)(w:World)(e:Exit)(a':Act)(w':World):Prop:=e = .exit 0∧∃ J,a'=⟨rM l va m m vo J,[]⟩∧w'=w
theorem g9A{l va vo:Value}{m:Nat}(J:Nat→Value)(w:World) :
 itRound.wp Tryz.prog (Exit.then (fun _ _=>False) (eCB l va m vo w)) ⟨rM l va m m vo J,[]⟩ w:=by
 unfold itRound kSA tUA;simp only[Tryz.f26,Option.getD_some,xA,fA,oC];unfold rM;go_wp2;exact⟨rfl,rA (F:=rM l va m m vo) (by rfl) rfl⟩
theorem iKA(row:List Sx){a c:Nat}(hc:c≤row.length):(piece row a c).length=c - a:=by
 unfold piece;rw[List.length_take,List.length_drop];omega
theorem d6A{row:List Sx}{a c:Nat}(h:lUA w0 b off row):lUA w0 b (off+a * 3) (piece row a c):=by
 intro k x hk;unfold piece at hk;have:row[a+k]? = some x:=by
  rw[List.getElem?_take]at hk
  split at hk
  · rw[List.getElem?_drop]at hk;exact hk
  · cases hk
 have:=h (a+k) x this;rw[Nat.add_mul]at this
 simpa [Nat.add_assoc] using this
theorem nAB {row : List Sx} {bs : List Nat} {va vo : Value} {ls : List (List Sx)} {a c : Nat} (hk : k + 1 < bs.length) (hbs : bs.length ≤ 1000001) (ha : bs[k]? = some a) (hc : bs[k + 1]? = some c) (hac : a < c) (hcn : c ≤ row.length) (hn : row.length ≤ 1000000) (hcap : row.length ≤ cap) (hls : ls.length = k) (J : Nat → Value) (w : World) (hP : IH w0 va bs vo ls w)
    (hb0:b < w0.heap.size) (ht:lUA w0 b off row) :
    itRound.wp Tryz.prog (Exit.then (r2A w0 (.slice (some ⟨b,off,none⟩) row.length cap) va (bs.length - 1) (k+1) bs (ls++[piece row a c])) (fun _ _ _=>False)) ⟨rM (.slice (some ⟨b,off,none⟩) row.length cap) va (bs.length - 1) k vo J,[]⟩ w:=by
  have hb:=Nat.lt_of_lt_of_le hb0 hP.low.size;obtain⟨i0,hi,hz0,hz1,hz2⟩:=info_parts Tryz.info25;obtain⟨m,hm⟩:∃ m,bs.length=m+1:=⟨bs.length - 1,by omega⟩;obtain⟨vs,ho,hel⟩:=hP.out;obtain⟨ga,gac,hva,hga,hgab,hgal,_,_⟩:=wC hP.at_ (by omega);have hne:=own_ne ho hP.at_ (by decide);rw[hm]at hva;subst hva;have ca:=lC hP.at_ hga (lN ha);have cc:=lC hP.at_ hga (lN hc);have hat0:=hP.at_;have hU:=hP.low;rw[hm]at hk hbs ⊢;rw[Nat.add_sub_cancel];clear hP;have hin:(k:Int) < m:=by omega
  have hk0:(0:Int)≤k:=Int.natCast_nonneg _;have ix1:(k:Int) < (m:Int)+1:=by omega
  have ix2:(k:Int)+1 < (m:Int)+1:=by omega
  have ix3:(0:Int)≤(k:Int)+1:=by omega
  have wr:IntKind.i64.wrap ((k:Int)+1)=(k:Int)+1:=by rw[IntKind.wrap_i64];omega
  have a0:(0:Int)≤a:=Int.natCast_nonneg _;have a1:(a:Int)≤c:=by omega
  have a2:(c:Int)≤cap:=by omega
  have hmx:k+1≤maxLen:=by simp only[maxLen];omega
  have hby:(k+1) * 24≤140737488355328:=by omega
  have HO:=Lib.hid ho;have HE:=Lib.hid hel;have HA:=Lib.hid hat0;have HU:=Lib.hid hU;have HT:=Lib.hid ht;clear ho hel hat0 hU ht;have hca:¬ cap=a:=by omega
  have hpl:(piece row a c).length=c - a:=iKA row hcn;have HC0:Calls Tryz.prog 52 #[.slice (some ⟨b,off+a * 3,none⟩) (c - a) (cap - a)] w.drew fun e w1=>∃ g1 c1,e = .returned (.slice (some ⟨g1,0,none⟩) (c - a) c1)∧w1.ownsRow w0.heap.size 29 3 (.slice (some ⟨g1,0,none⟩) (c - a) c1) (c - a) (wD (piece row a c))∧Under w w1:=by
   have := eZA (w0 := w.drew) (b := b) (off := off + a * 3) (cap := cap - a) (piece row a c) (fun e => by rw [e] at hpl; simp at hpl; omega) (by omega) hb (d6A fun k x hk => by
     have:=HT.out k x hk;rw[← jA HU.out hb0,← jA HU.out hb0,← jA HU.out hb0]at this;exact this)
   rw[hpl]at this;refine this.mono ?_;rintro e w1 ⟨v,rfl,h1,h2⟩;obtain⟨g1,c1,rfl,_⟩:=wC h1 (by omega);exact⟨g1,c1,rfl,kN h1 HU.out.size,⟨h2.os,h2.output,h2.size,h2.low⟩⟩
  have HC:=Lib.hid HC0;clear HC0;have hnx:some ga≠vo.ownBlock:=by
   rcases hne with e | e
   · rw[e];simp
   · exact fun e'=>e (e'.symm)
  subst hls; clear hpl hne ca cc; unfold itRound kSA tUA; simp only [Tryz.f26, Option.getD_some, xA, fA, oC]; unfold rM; have ca := lC HA.out hga (lN ha); have cc := lC HA.out hga (lN hc); go_wp2_with fail; go_region_held3 (fun w' => w'.cell? ⟨ga, ls.length, none⟩ = some (.int .i64 (a : Int)) ∧ w'.cell? ⟨ga, ls.length + 1, none⟩ = some (.int .i64 (c : Int)))
    (first
      | go_keep
      | (go_split_ands
         refine⟨?_,?_⟩
         · (rw[hgrow.cell_far _ (by have:=hU1.size;simp;omega) hnx];assumption)
         · (rw[hgrow.cell_far _ (by have:=hU1.size;simp;omega) hnx];assumption))
      | (refine ⟨?_, ?_⟩
         · (rw[jA hU1 hgal];assumption)
         · (rw[jA hU1 hgal];assumption)))
    (first
      | (go_simp;go_at_call 52;refine HC.out.mono ?_;rintro e w1 ⟨g1,c1,rfl,hown1,hU1⟩;have HU1:=Lib.hid hU1;have HW1:=Lib.hid hown1)
      | (refine step_append_lies _ (by rfl) _ _ _ (by rfl) w0.heap.size 25 i0 _ 1 24 Tryz.underlying54 hi hz0 hz1 hz2 rfl (by omega) vo ls.length vs (by rfl) ((uA HO.out hU1).alloc _) ⟨w1.heap.size,0,none⟩ 1 1 [.slice (some ⟨g1,0,none⟩) (c - a) c1] (by rfl) (by rfl) (World.news_of_block (cs:=#[.slice (some ⟨g1,0,none⟩) (c - a) c1]) (t:=25) (fr:=(0,0)) (heap_alloc_new w1 _)) (by simp[Value.oneCell']) (by omega) hmx hby (by have:=HU1.out.size;have:=HU.out.size;simp;omega) (w1.heap.size+1) (by simp) ?_;intro gg cc' w2 hown2 hgrow hat2 hlt2))
  have hpl:(piece row a c).length=c - a:=iKA row hcn;have HP2:IH w0 (.slice (some ⟨ga,0,none⟩) (m+1) gac) bs (.slice (some ⟨gg,0,none⟩) (ls.length+1) cc') (ls++[piece row a c]) w2:=by
   refine⟨qG ((uA HA.out hU1).alloc _) hgrow (.inr (by rw[hga];exact hnx)),⟨_,by rw[List.length_append];exact hown2,?_⟩,eB (aA (HU.out.trans hU1) _) hgrow fun g e=>(iC HO.out e).1⟩;refine SxOwns.app (HE.out.map fun v n xs h=>qG ((uA h hU1).alloc _) hgrow (own_ne h HO.out (by decide))) ?_;rw[hpl];exact qG (hown1.alloc _) hgrow (own_ne hown1 (uA HO.out hU1) (by decide))
  have HP3:=Lib.hid HP2;clear hown2 hgrow hat2 hlt2 hown1 hU1 HP2 hpl;go_wp2;exact⟨_,rA (F:=rM _ _ m (ls.length+1) _) (by rfl) HP3.out⟩
end
section
variable {w0 : World} {b off n cap k : Nat}
theorem dZA(row:List Sx)(st:List Nat)(n:Nat){k:Nat}(hk:k < st.length){a c:Nat}(ha:(st++[n])[k]? = some a)(hc:(st++[n])[k+1]? = some c):(pieces row st n)[k]? = some (piece row a c):=by
 unfold pieces;rw[List.getElem?_map,List.getElem?_range hk];simp only[Option.map_some,List.getD_eq_getElem?_getD,ha,hc,Option.getD_some]
theorem tAB{st:List Nat}{n:Nat}(h:Inc st n){k a c:Nat}(ha:(st++[n])[k]? = some a)(hc:(st++[n])[k+1]? = some c):a < c∧c≤n:=by
 unfold Inc at h;obtain⟨h1,e1⟩:=List.getElem?_eq_some_iff.1 ha;obtain⟨h2,e2⟩:=List.getElem?_eq_some_iff.1 hc;refine⟨by rw[← e1,← e2];exact List.pairwise_iff_getElem.1 h k (k+1) h1 h2 (by omega),?_⟩;have hl:(st++[n]).length=st.length+1:=by simp
 by_cases hk:k+1=st.length
 · rw [← e2]; have : (st ++ [n])[k + 1] = n := by simp [hk]
   omega
 · have := List.pairwise_iff_getElem.1 h (k + 1) st.length h2 (by omega) (by omega); have e3 : (st ++ [n])[st.length]'(by omega) = n := by simp
   rw[e3]at this;omega
def II(w0:World)(l va:Value)(row:List Sx)(st:List Nat)(m:Nat)(a:Act)(w:World):Prop :=
 ∃ k,m+k=st.length∧r2A w0 l va st.length k (st++[row.length]) ((pieces row st row.length).take k) a w
def uDB(w0:World)(l va:Value)(row:List Sx)(st:List Nat)(e:Exit)(a:Act)(w:World):Prop :=
 e = .exit 0∧r2A w0 l va st.length st.length (st++[row.length]) (pieces row st row.length) a w
theorem fYA (row : List Sx) (st : List Nat) {p : Option Addr} {va : Value} (hn : row.length ≤ 1000000) (hcap : row.length ≤ cap) (hp : SxArg w0 p row) (hst : st.length ≤ row.length) (hinc : Inc st row.length) (m : Nat) (a : Act) (w : World)
    (h0:II w0 (.slice p row.length cap) va row st m a w) :
    (Code.loop itRound).wp Tryz.prog (uDB w0 (.slice p row.length cap) va row st) a w:=by
  refine wp_loop_ghost _ m h0 ?_;clear h0;rintro m a w ⟨k,hmk,vo,J,rfl,hi⟩;by_cases hkn:k=st.length
  · subst hkn; refine wp_mono (g9A J w) ?_; rintro e a' w' h
    cases e with
    | normal=>exact h.elim
    | _ =>
      obtain⟨h1,J',rfl,rfl⟩:=h;rw[List.take_of_length_le (by rw[tX];exact Nat.le_refl _)]at hi;exact⟨h1,vo,J',rfl,hi⟩
  have hlt:k < st.length:=by omega
  obtain⟨b,off,rfl,hb0,ht⟩:=hp (fun e=>by rw[e,List.length_nil]at hst;omega);have hbl:(st++[row.length]).length=st.length+1:=by simp
  obtain⟨x,hx⟩:∃ x,(st++[row.length])[k]? = some x:=⟨_,List.getElem?_eq_getElem (by omega)⟩;obtain⟨y,hy⟩:∃ y,(st++[row.length])[k+1]? = some y:=⟨_,List.getElem?_eq_getElem (by omega)⟩;obtain⟨h1,h2⟩:=tAB hinc hx hy;have:=nAB (cap:=cap) (w0:=w0) (row:=row) (va:=va) (vo:=vo) (ls:=(pieces row st row.length).take k) (by omega) (by omega) hx hy h1 h2 hn hcap (by rw[List.length_take,tX];omega) J w hi hb0 ht;rw[hbl,Nat.add_sub_cancel]at this;refine wp_mono this ?_;rintro e a' w' h
  cases e with
  | normal =>
    refine⟨m - 1,by omega,k+1,by omega,?_⟩;have hpl:k < (pieces row st row.length).length:=by rw[tX];exact hlt
    have hpk:=dZA row st row.length hlt hx hy;rw[List.getElem?_eq_getElem hpl]at hpk;rw[List.take_succ_eq_append_getElem hpl,Option.some.inj hpk];exact h
  | _=>exact h.elim
def aVA(w0:World)(R:Option (List (List Sx)))(e:Ending)(w':World):Prop :=
 Under w0 w'∧match R with
  | some ls=>∃ vo vs,e = .returned (.tuple #[vo,.bool true])∧w'.ownsRow w0.heap.size 25 1 vo ls.length vs∧SxOwns w' w0.heap.size vs ls
  | none=>e = .returned (.tuple #[.slice none 0 0,.bool false])
theorem rTA:∀(l:List Sx) (i:Nat) (st s:List Nat),kC l i st=some s→s.length≤st.length+l.length:=by
 intro l
 induction l with
 | nil=>intro i st s h;cases h;simp
 | cons x l ih =>
   intro i st s h;simp only[kC]at h
   split at h
   · have := ih _ _ _ h; have e : (uN x i st).length ≤ st.length + 1 := by unfold uN; simp
     simp only[List.length_cons];omega
   · cases h
theorem iJA(row:List Sx){p:Option Addr}(hn:row.length≤1000000)(hcap:row.length≤cap)(hp:SxArg w0 p row) :
 Calls Tryz.prog 26 #[.slice p row.length cap] w0 (aVA w0 (vM row)):=by
 have C1:=Lib.hid (gY (w0:=w0) (cap:=cap) row hn hp);have HL:=Lib.hid (fun st va hst hinc m a w h=>fYA (w0:=w0) (cap:=cap) (va:=va) row st hn hcap hp hst hinc m a w h);have HI:=Lib.hid (fun st h=>xAB row 0 [] st (q6A 0) h);have HN:=Lib.hid (fun st h=>rTA row 0 [] st h);unfold vM;generalize kC row 0 []=R at *;clear hp;go_enter Tryz.func26,Tryz.ntmps26;go_wp2_with fail;refine C1.out.mono ?_;rintro e w1 ⟨hU1,hR1⟩
 cases R with
 | none =>
   subst hR1;have HU1:=Lib.hid hU1;clear hU1;go_wp2;go_ret2;exact⟨HU1.out,rfl⟩
 | some st =>
   obtain⟨va,rfl,hown⟩:=hR1;have hst:=HN.out st rfl;simp only[List.length_nil,Nat.zero_add]at hst;have hinc:=HI.out st rfl;rw[Nat.zero_add]at hinc;obtain⟨g,gc,rfl,hg,hgb,hgl,_,_⟩:=wC hown (by omega);have HL2:=Lib.hid (HL.out st (.slice (some ⟨g,0,none⟩) (st.length+1) gc) hst hinc);have HO:=Lib.hid hown;have HU1:=Lib.hid hU1;clear hU1 hown hinc HL HI HN C1;go_wp2;rename_i K hK;refine wp_mono (HL2.out st.length _ _ ⟨0,rfl,.slice none 0 0,_,zC (F:=rM _ _ _ 0 _) (by rfl),⟨by simpa using HO.out,⟨[],jLA _ _ _ _,trivial⟩,HU1.out⟩⟩) ?_;rintro e a' w' ⟨rfl,vo,J,rfl,hi⟩;simp only[Exit.inBlock,if_pos,Exit.then];refine hK _ _ ?_;have HH:=Lib.hid hi;clear hi;unfold rM;go_wp2;go_ret2;obtain⟨vs,h1,h2⟩:=HH.out.out;exact⟨HH.out.low,vo,vs,rfl,h1,h2⟩
def RowsArg(w:World)(p:Option Addr)(ls:List (List Sx)):Prop:=ls≠[]→∃ b off,p=some ⟨b,off,none⟩∧b < w.heap.size∧∀ i l,ls[i]? = some l→∃ q c,w.cell? ⟨b,off+i,none⟩=some (.slice q l.length c)∧l.length≤c∧SxArg w q l
theorem RowsArg.under{a b:World}{p:Option Addr}{l:List (List Sx)}(h:RowsArg a p l)(hU:Under a b):RowsArg b p l:=by
 intro hne;obtain⟨bl,off,rfl,hb,ht⟩:=h hne;refine⟨bl,off,rfl,Nat.lt_of_lt_of_le hb hU.size,fun k t hk=>?_⟩;obtain⟨q,c,h1,h2,h3⟩:=ht k t hk;exact⟨q,c,by rw[jA hU hb];exact h1,h2,h3.under hU⟩
theorem oVA{w:World}{base:Nat}{e:TypeId}{l:Value}{row:List Sx}(h:w.ownsRow base e 3 l row.length (wD row)):∃ p cap,l = .slice p row.length cap∧row.length≤cap∧SxArg w p row:=by
 obtain⟨p,cap,rfl,h1⟩:=eBB h;refine⟨p,cap,rfl,?_,h1⟩;rcases h.2 with⟨e,h0⟩ | ⟨g,c,cur,e,_,_,h2,_⟩
 · rw[h0];exact Nat.zero_le _
 · cases e;exact h2
end
section
variable {w0 : World} {b off n cap k : Nat}
theorem ySA(init:List Sx)(x:Sx)(hn:init.length+1≤1000000)(hcap:init.length+1≤cap)(hb0:b < w0.heap.size)(ht:lUA w0 b off (init++[x])) :
 Calls Tryz.prog 56 #[.slice (some ⟨b,off,none⟩) (init.length+1) cap] w0 (aVA w0 (cO (init++[x]))):=by
 have hl:(init++[x]).length=init.length+1:=by simp
 have C1:=gY (w0:=w0) (cap:=cap) (p:=some ⟨b,off,none⟩) (init++[x]) (by omega) (fun _=>⟨b,off,rfl,hb0,ht⟩);rw[hl]at C1;have C1:=Lib.hid C1;have C2:=Lib.hid (fun w1 (hU1:Under w0 w1)=>iJA (w0:=w1) (cap:=cap) (p:=some ⟨b,off,none⟩) init (by omega) (by omega) (SxArg.under (a:=w0) (fun _=>⟨b,off,rfl,hb0,fun k y hk=>ht k y (by rw[List.getElem?_append_left (List.getElem?_eq_some_iff.1 hk).1];exact hk)⟩) hU1));have c2:=(ht init.length x (by simp)).2.2;have N0:kC (init++[x]) 0 []=none→cO (init++[x])=none:=by
  intro h;rw[iO,h]
 have N1:∀ st,kC (init++[x]) 0 []=some st→st.length≠1→cO (init++[x])=none:=by
  intro st h hs;rw[iO,h]
  match st,hs with
  | [],_=>rfl
  | [_],h=>exact absurd rfl h
  | _::_::_,_=>rfl
 have N2:∀ st,kC (init++[x]) 0 []=some st→st.length=1→cO (init++[x])=if x.word.size=0 then vM init else none:=by
  intro st h hs;rw[iO,h]
  match st,hs with
  | [_],_=>rfl
 have N0:=Lib.hid N0;have N1:=Lib.hid N1;have N2:=Lib.hid N2;clear ht hl;generalize cO (init++[x])=PR at *;generalize kC (init++[x]) 0 []=R at *;have a1:(init.length:Int)≤cap:=by omega
 have a2:(init.length:Int) < (init.length:Int)+1:=by omega
 have a3:(0:Int)≤init.length:=by omega
 have a4:(init.length:Int)+1≤1000000:=by omega
 obtain⟨xm,xp,xw⟩:=x;simp only at c2 N2;go_enter Tryz.func56,Tryz.ntmps56;go_wp2_with fail;refine C1.out.mono ?_;rintro e w1 ⟨hU1,hR1⟩;rw[← jA hU1 hb0]at c2
 cases R with
 | none =>
   subst hR1;have HU1:=Lib.hid hU1;have N0':=Lib.hid (N0.out rfl);clear hU1 N0 N1 N2;go_wp2;go_ret2;rw[N0'.out];exact⟨HU1.out,rfl⟩
 | some st =>
   obtain⟨va,rfl,hown⟩:=hR1;obtain⟨g,gc,rfl,hg,hgb,hgl,_,_⟩:=wC hown (by omega);have HU1:=Lib.hid hU1;clear hU1 hown hg hgb hgl;by_cases hs:st.length=1
   · have N2' := Lib.hid (N2.out st rfl hs); clear N0 N1 N2 C1; rw [hs]; clear hs; by_cases hB : xw.size = 0
     · have e0 : xw = ⟨#[]⟩ := ByteArray.ext (Array.eq_empty_of_size_eq_zero hB); subst e0; clear hB; go_wp2_with fail; refine (C2.out w1 HU1.out).mono ?_; rintro e w2 ⟨hU2, hR2⟩; have hPR := N2'.out; simp only [show (⟨#[]⟩ : ByteArray).size = 0 from rfl, if_true] at hPR; subst hPR; generalize vM init = R2 at *
       cases R2 with
       | none =>
         subst hR2;have HU2:=Lib.hid hU2;clear hU2;go_wp2;go_ret2;exact⟨HU1.out.trans HU2.out,rfl⟩
       | some ls =>
         obtain⟨vo,vs,rfl,h1,h2⟩:=hR2;have HU2:=Lib.hid hU2;have H1:=Lib.hid h1;have H2:=Lib.hid h2;clear hU2 h1 h2;go_wp2;go_ret2;exact⟨HU1.out.trans HU2.out,vo,vs,rfl,kN H1.out HU1.out.size,H2.out.map fun v n xs h=>kN h HU1.out.size⟩
     · obtain⟨e1,e2⟩:=zO hB;have hPR:=N2'.out;rw[if_neg hB]at hPR;subst hPR;clear hB N2';go_wp2;go_ret2;exact⟨HU1.out,rfl⟩
   · have e1 : ((st.length : Int) + 1 != 2) = true := by simp; omega
     have N1':=Lib.hid (N1.out st rfl hs);clear N0 N1 N2 C1 C2 hs;go_wp2;go_ret2;rw[N1'.out];exact⟨HU1.out,rfl⟩
theorem g0A{p:Option Addr}:Calls Tryz.prog 56 #[.slice p 0 cap] w0 (aVA w0 none):=by
 have C1:=Lib.hid (gY (w0:=w0) (cap:=cap) (p:=p) [] (by simp) (fun h=>absurd rfl h));have z:(([]:List Sx).length:Nat)=0:=rfl;go_enter Tryz.func56,Tryz.ntmps56;go_wp2_with fail;refine C1.out.mono ?_;rintro e w1 ⟨hU1,va,rfl,hown⟩;obtain⟨g,gc,rfl,hg,hgb,hgl,_,_⟩:=wC hown (by simp);have HU1:=Lib.hid hU1;clear hU1 hown hg hgb hgl;go_wp2;go_ret2;exact⟨HU1.out,rfl⟩
theorem xIA(row:List Sx){p:Option Addr}(hn:row.length≤1000000)(hcap:row.length≤cap)(hp:SxArg w0 p row) :
 Calls Tryz.prog 56 #[.slice p row.length cap] w0 (aVA w0 (cO row)):=by
 by_cases hne:row=[]
 · subst hne;exact g0A
 obtain⟨init,x,rfl⟩:∃ init x,row=init++[x]:=⟨row.dropLast,row.getLast hne,(List.dropLast_concat_getLast hne).symm⟩;obtain⟨b,off,rfl,hb0,ht⟩:=hp hne;rw[List.length_append]at hn hcap ⊢;exact ySA init x hn hcap hb0 ht
end
end Go.Proofs.YtlnlpdephijcoaaGreatDoor
namespace Go.Proofs.YtlnlpdephijcoaaGreatDoor
open Go.Lx Go.RowKit
theorem Tryz.infoStrZ:(Tryz.prog.info? 9).map (fun i=>(i.zero,i.size,i.bytes))=some (some (.string ⟨#[]⟩),1,16):=by kernel_rfl
end Go.Proofs.YtlnlpdephijcoaaGreatDoor
