/- Part 27 of what the proof rests on. -/
import Derived.Lib.SliceRun
import Derived.Laws.AppendOwnNone
import Derived.Scope
import Derived.WalkMore
import Derived.Test.YtlnlpdephijcoaaGreatDoorM01
import Derived.Test.YtlnlpdephijcoaaGreatDoorM12
import Derived.Test.YtlnlpdephijcoaaGreatDoorM25
import Derived.Test.YtlnlpdephijcoaaGreatDoorM26
set_option linter.unusedSimpArgs false
set_option linter.unusedVariables false
set_option maxRecDepth 100000
set_option maxHeartbeats 4000000
namespace Go.Proofs.YtlnlpdephijcoaaGreatDoor
open Go.Lx Go.RowKit
section
variable {w0 : World}
theorem lLA(n:Nat)(hn:n≤1000000):Calls Tryz.prog 80 #[.slice none 0 0,.int .i64 (n:Int)] w0 fun e w=>∃ v,e = .returned v∧w.ownsRow w0.heap.size 9 1 v 0 []∧Under w0 w:=by
 obtain⟨i0,hi,hz0,hz1,hz2⟩:=info_parts Tryz.infoStrZ;by_cases h0:n=0
 · subst h0;go_enter Tryz.func80,Tryz.ntmps80;go_wp2;go_ret;exact⟨_,rfl,World.ownsRow_nil _ _ _ _,Under.refl _⟩
 · have h1 : (0 : Int) < n := by omega
   have h2:(n:Int)≤1000000:=by omega
   have h3:n * i0.bytes≤140737488355328:=by rw[hz2];omega
   have h4:1≤n:=by omega
   clear h0;go_enter Tryz.func80,Tryz.ntmps80;go_wp2_with (at_builtin;refine aS rfl _ _ w0.heap.size 22 3 9 rfl i0 (.string ⟨#[]⟩) Tryz.underlying22 Tryz.underlying3 hi hz0 hz1 rfl n rfl rfl h4 h3 hn (Nat.le_refl _) ?_;intro g c w1 hown hgrow);have hc:=nO hown (Nat.zero_le n);have HC:=Lib.hid hc;have HU:=Lib.hid (eB (Under.refl w0) hgrow fun g e=>by cases e);clear hown hgrow hc;go_wp2;go_ret;refine⟨_,rfl,?_,HU.out⟩;have:=HC.out;rw[Nat.zero_mul,List.take_zero]at this;exact this
theorem wJA{α:Type}(css:List (List α))(k:Nat)(h:k < css.length):(css.take (k+1)).flatten=(css.take k).flatten++css[k]:=by
 rw[List.take_succ_eq_append_getElem h,List.flatten_append];simp
theorem hLA{α:Type}(css:List (List α))(k:Nat):(css.take k).flatten.length≤css.flatten.length:=by
 have:css.flatten=(css.take k).flatten++(css.drop k).flatten:=by rw[← List.flatten_append,List.take_append_drop]
 rw[this,List.length_append];omega
def CIS(w0:World)(css:List (List ByteArray))(v i:Value)(w:World):Prop :=
 ∃ k N,k≤css.length∧i = .int .i64 (k:Nat)∧N=(css.take k).flatten.length∧w.ownsRow w0.heap.size 9 1 v N ((css.take k).flatten.map .string)∧Under w0 w
theorem zU(css:List (List ByteArray)){v:Value}(hn:css.length≤100000)(ht:css.flatten.length≤100000)(hv:ListV TextsV w0 v css) :
 Calls Tryz.prog 43 #[v] w0 fun e w=>∃ v,e = .returned v∧w.ownsRow w0.heap.size 9 1 v css.flatten.length (css.flatten.map .string)∧Under w0 w:=by
 obtain⟨i0,hi,hz0,hz1,hz2⟩:=info_parts Tryz.infoStrZ;obtain⟨p,c,us,rfl,hc,_,hr,hz⟩:=hv;have HR:=Lib.hid hr;have HZ:=Lib.hid hz;have HT:=Lib.hid ht;clear hr hz ht;go_enter Tryz.func43,Tryz.ntmps43;go_wp2
 go_loop [3,11] (fun sz i=>∃(k:Nat) (N:Nat),k≤css.length∧i = .int .i64 k∧sz = .int .i64 N∧N=(css.take k).flatten.length) (fun _ i=>css.length - (intOf i).toNat)
 case atStart=>exact⟨0,0,Nat.zero_le _,rfl,rfl,rfl⟩
 case round =>
   obtain⟨k,f,hk,rfl,rfl,hf0⟩:=hrel;have hb1:f≤100000:=by rw[hf0];exact Nat.le_trans (hLA css k) HT.out
   have hfp:(0:Int)≤f:=Int.natCast_nonneg _;have HF0:=Lib.hid hf0;clear hf0;by_cases hlt:k < css.length
   · obtain ⟨u, hu, q, c', rfl, hc', h0', hr'⟩ := HZ.out.at (List.getElem?_eq_getElem hlt); obtain ⟨b, off, rfl, hb, hcs⟩ := HR.out (fun e => by rw [e] at hu; simp at hu); have cc := hcs k _ hu; have hb2 := Nat.le_trans (hLA css (k + 1)) HT.out; have hf := congrArg List.length (wJA css k hlt); rw [List.length_append, ← HF0.out] at hf; have hb3 : f + css[k].length ≤ 100000 := by omega
     have HF:=Lib.hid hf;clear hcs hr' hf hb2 hu;generalize css[k].length=m at *;have hm0:(0:Int)≤m:=Int.natCast_nonneg _;have hb4:(f:Int)+m≤100000:=by omega
     have hb5:¬(f:Int)+m < 0:=by omega
     go_wp2
     go_round
     case rel=>exact⟨k+1,f+m,by omega,by go_num,by go_num,by rw[HF.out]⟩
     case measure=>simp[intOf];omega
   · obtain rfl : k = css.length := by omega
     have HG:=Lib.hid (lLA (w0:=w0) f (by omega));clear hlt;go_wp2_with fail;refine HG.out.mono ?_;rintro e w1 ⟨v,rfl,hown,hU⟩;have HO:=Lib.hid hown;have HU:=Lib.hid hU;clear hown hU;go_wp2;go_loopw [6,27] (fun v i wr=>CIS w0 css v i wr) (fun _ i _=>css.length - (intOf i).toNat)
     case atStart=>exact⟨0,0,Nat.zero_le _,rfl,rfl,HO.out,HU.out⟩
     case round =>
       obtain⟨k,N,hk,rfl,hN,hown,hU⟩:=hrel;by_cases hlt:k < css.length
       · obtain ⟨u, hu, q, c', rfl, hc', h0', hr'⟩ := HZ.out.at (List.getElem?_eq_getElem hlt); obtain ⟨b, off, rfl, hb, hcs⟩ := HR.out (fun e => by rw [e] at hu; simp at hu); have cc := hcs k _ hu; rw [← jA hU hb] at cc; have hb' := Nat.lt_of_lt_of_le hb hU.size; have hf := wJA css k hlt; have hb2 := Nat.le_trans (hLA css (k + 1)) HT.out; rw [hf, List.length_append, ← hN] at hb2; have HN := Lib.hid hN; have HF := Lib.hid hf; have HO2 := Lib.hid hown; have HU2 := Lib.hid hU; have HR' := Lib.hid (hr'.under hU); have hmx : N + css[k].length ≤ maxLen := by simp only [maxLen]; omega
         have hby:(N+css[k].length) * 16≤140737488355328:=by omega
         clear hcs hr' hf hN hown hU hu;generalize hm:css[k].length=m at *;have HM:=Lib.hid hm;clear hm
         cases q with
         | none =>
           obtain rfl:c'=0:=h0' rfl;obtain rfl:m=0:=by omega
           go_wp2_with (at_builtin;refine wpList_append_own_none rfl _ _ 22 rfl w0.heap.size 9 i0 1 Tryz.underlying22 hi _ N _ rfl HO2.out rfl ?_);go_roundw
           case rel=>exact⟨k+1,N,by omega,by go_num,by rw[HF.out,List.length_append,← HN.out,HM.out];rfl,by rw[HF.out,List.eq_nil_of_length_eq_zero HM.out,List.append_nil];exact HO2.out,HU2.out⟩
           case measure=>simp[intOf];omega
         | some a =>
           obtain⟨XS,hXS⟩:∃ XS,XS=(List.take k css).flatten.map Value.string:=⟨_,rfl⟩;rw[← hXS]at HO2;have HXS:=Lib.hid hXS;clear hXS;go_wp2_with (at_builtin;refine wpList_append_own_at _ rfl _ _ 22 rfl w0.heap.size 9 i0 _ 1 16 Tryz.underlying22 hi hz0 hz1 hz2 rfl (by decide) _ N _ rfl HO2.out a m c' (css[k].map .string) rfl ?c1 ?c2 ?c3 hmx hby ?c5 ?_)
           case c1=>rw[List.length_map,HM.out];omega
           case c2 =>
             intro j u hj;obtain⟨b2,off2,e,hb2,hc2⟩:=HR'.out (fun e=>by rw[e]at hj;cases hj)
             cases e;rw[eO];exact hc2 j u hj
           case c3 =>
             intro u hu;obtain⟨x,_,rfl⟩:=List.mem_map.1 hu;rfl
           case c5=>exact HU2.out.size
           intro v' w2 hown2 hgrow2 hnil2 hat2;have hU3:=eB HU2.out hgrow2 fun g e=>(iC HO2.out e).1
           have HO3:=Lib.hid hown2;have HU3:=Lib.hid hU3;clear hown2 hnil2 hat2 hU3;go_wp2;go_roundw
           case rel=>exact⟨k+1,N+m,by omega,by go_num,by rw[HF.out,List.length_append,← HN.out,HM.out],by rw[HF.out,List.map_append,← HXS.out];exact HO3.out,HU3.out⟩
           case measure=>simp[intOf];omega
       · obtain rfl : k = css.length := by omega
         have HO2:=Lib.hid hown;have HU2:=Lib.hid hU;have HN:=Lib.hid hN;clear hown hU hN;go_wp2;go_ret;have e1:=HN.out;have e3:=HO2.out;rw[List.take_length]at e1 e3;rw[e1]at e3;exact⟨_,rfl,e3,HU2.out⟩
end
theorem fO{C:Nat→Prop}{w w':World}(h:Ch C w w'){b:Nat}(hb:b < w.heap.size)(hc:¬ C b)(j:Nat):w'.cell? ⟨b,j,none⟩=w.cell? ⟨b,j,none⟩:=by simp only[World.cell?,h.block b hb hc]
def sEA(C:Nat→Prop)(q:Option Addr):Prop:=∀ b off x,q=some ⟨b,off,x⟩→¬ C b
theorem cBB{C:Nat→Prop}{w w':World}{q:Option Addr}{cs:List Value}(h:RowArg w q cs)(hC:Ch C w w')(ha:sEA C q):RowArg w' q cs:=fun hne=>by
 obtain⟨b,off,rfl,hb,hc⟩:=h hne;exact⟨b,off,rfl,Nat.lt_of_lt_of_le hb hC.size,fun j u hj=>(fO hC hb (ha b off none rfl) _).trans (hc j u hj)⟩
theorem oU{C:Nat→Prop}{w w':World}{q:Option Addr}{row:List Sx}(h:SxArg w q row)(hC:Ch C w w')(ha:sEA C q):SxArg w' q row:=fun hne=>by
 obtain⟨b,off,rfl,hb,hc⟩:=h hne;refine⟨b,off,rfl,Nat.lt_of_lt_of_le hb hC.size,fun k x hk=>?_⟩;rw[fO hC hb (ha b off none rfl),fO hC hb (ha b off none rfl),fO hC hb (ha b off none rfl)];exact hc k x hk
def aAA(C:Nat→Prop)(v:Value):Prop:=∀ q n c,v = .slice q n c→n≠0→sEA C q
theorem b3A{C:Nat→Prop}{w w':World}{v:Value}{ss:List ByteArray}(h:TextsV w v ss)(hC:Ch C w w')(ha:aAA C v):TextsV w' v ss:=by
 obtain⟨p,c,rfl,h1,h2,h3⟩:=h;exact⟨p,c,rfl,h1,h2,fun hne=>cBB h3 hC (ha _ _ _ rfl (fun e=>hne (by rw[List.eq_nil_of_length_eq_zero e];rfl))) hne⟩
theorem vWA{C:Nat→Prop}{w:World}{base s n:Nat}{t:TypeId}{v:Value}{xs:List Value}(h:w.ownsRow base t s v n xs)(hc:∀ g,v.ownBlock=some g→¬ C g):aAA C v:=by
 rcases h.2 with⟨rfl,_⟩ | ⟨g,c,cur,rfl,_⟩
 · intro q n c e _;cases e;intro b off x e;cases e
 · intro q n c e _;cases e;intro b off x e;cases e;exact hc _ rfl
theorem oL{l:List ST}{y:ST}(h:y∈l):y.last∈iA l:=by
 induction l with
 | nil=>cases h
 | cons a l ih =>
   rw[iA,List.mem_append];rcases List.mem_cons.1 h with rfl | h
   · obtain ⟨i, e⟩ := gK y
     left;rw[e];simp
   · exact .inr (ih h)
def TsArg(C:Nat→Prop)(w:World)(q:Option Addr)(ts:List ST):Prop:=ts≠[]→∃ b off,q=some ⟨b,off,none⟩∧b < w.heap.size∧¬ C b ∧
 ∀ i T,ts[i]? = some T→∃ qi ci,w.cell? ⟨b,off+i,none⟩=some (.slice qi (jB T).length ci)∧(jB T).length≤ci∧SxArg w qi (jB T)∧sEA C qi
theorem TsArg.ch{C D:Nat→Prop}{w w':World}{q:Option Addr}{ts:List ST}(h:TsArg C w q ts)(hC:Ch C w w'):TsArg C w' q ts:=fun hne=>by
 obtain⟨b,off,rfl,hb,hn,hc⟩:=h hne;refine⟨b,off,rfl,Nat.lt_of_lt_of_le hb hC.size,hn,fun i T hi=>?_⟩;obtain⟨qi,ci,h1,h2,h3,h4⟩:=hc i T hi;exact⟨qi,ci,(fO hC hb hn _).trans h1,h2,oU h3 hC h4,h4⟩
def TgC(rb:Nat)(ov:Value)(nb:Nat)(b:Nat):Prop:=dH rb ov b∨b=nb
noncomputable def mY:Code:=Tryz.f28.body.getD .skip
noncomputable def nQ:Code:=fA (fA (fA (fA (fA (fA (fA (fA (fA (fA (fA (fA (oC (fA mY)))))))))))))
noncomputable def tgRound:Code:=oC (oC (fA (xA (fA nQ))))
def vD(rb nb:Nat)(bv nv:Value)(wt:Bool)(ps:ByteArray)(q2:Option Addr)(n c2 k:Nat)(J:Nat→Value):Array Value :=
 #[.pointer (some ⟨rb, 0, none⟩), J 1, bv, J 3, J 4, J 5, .bool false, J 7, J 8, J 9, J 10, J 11, .string ps, J 13, .pointer (some ⟨nb, 0, none⟩), nv, .bool wt, J 17, J 18, J 19, J 20, J 21, J 22, J 23, J 24, J 25, J 26, J 27, J 28, J 29, J 30, J 31, J 32, J 33, J 34, J 35, J 36, J 37, J 38, J 39, J 40, J 41, J 42, J 43, J 44, J 45, J 46, J 47, J 48, J 49, J 50, J 51, J 52, J 53, J 54, J 55, J 56, J 57, J 58, J 59, J 60, J 61, J 62, J 63, J 64, J 65, J 66, J 67, J 68, J 69, J 70, J 71, J 72, J 73, J 74, J 75, J 76, J 77, J 78, J 79, J 80, J 81, J 82, J 83, J 84, J 85, J 86, J 87, J 88, J 89, J 90, J 91, J 92, J 93, J 94, J 95, J 96, J 97, J 98, J 99, J 100, J 101, .slice q2 n c2, .int .i64 (n : Int), .int .i64 (k : Int), J 105, J 106, J 107, J 108, J 109, J 110, J 111, J 112, J 113, J 114, J 115, J 116, J 117, J 118, J 119, J 120, J 121, J 122, J 123, J 124, J 125, J 126, J 127, J 128, J 129, J 130, J 131, J 132, J 133, J 134, J 135, J 136, J 137, J 138, J 139, J 140, J 141, J 142, J 143, J 144, J 145, J 146, J 147, J 148, J 149, J 150, J 151, J 152, J 153, J 154, J 155, J 156, J 157, J 158, J 159, J 160, J 161, J 162, J 163, J 164, J 165, J 166, J 167, J 168, J 169, J 170, J 171, J 172, J 173, J 174, J 175, J 176, J 177, J 178, J 179, J 180, J 181, J 182, J 183, J 184, J 185, J 186, J 187, J 188, J 189, J 190, J 191, J 192, J 193, J 194, J 195, J 196, J 197, J 198, J 199, J 200, J 201, J 202, J 203, J 204]
def yH(b:Bool)(J:Nat→Value):Array Value:=#[J 0,J 1,J 2,J 3,J 4,J 5,.bool b,J 7,J 8,J 9,J 10,J 11,J 12,J 13,J 14,J 15,J 16,J 17,J 18,J 19,J 20,J 21,J 22,J 23,J 24,J 25,J 26,J 27,J 28,J 29,J 30,J 31,J 32,J 33,J 34,J 35,J 36,J 37,J 38,J 39,J 40,J 41,J 42,J 43,J 44,J 45,J 46,J 47,J 48,J 49,J 50,J 51,J 52,J 53,J 54,J 55,J 56,J 57,J 58,J 59,J 60,J 61,J 62,J 63,J 64,J 65,J 66,J 67,J 68,J 69,J 70,J 71,J 72,J 73,J 74,J 75,J 76,J 77,J 78,J 79,J 80,J 81,J 82,J 83,J 84,J 85,J 86,J 87,J 88,J 89,J 90,J 91,J 92,J 93,J 94,J 95,J 96,J 97,J 98,J 99,J 100,J 101,J 102,J 103,J 104,J 105,J 106,J 107,J 108,J 109,J 110,J 111,J 112,J 113,J 114,J 115,J 116,J 117,J 118,J 119,J 120,J 121,J 122,J 123,J 124,J 125,J 126,J 127,J 128,J 129,J 130,J 131,J 132,J 133,J 134,J 135,J 136,J 137,J 138,J 139,J 140,J 141,J 142,J 143,J 144,J 145,J 146,J 147,J 148,J 149,J 150,J 151,J 152,J 153,J 154,J 155,J 156,J 157,J 158,J 159,J 160,J 161,J 162,J 163,J 164,J 165,J 166,J 167,J 168,J 169,J 170,J 171,J 172,J 173,J 174,J 175,J 176,J 177,J 178,J 179,J 180,J 181,J 182,J 183,J 184,J 185,J 186,J 187,J 188,J 189,J 190,J 191,J 192,J 193,J 194,J 195,J 196,J 197,J 198,J 199,J 200,J 201,J 202,J 203,J 204]
def jNA(T:ST):Prop:=∀(W0 w:World) (rb m1 m2:Nat) (cv dv ov:Value) (acc:List Nd) (p e:Int) (q:Option Addr) (cap:Nat) (bv:Value) (st cs ds:List ByteArray),
 okS T→(jB T).length≤20000→(jB T).length≤cap→(∀ x∈jB T,x.word.size≤1000000)→StrcAt W0→TextsV W0 cv cs→TextsV W0 dv ds→cs.length≤1000000→ds.length≤1000000→ReS W0 rb m1 m2 cv dv ov acc p e w →
 SxArg w q (jB T)→sEA (dH rb ov) q→TextsV w bv st→aAA (dH rb ov) bv→st.length+(jB T).length≤50000→acc.length+(jB T).length≤900000 →
 Calls Tryz.prog 28 #[.pointer (some ⟨rb,0,none⟩),.slice q (jB T).length cap,bv] w (ReOut W0 rb m1 m2 cv dv ov acc w (pJ cs ds T st))
structure TgFix where
 (W0 wl:World) (rb m1 m2 nb:Nat) (cv dv ov bv:Value) (acc:List Nd) (st cs ds:List ByteArray) (ts:List ST) (parts:List UInt8) (q2:Option Addr) (c2:Nat) (R:Say)
structure TgS (F:TgFix) (k:Nat) (nms:List ByteArray) (wt:Bool) (x:Nd) (t:List Nd) (ov1:Value) (p1 e1:Int) (nv:Value) (w:World):Prop where
 re:ReS F.W0 F.rb F.m1 F.m2 F.cv F.dv ov1 (F.acc++t) p1 e1 w
 ch:Ch (TgC F.rb F.ov F.nb) F.wl w
 own:∀ b,b < F.wl.heap.size→ov1.ownBlock=some b→F.ov.ownBlock=some b
 nd:BoxAt w F.nb 76 (wCA x)
 row:w.ownsRow F.wl.heap.size 9 1 nv nms.length (nms.map .string)
 say:F.R=goS F.cs F.ds (dC wt (F.parts.drop k)) (F.ts.drop k) x nms F.st t
 nlen:nms.length≤k
 tlen:t.length≤(iA (F.ts.take k)).length
theorem gL{F:TgFix}{k:Nat}{nms:List ByteArray}{wt:Bool}{x:Nd}{t:List Nd}{ov1 nv:Value}{p1 e1:Int}{w:World}(h:TgS F k nms wt x t ov1 p1 e1 nv w){i:Nat}(hi:i < F.wl.heap.size)(hr:dH F.rb ov1 i):dH F.rb F.ov i:=by
 rcases hr with h1 | h1
 · exact .inl h1
 · exact .inr (h.own i hi h1)
structure TgOk (F:TgFix):Prop where
 nlt:F.nb < F.wl.heap.size
 rlt:F.rb < F.wl.heap.size
 m1lt:F.m1 < F.wl.heap.size
 m2lt:F.m2 < F.wl.heap.size
 wlt:F.W0.heap.size≤F.wl.heap.size
 nrc:¬ dH F.rb F.ov F.nb
 lw:F.W0.heap.size≤F.nb
 arg:TsArg (TgC F.rb F.ov F.nb) F.wl F.q2 F.ts
 bound:TextsV F.wl F.bv F.st
 away:aAA (TgC F.rb F.ov F.nb) F.bv
 ok:p9 F.ts
 len:(iA F.ts).length≤20000
 stl:F.st.length+(iA F.ts).length≤50000
 accl:F.acc.length+(iA F.ts).length≤900000
 words:∀ x∈iA F.ts,x.word.size≤1000000
 csT:TextsV F.W0 F.cv F.cs
 dsT:TextsV F.W0 F.dv F.ds
 csl:F.cs.length≤1000000
 dsl:F.ds.length≤1000000
 strc:StrcAt F.W0
 plen:F.parts.length=F.ts.length
theorem n1A{D:Nat→Prop}{W0 w w':World}{rb m1 m2:Nat}{cv dv ov:Value}{acc:List Nd}{p e:Int}(h:ReS W0 rb m1 m2 cv dv ov acc p e w)(hc:Ch D w w')(h1:¬ D rb)(h2:¬ D m1)(h3:¬ D m2)(h4:∀ g,ov.ownBlock=some g→¬ D g)(h5:∀ b,D b→W0.heap.size≤b):ReS W0 rb m1 m2 cv dv ov acc p e w' :=
 ⟨pF h.box hc h1,uV h.f hc h2,uV h.a hc h3,fK h.row hc h4,zK h.und hc h5,h.lo⟩
theorem TgS.re_ch{F:TgFix}{k:Nat}{nms:List ByteArray}{wt:Bool}{x:Nd}{t:List Nd}{ov1 nv:Value}{p1 e1:Int}{w w':World}{D:Nat→Prop}(hF:TgOk F)(h:TgS F k nms wt x t ov1 p1 e1 nv w)(hc:Ch D w w')(hD:∀ i,D i→F.wl.heap.size≤i∧ov1.ownBlock≠some i) :
 ReS F.W0 F.rb F.m1 F.m2 F.cv F.dv ov1 (F.acc++t) p1 e1 w'∧Ch (TgC F.rb F.ov F.nb) F.wl w'∧BoxAt w' F.nb 76 (wCA x):=by
 have hlow:∀ i,i < F.wl.heap.size→¬ D i:=fun i hi hd=>by have:=(hD i hd).1;omega
 refine⟨n1A h.re hc (hlow _ hF.rlt) (hlow _ hF.m1lt) (hlow _ hF.m2lt) (fun g hg hd=>(hD g hd).2 hg) (fun b hb=>Nat.le_trans hF.wlt (hD b hb).1),h.ch.trans hc (fun i hi hd=>(hlow i hi hd).elim),pF h.nd hc (hlow _ hF.nlt)⟩
theorem TgS.set_ch{F:TgFix}{k:Nat}{nms:List ByteArray}{wt:Bool}{x:Nd}{t:List Nd}{ov1 nv:Value}{p1 e1:Int}{w w3:World}(hF:TgOk F)(h:TgS F k nms wt x t ov1 p1 e1 nv w)(hU:Under w w3)(j:Nat)(u:Value) :
 ReS F.W0 F.rb F.m1 F.m2 F.cv F.dv ov1 (F.acc++t) p1 e1 (w3.setCell ⟨F.nb,j,none⟩ u)∧Ch (TgC F.rb F.ov F.nb) F.wl (w3.setCell ⟨F.nb,j,none⟩ u)∧BoxAt (w3.setCell ⟨F.nb,j,none⟩ u) F.nb 76 ((wCA x).setIfInBounds j u)∧(w3.setCell ⟨F.nb,j,none⟩ u).ownsRow F.wl.heap.size 9 1 nv nms.length (nms.map .string):=by
 have hc:Ch (fun i=>i=F.nb) w3 (w3.setCell ⟨F.nb,j,none⟩ u):=(Ch.refl (C:=fun i=>i=F.nb) w3).set (g:=F.nb) (fun _=>rfl) j u;have h3:=h.re.under hU;have hn3:=h.nd.under hU;refine⟨n1A h3 hc (fun e=>hF.nrc (.inl e.symm)) (fun e=>xI hn3 h3.f e.symm) (fun e=>xI hn3 h3.a e.symm) (fun g hg e=>?_) (fun b e=>by rw[e];exact hF.lw),(h.ch.under hU).trans hc (fun i _ e=>.inr e),hn3.set j u,fK (uA h.row hU) hc (fun g hg e=>?_)⟩
 · subst e;exact hF.nrc (.inr (h.own _ hF.nlt hg))
 · have:=(iC h.row hg).1;have:=hF.nlt;omega
theorem hDA{F:TgFix}(k:Nat)(hk:k < F.ts.length):(iA (F.ts.take k)).length≤(iA (F.ts.take (k+1))).length:=by
 rw[List.take_succ_eq_append_getElem hk,sI,List.length_append];omega
theorem TgS.name {F : TgFix} {k : Nat} {nms : List ByteArray} {wt wt' : Bool} {x : Nd} {t : List Nd} {ov1 nv v' : Value} {p1 e1 : Int} {w w' : World} {s : ByteArray} (hF : TgOk F) (hk : k < F.ts.length) (h : TgS F k nms wt x t ov1 p1 e1 nv w) (hc : Ch (fun i => nv.ownBlock = some i) w w')
    (hown:w'.ownsRow F.wl.heap.size 9 1 v' (nms.length+1) (nms.map .string++[.string s])) (hs:F.R=goS F.cs F.ds (dC wt' (F.parts.drop (k+1))) (F.ts.drop (k+1)) x (nms++[s]) F.st t):TgS F (k+1) (nms++[s]) wt' x t ov1 p1 e1 v' w':=by
  obtain ⟨h1, h2, h3⟩ := h.re_ch hF hc (fun i hi => ⟨(iC h.row hi).1, by
    rcases own_ne h.row h.re.row (by decide) with e | e
    · rw[e]at hi;cases hi
    · intro e2;exact e (hi.trans e2.symm)⟩)
  refine⟨h1,h2,h.own,h3,by rw[List.length_append,List.map_append];exact hown,hs,by rw[List.length_append];have:=h.nlen;simp;omega,Nat.le_trans h.tlen (hDA k hk)⟩
def lU(F:TgFix)(k:Nat)(a':Act)(w':World):Prop :=
 ∃ nms wt x t ov1 p1 e1 nv J,a'=⟨vD F.rb F.nb F.bv nv wt ⟨F.parts.toArray⟩ F.q2 F.ts.length F.c2 k J,[]⟩∧TgS F k nms wt x t ov1 p1 e1 nv w'
def vJA(F:TgFix)(ex:Exit)(a':Act)(w':World):Prop :=
 (ex = .exit 0∧lU F F.ts.length a' w') ∨
 (ex = .ret∧∃ e2 p2 ov2 acc2,(∃ J,a'=⟨yH false J,[]⟩)∧F.R = .error (e2,p2)∧ReS F.W0 F.rb F.m1 F.m2 F.cv F.dv ov2 acc2 p2 e2 w'∧Ch (TgC F.rb F.ov F.nb) F.wl w'∧∀ b,b < F.wl.heap.size→ov2.ownBlock=some b→F.ov.ownBlock=some b)
theorem vUA(F:TgFix)(hF:TgOk F){k:Nat}(hk:k < F.ts.length){nms:List ByteArray}{wt:Bool}{x:Nd}{t:List Nd}{ov1 nv:Value}{p1 e1:Int}{w:World}(hc:F.parts[k]? = some 118∨F.parts[k]? = some 119)(h:TgS F k nms wt x t ov1 p1 e1 nv w)(J:Nat→Value) :
 tgRound.wp Tryz.prog (Exit.then (lU F (k+1)) (vJA F)) ⟨vD F.rb F.nb F.bv nv wt ⟨F.parts.toArray⟩ F.q2 F.ts.length F.c2 k J,[]⟩ w:=by
 have hc':(F.parts[k]'(by rw[hF.plen];exact hk))=118∨(F.parts[k]'(by rw[hF.plen];exact hk))=119:=by
  rw[List.getElem?_eq_getElem (by rw[hF.plen];exact hk)]at hc;rcases hc with hc | hc
  · exact .inl (Option.some.inj hc)
  · exact .inr (Option.some.inj hc)
 clear hc;obtain⟨i0,hi,hz0,hz1,hz2⟩:=info_parts Tryz.infoStrZ;obtain⟨b,off,hq2,hbl,hnC,hat⟩:=hF.arg (fun e=>by rw[e]at hk;exact absurd hk (Nat.not_lt_zero _));obtain⟨qi,ci,ckl,hci,hsxl,haw⟩:=hat k F.ts[k] (List.getElem?_eq_getElem hk);have hb:b < w.heap.size:=Nat.lt_of_lt_of_le hbl h.ch.size;have ck:=(fO h.ch hbl hnC (off+k)).trans ckl;have hsx:=oU hsxl h.ch haw;have HSxl:=Lib.hid hsxl;clear ckl hsxl;have hyl:(jB F.ts[k]).length≤20000:=Nat.le_trans (yO (List.getElem_mem hk)) hF.len;have hpk:k < F.parts.length:=by rw[hF.plen];exact hk
 have hps:k < (⟨F.parts.toArray⟩:ByteArray).size:=by simpa [ByteArray.size] using hpk
 have hpc:(⟨F.parts.toArray⟩:ByteArray)[k]'hps=F.parts[k]:=rfl;have hsay:=h.say;rw[List.drop_eq_getElem_cons hk,List.drop_eq_getElem_cons hpk]at hsay;have hyw:F.ts[k].last.word.size≤1000000:=by
  obtain⟨i,hi⟩:=gK F.ts[k];refine hF.words _ ?_;have hm:=List.getElem_mem hk;generalize F.ts[k]=y at *;exact oL hm
 have HLa:=Lib.hid (fJ (w0:=w) F.ts[k] (q:=qi) (cap:=ci) (by omega) hsx);have HY:=Lib.hid (show F.ts[k]∈F.ts from List.getElem_mem hk);have HTk:=Lib.hid (show iA (F.ts.take (k+1))=iA (F.ts.take k)++jB F.ts[k] by rw[List.take_succ_eq_append_getElem hk,sI];simp[iA]);have HSy:=Lib.hid hsay;have HSx:=Lib.hid hsx;have HAw:=Lib.hid haw;have HF:=Lib.hid hF;have H:=Lib.hid h;have hn0:(F.ts.length:Int)≤20000:=by have:=bQ F.ts;have:=hF.len;omega
 have hk0:(0:Int)≤(k:Int):=by omega
 have hkn:(k:Int) < (F.ts.length:Int):=by omega
 have HKn:=Lib.hid hk;clear hat hsx haw hsay h;generalize F.ts[k]=y at *;generalize F.parts[k]=c at *;obtain⟨ps,hps,hpc,HPs⟩:∃ ps:ByteArray,∃ hps:k < ps.size,ps[k]'hps=c∧RowKit.Hid (ps=(⟨F.parts.toArray⟩:ByteArray)):=⟨_,hps,hpc,Lib.hid rfl⟩;rw[← HPs.out];unfold tgRound nQ mY;simp only[Tryz.f28,Option.getD_some,xA,fA,oC];unfold vD;rw[hq2]
 cases hnm:nameK y.last.word
 · have HErr : RowKit.Hid (F.R = .error (71, y.last.pos)) := Lib.hid (by
     rw[HSy.out];rcases hc' with rfl | rfl<;>simp[dC,goS,hnm])
   rcases hc' with rfl | rfl
   · have hb : ((ps[k]'hps).toNat : Int) = 118 := by rw [hpc]; rfl
     go_wp2_with fail;refine HLa.out.mono ?_;rintro e w1 ⟨rfl,hU1⟩;have HU1:=Lib.hid (aA hU1 (.cells #[.int .i64 y.last.many,.int .i64 y.last.pos,.string y.last.word] 29));have HZ:=Lib.hid (yA w1 #[.int .i64 y.last.many,.int .i64 y.last.pos,.string y.last.word] 29);have hw1:=hU1.size;clear hU1 HLa;unfold sxV;have z0:(w1.alloc (.cells #[.int .i64 y.last.many,.int .i64 y.last.pos,.string y.last.word] 29)).cell? ⟨w1.heap.size,0,none⟩=some (.int .i64 y.last.many):=HZ.out.cell 0;have z1:(w1.alloc (.cells #[.int .i64 y.last.many,.int .i64 y.last.pos,.string y.last.word] 29)).cell? ⟨w1.heap.size,1,none⟩=some (.int .i64 y.last.pos):=HZ.out.cell 1;have z2:(w1.alloc (.cells #[.int .i64 y.last.many,.int .i64 y.last.pos,.string y.last.word] 29)).cell? ⟨w1.heap.size,2,none⟩=some (.string y.last.word):=HZ.out.cell 2;have zl:=HZ.out.lt;go_wp2_with fail;generalize w1.alloc (.cells #[.int .i64 y.last.many,.int .i64 y.last.pos,.string y.last.word] 29)=wz at *;generalize w1.heap.size=zb at *;have HNm:=Lib.hid (jK (w0:=wz) y.last (rb:=F.rb) (m1:=F.m1) (m2:=F.m2) (by simp only[maxLen];omega) (H.out.re.under HU1.out).tables);rw[hnm]at HNm;unfold sxV at HNm;refine HNm.out.mono ?_;rintro e w3 ⟨rfl,hU3⟩;have hz3:=HZ.out.under hU3;have z1:=hz3.cell 1;have z2:=hz3.cell 2;have zl:=hz3.lt;have HU3:=Lib.hid (HU1.out.trans hU3);have HZ3:=Lib.hid hz3;clear hU3 hz3 HNm z0;have HRe:=Lib.hid (H.out.re.under HU3.out);have HCe:=Lib.hid (H.out.ch.under HU3.out);have HWr:=Lib.hid (iG HRe.out y.last.pos 71);go_wp2_with fail;refine HWr.out.mono ?_;rintro e w4 hO;obtain⟨ov2,acc2,p2,e2,h1,h2,h3,rfl,rfl,rfl⟩:=hO;have H1:=Lib.hid h1;have H2:=Lib.hid h2;have H3:=Lib.hid h3;clear h1 h2 h3 HWr;go_wp2;refine .inr ⟨rfl,_,_,_,_,⟨_,zC (F:=yH false) (by rfl)⟩,HErr.out,H1.out,?_,?_⟩
     · exact HCe.out.trans (D:=dH F.rb ov1) H2.out (fun i hi h=>.inl (gL H.out hi h))
     · intro b hb e;exact H.out.own b hb (H3.out b (Nat.lt_of_lt_of_le hb HCe.out.size) e)
   · have hb : ((ps[k]'hps).toNat : Int) = 119 := by rw [hpc]; rfl
     go_wp2_with fail;refine HLa.out.mono ?_;rintro e w1 ⟨rfl,hU1⟩;have HU1:=Lib.hid (aA hU1 (.cells #[.int .i64 y.last.many,.int .i64 y.last.pos,.string y.last.word] 29));have HZ:=Lib.hid (yA w1 #[.int .i64 y.last.many,.int .i64 y.last.pos,.string y.last.word] 29);have hw1:=hU1.size;clear hU1 HLa;unfold sxV;have z0:(w1.alloc (.cells #[.int .i64 y.last.many,.int .i64 y.last.pos,.string y.last.word] 29)).cell? ⟨w1.heap.size,0,none⟩=some (.int .i64 y.last.many):=HZ.out.cell 0;have z1:(w1.alloc (.cells #[.int .i64 y.last.many,.int .i64 y.last.pos,.string y.last.word] 29)).cell? ⟨w1.heap.size,1,none⟩=some (.int .i64 y.last.pos):=HZ.out.cell 1;have z2:(w1.alloc (.cells #[.int .i64 y.last.many,.int .i64 y.last.pos,.string y.last.word] 29)).cell? ⟨w1.heap.size,2,none⟩=some (.string y.last.word):=HZ.out.cell 2;have zl:=HZ.out.lt;go_wp2_with fail;generalize w1.alloc (.cells #[.int .i64 y.last.many,.int .i64 y.last.pos,.string y.last.word] 29)=wz at *;generalize w1.heap.size=zb at *;have HNm:=Lib.hid (jK (w0:=wz) y.last (rb:=F.rb) (m1:=F.m1) (m2:=F.m2) (by simp only[maxLen];omega) (H.out.re.under HU1.out).tables);rw[hnm]at HNm;unfold sxV at HNm;refine HNm.out.mono ?_;rintro e w3 ⟨rfl,hU3⟩;have hz3:=HZ.out.under hU3;have z1:=hz3.cell 1;have z2:=hz3.cell 2;have zl:=hz3.lt;have HU3:=Lib.hid (HU1.out.trans hU3);have HZ3:=Lib.hid hz3;clear hU3 hz3 HNm z0;have HRe:=Lib.hid (H.out.re.under HU3.out);have HCe:=Lib.hid (H.out.ch.under HU3.out);have HWr:=Lib.hid (iG HRe.out y.last.pos 71);go_wp2_with fail;refine HWr.out.mono ?_;rintro e w4 hO;obtain⟨ov2,acc2,p2,e2,h1,h2,h3,rfl,rfl,rfl⟩:=hO;have H1:=Lib.hid h1;have H2:=Lib.hid h2;have H3:=Lib.hid h3;clear h1 h2 h3 HWr;go_wp2;refine .inr ⟨rfl,_,_,_,_,⟨_,zC (F:=yH false) (by rfl)⟩,HErr.out,H1.out,?_,?_⟩
     · exact HCe.out.trans (D:=dH F.rb ov1) H2.out (fun i hi h=>.inl (gL H.out hi h))
     · intro b hb e;exact H.out.own b hb (H3.out b (Nat.lt_of_lt_of_le hb HCe.out.size) e)
 · rcases hc' with rfl | rfl
   · have HSay : RowKit.Hid (F.R = goS F.cs F.ds (dC false (F.parts.drop (k + 1))) (F.ts.drop (k + 1)) x (nms ++ [y.last.word]) F.st t) := Lib.hid (by
       rw[HSy.out];simp[dC,goS,hnm])
     have hb:((ps[k]'hps).toNat:Int)=118:=by rw[hpc];rfl
     go_wp2_with fail;refine HLa.out.mono ?_;rintro e w1 ⟨rfl,hU1⟩;have HU1:=Lib.hid (aA hU1 (.cells #[.int .i64 y.last.many,.int .i64 y.last.pos,.string y.last.word] 29));have HZ:=Lib.hid (yA w1 #[.int .i64 y.last.many,.int .i64 y.last.pos,.string y.last.word] 29);have hw1:=hU1.size;clear hU1 HLa;unfold sxV;have z0:(w1.alloc (.cells #[.int .i64 y.last.many,.int .i64 y.last.pos,.string y.last.word] 29)).cell? ⟨w1.heap.size,0,none⟩=some (.int .i64 y.last.many):=HZ.out.cell 0;have z1:(w1.alloc (.cells #[.int .i64 y.last.many,.int .i64 y.last.pos,.string y.last.word] 29)).cell? ⟨w1.heap.size,1,none⟩=some (.int .i64 y.last.pos):=HZ.out.cell 1;have z2:(w1.alloc (.cells #[.int .i64 y.last.many,.int .i64 y.last.pos,.string y.last.word] 29)).cell? ⟨w1.heap.size,2,none⟩=some (.string y.last.word):=HZ.out.cell 2;have zl:=HZ.out.lt;go_wp2_with fail;generalize w1.alloc (.cells #[.int .i64 y.last.many,.int .i64 y.last.pos,.string y.last.word] 29)=wz at *;generalize w1.heap.size=zb at *;have HNm:=Lib.hid (jK (w0:=wz) y.last (rb:=F.rb) (m1:=F.m1) (m2:=F.m2) (by simp only[maxLen];omega) (H.out.re.under HU1.out).tables);rw[hnm]at HNm;unfold sxV at HNm;refine HNm.out.mono ?_;rintro e w3 ⟨rfl,hU3⟩;have hz3:=HZ.out.under hU3;have z1:=hz3.cell 1;have z2:=hz3.cell 2;have zl:=hz3.lt;have HU3:=Lib.hid (HU1.out.trans hU3);have HZ3:=Lib.hid hz3;clear hU3 hz3 HNm z0;have hmx:nms.length+1≤maxLen:=by have:=H.out.nlen;simp only[maxLen];omega
     have hby:(nms.length+1) * 16≤140737488355328:=by have:=H.out.nlen;omega
     go_wp2_with (at_builtin;refine wpList_append_own_at _ rfl _ _ 22 rfl F.wl.heap.size 9 i0 _ 1 16 Tryz.underlying22 hi hz0 hz1 hz2 rfl (by decide) _ _ _ rfl ((uA H.out.row HU3.out).alloc _) ⟨w3.heap.size,0,none⟩ 1 1 [.string y.last.word] rfl rfl ?c1 ?c2 hmx hby ?c5 ?_)
     case c1 =>
       intro j u hj
       match j,hj with
       | 0,hj=>cases hj;simp[Addr.add]
     case c2=>intro u hu;simp at hu;subst hu;rfl
     case c5=>have:=H.out.ch.size;have:=HU3.out.size;simp;omega
     intro v' w5 hown hgrow hnil hat;have HW:=Lib.hid hown;have HCh:=Lib.hid ((Ch.of_under (C:=fun i=>nv.ownBlock=some i) (aA HU3.out (.cells #[.string y.last.word] 9))).grown hgrow (fun g e _=>e));clear hown hgrow hnil hat;go_wp2;refine⟨nms++[y.last.word],false,x,t,ov1,p1,e1,v',rA (F:=vD F.rb F.nb F.bv v' false ⟨F.parts.toArray⟩ F.q2 F.ts.length F.c2 (k+1)) (by rw[hq2,← HPs.out];rfl) ?_⟩;exact TgS.name hF HKn.out H.out HCh.out HW.out HSay.out
   · have HSay : RowKit.Hid (F.R = goS F.cs F.ds (dC true (F.parts.drop (k + 1))) (F.ts.drop (k + 1)) x (nms ++ [y.last.word]) F.st t) := Lib.hid (by
       rw[HSy.out];simp[dC,goS,hnm])
     have hb:((ps[k]'hps).toNat:Int)=119:=by rw[hpc];rfl
     go_wp2_with fail;refine HLa.out.mono ?_;rintro e w1 ⟨rfl,hU1⟩;have HU1:=Lib.hid (aA hU1 (.cells #[.int .i64 y.last.many,.int .i64 y.last.pos,.string y.last.word] 29));have HZ:=Lib.hid (yA w1 #[.int .i64 y.last.many,.int .i64 y.last.pos,.string y.last.word] 29);have hw1:=hU1.size;clear hU1 HLa;unfold sxV;have z0:(w1.alloc (.cells #[.int .i64 y.last.many,.int .i64 y.last.pos,.string y.last.word] 29)).cell? ⟨w1.heap.size,0,none⟩=some (.int .i64 y.last.many):=HZ.out.cell 0;have z1:(w1.alloc (.cells #[.int .i64 y.last.many,.int .i64 y.last.pos,.string y.last.word] 29)).cell? ⟨w1.heap.size,1,none⟩=some (.int .i64 y.last.pos):=HZ.out.cell 1;have z2:(w1.alloc (.cells #[.int .i64 y.last.many,.int .i64 y.last.pos,.string y.last.word] 29)).cell? ⟨w1.heap.size,2,none⟩=some (.string y.last.word):=HZ.out.cell 2;have zl:=HZ.out.lt;go_wp2_with fail;generalize w1.alloc (.cells #[.int .i64 y.last.many,.int .i64 y.last.pos,.string y.last.word] 29)=wz at *;generalize w1.heap.size=zb at *;have HNm:=Lib.hid (jK (w0:=wz) y.last (rb:=F.rb) (m1:=F.m1) (m2:=F.m2) (by simp only[maxLen];omega) (H.out.re.under HU1.out).tables);rw[hnm]at HNm;unfold sxV at HNm;refine HNm.out.mono ?_;rintro e w3 ⟨rfl,hU3⟩;have hz3:=HZ.out.under hU3;have z1:=hz3.cell 1;have z2:=hz3.cell 2;have zl:=hz3.lt;have HU3:=Lib.hid (HU1.out.trans hU3);have HZ3:=Lib.hid hz3;clear hU3 hz3 HNm z0;have hmx:nms.length+1≤maxLen:=by have:=H.out.nlen;simp only[maxLen];omega
     have hby:(nms.length+1) * 16≤140737488355328:=by have:=H.out.nlen;omega
     go_wp2_with (at_builtin;refine wpList_append_own_at _ rfl _ _ 22 rfl F.wl.heap.size 9 i0 _ 1 16 Tryz.underlying22 hi hz0 hz1 hz2 rfl (by decide) _ _ _ rfl ((uA H.out.row HU3.out).alloc _) ⟨w3.heap.size,0,none⟩ 1 1 [.string y.last.word] rfl rfl ?c1 ?c2 hmx hby ?c5 ?_)
     case c1 =>
       intro j u hj
       match j,hj with
       | 0,hj=>cases hj;simp[Addr.add]
     case c2=>intro u hu;simp at hu;subst hu;rfl
     case c5=>have:=H.out.ch.size;have:=HU3.out.size;simp;omega
     intro v' w5 hown hgrow hnil hat;have HW:=Lib.hid hown;have HCh:=Lib.hid ((Ch.of_under (C:=fun i=>nv.ownBlock=some i) (aA HU3.out (.cells #[.string y.last.word] 9))).grown hgrow (fun g e _=>e));clear hown hgrow hnil hat;go_wp2;refine⟨nms++[y.last.word],true,x,t,ov1,p1,e1,v',rA (F:=vD F.rb F.nb F.bv v' true ⟨F.parts.toArray⟩ F.q2 F.ts.length F.c2 (k+1)) (by rw[hq2,← HPs.out];rfl) ?_⟩;exact TgS.name hF HKn.out H.out HCh.out HW.out HSay.out
end Go.Proofs.YtlnlpdephijcoaaGreatDoor
