/- Part 43 of what the proof rests on. -/
import Derived.Test.YtlnlpdephijcoaaGreatDoorL33
import Derived.Test.YtlnlpdephijcoaaGreatDoorL36
import Derived.Test.YtlnlpdephijcoaaGreatDoorL42
set_option linter.unusedSimpArgs false
set_option linter.unusedVariables false
set_option maxRecDepth 100000
set_option maxHeartbeats 2000000
namespace Go.Proofs.YtlnlpdephijcoaaGreatDoor
open Go.Lx Go.RowKit
theorem xUA(T:ST):cLA T:=by
 induction T using ST.rec (motive_2:=fun l=>∀ y∈l,cLA y) with
 | word p s=>exact tTA p s
 | list p l ih =>
   cases l with
   | nil=>exact zXA p
   | cons hd l=>exact eTA p hd l fun y hy=>ih y (List.mem_cons_of_mem _ hy)
 | nil=>rename_i y hy;cases hy
 | cons a l iha ihl =>
   rename_i y hy;rcases List.mem_cons.1 hy with rfl | hy
   · exact iha
   · exact ihl y hy
section
variable {w0 : World}
theorem zTA(row:List Sx){q:Option Addr}{cap:Nat}(hn:row.length≤20000)(hcap:row.length≤cap)(hq:SxArg w0 q row)(hb:∀ ls,gF row=some ls→ls.length≠1)(p1 p2:Option Addr)(n1 n2 d1 d2:Nat) :
 Calls Tryz.prog 10 #[.agg #[.slice p1 n1 d1,.slice p2 n2 d2],.slice q row.length cap] w0 (TermOut w0 (.error (71,0))):=by
 have HU0:=Lib.hid (aA (Under.refl w0) (.cells #[.slice p1 n1 d1,.slice p2 n2 d2] 35));have HI:=Lib.hid (tN (w0:=w0.alloc (.cells #[.slice p1 n1 d1,.slice p2 n2 d2] 35)) (cap:=cap) (p:=q) row (by omega) hcap (hq.under HU0.out));have HB:=Lib.hid hb;clear hb hq;generalize gF row=R at *;go_enter Tryz.func10,Tryz.ntmps10;go_wp2_with fail;refine HI.out.mono ?_;rintro e w1 ⟨hU1,hR⟩;have HU1:=Lib.hid (HU0.out.trans hU1);clear hU1 HI
 cases R with
 | none =>
   replace hR:e = .returned (.tuple #[.slice none 0 0,.bool false]):=hR;subst hR;go_wp2;go_ret3;exact⟨HU1.out,rfl⟩
 | some ls =>
   obtain⟨g,c,vs,rfl,h1,h2⟩:=hR;have hne:=HB.out ls rfl;have HN:=Lib.hid hne;have h1e:((ls.length:Int) != 1)=true:=by simp;omega
   clear h1 h2 HB hne;go_wp2;go_ret3;exact⟨HU1.out,rfl⟩
theorem lDA(T:ST){q:Option Addr}{cap:Nat}(cs ds:List ByteArray)(hok:okS T)(hn:(uA T).length≤20000)(hcap:(uA T).length≤cap)(hq:SxArg w0 q (uA T)){p1 p2:Option Addr}{d1 d2:Nat}(hcs:TextsV w0 (.slice p1 cs.length d1) cs)(hds:TextsV w0 (.slice p2 ds.length d2) ds)(hcn:cs.length≤1000000)(hdn:ds.length≤1000000) :
 Calls Tryz.prog 10 #[.agg #[.slice p1 cs.length d1,.slice p2 ds.length d2],.slice q (uA T).length cap] w0 (TermOut w0 (xH cs ds T)):=by
 have HU0:=Lib.hid (aA (Under.refl w0) (.cells #[.slice p1 cs.length d1,.slice p2 ds.length d2] 35));have HB0:=Lib.hid (xA w0 #[.slice p1 cs.length d1,.slice p2 ds.length d2] 35);have HI:=Lib.hid (tN (w0:=w0.alloc (.cells #[.slice p1 cs.length d1,.slice p2 ds.length d2] 35)) (cap:=cap) (p:=q) (uA T) (by omega) hcap (hq.under HU0.out));have hit:gF (uA T)=some [uA T]:=by
  have:=oH (ts:=[T]) ⟨hok,trivial⟩
  simpa [fA] using this
 rw[hit]at HI;have HLen:=Lib.hid (fun t (ht:aG cs ds T [] = .ok t)=>And.intro (pM T _ _ ht) (lFA T _ _ ht));have HT:=Lib.hid (fun w1 (hU:Under w0 w1)=>xUA T w1 q cap p1 p2 d1 d2 (.slice none 0 0) [] cs ds hok hn hcap (hq.under hU) (hcs.under hU) (hds.under hU) hcn hdn (TextsV.nil _) (by simp;omega));have HL:=Lib.hid (fun w1 (hU:Under w0 w1)=>gI (w0:=w1) T (q:=q) (cap:=cap) (by omega) (hq.under hU));have HFl:=Lib.hid (And.intro hn hcap);have HD:RowKit.Hid (xH cs ds T=match aG cs ds T [] with | .error x=>.error x | .ok t=>if qE t=0 then .ok t else .error (qE t,T.last.pos)):=Lib.hid rfl;generalize xH cs ds T=TS at *;clear hq hit hn hcap;go_enter Tryz.func10,Tryz.ntmps10;go_wp2_with fail;refine HI.out.mono ?_;rintro e w1 ⟨hU1,g,c2,vs,rfl,h1,h2⟩;have HU1:=Lib.hid (HU0.out.trans hU1);have hb1:=HB0.out.under hU1;have e0:w1.cell? ⟨w0.heap.size,0,none⟩=some (.slice p1 cs.length d1):=hb1.cell 0;have e1:w1.cell? ⟨w0.heap.size,1,none⟩=some (.slice p2 ds.length d2):=hb1.cell 1;have el:=hb1.lt;have h11:([uA T]:List (List Sx)).length=1:=rfl;rw[h11];clear hU1 h1 h2 HI hb1 h11;go_wp2_with fail;refine(HT.out _ HU1.out).mono ?_;rintro e w3 ⟨hU3,hR⟩;have HU3:=Lib.hid (HU1.out.trans hU3);clear hU3 e0 e1 el;rcases hs:aG cs ds T [] with⟨ec,ep⟩ | t
 · have HE : RowKit.Hid (TS = .error (ec, ep)) := Lib.hid (by rw [HD.out, hs]); rw [hs] at hR; replace hR : e = .returned (.tuple #[.slice none 0 0, .agg #[.int .i64 ec, .int .i64 ep]]) := hR; subst hR; have hc0 := vU _ _ _ _ hs; have HU4 := Lib.hid (HU3.out.trans (aA (Under.refl w3) (.cells #[.int .i64 ec, .int .i64 ep] 70))); have hG := xA w3 #[.int .i64 ec, .int .i64 ep] 70; have g0 : (w3.alloc (.cells #[.int .i64 ec, .int .i64 ep] 70)).cell? ⟨w3.heap.size, 0, none⟩ = some (.int .i64 ec) := hG.cell 0; have g1 : (w3.alloc (.cells #[.int .i64 ec, .int .i64 ep] 70)).cell? ⟨w3.heap.size, 1, none⟩ = some (.int .i64 ep) := hG.cell 1; have gl := hG.lt; have gg := And.intro g0 g1; clear hG; go_wp2_with fail; go_region_held3 (fun w' => w'.cell? ⟨w3.heap.size, 0, none⟩ = some (.int .i64 ec) ∧ w'.cell? ⟨w3.heap.size, 1, none⟩ = some (.int .i64 ep))
     (first
       | exact gg
       | go_keep)
     (fail)
   rename_i hHeld;clear hHeld gg g0 g1;go_wp2;go_ret3;rw[HE.out];exact⟨HU4.out.trans (bA (Under.refl _)),rfl⟩
 · rw [hs] at hR; replace hR : ∃ v, e = .returned (.tuple #[v, .agg #[.int .i64 0, .int .i64 0]]) ∧ TermV w3 v t := hR; obtain ⟨v, rfl, hT⟩ := hR; obtain ⟨L1, L2⟩ := HLen.out t hs; have HU4 := Lib.hid (aA (Under.refl w3) (.cells #[.int .i64 0, .int .i64 0] 70)); have HTv := Lib.hid (TermV.mono _ _ _ _ HU4.out hT); have HCk := Lib.hid (yPA (w0 := w3.alloc (.cells #[.int .i64 0, .int .i64 0] 70)) t (by have := HFl.out.1; simp only [maxLen]; omega) HTv.out); have hG := xA w3 #[.int .i64 0, .int .i64 0] 70; have g0 : (w3.alloc (.cells #[.int .i64 0, .int .i64 0] 70)).cell? ⟨w3.heap.size, 0, none⟩ = some (.int .i64 0) := hG.cell 0; have g1 : (w3.alloc (.cells #[.int .i64 0, .int .i64 0] 70)).cell? ⟨w3.heap.size, 1, none⟩ = some (.int .i64 0) := hG.cell 1; have gl := hG.lt; obtain ⟨qo, co, rfl, _⟩ := hT; clear hG L1 L2; go_wp2_with fail; refine HCk.out.mono ?_; rintro e w4 ⟨rfl, hU4⟩; have HT4 := Lib.hid (TermV.mono _ _ _ _ hU4 HTv.out); have HU4 := Lib.hid (HU3.out.trans (HU4.out.trans hU4)); clear hU4 g0 g1 gl
   cases hc:(qE t != 0)
   · have hc0 : qE t = 0 := by simpa using hc
     have HE:RowKit.Hid (TS = .ok t):=Lib.hid (by rw[HD.out,hs];simp only;rw[if_pos hc0]);clear hc0;go_wp2;go_ret3;rw[HE.out];exact⟨HU4.out,_,rfl,HT4.out⟩
   · have hc0 : ¬ qE t = 0 := by simpa using hc
     have HE:RowKit.Hid (TS = .error (qE t,T.last.pos)):=Lib.hid (by rw[HD.out,hs];simp only;rw[if_neg hc0]);have HFd:=fun(a b:Int) (s:ByteArray) (w:World)=>(show(Instr.field 73 (.agg #[.int .i64 a,.int .i64 b,.string s]) 1).run Tryz.prog w = .ok (.int .i64 b) w by kernel_rfl)
     have HLt:=Lib.hid (HL.out _ HU4.out);unfold sxV at HLt;clear hc0;go_wp2_with fail;refine HLt.out.mono ?_;rintro e w5 ⟨rfl,hU5⟩;have HU5:=Lib.hid (HU4.out.trans hU5);clear hU5;go_wp2;go_ret3;rw[HE.out];exact⟨HU5.out,rfl⟩
end
end Go.Proofs.YtlnlpdephijcoaaGreatDoor
