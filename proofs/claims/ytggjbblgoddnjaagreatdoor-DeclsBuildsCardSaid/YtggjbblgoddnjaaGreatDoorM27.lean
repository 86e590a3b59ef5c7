/- Part 27 of what the proof rests on. -/
import Derived.Deep.RegionHeld3
import Derived.Conc.CompanyMem
import Derived.Conc.WalkWords
import Derived.Test.YtggjbblgoddnjaaGreatDoorRows
import Derived.Deep.Slices
import Derived.Deep.Fields
import Derived.WideKeyArgs
import Derived.ProofKit
import Derived.LaidMore
import Derived.LaidLaws
import Derived.OpenShut
import Derived.ChangeAlike
import Derived.Stop.Joined
import Derived.Lib.LaidTab
import Derived.Lib.SliceRun
import Derived.Test.YtggjbblgoddnjaaGreatDoorM01
import Derived.Test.YtggjbblgoddnjaaGreatDoorM12
import Derived.Test.YtggjbblgoddnjaaGreatDoorM13
import Derived.Test.YtggjbblgoddnjaaGreatDoorM15
import Derived.Test.YtggjbblgoddnjaaGreatDoorM24
import Derived.Test.YtggjbblgoddnjaaGreatDoorM25
import Derived.Test.YtggjbblgoddnjaaGreatDoorM26
set_option linter.unusedSimpArgs false
set_option linter.unusedVariables false
set_option maxRecDepth 100000
set_option maxHeartbeats 2000000
namespace Go.Proofs.YtggjbblgoddnjaaGreatDoor
open Go.Lx Go.RowKit
section
variable {w0 : World} {t : List Nd} {c : Nat}
def f0A(w0:World)(t:List Nd)(l:Value)(e:Exit)(a:Act)(w:World):Prop :=
 match wC t 0 [] [] with
 | none=>j5A w0 e a w
 | some _=>n1A w0 t l t.length e a w
theorem jRA {p : Option Addr} (hn : t.length ≤ 4000) (hs : ∀ x ∈ t, x.s.size ≤ maxLen) (hp : RowArg w0 p (aC t)) (hS : ShapesAt 3 w0) (m : Nat) (a : Act) (w : World)
    (h0:∃ k,m+k=t.length∧yPA w0 t (.slice p t.length c) t.length k a w) :
    (Code.loop msRound).wp Tryz.prog (f0A w0 t (.slice p t.length c)) a w:=by
  refine wp_loop_ghost (fun m a w=>∃ k,m+k=t.length∧yPA w0 t (.slice p t.length c) t.length k a w) m h0 ?_;clear h0;rintro m a w ⟨k,hmk,va,vo,all,op,J,rfl,hM⟩;by_cases hkn:k=t.length
  · subst hkn; refine wp_mono (o0A J w hM) ?_; rintro e a' w' h; have hr := hM.res; rw [List.drop_length] at hr
    cases e with
    | normal=>exact h.elim
    | _=>unfold f0A;rw[← hr];exact h
  have hlt:k < t.length:=by omega
  obtain⟨b,off,rfl,hb,c0,c1,c2,c3⟩:=hp.node (List.getElem?_eq_getElem hlt);have hx:t[k]? = some t[k]:=List.getElem?_eq_getElem hlt;have hR:=fun w1 (hU:Under w0 w1)=>nP t[k] w1 (hs _ (List.getElem_mem hlt)) (hS.under hU)
  have hN:=fun(hr:yA t[k]=true) w1 (hU:Under w0 w1)=>yWA t[k] w1 (hS.under hU) hr
  by_cases hbad:yA t[k]=false∨op.length < (binds t[k]).length
  · have hnone : wC t 0 [] [] = none := by
      rw[← hM.res,List.drop_eq_getElem_cons hlt]
      show(if yA t[k]=false∨op.length < (binds t[k]).length then none else _)=none
      rw[if_pos hbad]
    refine wp_mono (d3A hlt hn hx hbad J w hM hR hN hb c0 c1 c2 c3) ?_;rintro e a' w' h
    cases e with
    | normal=>exact h.elim
    | _=>unfold f0A;rw[hnone];exact h
  · have hr : yA t[k] = true := by cases h : yA t[k] with
      | true=>rfl
      | false=>exact absurd (.inl h) hbad
    have hl:¬ op.length < (binds t[k]).length:=fun h=>hbad (.inr h)
    rw[hr]at hR;refine wp_mono (m3A (kk:=op.length - (binds t[k]).length) (bl:=(binds t[k]).length) hlt hn hx hr rfl (by omega) (fun y hy=>by have:=hM.dp y hy;omega) J w hM hR (hN hr) hb c0 c1 c2 c3) ?_;rintro e a' w' h
    cases e with
    | normal=>exact⟨m - 1,by omega,k+1,by omega,h⟩
    | _=>exact h.elim
theorem bOA:∀(t:List Nd) (k:Nat) (all op:List (Nat×Nat)) {r:List (Nat×Nat)×List (Nat×Nat)},all.length=k→op.length≤k→wC t k all op=some r→r.1.length=k+t.length∧r.2.length≤k+t.length:=by
 intro t
 induction t with
 | nil=>intro k all op r h1 h2 h;cases h;exact⟨h1,h2⟩
 | cons x t ih =>
   intro k all op r h1 h2 h;simp only[wC]at h
   split at h
   · cases h
   · have:=ih (k+1) _ _ (by rw[List.length_append,h1];rfl) (by rw[List.length_append,List.length_take,List.length_singleton];omega) h;rw[List.length_cons];omega
theorem fHA(t:List Nd){p:Option Addr}(hn:t.length≤4000)(hs:∀ x∈t,x.s.size≤maxLen)(hp:RowArg w0 p (aC t))(hS:ShapesAt 3 w0) :
 Calls Tryz.prog 166 #[.slice p t.length c] w0 (vSA w0 t):=by
 have HL:=Lib.hid (fun m a w h=>jRA (w0:=w0) (c:=c) (t:=t) hn hs hp hS m a w h);clear hp hs hS;go_enter Tryz.func166,Tryz.ntmps166;go_wp2;rename_i K hK;refine wp_mono (HL.out t.length _ _ ⟨0,by omega,.slice none 0 0,.slice none 0 0,[],[],bB (F:=sG _ _ _ _ 0) (by rfl) ⟨World.ownsRow_nil _ _ _ _,World.ownsRow_nil _ _ _ _,.inl rfl,Under.refl _,rfl,rfl,Nat.le_refl _,fun y hy=>by simp at hy⟩⟩) ?_;rintro e a' w' h;unfold f0A at h
 cases hR:wC t 0 [] [] with
 | none =>
   rw[hR]at h;obtain⟨rfl,J,rfl,hU⟩:=h;simp only[Exit.inBlock,Exit.then];go_ret2;unfold vSA;rw[hR];exact⟨rfl,hU⟩
 | some r =>
   rw[hR]at h;obtain⟨rfl,va,vo,all,op,J,rfl,hM⟩:=h;have hr:=hM.res;rw[List.drop_length,hR]at hr;obtain rfl:(all,op)=r:=Option.some.inj hr;simp only[Exit.inBlock,if_pos,Exit.then];refine hK _ _ ?_;clear hK;obtain⟨q,co,rfl,_,_⟩:=RowArg.of_own hM.op_;have HM:=Lib.hid hM;have HR:=Lib.hid hR;have hol:op.length≤4000:=by have:=hM.ol;omega
   clear hM hR hr;unfold sG;go_wp2;go_ret2;unfold vSA;rw[HR.out];exact⟨va,rfl,HM.out.all_,HM.out.low⟩
def tPA(w0:World)(t:List Nd)(e:Ending)(w:World):Prop :=
 Under w0 w ∧ if bC t = 0 then ∃ v all op, wC t 0 [] [] = some (all, op) ∧ e = .returned (.tuple #[v, .int .i64 0]) ∧ w.ownsRow w0.heap.size 256 2 v all.length (yC all)
   else e = .returned (.tuple #[.slice none 0 0,.int .i64 (bC t)])
theorem vV{w w1:World}{e:Int}(h:bC t=e)(he:e≠0)(hU:Under w w1):tPA w t (.returned (.tuple #[.slice none 0 0,.int .i64 e])) w1:=⟨hU,by rw[if_neg (by rw[h];exact he),h]⟩
theorem hWA(t:List Nd){p:Option Addr}(hn:t.length≤maxLen)(hs:∀ x∈t,x.s.size≤maxLen)(hp:RowArg w0 p (aC t))(hS:ShapesAt 3 w0) :
 Calls Tryz.prog 145 #[.slice p t.length c] w0 (tPA w0 t):=by
 unfold maxLen at hn;by_cases hbig:4000 < t.length
 · have he : bC t = 21 := by unfold bC; rw [if_pos hbig]
   have HE:=Lib.hid he;clear he hp hs hS;go_enter Tryz.func145,Tryz.ntmps145;go_wp2;go_ret2;exact vV HE.out (by decide) (Under.refl _)
 have HC:=Lib.hid (fHA (c:=c) t (by omega) hs hp hS);clear hp hs hS
 cases hR:wC t 0 [] [] with
 | none =>
   have he:bC t=20:=by unfold bC;rw[if_neg hbig,hR]
   have HE:=Lib.hid he;have HR:=Lib.hid hR;clear he hR;go_enter Tryz.func145,Tryz.ntmps145;go_wp2_with fail;refine HC.out.mono ?_;intro e w1 h;unfold vSA at h;rw[HR.out]at h;obtain⟨rfl,hU⟩:=h;have HU:=Lib.hid hU;clear hU;go_wp2;go_ret2;exact vV HE.out (by decide) HU.out
 | some r =>
   obtain⟨all,op⟩:=r;obtain⟨hl1,hl2⟩:=bOA t 0 [] [] rfl (Nat.le_refl _) hR;simp only[Nat.zero_add]at hl1 hl2;by_cases ho:op.length=1
   · have hd : ∃ m d f, all.length = m + 1 ∧ all.getLastD (0, 0) = (f, d) ∧ all[m]? = some (f, d) := by
       refine⟨all.length - 1,_,_,by omega,rfl,?_⟩
       cases all with
       | nil=>simp at hl1;omega
       | cons y l=>simp[List.getLast_eq_getElem]
     obtain⟨m,d,f,hm,hg,ha⟩:=hd;obtain⟨ca,cb⟩:=xP ha;have he:bC t=if 60 < d then 22 else 0:=by unfold bC;rw[if_neg hbig,hR];simp only[ho,hg];simp
     have ho':decide ((op.length:Int)=1)=true:=by rw[ho];rfl
     have HE:=Lib.hid he;have HR:=Lib.hid hR;have HO:=Lib.hid ho';have HB:=Lib.hid cb;have hm4:m < 4000:=by omega
     have HMm:=Lib.hid hm;clear he hR ho ho' ca cb ha hg hl1 hl2 hm;have hm0:(0:Int)≤m:=Int.natCast_nonneg _;by_cases h60:60 < d
     all_goals
      have h60':decide ((60:Int) < d)=decide (60 < d):=by simp;omega
      go_enter Tryz.func145,Tryz.ntmps145;go_wp2_with fail;refine HC.out.mono ?_;intro e w1 h;unfold vSA at h;rw[HR.out]at h;obtain⟨v,rfl,hv,hU⟩:=h;rw[HO.out];have hv':=hv;rw[HMm.out]at hv;obtain⟨g,gc,rfl,hgo,_,hgl,_,_⟩:=kE hv (by omega);have e1:=yD hv hgo HB.out;have HU:=Lib.hid hU;have HV:=Lib.hid hv';clear hU hv hv';go_wp2;go_ret2
     · exact vV (by rw[HE.out,if_pos h60]) (by decide) HU.out
     · exact⟨HU.out,by rw[HE.out,if_neg h60,if_pos rfl];exact⟨_,all,op,HR.out,rfl,HV.out⟩⟩
   · have he : bC t = 20 := by unfold bC; rw [if_neg hbig, hR]; simp only; rw [if_pos ho]
     have ho':decide ((op.length:Int)=1)=false:=by simp;omega
     have HE:=Lib.hid he;have HR:=Lib.hid hR;have HO:=Lib.hid ho';clear he hR ho ho' hl1 hl2;go_enter Tryz.func145,Tryz.ntmps145;go_wp2_with fail;refine HC.out.mono ?_;intro e w1 h;unfold vSA at h;rw[HR.out]at h;obtain⟨v,rfl,_,hU⟩:=h;rw[HO.out];have HU:=Lib.hid hU;clear hU;go_wp2;go_ret2;exact vV HE.out (by decide) HU.out
theorem pY(t:List Nd){p:Option Addr}(hn:t.length≤maxLen)(hs:∀ x∈t,x.s.size≤maxLen)(hp:RowArg w0 p (aC t))(hS:ShapesAt 3 w0) :
 Calls Tryz.prog 118 #[.slice p t.length c] w0 fun e w=>e = .returned (.int .i64 (bC t))∧Under w0 w:=by
 have HC:=Lib.hid (hWA (c:=c) t hn hs hp hS);clear hp hs hS;by_cases h0:bC t=0
 all_goals
  have H0:=Lib.hid h0;clear h0;go_enter Tryz.func118,Tryz.ntmps118;go_wp2_with fail;refine HC.out.mono ?_;intro e w1 ⟨hU,h⟩;have HU:=Lib.hid hU;clear hU
 · rw[if_pos H0.out]at h;obtain⟨v,all,op,_,rfl,_⟩:=h;go_wp2;go_ret;exact⟨mF H0.out.symm,HU.out⟩
 · rw[if_neg H0.out]at h;subst h;go_wp2;go_ret;exact⟨rfl,HU.out⟩
end
section
variable {w0 : World}
theorem fPA(p1 p2:Option Addr)(n1 n2 d1 d2:Nat):Calls Tryz.prog 108 #[.agg #[.slice p1 n1 d1,.slice p2 n2 d2]] w0 fun e w=>∃ rb m1 m2,e = .returned (.pointer (some ⟨rb,0,none⟩))∧ReS w0 rb m1 m2 (.slice p1 n1 d1) (.slice p2 n2 d2) (.slice none 0 0) [] 0 0 w:=by
 have HU0 := Lib.hid (aA (Under.refl w0) (.cells #[.slice p1 n1 d1, .slice p2 n2 d2] 52)); go_enter Tryz.func108, Tryz.ntmps108; go_wp2_with fail; go_region_held3 (fun w' => w'.cell? ⟨w0.heap.size, 0, none⟩ = some (.slice p1 n1 d1) ∧ w'.cell? ⟨w0.heap.size, 1, none⟩ = some (.slice p2 n2 d2))
   (first
     | go_keep
     | (go_split_ands
        refine⟨?_,?_⟩
        · (rw[dA hU2 (by have:=hU1.size;simp at this ⊢;omega)];assumption)
        · (rw[dA hU2 (by have:=hU1.size;simp at this ⊢;omega)];assumption))
     | (go_split_ands
        refine⟨?_,?_⟩
        · (rw[dA hU1 (by simp)];assumption)
        · (rw[dA hU1 (by simp)];assumption)))
   (first
     | (go_simp;go_at_call 138;refine(xFA (w0:=_)).mono ?_;rintro e w1 ⟨rfl,hM1,hU1⟩)
     | (go_simp;go_at_call 139;refine(pFA (w0:=_)).mono ?_;rintro e w2 ⟨rfl,hM2,hU2⟩))
 have hM1':MapAt w1 (w0.heap.size+1) formsL:=by simpa using hM1
 have hB:=qA w2 #[.slice p1 n1 d1,.slice p2 n2 d2,.map (some (w0.heap.size+1)),.map (some w1.heap.size),.slice none 0 0,.int .i64 0,.int .i64 0] 205;have hU3:=aA (Under.refl w2) (.cells #[.slice p1 n1 d1,.slice p2 n2 d2,.map (some (w0.heap.size+1)),.map (some w1.heap.size),.slice none 0 0,.int .i64 0,.int .i64 0] 205);have hUa:=(((fA HU0.out).trans hU1).trans hU2).trans hU3;have hlo:w0.heap.size≤w2.heap.size:=by have:=hU1.size;have:=hU2.size;simp at *;omega
 have HT:RowKit.Hid (ReS w0 w2.heap.size (w0.heap.size+1) w1.heap.size (.slice p1 n1 d1) (.slice p2 n2 d2) (.slice none 0 0) [] 0 0 _):=Lib.hid ⟨hB,(hM1'.under hU2).under hU3,hM2.under hU3,World.ownsRow_nil _ _ _ _,hUa,hlo⟩;have HUa:=Lib.hid hUa;clear hM1 hM1' hM2 hU1 hU2 hU3 hB hUa hlo;go_wp2;go_ret;exact⟨_,_,_,rfl,HT.out⟩
def xPA(w0:World)(R:Say)(e:Ending)(w:World):Prop:=Under w0 w∧match R with
 | .ok t=>∃ v,e = .returned (.tuple #[v,.int .i64 0,.int .i64 0])∧TermV w v t
 | .error (c,p)=>e = .returned (.tuple #[.slice none 0 0,.int .i64 p,.int .i64 c])
theorem qZA(T:ST)(hT:p3A T){q:Option Addr}{cap:Nat}(cs ds:List ByteArray)(hok:okS T)(hn:(xB T).length≤20000)(hcap:(xB T).length≤cap)(hq:SxArg w0 q (xB T))(hw:∀ x∈xB T,x.word.size≤1000000)(hE:StrcAt w0)(hS:ShapesAt 3 w0){p1 p2:Option Addr}{d1 d2:Nat}(hcs:TextsV w0 (.slice p1 cs.length d1) cs)(hds:TextsV w0 (.slice p2 ds.length d2) ds)(hcn:cs.length≤1000000)(hdn:ds.length≤1000000) :
 Calls Tryz.prog 103 #[.agg #[.slice p1 cs.length d1,.slice p2 ds.length d2],.slice q (xB T).length cap] w0 (xPA w0 (sVA cs ds T)):=by
 have HU0:=Lib.hid (aA (Under.refl w0) (.cells #[.slice p1 cs.length d1,.slice p2 ds.length d2] 52));have HB0:=Lib.hid (qA w0 #[.slice p1 cs.length d1,.slice p2 ds.length d2] 52);have HI:=Lib.hid (yX (w0:=w0.alloc (.cells #[.slice p1 cs.length d1,.slice p2 ds.length d2] 52)) (cap:=cap) (p:=q) (xB T) (by omega) hcap (hq.under HU0.out));have hit:sJ (xB T)=some [xB T]:=by
  have:=zM (ts:=[T]) ⟨hok,trivial⟩
  simpa [fC] using this
 rw [hit] at HI; have hp := uX T; have HN := Lib.hid (fun w1 => fPA (w0 := w1) p1 p2 cs.length ds.length d1 d2); have HLen := Lib.hid (fun t (ht : mQ cs ds T [] = .ok t) => And.intro (fWA T _ _ ht) (aMA T _ _ ht)); have HT := Lib.hid hT; clear hT; have HQ := Lib.hid hq; have HL := Lib.hid (fun w1 (hU : Under w0 w1) => gFA (w0 := w1) T (q := q) (cap := cap) (by omega) (hq.under hU)); have HFl := Lib.hid (And.intro hn hcap); have HD : RowKit.Hid (sVA cs ds T = match mQ cs ds T [] with | .error x => .error x | .ok t => if bC t = 0 then .ok t else .error (bC t, T.last.pos)) := Lib.hid rfl; generalize sVA cs ds T = TS at *; clear hq hit hn hcap; go_enter Tryz.func103, Tryz.ntmps103; go_wp2_with fail; refine HI.out.mono ?_; rintro e w1 ⟨hU1, vo, vs, rfl, h1, h2⟩; obtain ⟨q2, c2, rfl, _⟩ := RowArg.of_own h1; have HU1 := Lib.hid (HU0.out.trans hU1); have hb1 := HB0.out.under hU1; have e0 : w1.cell? ⟨w0.heap.size, 0, none⟩ = some (.slice p1 cs.length d1) := hb1.cell 0; have e1 : w1.cell? ⟨w0.heap.size, 1, none⟩ = some (.slice p2 ds.length d2) := hb1.cell 1; have el := hb1.lt; have h11 : ([xB T] : List (List Sx)).length = 1 := rfl; rw [h11]; clear hU1 h1 h2 HI hb1 h11; go_wp2_with fail; refine (HN.out _).mono ?_; rintro e w2 ⟨rb, m1, m2, rfl, hR2⟩; have HR2 := Lib.hid hR2; have HU2 := Lib.hid (HU1.out.trans hR2.und); have hrb := hR2.lo; have HCa := Lib.hid (HT.out w1 w2 rb m1 m2 _ _ _ [] 0 0 q cap (.slice none 0 0) [] cs ds hok HFl.out.1 HFl.out.2 hw (hE.under HU1.out) (hcs.under HU1.out) (hds.under HU1.out) hcn hdn hR2 (HQ.out.under HU2.out) (by
   intro b off x e hr;obtain⟨b',off',e',hb',_⟩:=HQ.out (fun e=>by rw[e]at hp;exact absurd hp (Nat.lt_irrefl _));rw[e]at e';cases e';rcases hr with rfl | hr
   · have:=HU1.out.size;omega
   · cases hr) (TextsV.nil _) (fun q n c e hne=>by cases e;exact absurd rfl hne) (by have:=HFl.out.1;simp;omega) (by have:=HFl.out.1;simp;omega))
 clear hR2 HN e0 e1 el;rcases hs:mQ cs ds T [] with⟨ec,ep⟩ | t
 · have HE : RowKit.Hid (TS = .error (ec, ep)) := Lib.hid (by rw [HD.out, hs]); rw [hs] at HCa; go_wp2_with fail; refine HCa.out.mono ?_; rintro e w3 ⟨ov', acc', p', e', g1, g2, g3, rfl, rfl, rfl⟩; have b5 := g1.box.cell 5; have b6 := g1.box.cell 6; have bl := g1.box.lt; have HG := Lib.hid g1.und; have bb := And.intro b5 b6; clear g1 g2 g3 HCa; go_wp2_with fail; go_region_held3 (fun w' => w'.cell? ⟨rb, 5, none⟩ = some (.int .i64 p') ∧ w'.cell? ⟨rb, 6, none⟩ = some (.int .i64 e'))
     (first
       | exact bb
       | go_keep)
     (fail)
   rename_i hHeld;clear hHeld bb b5 b6;go_wp2;go_ret3;rw[HE.out];exact⟨HU1.out.trans (HG.out.trans (fA (Under.refl _))),rfl⟩
 · rw [hs] at HCa; go_wp2_with fail; refine HCa.out.mono ?_; rintro e w3 ⟨ov', acc', p', e', g1, g2, g3, rfl, hacc⟩; obtain rfl : t = acc' := by rw [hacc]; rfl
   clear hacc; have HG := Lib.hid g1; obtain ⟨qo, co, rfl, hco, hro⟩ := RowArg.of_own g1.row; have b4 := g1.box.cell 4; have bl := g1.box.lt; obtain ⟨L1, L2⟩ := HLen.out t hs; have HCk := Lib.hid (pY (w0 := w3) (c := co) t (by have := HFl.out.1; simp only [maxLen]; omega) (fun x hx => by have := L2 x hx; simp only [maxLen]; omega) hro ((hS.under HU1.out).under g1.und)); have HTv := Lib.hid (show TermV w3 (.slice qo t.length co) t from ⟨qo, co, rfl, hco, (fun e => by
     subst e;rcases g1.row.2 with⟨e,_⟩ | ⟨g,c,cur,e,_⟩
     · injection e
     · injection e with e1;cases e1),hro⟩)
   have HU3:=Lib.hid (HU1.out.trans g1.und);clear g1 g2 g3 HCa hco hro L1 L2;go_wp2_with fail;refine HCk.out.mono ?_;rintro e w4 ⟨rfl,hU4⟩;have HBx:=Lib.hid (HG.out.box.under hU4);have HU4:=Lib.hid (HU3.out.trans hU4);have HT4:=Lib.hid (TermV.mono _ _ _ _ hU4 HTv.out);have b4:=HBx.out.cell 4;have bl:=HBx.out.lt;clear hU4
   cases hc:(bC t != 0)
   · have hc0 : bC t = 0 := by simpa using hc
     have HE:RowKit.Hid (TS = .ok t):=Lib.hid (by rw[HD.out,hs];simp only;rw[if_pos hc0]);clear hc0;go_wp2;go_ret3;rw[HE.out];exact⟨HU4.out,_,rfl,HT4.out⟩
   · have hc0 : ¬ bC t = 0 := by simpa using hc
     have HE:RowKit.Hid (TS = .error (bC t,T.last.pos)):=Lib.hid (by rw[HD.out,hs];simp only;rw[if_neg hc0]);have HFd:=fun(a b:Int) (s:ByteArray) (w:World)=>(show(Instr.field 28 (.agg #[.int .i64 a,.int .i64 b,.string s]) 1).run Tryz.prog w = .ok (.int .i64 b) w by kernel_rfl)
     have HLt:=Lib.hid (HL.out _ HU4.out);unfold sxV at HLt;clear hc0;go_wp2_with fail;refine HLt.out.mono ?_;rintro e w5 ⟨rfl,hU5⟩;have HU5:=Lib.hid (HU4.out.trans hU5);clear hU5;go_wp2;go_ret3;rw[HE.out];exact⟨HU5.out,rfl⟩
end
end Go.Proofs.YtggjbblgoddnjaaGreatDoor
namespace Go.Proofs.YtggjbblgoddnjaaGreatDoor
open Go.ChangeShapes Go.WideShapes Go.ChangeAt Go.WideMaps Go.WideElems Go.RowKit Go.Lx Go.Deep Go.Conc
theorem Tryz.own:ownKnob Tryz.prog.godebug=none:=by kernel_rfl
theorem Tryz.laidOut:laidOutB Tryz.prog=true:=by kernel_rfl
theorem gShapes : Tryz.prog.globalNamed "cornice/term.shapes" = some 3 := by kernel_rfl
theorem tShapes:(Tryz.prog.globals[3]?).map (·.type)=some 272:=by kernel_rfl
theorem tPow:(Tryz.prog.globals[5]?).map (·.type)=some 289:=by kernel_rfl
theorem gErrS : Tryz.prog.globalNamed "strconv.ErrSyntax" = some 1 := by kernel_rfl
theorem gErrR : Tryz.prog.globalNamed "strconv.ErrRange" = some 2 := by kernel_rfl
theorem tErrS:(Tryz.prog.globals[1]?).map (·.type)=some 152:=by kernel_rfl
theorem tErrR:(Tryz.prog.globals[2]?).map (·.type)=some 152:=by kernel_rfl
def qZ {H : Type} : List (String × DataW H) := [("math/bits.deBruijn32tab", Rows.laid_math_bits_deBruijn32tab), ("math/bits.deBruijn64tab", Rows.laid_math_bits_deBruijn64tab), ("internal/strconv.uint64pow10", Rows.laid_internal_strconv_uint64pow10), ("cornice/term.shapes", Rows.laid_cornice_term_shapes), ("strconv.ErrRange", Rows.laid_strconv_ErrRange), ("strconv.ErrSyntax", Rows.laid_strconv_ErrSyntax)]
theorem xQA{H:Type}:(Rows.laid_cornice_term_shapes:DataW H) = .agg ((List.range 30).map gNA):=by kernel_rfl
theorem r1A{H:Type}:(Rows.laid_internal_strconv_uint64pow10:DataW H)=Lib.tabData .u64 Lib.pow10Tab:=by kernel_rfl
theorem uJA(os:Os)(args:Array Value):laidMetH Tryz.prog qZ ((World.doorLaid Tryz.prog 400 os).forCall (fun _ _=>0) ⟨#[],args,[]⟩).memory :=
 laidMetH_of_parts3 (fuel:=8) (laidMet_of_run' 8 (by kernel_rfl) (by kernel_rfl)) (by kernel_rfl) (by kernel_rfl)
theorem mIA{H:Type}{enc:TypeId×Value→H}{W:World}{base:Nat}{sp:Nat→Bool}{fuel g:Nat}{nm n:String}{d:DataW H}{cs:Array Value}{q:List MemPlace}(hg:Tryz.prog.globalNamed n=some g)(hv:W.var? Tryz.prog n=some cs)(h:DataW.trod enc Tryz.prog W base sp false fuel 152 cs.toList=some (.iface nm d,q)):∃ v,W.cell? ⟨g,0,none⟩=some v∧tVA v:=by
 obtain⟨_,u,v,e,_⟩:=iface_of_trod Tryz.underlying152 h;obtain⟨cs⟩:=cs;obtain rfl:cs=[.iface u v]:=e;exact⟨_,by rw[World.var?_cell hg hv 0];rfl,.inr ⟨u,v,rfl⟩⟩
theorem iQA{W:World}(h:laidMetH Tryz.prog qZ W):StrcAt W∧ShapesAt 3 W:=by
 rw[MakeChecks.laidMetH_plain _ _ _ (by kernel_rfl)]at h;obtain⟨ps,⟨_,_,_,_,_,_,_,_,_,_,⟨_,_,_,_,_,_,_,_,_,_,⟨g2,t2,cs2,f2,p2,q2,hg2,ht2,hv2,hd2,⟨g3,t3,cs3,f3,p3,q3,hg3,ht3,hv3,hd3,⟨g4,t4,cs4,f4,p4,q4,hg4,ht4,hv4,hd4,⟨g5,t5,cs5,f5,p5,q5,hg5,ht5,hv5,hd5,_,_⟩,_⟩,_⟩,_⟩,_⟩,_⟩,_,_⟩:=h;obtain rfl:=Option.some.inj (gShapes.symm.trans hg3);obtain rfl:=Option.some.inj (gPow.symm.trans hg2);obtain rfl:=Option.some.inj (gErrR.symm.trans hg4);obtain rfl:=Option.some.inj (gErrS.symm.trans hg5);obtain rfl:=Option.some.inj (tShapes.symm.trans ht3);obtain rfl:=Option.some.inj (tPow.symm.trans ht2);obtain rfl:=Option.some.inj (tErrR.symm.trans ht4);obtain rfl:=Option.some.inj (tErrS.symm.trans ht5);refine⟨⟨mIA hg5 hv5 hd5,mIA hg4 hv4 hd4,?_⟩,?_⟩
 · rw [r1A] at hd2
   show W.var? Tryz.prog "internal/strconv.uint64pow10" = _
   rw[hv2,← Lib.cells_of_tab Tryz.underlying289 Tryz.underlying263 (by kernel_rfl) (by kernel_rfl) hd2]
 · rw[xQA]at hd3;exact zIA (cs:=cs3.toList) (fun j=>by rw[World.var?_cell hg3 hv3 j];simp) Tryz.underlying272 (by kernel_rfl) Tryz.underlying271 (by kernel_rfl) Tryz.underlying123 Tryz.underlying3 (by kernel_rfl) Tryz.underlying4 Tryz.underlying4 Tryz.underlying4 hd3
section
variable {H : Type} {enc : TypeId × Value → H} {w : World} {spare : Nat → Bool} {held : Bool} {fuel : Nat} {cs : List Value} {x : DataW H × List MemPlace}
theorem qCA {W w : World} {t : TypeId} {v : Value} {d : DataW H} {ps : List MemPlace} (hr : Tryz.prog.readableRec t = true) (hrow : t < Tryz.prog.types.size) (hU : Under W w) (dd : Nat)
    (hlt:∀ p∈ps,p.block < W.heap.size) (h:DataW.Trod enc Tryz.prog W 0 (fun _=>true) true t v d ps):DataW.Trod enc Tryz.prog (re w W.tape dd) 0 (fun b=>decide (b < W.heap.size)) true t v d ps:=by
  refine Go.WideElems.Trod_stays Tryz.laidOut hr hrow h (fun p hp=>?_) (fun p hp=>by simpa using hlt p hp);have hb:=hlt p hp
  cases p with
  | cell b off=>exact dA (hU.re W.tape dd) hb off
  | map b=>exact(hU.re W.tape dd).low b hb
end
theorem vFA{W w:World}(h:Under W w)(d:Nat):Below W.heap.size W (re w W.tape d):=⟨h.os,rfl,h.output,h.size,fun b hb=>h.low b hb⟩
theorem hCA{H:Type}{enc:TypeId×Value→H}{W:World}{base:Nat}{sp:Nat→Bool}{held:Bool}(b:Bool):DataW.Trod enc Tryz.prog W base sp held 4 (.bool b) (.lit (.bool b)) []:=⟨1,by simp[DataW.trod,Value.cells,Tryz.underlying4]⟩
end Go.Proofs.YtggjbblgoddnjaaGreatDoor
namespace Go.Proofs.YtggjbblgoddnjaaGreatDoor
open Go.Lx Go.RowKit
def l0A(c:UInt8):Bool:=(decide (97≤(c.toNat:Int))&&decide ((c.toNat:Int)≤122))||(decide (65≤(c.toNat:Int))&&decide ((c.toNat:Int)≤90))||((c.toNat:Int)==95)
theorem tXA:∀ n:Nat,n < 256→l0A (UInt8.ofNat n)=jV (UInt8.ofNat n):=by decide +kernel
theorem xYA(c:UInt8):l0A c=jV c:=by
 have h:=tXA c.toNat c.toNat_lt
 rwa [UInt8.ofNat_toNat]at h
section
variable {w0 : World}
theorem lDA(c:UInt8):Calls Tryz.prog 112 #[.int .u8 c.toNat] w0 fun e w=>e = .returned (.bool (jV c))∧w=w0:=by
 rw[← xYA];have HR:RowKit.Hid (l0A c=((decide (97≤(c.toNat:Int))&&decide ((c.toNat:Int)≤122))||(decide (65≤(c.toNat:Int))&&decide ((c.toNat:Int)≤90))||((c.toNat:Int)==95))):=Lib.hid rfl;generalize l0A c=r at *;generalize (c.toNat:Int)=n at *;by_cases h1:97≤n
 all_goals by_cases h2:n≤122
 all_goals by_cases h3:65≤n
 all_goals by_cases h4:n≤90
 all_goals first | omega | skip
 all_goals
  go_enter Tryz.func112,Tryz.ntmps112;go_wp2;go_ret;exact⟨by rw[HR.out];simp[*]<;>omega,rfl⟩
def okR(c:UInt8):Bool:=jV c||eGA c
theorem rV : ∀ (l : List UInt8) (i : Nat), i ≠ 0 → xD i l = l.all okR
  | [],i,h=>rfl
  | c :: r, i, h => by
    simp only[xD,List.all_cons,okB,okR];rw[rV r (i+1) (by omega)];simp[h]
theorem lRA{s:ByteArray}{c:UInt8}{r:List UInt8}(h:s.data.toList=c::r)(hs:s.size≤16)(hc:jV c=true):rD s=s.data.toList.all okR:=by
 unfold rD;have h0:s.size≠0:=by
  have:s.data.toList.length=s.size:=by rw[Array.length_toList];rfl
  rw[h]at this;intro e;rw[e]at this;cases this
 rw[h];simp only[xD,List.all_cons];rw[rV r 1 (by decide)];simp[okB,okR,hc,h0,hs]
theorem zQA{s:ByteArray}{c:UInt8}{r:List UInt8}(h:s.data.toList=c::r)(hc:jV c=false):rD s=false:=by
 unfold rD;rw[h];simp[xD,okB,hc]
def b4A(w0:World)(s:ByteArray)(i:Value)(wr:World):Prop:=∃ k:Nat,k≤s.size∧i = .int .i64 (k:Int)∧s.data.toList.all okR=(s.data.toList.drop k).all okR∧w0=wr
theorem wL(s:ByteArray):Calls Tryz.prog 86 #[.string s] w0 fun e w=>e = .returned (.bool (rD s))∧w=w0:=by
 have HLen:=Lib.hid (show s.data.toList.length=s.size by rw[Array.length_toList];rfl);by_cases h1:(s.size:Int) < 1
 · have HO : RowKit.Hid (rD s = false) := Lib.hid (by
     have:s.size=0:=by omega
     unfold rD;simp[this])
   go_enter Tryz.func86,Tryz.ntmps86;go_wp2;go_ret;exact⟨by rw[HO.out];rfl,rfl⟩
 by_cases h16:16 < (s.size:Int)
 · have HO:RowKit.Hid (rD s=false):=Lib.hid (by unfold rD;simp;intros;omega);go_enter Tryz.func86,Tryz.ntmps86;go_wp2;go_ret;exact⟨by rw[HO.out];rfl,rfl⟩
 have h0:0 < s.size:=by omega
 have hs16:s.size≤16:=by omega
 obtain⟨c,r,hcr⟩:∃ c r,s.data.toList=c::r:=by
  cases h:s.data.toList with
  | nil=>have:=HLen.out;rw[h]at this;simp at this;omega
  | cons c r=>exact⟨c,r,rfl⟩
 have hs0:s[0]=c:=by
  show s.data[0]=c
  rw[← Array.getElem_toList];simp[hcr]
 have HL0:=Lib.hid (lDA (w0:=w0) c)
 cases hc:jV c
 · have HO:=Lib.hid (zQA hcr hc);rw[hc]at HL0;clear hcr hc;go_enter Tryz.func86,Tryz.ntmps86;go_wp2_with fail;refine HL0.out.mono ?_;rintro e w1 ⟨rfl,rfl⟩;go_wp2;go_ret;exact⟨by rw[HO.out];rfl,rfl⟩
 · have HO := Lib.hid (lRA hcr hs16 hc); rw [hc] at HL0; have HL := Lib.hid (fun c => lDA (w0 := w0) c); clear hcr hc; go_enter Tryz.func86, Tryz.ntmps86; go_wp2_with fail; refine HL0.out.mono ?_; rintro e w1 ⟨rfl, rfl⟩; clear hs0 HL0; go_wp2; go_loopw [3] (fun i wr => b4A w1 s i wr) (fun i _ => s.size - (intOf i).toNat)
   case atStart=>exact⟨0,Nat.zero_le _,rfl,by simp,rfl⟩
   case round =>
     obtain⟨k,hk,rfl,hN,rfl⟩:=hrel;have HN:=Lib.hid hN;clear hN;by_cases hlt:k < s.size
     · have hk' : k < s.data.toList.length := by rw [HLen.out]; exact hlt
       have hd:(s.data.toList.drop k).all okR=(okR s[k]&&(s.data.toList.drop (k+1)).all okR):=by rw[List.drop_eq_getElem_cons hk'];rfl
       have HD:=Lib.hid hd;have HLk:=Lib.hid (HL.out s[k]);have hdg:eGA s[k]=(!(decide ((s[k].toNat:Int) < 48)) && !(decide (57 < (s[k].toNat:Int)))):=rfl;have HDg:=Lib.hid hdg;clear hd hdg;generalize hx:s[k]=x at *;have hok:okR x=(jV x||eGA x):=rfl;have HOk:=Lib.hid hok;clear hok
       cases hl:jV x
       · rw [hl] at HLk HOk; by_cases h48 : (x.toNat : Int) < 48
         · go_wp2_with fail;refine HLk.out.mono ?_;rintro e w1 ⟨rfl,rfl⟩;go_wp2;go_ret;exact⟨by rw[HO.out,HN.out,HD.out,HOk.out,HDg.out];simp[h48],rfl⟩
         · by_cases h57 : 57 < (x.toNat : Int)
           · go_wp2_with fail;refine HLk.out.mono ?_;rintro e w1 ⟨rfl,rfl⟩;go_wp2;go_ret;exact⟨by rw[HO.out,HN.out,HD.out,HOk.out,HDg.out];simp[h57],rfl⟩
           · have HT : RowKit.Hid (okR x = true) := Lib.hid (by rw [HOk.out, HDg.out]; simp; omega); go_wp2_with fail; refine HLk.out.mono ?_; rintro e w1 ⟨rfl, rfl⟩; go_wp2; go_roundw
             case rel=>exact⟨k+1,by omega,by go_num,by rw[HN.out,HD.out,HT.out];rfl,rfl⟩
             case measure=>simp[intOf];omega
       · rw [hl] at HLk HOk; go_wp2_with fail; refine HLk.out.mono ?_; rintro e w1 ⟨rfl, rfl⟩; go_wp2; go_roundw
         case rel=>exact⟨k+1,by omega,by go_num,by rw[HN.out,HD.out,HOk.out];rfl,rfl⟩
         case measure=>simp[intOf];omega
     · obtain rfl : k = s.size := by omega
       have HE:RowKit.Hid (rD s=true):=Lib.hid (by rw[HO.out,HN.out,← HLen.out,List.drop_length];rfl);go_wp2;go_ret;exact⟨by rw[HE.out];rfl,rfl⟩
end
theorem Tryz.infoInt:(Tryz.prog.info? 3).map (fun i=>(i.zero,i.size,i.bytes))=some (some (.int .i64 0),1,8):=by kernel_rfl
theorem oTA(l:List Nat):(bE l).length=l.length:=List.length_map ..
theorem wTA{l:List Nat}{u:Value}(h:u∈bE l):u.oneCell'=true:=by
 unfold bE at h;obtain⟨n,_,rfl⟩:=List.mem_map.1 h;rfl
theorem qWA(w0:World)(base:Nat)(e:TypeId)(size:Nat)(hb:base≤w0.heap.size):(w0.alloc (.cells #[] e)).ownsRow base e size (.slice (some ⟨w0.heap.size,0,none⟩) 0 0) 0 [] :=
 ⟨by simp,.inr ⟨w0.heap.size,0,#[],rfl,hb,qA w0 _ _,Nat.le_refl _,by decide,by simp,by simp⟩⟩
section
variable {w0 : World}
theorem hEA(l:List Nat){p:Option Addr}{c:Nat}(hn:l.length≤1000000)(hp:RowArg w0 p (bE l)) :
 Calls Tryz.prog 180 #[.slice p l.length c] w0 fun e w'=>∃ v,e = .returned v∧w'.ownsRow w0.heap.size 3 1 v l.length (bE l)∧Under w0 w':=by
 obtain⟨i0,hi,hz0,hz1,hz2⟩:=info_parts Tryz.infoInt;have eqn:=Lib.run_eql_slice_nil (P:=Tryz.prog) w0 123 3 p l.length c 0 0 Tryz.underlying123
 cases p with
 | none =>
   have hl:l=[]:=Classical.byContradiction fun h=>by
    obtain⟨b,off,e,_⟩:=hp (fun e=>h (by simpa [bE] using e))
    cases e
   subst hl;clear hp;rw[List.length_nil]at eqn ⊢;go_enter Tryz.func180,Tryz.ntmps180;go_wp2;go_ret;exact⟨_,rfl,World.ownsRow_nil _ _ _ _,Under.refl _⟩
 | some a =>
   have hmx:0+l.length≤maxLen:=by simp only[maxLen];omega
   have hby:(0+l.length) * 8≤140737488355328:=by omega
   have HP:=Lib.hid hp;clear hp;go_enter Tryz.func180,Tryz.ntmps180;go_wp2_with (at_builtin;refine wpList_append_own_at _ rfl _ _ 123 rfl w0.heap.size 3 i0 _ 1 8 Tryz.underlying123 hi hz0 hz1 hz2 rfl (by decide) _ _ _ rfl (qWA w0 _ _ _ (Nat.le_refl _)) a l.length c (bE l) rfl (by rw[oTA];omega) ?c1 (fun u hu=>wTA hu) hmx hby ?c5 ?_)
   case c1 =>
     intro j u hj;obtain⟨b,off,e,hb,hc⟩:=HP.out (fun e=>by rw[e]at hj;cases hj)
     cases e;rw[jJ];exact(dA (W:=w0) (aA (Under.refl _) _) hb _).trans (hc j u hj)
   case c5=>simp
   intro v' w1 hown hgrow hnil hat;have HW:=Lib.hid hown;have HU2:=Lib.hid (rA (W:=w0) (aA (Under.refl _) _) hgrow fun g e=>by cases e;exact Nat.le_refl _);clear hown hgrow hnil hat;go_wp2;go_ret;exact⟨v',rfl,HW.out,HU2.out⟩
def oK(w0:World)(x:Nd)(e:Ending)(w:World):Prop:=∃ v,e = .returned (.tuple #[v,.bool (yA x)])∧w.ownsRow w0.heap.size 3 1 v (if yA x then binds x else []).length (bE (if yA x then binds x else []))∧Under w0 w
theorem tRA(n:Int)(m:Nat)(s:ByteArray)(hs:s.size≤maxLen)(hS:ShapesAt 3 w0)(hr:yA ⟨26,n,m,s⟩=true)(hm:m≤6):Calls Tryz.prog 162 #[ndV ⟨26,n,m,s⟩] w0 (oK w0 ⟨26,n,m,s⟩):=by
 have HB:=Lib.hid (qA w0 #[.int .i64 26,.int .i64 n,.int .i64 m,.string s] 112);have HC:=Lib.hid (nP ⟨26,n,m,s⟩ _ hs (hS.under (aA (Under.refl w0) (.cells #[.int .i64 26,.int .i64 n,.int .i64 m,.string s] 112))));have HR:=Lib.hid hr;rw[hr]at HC;obtain⟨i0,hi,hz0,hz1,hz2⟩:=info_parts Tryz.infoInt;clear hr;clear hS;have HBI:=Lib.hid (show(if true=true then binds ⟨26,n,m,s⟩ else [])=List.replicate m 0 by rw[if_pos rfl];rfl);unfold ndV;go_enter Tryz.func162,Tryz.ntmps162;go_wp2_with fail;refine HC.out.mono ?_;rintro e w1 ⟨rfl,hU1⟩;have hB1:=HB.out.under hU1;have e0:=hB1.cell 0;have e1:=hB1.cell 1;have e2:=hB1.cell 2;have e3:=hB1.cell 3;have hlt:=hB1.lt;have m0:(0:Int)≤m:=Int.natCast_nonneg _;have m6:(m:Int)≤6:=by omega
 have HU1:=Lib.hid hU1;have hz1':=((aA (Under.refl w0) (.cells #[.int .i64 26,.int .i64 n,.int .i64 m,.string s] 112)).trans hU1).size;clear hU1 hB1;go_wp2_with (at_make;refine wpList_make_full _ rfl _ _ _ rfl w0.heap.size 3 i0 _ 1 Tryz.underlying123 hi hz0 hz1 .i64 .i64 _ _ m rfl rfl rfl rfl ?c1 ?c2 ?c3 ?_)
 case c1=>rw[hz2];omega
 case c2=>simp only[maxLen];omega
 case c3=>omega
 intro w2 hown hgrow;have HO:=Lib.hid hown;have HU2:=Lib.hid (rA (Under.refl w1) hgrow fun g e=>by cases e);clear hown hgrow;go_wp2;go_ret2;unfold oK;rw[HR.out];refine⟨.slice (some ⟨w1.heap.size,0,none⟩) m m,rfl,?_,((aA (Under.refl w0) _).trans HU1.out).trans HU2.out⟩
 show w2.ownsRow w0.heap.size 3 1 _ (List.replicate m 0).length (bE (List.replicate m 0))
 have hcs:(madeCells #[Value.int .i64 0] m).toList=bE (List.replicate m 0):=by
  apply List.ext_getElem
  · simp[bE,madeCells]
  · intro j h1 h2;simp[bE,madeCells,Nat.mod_one]
 rw[List.length_replicate,← hcs];exact HO.out
theorem yOA(n:Int)(m:Nat)(s:ByteArray)(hs:s.size≤maxLen)(hS:ShapesAt 3 w0)(hr:yA ⟨27,n,m,s⟩=true)(hm:m≤6):Calls Tryz.prog 162 #[ndV ⟨27,n,m,s⟩] w0 (oK w0 ⟨27,n,m,s⟩):=by
 have HB:=Lib.hid (qA w0 #[.int .i64 27,.int .i64 n,.int .i64 m,.string s] 112);have HC:=Lib.hid (nP ⟨27,n,m,s⟩ _ hs (hS.under (aA (Under.refl w0) (.cells #[.int .i64 27,.int .i64 n,.int .i64 m,.string s] 112))));have HR:=Lib.hid hr;rw[hr]at HC;obtain⟨i0,hi,hz0,hz1,hz2⟩:=info_parts Tryz.infoInt;clear hr;clear hS;have HBI:=Lib.hid (show(if true=true then binds ⟨27,n,m,s⟩ else [])=1::List.replicate (m+1) 0 by rw[if_pos rfl];rfl);unfold ndV;go_enter Tryz.func162,Tryz.ntmps162;go_wp2_with fail;refine HC.out.mono ?_;rintro e w1 ⟨rfl,hU1⟩;have hB1:=HB.out.under hU1;have e0:=hB1.cell 0;have e1:=hB1.cell 1;have e2:=hB1.cell 2;have e3:=hB1.cell 3;have hlt:=hB1.lt;have m0:(0:Int)≤m:=Int.natCast_nonneg _;have m6:(m:Int)≤6:=by omega
 have HU1:=Lib.hid hU1;have hz1':=((aA (Under.refl w0) (.cells #[.int .i64 27,.int .i64 n,.int .i64 m,.string s] 112)).trans hU1).size;clear hU1 hB1;go_wp2_with (at_builtin;refine gT rfl _ _ w0.heap.size 123 3 3 rfl i0 Tryz.underlying123 Tryz.underlying3 hi hz0 hz1 hz2 ⟨w1.heap.size,0,none⟩ (.int .i64 1) (m+1) rfl ?c0 ?c1 (by omega) (by omega) ?c3 ?_)
 case c0=>exact congrArg (Value.int .i64) (by omega)
 case c1=>simp
 case c3=>simp;omega
 intro v w2 hown hgrow;have HO:=Lib.hid hown;have HU2:=Lib.hid (rA (aA (Under.refl w1) _) hgrow fun g e=>by cases e);clear hown hgrow;go_wp2;go_ret2;unfold oK;rw[HR.out];refine⟨_,rfl,?_,((aA (Under.refl w0) _).trans HU1.out).trans HU2.out⟩
 show w2.ownsRow w0.heap.size 3 1 _ (1::List.replicate (m+1) 0).length (bE (1::List.replicate (m+1) 0))
 have hcs:bE (1::List.replicate (m+1) 0) = .int .i64 1::List.replicate (m+1) (.int .i64 0):=by simp[bE]
 rw[hcs,List.length_cons,List.length_replicate,Nat.add_comm (m+1) 1];exact HO.out
end
end Go.Proofs.YtggjbblgoddnjaaGreatDoor
