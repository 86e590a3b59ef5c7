/- Part 10 of what the proof rests on. -/
import Derived.Deep.RegionHeld3
import Derived.Conc.CompanyMem
import Derived.Conc.WalkWords
import Derived.Test.YtggjbblgoddnjaaGreatDoorRows
import Derived.Deep.Slices
import Derived.Deep.Fields
import Derived.WideKeyArgs
import Derived.ProofKit
import Derived.LaidMore
import Derived.LaidLaws
import Derived.OpenShut
import Derived.ChangeAlike
import Derived.Stop.Joined
import Derived.Lib.LaidTab
import Derived.Lib.SliceRun
import Derived.TacticsInMore
import Derived.LoopNIn
import Derived.LoopIn
import Derived.Shelf.Abstract
import Derived.Shelf.RegionOpen
import Derived.Laws.ResultCell
import Derived.Deep.QuietTactic
import Derived.Deep.AppendLies
import Derived.Test.YtggjbblgoddnjaaGreatDoorM00
import Derived.Test.YtggjbblgoddnjaaGreatDoorM04
import Derived.Test.YtggjbblgoddnjaaGreatDoorM05
import Derived.Test.YtggjbblgoddnjaaGreatDoorM06
import Derived.Test.YtggjbblgoddnjaaGreatDoorM09
set_option linter.unusedSimpArgs false
set_option linter.unusedVariables false
set_option maxRecDepth 100000
set_option maxHeartbeats 16000000
namespace Go.Proofs.YtggjbblgoddnjaaGreatDoor
open Go.Lx Go.RowKit
section
variable {w0 : World} {t : List Nd} {c : Nat}
def l7A(w0:World)(t:List Nd)(l:Value)(e:Exit)(a:Act)(w:World):Prop :=
 match yC t 0 [] [] with
 | none=>wDB w0 e a w
 | some _=>cBB w0 t l t.length e a w
theorem sXA {p : Option Addr} (hn : t.length ≤ 4000) (hs : ∀ x ∈ t, x.s.size ≤ maxLen) (hp : RowArg w0 p (wB t)) (hS : ShapesAt 3 w0) (m : Nat) (a : Act) (w : World)
    (h0:∃ k,m+k=t.length∧nWA w0 t (.slice p t.length c) t.length k a w) :
    (Code.loop msRound).wp Tryz.prog (l7A w0 t (.slice p t.length c)) a w:=by
  refine wp_loop_ghost (fun m a w=>∃ k,m+k=t.length∧nWA w0 t (.slice p t.length c) t.length k a w) m h0 ?_;clear h0;rintro m a w ⟨k,hmk,va,vo,all,op,J,rfl,hM⟩;by_cases hkn:k=t.length
  · subst hkn; refine wp_mono (nAB J w hM) ?_; rintro e a' w' h; have hr := hM.res; rw [List.drop_length] at hr
    cases e with
    | normal=>exact h.elim
    | _=>unfold l7A;rw[← hr];exact h
  have hlt:k < t.length:=by omega
  obtain⟨b,off,rfl,hb,c0,c1,c2,c3⟩:=hp.node (List.getElem?_eq_getElem hlt);have hx:t[k]? = some t[k]:=List.getElem?_eq_getElem hlt;have hR:=fun w1 (hU:Under w0 w1)=>qR t[k] w1 (hs _ (List.getElem_mem hlt)) (hS.under hU)
  have hN:=fun(hr:zA t[k]=true) w1 (hU:Under w0 w1)=>p3A t[k] w1 (hS.under hU) hr
  by_cases hbad:zA t[k]=false∨op.length < (binds t[k]).length
  · have hnone : yC t 0 [] [] = none := by
      rw[← hM.res,List.drop_eq_getElem_cons hlt]
      show(if zA t[k]=false∨op.length < (binds t[k]).length then none else _)=none
      rw[if_pos hbad]
    refine wp_mono (nBB hlt hn hx hbad J w hM hR hN hb c0 c1 c2 c3) ?_;rintro e a' w' h
    cases e with
    | normal=>exact h.elim
    | _=>unfold l7A;rw[hnone];exact h
  · have hr : zA t[k] = true := by cases h : zA t[k] with
      | true=>rfl
      | false=>exact absurd (.inl h) hbad
    have hl:¬ op.length < (binds t[k]).length:=fun h=>hbad (.inr h)
    rw[hr]at hR;refine wp_mono (wBB (kk:=op.length - (binds t[k]).length) (bl:=(binds t[k]).length) hlt hn hx hr rfl (by omega) (fun y hy=>by have:=hM.dp y hy;omega) J w hM hR (hN hr) hb c0 c1 c2 c3) ?_;rintro e a' w' h
    cases e with
    | normal=>exact⟨m - 1,by omega,k+1,by omega,h⟩
    | _=>exact h.elim
theorem kTA:∀(t:List Nd) (k:Nat) (all op:List (Nat×Nat)) {r:List (Nat×Nat)×List (Nat×Nat)},all.length=k→op.length≤k→yC t k all op=some r→r.1.length=k+t.length∧r.2.length≤k+t.length:=by
 intro t
 induction t with
 | nil=>intro k all op r h1 h2 h;cases h;exact⟨h1,h2⟩
 | cons x t ih =>
   intro k all op r h1 h2 h;simp only[yC]at h
   split at h
   · cases h
   · have:=ih (k+1) _ _ (by rw[List.length_append,h1];rfl) (by rw[List.length_append,List.length_take,List.length_singleton];omega) h;rw[List.length_cons];omega
theorem hMA(t:List Nd){p:Option Addr}(hn:t.length≤4000)(hs:∀ x∈t,x.s.size≤maxLen)(hp:RowArg w0 p (wB t))(hS:ShapesAt 3 w0) :
 Calls Tryz.prog 166 #[.slice p t.length c] w0 (mYA w0 t):=by
 have HL:=aA (fun m a w h=>sXA (w0:=w0) (c:=c) (t:=t) hn hs hp hS m a w h);clear hp hs hS;go_enter Tryz.func166,Tryz.ntmps166;go_wp2;rename_i K hK;refine wp_mono (HL.out t.length _ _ ⟨0,by omega,.slice none 0 0,.slice none 0 0,[],[],eB (F:=sH _ _ _ _ 0) (by rfl) ⟨World.ownsRow_nil _ _ _ _,World.ownsRow_nil _ _ _ _,.inl rfl,Under.refl _,rfl,rfl,Nat.le_refl _,fun y hy=>by simp at hy⟩⟩) ?_;rintro e a' w' h;unfold l7A at h
 cases hR:yC t 0 [] [] with
 | none =>
   rw[hR]at h;obtain⟨rfl,J,rfl,hU⟩:=h;simp only[Exit.inBlock,Exit.then];go_ret2;unfold mYA;rw[hR];exact⟨rfl,hU⟩
 | some r =>
   rw[hR]at h;obtain⟨rfl,va,vo,all,op,J,rfl,hM⟩:=h;have hr:=hM.res;rw[List.drop_length,hR]at hr;obtain rfl:(all,op)=r:=Option.some.inj hr;simp only[Exit.inBlock,if_pos,Exit.then];refine hK _ _ ?_;clear hK;obtain⟨q,co,rfl,_,_⟩:=RowArg.of_own hM.op_;have HM:=aA hM;have HR:=aA hR;have hol:op.length≤4000:=by have:=hM.ol;omega
   clear hM hR hr;unfold sH;go_wp2;go_ret2;unfold mYA;rw[HR.out];exact⟨va,rfl,HM.out.all_,HM.out.low⟩
def kWA(w0:World)(t:List Nd)(e:Ending)(w:World):Prop :=
 Under w0 w ∧ if gB t = 0 then ∃ v all op, yC t 0 [] [] = some (all, op) ∧ e = .returned (.tuple #[v, .int .i64 0]) ∧ w.ownsRow w0.heap.size 256 2 v all.length (aD all)
   else e = .returned (.tuple #[.slice none 0 0,.int .i64 (gB t)])
theorem vZ{w w1:World}{e:Int}(h:gB t=e)(he:e≠0)(hU:Under w w1):kWA w t (.returned (.tuple #[.slice none 0 0,.int .i64 e])) w1:=⟨hU,by rw[if_neg (by rw[h];exact he),h]⟩
theorem k2A(t:List Nd){p:Option Addr}(hn:t.length≤maxLen)(hs:∀ x∈t,x.s.size≤maxLen)(hp:RowArg w0 p (wB t))(hS:ShapesAt 3 w0) :
 Calls Tryz.prog 145 #[.slice p t.length c] w0 (kWA w0 t):=by
 unfold maxLen at hn;by_cases hbig:4000 < t.length
 · have he : gB t = 21 := by unfold gB; rw [if_pos hbig]
   have HE:=aA he;clear he hp hs hS;go_enter Tryz.func145,Tryz.ntmps145;go_wp2;go_ret2;exact vZ HE.out (by decide) (Under.refl _)
 have HC:=aA (hMA (c:=c) t (by omega) hs hp hS);clear hp hs hS
 cases hR:yC t 0 [] [] with
 | none =>
   have he:gB t=20:=by unfold gB;rw[if_neg hbig,hR]
   have HE:=aA he;have HR:=aA hR;clear he hR;go_enter Tryz.func145,Tryz.ntmps145;go_wp2_with fail;refine HC.out.mono ?_;intro e w1 h;unfold mYA at h;rw[HR.out]at h;obtain⟨rfl,hU⟩:=h;have HU:=aA hU;clear hU;go_wp2;go_ret2;exact vZ HE.out (by decide) HU.out
 | some r =>
   obtain⟨all,op⟩:=r;obtain⟨hl1,hl2⟩:=kTA t 0 [] [] rfl (Nat.le_refl _) hR;simp only[Nat.zero_add]at hl1 hl2;by_cases ho:op.length=1
   · have hd : ∃ m d f, all.length = m + 1 ∧ all.getLastD (0, 0) = (f, d) ∧ all[m]? = some (f, d) := by
       refine⟨all.length - 1,_,_,by omega,rfl,?_⟩
       cases all with
       | nil=>simp at hl1;omega
       | cons y l=>simp[List.getLast_eq_getElem]
     obtain⟨m,d,f,hm,hg,ha⟩:=hd;obtain⟨ca,cb⟩:=zS ha;have he:gB t=if 60 < d then 22 else 0:=by unfold gB;rw[if_neg hbig,hR];simp only[ho,hg];simp
     have ho':decide ((op.length:Int)=1)=true:=by rw[ho];rfl
     have HE:=aA he;have HR:=aA hR;have HO:=aA ho';have HB:=aA cb;have hm4:m < 4000:=by omega
     have HMm:=aA hm;clear he hR ho ho' ca cb ha hg hl1 hl2 hm;have hm0:(0:Int)≤m:=Int.natCast_nonneg _;by_cases h60:60 < d
     all_goals
      have h60':decide ((60:Int) < d)=decide (60 < d):=by simp;omega
      go_enter Tryz.func145,Tryz.ntmps145;go_wp2_with fail;refine HC.out.mono ?_;intro e w1 h;unfold mYA at h;rw[HR.out]at h;obtain⟨v,rfl,hv,hU⟩:=h;rw[HO.out];have hv':=hv;rw[HMm.out]at hv;obtain⟨g,gc,rfl,hgo,_,hgl,_,_⟩:=dE hv (by omega);have e1:=eD hv hgo HB.out;have HU:=aA hU;have HV:=aA hv';clear hU hv hv';go_wp2;go_ret2
     · exact vZ (by rw[HE.out,if_pos h60]) (by decide) HU.out
     · exact⟨HU.out,by rw[HE.out,if_neg h60,if_pos rfl];exact⟨_,all,op,HR.out,rfl,HV.out⟩⟩
   · have he : gB t = 20 := by unfold gB; rw [if_neg hbig, hR]; simp only; rw [if_pos ho]
     have ho':decide ((op.length:Int)=1)=false:=by simp;omega
     have HE:=aA he;have HR:=aA hR;have HO:=aA ho';clear he hR ho ho' hl1 hl2;go_enter Tryz.func145,Tryz.ntmps145;go_wp2_with fail;refine HC.out.mono ?_;intro e w1 h;unfold mYA at h;rw[HR.out]at h;obtain⟨v,rfl,_,hU⟩:=h;rw[HO.out];have HU:=aA hU;clear hU;go_wp2;go_ret2;exact vZ HE.out (by decide) HU.out
theorem qO(t:List Nd){p:Option Addr}(hn:t.length≤maxLen)(hs:∀ x∈t,x.s.size≤maxLen)(hp:RowArg w0 p (wB t))(hS:ShapesAt 3 w0) :
 Calls Tryz.prog 118 #[.slice p t.length c] w0 fun e w=>e = .returned (.int .i64 (gB t))∧Under w0 w:=by
 have HC:=aA (k2A (c:=c) t hn hs hp hS);clear hp hs hS;by_cases h0:gB t=0
 all_goals
  have H0:=aA h0;clear h0;go_enter Tryz.func118,Tryz.ntmps118;go_wp2_with fail;refine HC.out.mono ?_;intro e w1 ⟨hU,h⟩;have HU:=aA hU;clear hU
 · rw[if_pos H0.out]at h;obtain⟨v,all,op,_,rfl,_⟩:=h;go_wp2;go_ret;exact⟨kG H0.out.symm,HU.out⟩
 · rw[if_neg H0.out]at h;subst h;go_wp2;go_ret;exact⟨rfl,HU.out⟩
end
section
variable {w0 : World}
theorem qSA(p1 p2:Option Addr)(n1 n2 d1 d2:Nat):Calls Tryz.prog 108 #[.agg #[.slice p1 n1 d1,.slice p2 n2 d2]] w0 fun e w=>∃ rb m1 m2,e = .returned (.pointer (some ⟨rb,0,none⟩))∧ReS w0 rb m1 m2 (.slice p1 n1 d1) (.slice p2 n2 d2) (.slice none 0 0) [] 0 0 w:=by
 have HU0 := aA (bA (Under.refl w0) (.cells #[.slice p1 n1 d1, .slice p2 n2 d2] 52)); go_enter Tryz.func108, Tryz.ntmps108; go_wp2_with fail; go_region_held3 (fun w' => w'.cell? ⟨w0.heap.size, 0, none⟩ = some (.slice p1 n1 d1) ∧ w'.cell? ⟨w0.heap.size, 1, none⟩ = some (.slice p2 n2 d2))
   (first
     | go_keep
     | (go_split_ands
        refine⟨?_,?_⟩
        · (rw[fA hU2 (by have:=hU1.size;simp at this ⊢;omega)];assumption)
        · (rw[fA hU2 (by have:=hU1.size;simp at this ⊢;omega)];assumption))
     | (go_split_ands
        refine⟨?_,?_⟩
        · (rw[fA hU1 (by simp)];assumption)
        · (rw[fA hU1 (by simp)];assumption)))
   (first
     | (go_simp;go_at_call 138;refine(nJA (w0:=_)).mono ?_;rintro e w1 ⟨rfl,hM1,hU1⟩)
     | (go_simp;go_at_call 139;refine(lJA (w0:=_)).mono ?_;rintro e w2 ⟨rfl,hM2,hU2⟩))
 have hM1':MapAt w1 (w0.heap.size+1) formsL:=by simpa using hM1
 have hB:=rA w2 #[.slice p1 n1 d1,.slice p2 n2 d2,.map (some (w0.heap.size+1)),.map (some w1.heap.size),.slice none 0 0,.int .i64 0,.int .i64 0] 205;have hU3:=bA (Under.refl w2) (.cells #[.slice p1 n1 d1,.slice p2 n2 d2,.map (some (w0.heap.size+1)),.map (some w1.heap.size),.slice none 0 0,.int .i64 0,.int .i64 0] 205);have hUa:=(((nA HU0.out).trans hU1).trans hU2).trans hU3;have hlo:w0.heap.size≤w2.heap.size:=by have:=hU1.size;have:=hU2.size;simp at *;omega
 have HT:RowKit.Hid (ReS w0 w2.heap.size (w0.heap.size+1) w1.heap.size (.slice p1 n1 d1) (.slice p2 n2 d2) (.slice none 0 0) [] 0 0 _):=aA ⟨hB,(hM1'.under hU2).under hU3,hM2.under hU3,World.ownsRow_nil _ _ _ _,hUa,hlo⟩;have HUa:=aA hUa;clear hM1 hM1' hM2 hU1 hU2 hU3 hB hUa hlo;go_wp2;go_ret;exact⟨_,_,_,rfl,HT.out⟩
def fWA(w0:World)(R:Say)(e:Ending)(w:World):Prop:=Under w0 w∧match R with
 | .ok t=>∃ v,e = .returned (.tuple #[v,.int .i64 0,.int .i64 0])∧TermV w v t
 | .error (c,p)=>e = .returned (.tuple #[.slice none 0 0,.int .i64 p,.int .i64 c])
theorem m8A(T:ST)(hT:kEB T){q:Option Addr}{cap:Nat}(cs ds:List ByteArray)(hok:okS T)(hn:(fC T).length≤20000)(hcap:(fC T).length≤cap)(hq:SxArg w0 q (fC T))(hw:∀ x∈fC T,x.word.size≤1000000)(hE:StrcAt w0)(hS:ShapesAt 3 w0){p1 p2:Option Addr}{d1 d2:Nat}(hcs:TextsV w0 (.slice p1 cs.length d1) cs)(hds:TextsV w0 (.slice p2 ds.length d2) ds)(hcn:cs.length≤1000000)(hdn:ds.length≤1000000) :
 Calls Tryz.prog 103 #[.agg #[.slice p1 cs.length d1,.slice p2 ds.length d2],.slice q (fC T).length cap] w0 (fWA w0 (v3A cs ds T)):=by
 have HU0:=aA (bA (Under.refl w0) (.cells #[.slice p1 cs.length d1,.slice p2 ds.length d2] 52));have HB0:=aA (rA w0 #[.slice p1 cs.length d1,.slice p2 ds.length d2] 52);have HI:=aA (cBA (w0:=w0.alloc (.cells #[.slice p1 cs.length d1,.slice p2 ds.length d2] 52)) (cap:=cap) (p:=q) (fC T) (by omega) hcap (hq.under HU0.out));have hit:iL (fC T)=some [fC T]:=by
  have:=bP (ts:=[T]) ⟨hok,trivial⟩
  simpa [kC] using this
 rw [hit] at HI; have hp := hCA T; have HN := aA (fun w1 => qSA (w0 := w1) p1 p2 cs.length ds.length d1 d2); have HLen := aA (fun t (ht : nT cs ds T [] = .ok t) => And.intro (z4A T _ _ ht) (lRA T _ _ ht)); have HT := aA hT; clear hT; have HQ := aA hq; have HL := aA (fun w1 (hU : Under w0 w1) => qKA (w0 := w1) T (q := q) (cap := cap) (by omega) (hq.under hU)); have HFl := aA (And.intro hn hcap); have HD : RowKit.Hid (v3A cs ds T = match nT cs ds T [] with | .error x => .error x | .ok t => if gB t = 0 then .ok t else .error (gB t, T.last.pos)) := aA rfl; generalize v3A cs ds T = TS at *; clear hq hit hn hcap; go_enter Tryz.func103, Tryz.ntmps103; go_wp2_with fail; refine HI.out.mono ?_; rintro e w1 ⟨hU1, vo, vs, rfl, h1, h2⟩; obtain ⟨q2, c2, rfl, _⟩ := RowArg.of_own h1; have HU1 := aA (HU0.out.trans hU1); have hb1 := HB0.out.under hU1; have e0 : w1.cell? ⟨w0.heap.size, 0, none⟩ = some (.slice p1 cs.length d1) := hb1.cell 0; have e1 : w1.cell? ⟨w0.heap.size, 1, none⟩ = some (.slice p2 ds.length d2) := hb1.cell 1; have el := hb1.lt; have h11 : ([fC T] : List (List Sx)).length = 1 := rfl; rw [h11]; clear hU1 h1 h2 HI hb1 h11; go_wp2_with fail; refine (HN.out _).mono ?_; rintro e w2 ⟨rb, m1, m2, rfl, hR2⟩; have HR2 := aA hR2; have HU2 := aA (HU1.out.trans hR2.und); have hrb := hR2.lo; have HCa := aA (HT.out w1 w2 rb m1 m2 _ _ _ [] 0 0 q cap (.slice none 0 0) [] cs ds hok HFl.out.1 HFl.out.2 hw (hE.under HU1.out) (hcs.under HU1.out) (hds.under HU1.out) hcn hdn hR2 (HQ.out.under HU2.out) (by
   intro b off x e hr;obtain⟨b',off',e',hb',_⟩:=HQ.out (fun e=>by rw[e]at hp;exact absurd hp (Nat.lt_irrefl _));rw[e]at e';cases e';rcases hr with rfl | hr
   · have:=HU1.out.size;omega
   · cases hr) (TextsV.nil _) (fun q n c e hne=>by cases e;exact absurd rfl hne) (by have:=HFl.out.1;simp;omega) (by have:=HFl.out.1;simp;omega))
 clear hR2 HN e0 e1 el;rcases hs:nT cs ds T [] with⟨ec,ep⟩ | t
 · have HE : RowKit.Hid (TS = .error (ec, ep)) := aA (by rw [HD.out, hs]); rw [hs] at HCa; go_wp2_with fail; refine HCa.out.mono ?_; rintro e w3 ⟨ov', acc', p', e', g1, g2, g3, rfl, rfl, rfl⟩; have b5 := g1.box.cell 5; have b6 := g1.box.cell 6; have bl := g1.box.lt; have HG := aA g1.und; have bb := And.intro b5 b6; clear g1 g2 g3 HCa; go_wp2_with fail; go_region_held3 (fun w' => w'.cell? ⟨rb, 5, none⟩ = some (.int .i64 p') ∧ w'.cell? ⟨rb, 6, none⟩ = some (.int .i64 e'))
     (first
       | exact bb
       | go_keep)
     (fail)
   rename_i hHeld;clear hHeld bb b5 b6;go_wp2;go_ret3;rw[HE.out];exact⟨HU1.out.trans (HG.out.trans (nA (Under.refl _))),rfl⟩
 · rw [hs] at HCa; go_wp2_with fail; refine HCa.out.mono ?_; rintro e w3 ⟨ov', acc', p', e', g1, g2, g3, rfl, hacc⟩; obtain rfl : t = acc' := by rw [hacc]; rfl
   clear hacc; have HG := aA g1; obtain ⟨qo, co, rfl, hco, hro⟩ := RowArg.of_own g1.row; have b4 := g1.box.cell 4; have bl := g1.box.lt; obtain ⟨L1, L2⟩ := HLen.out t hs; have HCk := aA (qO (w0 := w3) (c := co) t (by have := HFl.out.1; simp only [maxLen]; omega) (fun x hx => by have := L2 x hx; simp only [maxLen]; omega) hro ((hS.under HU1.out).under g1.und)); have HTv := aA (show TermV w3 (.slice qo t.length co) t from ⟨qo, co, rfl, hco, (fun e => by
     subst e;rcases g1.row.2 with⟨e,_⟩ | ⟨g,c,cur,e,_⟩
     · injection e
     · injection e with e1;cases e1),hro⟩)
   have HU3:=aA (HU1.out.trans g1.und);clear g1 g2 g3 HCa hco hro L1 L2;go_wp2_with fail;refine HCk.out.mono ?_;rintro e w4 ⟨rfl,hU4⟩;have HBx:=aA (HG.out.box.under hU4);have HU4:=aA (HU3.out.trans hU4);have HT4:=aA (TermV.mono _ _ _ _ hU4 HTv.out);have b4:=HBx.out.cell 4;have bl:=HBx.out.lt;clear hU4
   cases hc:(gB t != 0)
   · have hc0 : gB t = 0 := by simpa using hc
     have HE:RowKit.Hid (TS = .ok t):=aA (by rw[HD.out,hs];simp only;rw[if_pos hc0]);clear hc0;go_wp2;go_ret3;rw[HE.out];exact⟨HU4.out,_,rfl,HT4.out⟩
   · have hc0 : ¬ gB t = 0 := by simpa using hc
     have HE:RowKit.Hid (TS = .error (gB t,T.last.pos)):=aA (by rw[HD.out,hs];simp only;rw[if_neg hc0]);have HFd:=fun(a b:Int) (s:ByteArray) (w:World)=>(show(Instr.field 28 (.agg #[.int .i64 a,.int .i64 b,.string s]) 1).run Tryz.prog w = .ok (.int .i64 b) w by kernel_rfl)
     have HLt:=aA (HL.out _ HU4.out);unfold sxV at HLt;clear hc0;go_wp2_with fail;refine HLt.out.mono ?_;rintro e w5 ⟨rfl,hU5⟩;have HU5:=aA (HU4.out.trans hU5);clear hU5;go_wp2;go_ret3;rw[HE.out];exact⟨HU5.out,rfl⟩
end
end Go.Proofs.YtggjbblgoddnjaaGreatDoor
namespace Go.Proofs.YtggjbblgoddnjaaGreatDoor
open Go.ChangeShapes Go.WideShapes Go.ChangeAt Go.WideMaps Go.WideElems Go.RowKit Go.Lx Go.Deep Go.Conc
theorem Tryz.own:ownKnob Tryz.prog.godebug=none:=by kernel_rfl
theorem Tryz.laidOut:laidOutB Tryz.prog=true:=by kernel_rfl
theorem gShapes : Tryz.prog.globalNamed "cornice/term.shapes" = some 3 := by kernel_rfl
theorem tShapes:(Tryz.prog.globals[3]?).map (·.type)=some 272:=by kernel_rfl
theorem tPow:(Tryz.prog.globals[5]?).map (·.type)=some 289:=by kernel_rfl
theorem gErrS : Tryz.prog.globalNamed "strconv.ErrSyntax" = some 1 := by kernel_rfl
theorem gErrR : Tryz.prog.globalNamed "strconv.ErrRange" = some 2 := by kernel_rfl
theorem tErrS:(Tryz.prog.globals[1]?).map (·.type)=some 152:=by kernel_rfl
theorem tErrR:(Tryz.prog.globals[2]?).map (·.type)=some 152:=by kernel_rfl
theorem bYA{H:Type}:(Rows.laid_cornice_term_shapes:DataW H) = .agg ((List.range 30).map cTA):=by kernel_rfl
theorem jBB{H:Type}:(Rows.laid_internal_strconv_uint64pow10:DataW H)=Lib.tabData .u64 Lib.pow10Tab:=by kernel_rfl
theorem bQA{H:Type}{enc:TypeId×Value→H}{W:World}{base:Nat}{sp:Nat→Bool}{fuel g:Nat}{nm n:String}{d:DataW H}{cs:Array Value}{q:List MemPlace}(hg:Tryz.prog.globalNamed n=some g)(hv:W.var? Tryz.prog n=some cs)(h:DataW.trod enc Tryz.prog W base sp false fuel 152 cs.toList=some (.iface nm d,q)):∃ v,W.cell? ⟨g,0,none⟩=some v∧q4A v:=by
 obtain⟨_,u,v,e,_⟩:=iface_of_trod Tryz.underlying152 h;obtain⟨cs⟩:=cs;obtain rfl:cs=[.iface u v]:=e;exact⟨_,by rw[World.var?_cell hg hv 0];rfl,.inr ⟨u,v,rfl⟩⟩
section
variable {H : Type} {enc : TypeId × Value → H} {w : World} {spare : Nat → Bool} {held : Bool} {fuel : Nat} {cs : List Value} {x : DataW H × List MemPlace}
theorem zBA {W w : World} {t : TypeId} {v : Value} {d : DataW H} {ps : List MemPlace} (hr : Tryz.prog.readableRec t = true) (hrow : t < Tryz.prog.types.size) (hU : Under W w) (dd : Nat)
    (hlt:∀ p∈ps,p.block < W.heap.size) (h:DataW.Trod enc Tryz.prog W 0 (fun _=>true) true t v d ps):DataW.Trod enc Tryz.prog (re w W.tape dd) 0 (fun b=>decide (b < W.heap.size)) true t v d ps:=by
  refine Go.WideElems.Trod_stays Tryz.laidOut hr hrow h (fun p hp=>?_) (fun p hp=>by simpa using hlt p hp);have hb:=hlt p hp
  cases p with
  | cell b off=>exact fA (hU.re W.tape dd) hb off
  | map b=>exact(hU.re W.tape dd).low b hb
end
theorem qJA{W w:World}(h:Under W w)(d:Nat):Below W.heap.size W (re w W.tape d):=⟨h.os,rfl,h.output,h.size,fun b hb=>h.low b hb⟩
theorem jHA{H:Type}{enc:TypeId×Value→H}{W:World}{base:Nat}{sp:Nat→Bool}{held:Bool}(b:Bool):DataW.Trod enc Tryz.prog W base sp held 4 (.bool b) (.lit (.bool b)) []:=⟨1,by simp[DataW.trod,Value.cells,Tryz.underlying4]⟩
end Go.Proofs.YtggjbblgoddnjaaGreatDoor
namespace Go.Proofs.YtggjbblgoddnjaaGreatDoor
open Go.Lx Go.RowKit
def oAB(c:UInt8):Bool:=(decide (97≤(c.toNat:Int))&&decide ((c.toNat:Int)≤122))||(decide (65≤(c.toNat:Int))&&decide ((c.toNat:Int)≤90))||((c.toNat:Int)==95)
theorem k5A:∀ n:Nat,n < 256→oAB (UInt8.ofNat n)=iY (UInt8.ofNat n):=by decide +kernel
theorem y7A(c:UInt8):oAB c=iY c:=by
 have h:=k5A c.toNat c.toNat_lt
 rwa [UInt8.ofNat_toNat]at h
section
variable {w0 : World}
theorem wGA(c:UInt8):Calls Tryz.prog 112 #[.int .u8 c.toNat] w0 fun e w=>e = .returned (.bool (iY c))∧w=w0:=by
 rw[← y7A];have HR:RowKit.Hid (oAB c=((decide (97≤(c.toNat:Int))&&decide ((c.toNat:Int)≤122))||(decide (65≤(c.toNat:Int))&&decide ((c.toNat:Int)≤90))||((c.toNat:Int)==95))):=aA rfl;generalize oAB c=r at *;generalize (c.toNat:Int)=n at *;by_cases h1:97≤n
 all_goals by_cases h2:n≤122
 all_goals by_cases h3:65≤n
 all_goals by_cases h4:n≤90
 all_goals first | omega | skip
 all_goals
  go_enter Tryz.func112,Tryz.ntmps112;go_wp2;go_ret;exact⟨by rw[HR.out];simp[*]<;>omega,rfl⟩
def okR(c:UInt8):Bool:=iY c||xMA c
theorem vAA : ∀ (l : List UInt8) (i : Nat), i ≠ 0 → kE i l = l.all okR
  | [],i,h=>rfl
  | c :: r, i, h => by
    simp only[kE,List.all_cons,okB,okR];rw[vAA r (i+1) (by omega)];simp[h]
theorem f0A{s:ByteArray}{c:UInt8}{r:List UInt8}(h:s.data.toList=c::r)(hs:s.size≤16)(hc:iY c=true):uD s=s.data.toList.all okR:=by
 unfold uD;have h0:s.size≠0:=by
  have:s.data.toList.length=s.size:=by rw[Array.length_toList];rfl
  rw[h]at this;intro e;rw[e]at this;cases this
 rw[h];simp only[kE,List.all_cons];rw[vAA r 1 (by decide)];simp[okB,okR,hc,h0,hs]
theorem qZA{s:ByteArray}{c:UInt8}{r:List UInt8}(h:s.data.toList=c::r)(hc:iY c=false):uD s=false:=by
 unfold uD;rw[h];simp[kE,okB,hc]
def fEB(w0:World)(s:ByteArray)(i:Value)(wr:World):Prop:=∃ k:Nat,k≤s.size∧i = .int .i64 (k:Int)∧s.data.toList.all okR=(s.data.toList.drop k).all okR∧w0=wr
theorem uO(s:ByteArray):Calls Tryz.prog 86 #[.string s] w0 fun e w=>e = .returned (.bool (uD s))∧w=w0:=by
 have HLen:=aA (show s.data.toList.length=s.size by rw[Array.length_toList];rfl);by_cases h1:(s.size:Int) < 1
 · have HO : RowKit.Hid (uD s = false) := aA (by
     have:s.size=0:=by omega
     unfold uD;simp[this])
   go_enter Tryz.func86,Tryz.ntmps86;go_wp2;go_ret;exact⟨by rw[HO.out];rfl,rfl⟩
 by_cases h16:16 < (s.size:Int)
 · have HO:RowKit.Hid (uD s=false):=aA (by unfold uD;simp;intros;omega);go_enter Tryz.func86,Tryz.ntmps86;go_wp2;go_ret;exact⟨by rw[HO.out];rfl,rfl⟩
 have h0:0 < s.size:=by omega
 have hs16:s.size≤16:=by omega
 obtain⟨c,r,hcr⟩:∃ c r,s.data.toList=c::r:=by
  cases h:s.data.toList with
  | nil=>have:=HLen.out;rw[h]at this;simp at this;omega
  | cons c r=>exact⟨c,r,rfl⟩
 have hs0:s[0]=c:=by
  show s.data[0]=c
  rw[← Array.getElem_toList];simp[hcr]
 have HL0:=aA (wGA (w0:=w0) c)
 cases hc:iY c
 · have HO:=aA (qZA hcr hc);rw[hc]at HL0;clear hcr hc;go_enter Tryz.func86,Tryz.ntmps86;go_wp2_with fail;refine HL0.out.mono ?_;rintro e w1 ⟨rfl,rfl⟩;go_wp2;go_ret;exact⟨by rw[HO.out];rfl,rfl⟩
 · have HO := aA (f0A hcr hs16 hc); rw [hc] at HL0; have HL := aA (fun c => wGA (w0 := w0) c); clear hcr hc; go_enter Tryz.func86, Tryz.ntmps86; go_wp2_with fail; refine HL0.out.mono ?_; rintro e w1 ⟨rfl, rfl⟩; clear hs0 HL0; go_wp2; go_loopw [3] (fun i wr => fEB w1 s i wr) (fun i _ => s.size - (intOf i).toNat)
   case atStart=>exact⟨0,Nat.zero_le _,rfl,by simp,rfl⟩
   case round =>
     obtain⟨k,hk,rfl,hN,rfl⟩:=hrel;have HN:=aA hN;clear hN;by_cases hlt:k < s.size
     · have hk' : k < s.data.toList.length := by rw [HLen.out]; exact hlt
       have hd:(s.data.toList.drop k).all okR=(okR s[k]&&(s.data.toList.drop (k+1)).all okR):=by rw[List.drop_eq_getElem_cons hk'];rfl
       have HD:=aA hd;have HLk:=aA (HL.out s[k]);have hdg:xMA s[k]=(!(decide ((s[k].toNat:Int) < 48)) && !(decide (57 < (s[k].toNat:Int)))):=rfl;have HDg:=aA hdg;clear hd hdg;generalize hx:s[k]=x at *;have hok:okR x=(iY x||xMA x):=rfl;have HOk:=aA hok;clear hok
       cases hl:iY x
       · rw [hl] at HLk HOk; by_cases h48 : (x.toNat : Int) < 48
         · go_wp2_with fail;refine HLk.out.mono ?_;rintro e w1 ⟨rfl,rfl⟩;go_wp2;go_ret;exact⟨by rw[HO.out,HN.out,HD.out,HOk.out,HDg.out];simp[h48],rfl⟩
         · by_cases h57 : 57 < (x.toNat : Int)
           · go_wp2_with fail;refine HLk.out.mono ?_;rintro e w1 ⟨rfl,rfl⟩;go_wp2;go_ret;exact⟨by rw[HO.out,HN.out,HD.out,HOk.out,HDg.out];simp[h57],rfl⟩
           · have HT : RowKit.Hid (okR x = true) := aA (by rw [HOk.out, HDg.out]; simp; omega); go_wp2_with fail; refine HLk.out.mono ?_; rintro e w1 ⟨rfl, rfl⟩; go_wp2; go_roundw
             case rel=>exact⟨k+1,by omega,by go_num,by rw[HN.out,HD.out,HT.out];rfl,rfl⟩
             case measure=>simp[intOf];omega
       · rw [hl] at HLk HOk; go_wp2_with fail; refine HLk.out.mono ?_; rintro e w1 ⟨rfl, rfl⟩; go_wp2; go_roundw
         case rel=>exact⟨k+1,by omega,by go_num,by rw[HN.out,HD.out,HOk.out];rfl,rfl⟩
         case measure=>simp[intOf];omega
     · obtain rfl : k = s.size := by omega
       have HE:RowKit.Hid (uD s=true):=aA (by rw[HO.out,HN.out,← HLen.out,List.drop_length];rfl);go_wp2;go_ret;exact⟨by rw[HE.out];rfl,rfl⟩
end
theorem Tryz.infoInt:(Tryz.prog.info? 3).map (fun i=>(i.zero,i.size,i.bytes))=some (some (.int .i64 0),1,8):=by kernel_rfl
theorem g0A(l:List Nat):(uE l).length=l.length:=List.length_map ..
theorem qXA{l:List Nat}{u:Value}(h:u∈uE l):u.oneCell'=true:=by
 unfold uE at h;obtain⟨n,_,rfl⟩:=List.mem_map.1 h;rfl
theorem b7A(w0:World)(base:Nat)(e:TypeId)(size:Nat)(hb:base≤w0.heap.size):(w0.alloc (.cells #[] e)).ownsRow base e size (.slice (some ⟨w0.heap.size,0,none⟩) 0 0) 0 [] :=
 ⟨by simp,.inr ⟨w0.heap.size,0,#[],rfl,hb,rA w0 _ _,Nat.le_refl _,by decide,by simp,by simp⟩⟩
section
variable {w0 : World}
theorem bJA(l:List Nat){p:Option Addr}{c:Nat}(hn:l.length≤1000000)(hp:RowArg w0 p (uE l)) :
 Calls Tryz.prog 180 #[.slice p l.length c] w0 fun e w'=>∃ v,e = .returned v∧w'.ownsRow w0.heap.size 3 1 v l.length (uE l)∧Under w0 w':=by
 obtain⟨i0,hi,hz0,hz1,hz2⟩:=info_parts Tryz.infoInt;have eqn:=Lib.run_eql_slice_nil (P:=Tryz.prog) w0 123 3 p l.length c 0 0 Tryz.underlying123
 cases p with
 | none =>
   have hl:l=[]:=Classical.byContradiction fun h=>by
    obtain⟨b,off,e,_⟩:=hp (fun e=>h (by simpa [uE] using e))
    cases e
   subst hl;clear hp;rw[List.length_nil]at eqn ⊢;go_enter Tryz.func180,Tryz.ntmps180;go_wp2;go_ret;exact⟨_,rfl,World.ownsRow_nil _ _ _ _,Under.refl _⟩
 | some a =>
   have hmx:0+l.length≤maxLen:=by simp only[maxLen];omega
   have hby:(0+l.length) * 8≤140737488355328:=by omega
   have HP:=aA hp;clear hp;go_enter Tryz.func180,Tryz.ntmps180;go_wp2_with (at_builtin;refine wpList_append_own_at _ rfl _ _ 123 rfl w0.heap.size 3 i0 _ 1 8 Tryz.underlying123 hi hz0 hz1 hz2 rfl (by decide) _ _ _ rfl (b7A w0 _ _ _ (Nat.le_refl _)) a l.length c (uE l) rfl (by rw[g0A];omega) ?c1 (fun u hu=>qXA hu) hmx hby ?c5 ?_)
   case c1 =>
     intro j u hj;obtain⟨b,off,e,hb,hc⟩:=HP.out (fun e=>by rw[e]at hj;cases hj)
     cases e;rw[zM];exact(fA (W:=w0) (bA (Under.refl _) _) hb _).trans (hc j u hj)
   case c5=>simp
   intro v' w1 hown hgrow hnil hat;have HW:=aA hown;have HU2:=aA (xA (W:=w0) (bA (Under.refl _) _) hgrow fun g e=>by cases e;exact Nat.le_refl _);clear hown hgrow hnil hat;go_wp2;go_ret;exact⟨v',rfl,HW.out,HU2.out⟩
def dN(w0:World)(x:Nd)(e:Ending)(w:World):Prop:=∃ v,e = .returned (.tuple #[v,.bool (zA x)])∧w.ownsRow w0.heap.size 3 1 v (if zA x then binds x else []).length (uE (if zA x then binds x else []))∧Under w0 w
theorem k0A(n:Int)(m:Nat)(s:ByteArray)(hs:s.size≤maxLen)(hS:ShapesAt 3 w0)(hr:zA ⟨26,n,m,s⟩=true)(hm:m≤6):Calls Tryz.prog 162 #[ndV ⟨26,n,m,s⟩] w0 (dN w0 ⟨26,n,m,s⟩):=by
 have HB:=aA (rA w0 #[.int .i64 26,.int .i64 n,.int .i64 m,.string s] 112);have HC:=aA (qR ⟨26,n,m,s⟩ _ hs (hS.under (bA (Under.refl w0) (.cells #[.int .i64 26,.int .i64 n,.int .i64 m,.string s] 112))));have HR:=aA hr;rw[hr]at HC;obtain⟨i0,hi,hz0,hz1,hz2⟩:=info_parts Tryz.infoInt;clear hr;clear hS;have HBI:=aA (show(if true=true then binds ⟨26,n,m,s⟩ else [])=List.replicate m 0 by rw[if_pos rfl];rfl);unfold ndV;go_enter Tryz.func162,Tryz.ntmps162;go_wp2_with fail;refine HC.out.mono ?_;rintro e w1 ⟨rfl,hU1⟩;have hB1:=HB.out.under hU1;have e0:=hB1.cell 0;have e1:=hB1.cell 1;have e2:=hB1.cell 2;have e3:=hB1.cell 3;have hlt:=hB1.lt;have m0:(0:Int)≤m:=Int.natCast_nonneg _;have m6:(m:Int)≤6:=by omega
 have HU1:=aA hU1;have hz1':=((bA (Under.refl w0) (.cells #[.int .i64 26,.int .i64 n,.int .i64 m,.string s] 112)).trans hU1).size;clear hU1 hB1;go_wp2_with (at_make;refine wpList_make_full _ rfl _ _ _ rfl w0.heap.size 3 i0 _ 1 Tryz.underlying123 hi hz0 hz1 .i64 .i64 _ _ m rfl rfl rfl rfl ?c1 ?c2 ?c3 ?_)
 case c1=>rw[hz2];omega
 case c2=>simp only[maxLen];omega
 case c3=>omega
 intro w2 hown hgrow;have HO:=aA hown;have HU2:=aA (xA (Under.refl w1) hgrow fun g e=>by cases e);clear hown hgrow;go_wp2;go_ret2;unfold dN;rw[HR.out];refine⟨.slice (some ⟨w1.heap.size,0,none⟩) m m,rfl,?_,((bA (Under.refl w0) _).trans HU1.out).trans HU2.out⟩
 show w2.ownsRow w0.heap.size 3 1 _ (List.replicate m 0).length (uE (List.replicate m 0))
 have hcs:(madeCells #[Value.int .i64 0] m).toList=uE (List.replicate m 0):=by
  apply List.ext_getElem
  · simp[uE,madeCells]
  · intro j h1 h2;simp[uE,madeCells,Nat.mod_one]
 rw[List.length_replicate,← hcs];exact HO.out
theorem bTA(n:Int)(m:Nat)(s:ByteArray)(hs:s.size≤maxLen)(hS:ShapesAt 3 w0)(hr:zA ⟨27,n,m,s⟩=true)(hm:m≤6):Calls Tryz.prog 162 #[ndV ⟨27,n,m,s⟩] w0 (dN w0 ⟨27,n,m,s⟩):=by
 have HB:=aA (rA w0 #[.int .i64 27,.int .i64 n,.int .i64 m,.string s] 112);have HC:=aA (qR ⟨27,n,m,s⟩ _ hs (hS.under (bA (Under.refl w0) (.cells #[.int .i64 27,.int .i64 n,.int .i64 m,.string s] 112))));have HR:=aA hr;rw[hr]at HC;obtain⟨i0,hi,hz0,hz1,hz2⟩:=info_parts Tryz.infoInt;clear hr;clear hS;have HBI:=aA (show(if true=true then binds ⟨27,n,m,s⟩ else [])=1::List.replicate (m+1) 0 by rw[if_pos rfl];rfl);unfold ndV;go_enter Tryz.func162,Tryz.ntmps162;go_wp2_with fail;refine HC.out.mono ?_;rintro e w1 ⟨rfl,hU1⟩;have hB1:=HB.out.under hU1;have e0:=hB1.cell 0;have e1:=hB1.cell 1;have e2:=hB1.cell 2;have e3:=hB1.cell 3;have hlt:=hB1.lt;have m0:(0:Int)≤m:=Int.natCast_nonneg _;have m6:(m:Int)≤6:=by omega
 have HU1:=aA hU1;have hz1':=((bA (Under.refl w0) (.cells #[.int .i64 27,.int .i64 n,.int .i64 m,.string s] 112)).trans hU1).size;clear hU1 hB1;go_wp2_with (at_builtin;refine bX rfl _ _ w0.heap.size 123 3 3 rfl i0 Tryz.underlying123 Tryz.underlying3 hi hz0 hz1 hz2 ⟨w1.heap.size,0,none⟩ (.int .i64 1) (m+1) rfl ?c0 ?c1 (by omega) (by omega) ?c3 ?_)
 case c0=>exact congrArg (Value.int .i64) (by omega)
 case c1=>simp
 case c3=>simp;omega
 intro v w2 hown hgrow;have HO:=aA hown;have HU2:=aA (xA (bA (Under.refl w1) _) hgrow fun g e=>by cases e);clear hown hgrow;go_wp2;go_ret2;unfold dN;rw[HR.out];refine⟨_,rfl,?_,((bA (Under.refl w0) _).trans HU1.out).trans HU2.out⟩
 show w2.ownsRow w0.heap.size 3 1 _ (1::List.replicate (m+1) 0).length (uE (1::List.replicate (m+1) 0))
 have hcs:uE (1::List.replicate (m+1) 0) = .int .i64 1::List.replicate (m+1) (.int .i64 0):=by simp[uE]
 rw[hcs,List.length_cons,List.length_replicate,Nat.add_comm (m+1) 1];exact HO.out
end
section
variable {w0 : World}
theorem nUA(x:Nd)(hs:x.s.size≤maxLen)(hS:ShapesAt 3 w0)(hr:zA x=true)(h26:¬ x.k=26)(h27:¬ x.k=27):Calls Tryz.prog 162 #[ndV x] w0 (dN w0 x):=by
 have HB:=aA (rA w0 #[.int .i64 x.k,.int .i64 x.n,.int .i64 x.m,.string x.s] 112);have HC:=aA (qR x _ hs (hS.under (bA (Under.refl w0) (.cells #[.int .i64 x.k,.int .i64 x.n,.int .i64 x.m,.string x.s] 112))));obtain⟨h0,h1⟩:=pV hr;have HR:=aA hr;rw[hr]at HC;obtain⟨i0,hi,hz0,hz1,hz2⟩:=info_parts Tryz.infoInt;have hl6:=uCA x.k.toNat;have HS:=aA hS;have hb:=hS.lt;clear hS hr;unfold ndV;go_enter Tryz.func162,Tryz.ntmps162;go_wp2_with fail;refine HC.out.mono ?_;rintro e w1 ⟨rfl,hU1⟩;have hB1:=HB.out.under hU1;have e0:=hB1.cell 0;have e1:=hB1.cell 1;have e2:=hB1.cell 2;have e3:=hB1.cell 3;have hS1:=HS.out.under ((bA (Under.refl w0) _).trans hU1);obtain⟨p,c,c0,hcc,hrow,_⟩:=hS1.row x.k.toNat (by omega);have hlt:=hS1.lt;have HCl:=aA (bJA (w0:=w1) (c:=c) (jH x.k.toNat) (by omega) hrow);have HU1:=aA hU1;clear hU1 hB1 hS1 hrow;go_wp2_with fail;refine HCl.out.mono ?_;rintro e w2 ⟨v,rfl,hown,hU2⟩;have HO:=aA hown;have HU2:=aA hU2;clear hown hU2;go_wp2;go_ret2;unfold dN;rw[HR.out];refine⟨v,rfl,?_,((bA (Under.refl w0) _).trans HU1.out).trans HU2.out⟩;have:(if true=true then binds x else [])=jH x.k.toNat:=by rw[if_pos rfl];unfold binds;rw[if_neg h26,if_neg h27]
 rw[this];exact wD HO.out ((bA (Under.refl w0) _).trans HU1.out).size
theorem sYA(x:Nd)(hs:x.s.size≤maxLen)(hS:ShapesAt 3 w0):Calls Tryz.prog 162 #[ndV x] w0 (dN w0 x):=by
 by_cases hr:zA x=true
 · by_cases h26 : x.k = 26
   · obtain⟨k,n,m,s⟩:=x;obtain rfl:k=26:=h26;have hm:=vR hr (.inl rfl);obtain⟨m',rfl⟩:∃ m':Nat,m=m':=⟨m.toNat,by simp only at hm;omega⟩;exact k0A n m' s hs hS hr (by simp only at hm;omega)
   · by_cases h27 : x.k = 27
     · obtain⟨k,n,m,s⟩:=x;obtain rfl:k=27:=h27;have hm:=vR hr (.inr rfl);obtain⟨m',rfl⟩:∃ m':Nat,m=m':=⟨m.toNat,by simp only at hm;omega⟩;exact bTA n m' s hs hS hr (by simp only at hm;omega)
     · exact nUA x hs hS hr h26 h27
 · have HC := aA (qR x _ hs (hS.under (bA (Under.refl w0) (.cells #[.int .i64 x.k, .int .i64 x.n, .int .i64 x.m, .string x.s] 112)))); have hr' : zA x = false := by simpa using hr
   rw[hr']at HC;have HR:=aA hr';clear hr hr' hS;unfold ndV;go_enter Tryz.func162,Tryz.ntmps162;go_wp2_with fail;refine HC.out.mono ?_;rintro e w1 ⟨rfl,hU1⟩;have HU1:=aA hU1;clear hU1;go_wp2;go_ret2;unfold dN;rw[HR.out];exact⟨.slice none 0 0,rfl,World.ownsRow_nil _ _ _ _,(bA (Under.refl w0) _).trans HU1.out⟩
end
noncomputable def mFA:Code:=Tryz.f161.body.getD .skip
noncomputable def ndRound:Code:=fD (fD (qA (qA mFA)))
noncomputable def mCB:Code:=qA (qA (qA (qA (fD (dB (qA ndRound))))))
noncomputable def niRound:Code:=fD (fD (qA mCB))
def wW(yf:Value)(tb:Nat)(vo:Value)(k:Int)(J:Nat→Value):Array Value:=#[yf,.pointer (some ⟨tb,0,none⟩),J 2,vo,.int .i64 k,J 5,J 6,J 7,J 8,J 9,J 10,J 11,J 12,J 13,J 14,J 15,J 16,J 17,J 18,J 19,J 20,J 21,J 22,J 23,J 24,J 25,J 26,J 27,J 28,J 29,J 30,J 31,J 32,J 33,J 34,J 35,J 36,J 37,J 38,J 39,J 40,J 41,J 42,J 43,J 44,J 45,J 46,J 47,J 48,J 49,J 50,J 51,J 52,J 53,J 54]
def jO(yf:Value)(tb:Nat)(vo:Value)(k:Int)(u:Nat)(vb:Value)(m j:Nat)(J:Nat→Value):Array Value :=
 #[yf, .pointer (some ⟨tb, 0, none⟩), J 2, vo, .int .i64 k, .int .i64 (u : Int), J 6, J 7, J 8, J 9, J 10, J 11, J 12, J 13, J 14, J 15, J 16, J 17, J 18, J 19, J 20, J 21, J 22, J 23, J 24, J 25, J 26, J 27, J 28, J 29, J 30, J 31, J 32, J 33, J 34, J 35, J 36, J 37, J 38, J 39, J 40, J 41, vb, .int .i64 (m : Int), .int .i64 (j : Int), J 45, J 46, J 47, J 48, J 49, J 50, J 51, J 52, J 53, J 54]
structure NH (W0:World) (tb:Nat) (vt:Value) (B:Nat) (Jc:Option Nat→World→Prop) (vo:Value) (l:List Nat) (A:World):Prop where
 j:Jc vo.ownBlock A
 row:A.ownsRow B 3 1 vo l.length (uE l)
 low:Under W0 A
 box:BoxAt A tb 30 #[vt]
 big:B≤A.heap.size
section
variable {W0 : World} {tb B : Nat} {vt yf vo : Value} {Jc : Option Nat → World → Prop} {k : Int} {u m j : Nat} {l : List Nat}
def nQA(Jc:Option Nat→World→Prop):Prop:=∀ b b' A A',Jc b A→IStep b b' A A'→Jc b' A'
theorem NH.under{A A':World}(h:NH W0 tb vt B Jc vo l A)(hJ:nQA Jc)(hU:Under A A'):NH W0 tb vt B Jc vo l A' :=
 ⟨hJ _ _ _ _ h.j (IStep.under hU _),uA h.row hU,h.low.trans hU,h.box.under hU,Nat.le_trans h.big hU.size⟩
theorem NH.grown{A A':World}{vo':Value}{l':List Nat}(h:NH W0 tb vt B Jc vo l A)(hJ:nQA Jc)(hg:A.grownBy A' vo.ownBlock)(hat:vo'.ownBlock=vo.ownBlock∨vo'.ownBlock=some A.heap.size)(hr:A'.ownsRow B 3 1 vo' l'.length (uE l'))(hW:W0.heap.size≤B)(ht:tb < B):NH W0 tb vt B Jc vo' l' A' :=
 ⟨hJ _ _ _ _ h.j (IStep.grown hg hat),hr,xA h.low hg fun g e=>Nat.le_trans hW (jB h.row e).1,h.box.grown hg fun e=>by have:=(jB h.row e.symm).1;omega,Nat.le_trans h.big hg.size⟩
def NIn(W0:World)(tb:Nat)(vt:Value)(B:Nat)(Jc:Option Nat→World→Prop)(yf:Value)(k:Int)(u:Nat)(vb:Value)(m j:Nat)(A0:World)(l:List Nat)(bs:List Nat)(a:Act)(A:World):Prop :=
 ∃ vo J,a=⟨jO yf tb vo k u vb m j J,[]⟩∧NH W0 tb vt B Jc vo l A∧A.ownsRow A0.heap.size 3 1 vb bs.length (uE bs)∧(vb.ownBlock=none∨vb.ownBlock≠vo.ownBlock)
def eDB(W0:World)(tb:Nat)(vt:Value)(B:Nat)(Jc:Option Nat→World→Prop)(yf:Value)(k:Int)(u:Nat)(vb:Value)(m:Nat)(A0:World)(l:List Nat)(bs:List Nat)(e:Exit)(a:Act)(A:World):Prop:=e = .exit 2∧NIn W0 tb vt B Jc yf k u vb m m A0 l bs a A
theorem m7A{A0:World}{bs:List Nat}{vb:Value}(J:Nat→Value)(A:World)(hH:NH W0 tb vt B Jc vo l A)(hb:A.ownsRow A0.heap.size 3 1 vb bs.length (uE bs))(hne:vb.ownBlock=none∨vb.ownBlock≠vo.ownBlock) :
 niRound.wp Tryz.prog (Exit.then (fun _ _=>False) (eDB W0 tb vt B Jc yf k u vb m A0 l bs)) ⟨jO yf tb vo k u vb m m J,[]⟩ A:=by
 have HH:=aA hH;have HB:=aA hb;have HN:=aA hne;clear hH hb hne;unfold niRound mCB ndRound mFA;simp only[Tryz.f161,Option.getD_some,dB,qA,fD];unfold jO;go_wp2;exact⟨rfl,vo,eB (F:=jO yf tb vo k u vb m m) (by rfl) ⟨HH.out,HB.out,HN.out⟩⟩
theorem fCB {A0 : World} {bs : List Nat} {vb : Value} {x : Nat} (hJ : nQA Jc) (hW : W0.heap.size ≤ B) (ht : tb < B) (hx : bs[j]? = some x) (hm : bs.length ≤ 8) (hu : u ≤ 10000) (hx2 : x ≤ 2) (hl : l.length ≤ 40000) (J : Nat → Value) (A : World) (hH : NH W0 tb vt B Jc vo l A)
    (hb:A.ownsRow A0.heap.size 3 1 vb bs.length (uE bs)) (hne:vb.ownBlock=none∨vb.ownBlock≠vo.ownBlock) :
    niRound.wp Tryz.prog (Exit.then (NIn W0 tb vt B Jc yf k u vb bs.length (j+1) A0 (l++[u+x]) bs) (fun _ _ _=>False)) ⟨jO yf tb vo k u vb bs.length j J,[]⟩ A:=by
  obtain⟨i0,hi,hz0,hz1,hz2⟩:=info_parts Tryz.infoInt;obtain⟨hj,hxe⟩:=List.getElem?_eq_some_iff.1 hx;obtain⟨g,gc,hvb,hg,_,hgl,_,_⟩:=dE hb (by omega);have c0:=eD hb hg (j:=j) (u:=.int .i64 (x:Int)) (by unfold uE;rw[List.getElem?_map,hx];rfl);have hj1:(j:Int) < bs.length:=by omega
  have hj0:(0:Int)≤j:=Int.natCast_nonneg _;have hj8:(j:Int)≤8:=by omega
  have hu0:(0:Int)≤u:=Int.natCast_nonneg _;have hu1:(u:Int)≤10000:=by omega
  have hx0:(0:Int)≤x:=Int.natCast_nonneg _;have hx1:(x:Int)≤2:=by omega
  have hmx:l.length+1≤maxLen:=by simp only[maxLen];omega
  have hby:(l.length+1) * 8≤140737488355328:=by omega
  have HH:=aA hH;have HB:=aA hb;have HN:=aA hne;have HG:=aA hg;subst hvb;clear hH hb hne hx hxe hg;unfold niRound mCB ndRound mFA;simp only[Tryz.f161,Option.getD_some,dB,qA,fD];unfold jO;go_wp2_with (at_builtin;refine wpList_append_own_at _ rfl _ _ 123 rfl B 3 i0 _ 1 8 Tryz.underlying123 hi hz0 hz1 hz2 rfl (by decide) _ _ _ rfl (HH.out.row.alloc _) ⟨A.heap.size,0,none⟩ 1 1 [.int .i64 ((u:Int)+(x:Int))] rfl rfl ?c1 ?c2 hmx hby ?c5 ?_)
  case c1 =>
    intro j u hj
    match j,hj with
    | 0,hj=>cases hj;simp[Addr.add]
  case c2=>intro u hu;simp at hu;subst hu;rfl
  case c5=>have:=HH.out.big;simp;omega
  intro v' A1 hown hgrow hnil hat; have HH1 := aA ((HH.out.under hJ (bA (Under.refl A) (.cells #[.int .i64 ((u : Int) + (x : Int))] 3))).grown (vo' := v') (l' := l ++ [u + x]) hJ hgrow (by simpa using hat) (by
    rw[List.length_append];have:uE (l++[u+x])=uE l++[.int .i64 ((u:Int)+(x:Int))]:=by simp[uE]
    rw[this];exact hown) hW ht)
  have HB1:=aA (vE (HB.out.alloc (.cells #[.int .i64 ((u:Int)+(x:Int))] 3)) hgrow HN.out);have hne1:(Value.slice (some ⟨g,0,none⟩) bs.length gc).ownBlock=none∨(Value.slice (some ⟨g,0,none⟩) bs.length gc).ownBlock≠v'.ownBlock:=by
   right
   rcases hat with e | e
   · rw [e]; rcases HN.out with h | h
     · simp[Value.ownBlock]at h
     · exact h
   · rw[e];simp[Value.ownBlock];omega
  have HN1:=aA hne1;clear hown hgrow hnil hat hne1;go_wp2;exact⟨v',eB (F:=jO yf tb v' k u _ bs.length (j+1)) (by rfl) ⟨HH1.out,HB1.out,HN1.out⟩⟩
theorem lXA {A0 : World} (bs : List Nat) {vb : Value} (hJ : nQA Jc) (hW : W0.heap.size ≤ B) (ht : tb < B) (hm : bs.length ≤ 8) (hu : u ≤ 10000) (hx2 : ∀ x ∈ bs, x ≤ 2) (hl : l.length ≤ 39000) (i : Nat) (a : Act) (A : World)
    (h0:∃ j,i+j=bs.length∧NIn W0 tb vt B Jc yf k u vb bs.length j A0 (l++(bs.take j).map (u + ·)) bs a A) :
    (Code.loop niRound).wp Tryz.prog (eDB W0 tb vt B Jc yf k u vb bs.length A0 (l++bs.map (u + ·)) bs) a A:=by
  refine wp_loop_ghost (fun i a A=>∃ j,i+j=bs.length∧NIn W0 tb vt B Jc yf k u vb bs.length j A0 (l++(bs.take j).map (u + ·)) bs a A) i h0 ?_;clear h0;rintro i a A ⟨j,hij,vo,J,rfl,hH,hb,hne⟩;by_cases hjn:j=bs.length
  · subst hjn; rw [List.take_length] at hH; refine wp_mono (m7A J A hH hb hne) ?_; rintro e a' w' h
    cases e with
    | normal=>exact h.elim
    | _=>exact h
  have hlt:j < bs.length:=by omega
  refine wp_mono (fCB hJ hW ht (List.getElem?_eq_getElem hlt) hm hu (hx2 _ (List.getElem_mem hlt)) (by rw[List.length_append,List.length_map,List.length_take];omega) J A hH hb hne) ?_;rintro e a' w' h
  cases e with
  | normal =>
    refine⟨i - 1,by omega,j+1,by omega,?_⟩;rw[List.take_succ_eq_append_getElem hlt,List.map_append,← List.append_assoc];exact h
  | _=>exact h.elim
end
attribute [local go_sem] Oper.semAt_some
section
variable {W0 : World} {tb B n : Nat} {vt vo : Value} {Jc Jd : Option Nat → World → Prop} {Jx : World → Prop} {R : Nat → Prop} {k u l : Nat} {st : List Nat}
def bBB(W0:World)(tb:Nat)(vt:Value)(B:Nat)(Jc:Option Nat→World→Prop)(yf:Value)(k:Nat)(st:List Nat)(a:Act)(A:World):Prop :=
 ∃ vo J,a=⟨wW yf tb vo ((k:Int) - 1) J,[]⟩∧NH W0 tb vt B Jc vo st.reverse A
def gEB(Jx:World→Prop)(e:Exit)(a:Act)(A:World):Prop:=e = .ret∧a.defers=[]∧Jx A
theorem hCB {x : Nd} {b off c N : Nat} (hJd : nQA Jd) (hW : W0.heap.size ≤ B) (ht : tb < B) (hR : ∀ k, k < W0.heap.size → R k) (hRt : R tb) (hk : k < N) (hN : N ≤ 4000) (hcap : N ≤ c) (hu : u ≤ 8000) (hl : st.length ≤ 38000) (hvt : vt = .slice (some ⟨b, off, none⟩) N c)
    (hs:x.s.size≤maxLen) (hS:ShapesAt 3 W0) (hb:b < W0.heap.size) (c0:W0.cell? ⟨b,off+k * 4,none⟩=some (.int .i64 x.k)) (c1:W0.cell? ⟨b,off+k * 4+1,none⟩=some (.int .i64 x.n)) (c2:W0.cell? ⟨b,off+k * 4+2,none⟩=some (.int .i64 x.m)) (c3:W0.cell? ⟨b,off+k * 4+3,none⟩=some (.string x.s))
    (J:Nat→Value) (A:World) (hH:NH W0 tb vt B Jc vo (u::st).reverse A)
    (hY:YieldAt Fence.wide (n - 1) Tryz.prog l #[.int .i64 (k:Int),.int .i64 (u:Int)] A fun e A'=>(e = .returned (.bool true)∧Jd vo.ownBlock A'∧Kept R vo.ownBlock A A')∨(e = .returned (.bool false)∧Jx A')) :
    ndRound.wpIn Fence.wide n Tryz.prog (Exit.then (bBB W0 tb vt B Jd (.func (.yield l) #[] #[]) k (((wG x).map (u + ·)).reverse++st)) (gEB Jx)) ⟨wW (.func (.yield l) #[] #[]) tb vo (((k+1:Nat):Int) - 1) J,[]⟩ A:=by
  rw[show(((k+1:Nat):Int) - 1)=(k:Int) by omega];have hrl:(u::st).reverse.length=st.length+1:=by simp
  have hrow:=hH.row;rw[hrl]at hrow;obtain⟨g,gc,hvo,hg,hgB,hgl,hgc,_⟩:=dE hrow (by omega);have ctop:=eD hrow hg (j:=st.length) (u:=.int .i64 (u:Int)) (by simp[uE]);subst hvo;obtain⟨fn,tmps,assign,body,hy,hRd⟩:=hY;have hk0:(0:Int)≤k:=Int.natCast_nonneg _;have hk1:(k:Int) < N:=by omega
  have hl0:(0:Int)≤st.length:=Int.natCast_nonneg _;have hl1:(st.length:Int)≤38000:=by omega
  have hgc':(st.length:Int)+1≤gc:=by omega
  have HH:=aA hH;have HR:=aA hrow;have HVT:=aA hvt;have HY:=aA hRd;clear hH hrow hvt hrl hRd;unfold ndRound mFA;simp only[Tryz.f161,Option.getD_some,qA,fD];unfold wW
  gi_wp2
  refine⟨fun h=>absurd h (by decide),?_⟩;refine HY.out.mono ?_;rintro e A1 (⟨rfl,hj1,hk1'⟩ | ⟨rfl,hx1⟩)
  · have hH1 : NH W0 tb vt B Jd (.slice (some ⟨g, 0, none⟩) st.length gc) st.reverse A1 := by
      have hr:=b2A HR.out (w':=A1) fun g' e=>hk1'.same g' (by have:=(jB HR.out e).2;omega) (.inr e)
      have hcut:=pQ hr (m:=st.length) (by omega);refine⟨hj1,?_,HH.out.low.kept hk1' hR,(hk1'.same tb HH.out.box.lt (.inl hRt)).trans HH.out.box,Nat.le_trans HH.out.big hk1'.size⟩;rw[List.length_reverse];have:uE st.reverse=(uE (u::st).reverse).take (st.length * 1):=by
       rw[List.reverse_cons,Nat.mul_one];unfold uE;rw[List.map_append,List.take_left' (by simp)]
      rw[this];exact hcut
    have eb:=hH1.box.cell 0;have elt:=hH1.box.lt;rw[HVT.out]at eb;rw[← fA hH1.low hb]at c0 c1 c2 c3;have hb1:=Nat.lt_of_lt_of_le hb hH1.low.size;have HB:=aA (sYA (w0:=A1) x hs (hS.under hH1.low));have HH1:=aA hH1;clear hj1 hk1' hH1 HY
    gi_wp2
    refine⟨trivial,fun h=>absurd h (by decide),?_⟩;refine(callsIn_wide.2 HB.out).mono ?_;rintro e A2 ⟨vb,rfl,hvb,hU2⟩;have hvb':A2.ownsRow A1.heap.size 3 1 vb (wG x).length (uE (wG x)):=hvb;obtain⟨q,co,rfl,hq1,hq2⟩:=RowArg.of_own hvb';clear hq1 hq2;have hH2:=HH1.out.under hJd hU2;have hne2:(Value.slice q (wG x).length co).ownBlock=none∨(Value.slice q (wG x).length co).ownBlock≠(Value.slice (some ⟨g,0,none⟩) st.length gc).ownBlock:=by
     cases hq:(Value.slice q (wG x).length co).ownBlock with
     | none=>exact .inl rfl
     | some g'=>right;intro e;cases e;have:=(jB hvb' hq).1;have:=(jB HH1.out.row rfl).2;omega
    have HL:=aA (lXA (k:=(k:Int)) (u:=u) (yf:=.func (.yield l) #[] #[]) (vt:=vt) (vb:=.slice q (wG x).length co) (A0:=A1) (l:=st.reverse) (wG x) hJd hW ht (aHA x) (by omega) fCA (by rw[List.length_reverse];omega) (wG x).length);have HH2:=aA hH2;have HV:=aA hvb';have HN:=aA hne2;clear hH2 hvb hvb' hne2 hU2 c0 c1 c2 c3 eb
    gi_wp2
    rename_i K hK;refine wpIn_wide.2 (wp_mono (HL.out _ _ ⟨0,by omega,.slice (some ⟨g,0,none⟩) st.length gc,eB (F:=jO _ tb _ k u _ (wG x).length 0) (by rfl) ⟨by simpa using HH2.out,HV.out,HN.out⟩⟩) ?_);rintro e a' A3 ⟨rfl,vo3,J3,rfl,hH3,_,_⟩;simp only[Exit.inBlock,if_pos,Exit.then];refine hK _ _ ?_;clear hK;have HH3:=aA hH3;clear hH3;unfold jO
    gi_wp2
    refine⟨vo3,eB (F:=wW _ tb vo3 ((k:Int) - 1)) (by rfl) ?_⟩;have:=HH3.out;rw[List.reverse_append,List.reverse_reverse];exact this
  · gi_wp2
    exact⟨rfl,rfl,hx1⟩
end
attribute [local go_sem] Oper.semAt_some
section
variable {W0 w : World} {tb c n : Nat} {t : List Nd} {p : Option Addr}
def NdI(W0:World)(tb:Nat)(vt:Value)(B:Nat)(J:Option Nat→List (Nat×Nat)→World→Prop)(t:List Nd)(l m:Nat)(a:Act)(A:World):Prop :=
 ∃ pre st,bBB W0 tb vt B (fun b A=>J b pre A) (.func (.yield l) #[] #[]) m st a A∧pre++dG t m st=iI t∧(dG t m st).length=m∧m≤t.length∧(∀ u∈st,u+2 * m≤8000)∧st.length+8 * m≤33000
def NdD(J:Option Nat→List (Nat×Nat)→World→Prop)(Jx:List (Nat×Nat)→World→Prop)(t:List Nd)(e:Exit)(a:Act)(A:World):Prop :=
 a.defers=[]∧((e = .exit 0∧∃ b,J b (iI t) A)∨(e = .ret∧∃ pre,Jx pre A))
theorem qAB(w0:World)(base:Nat)(e:TypeId)(v:Value)(hb:base≤w0.heap.size):(w0.alloc (.cells #[v] e)).ownsRow base e 1 (.slice (some ⟨w0.heap.size,0,none⟩) 1 1) 1 [v] :=
 ⟨by simp,.inr ⟨w0.heap.size,1,#[v],rfl,hb,rA w0 _ _,Nat.le_refl _,by decide,by simp,by simp⟩⟩
theorem m0A {B l : Nat} {W : World} {J : Option Nat → List (Nat × Nat) → World → Prop} {Jx : List (Nat × Nat) → World → Prop} (hn : t.length ≤ 4000) (hcap : t.length ≤ c) (hs : ∀ x ∈ t, x.s.size ≤ maxLen) (hp : RowArg W0 p (wB t)) (hS : ShapesAt 3 W0)
    (hW:W0.heap.size≤B) (ht:tb < B) (hJ:∀ b b' pre A A',J b pre A→IStep b b' A A'→J b' pre A')
    (hY : ∀ b pre x A, J b pre A → pre ++ [x] <+: iI t → YieldAt Fence.wide (n - 1) Tryz.prog l #[.int .i64 (x.1 : Int), .int .i64 (x.2 : Int)] A fun e A' =>
      (e = .returned (.bool true)∧J b (pre++[x]) A'∧Kept (fun k=>k < W0.heap.size∨k=tb) b A A')∨(e = .returned (.bool false)∧Jx (pre++[x]) A'))
    (m:Nat) (a:Act) (A:World) (h0:NdI W0 tb (.slice p t.length c) B J t l m a A) :
    (Code.loop ndRound).wpIn Fence.wide n Tryz.prog (NdD J Jx t) a A:=by
  refine wpIn_wide.2 (wp_loop_ghost (NdI W0 tb (.slice p t.length c) B J t l) m h0 ?_);clear h0;rintro m a A ⟨pre,st,⟨vo,Jn,rfl,hH⟩,hx,hl,hm,hu,hst⟩;refine(wpIn_wide (n:=n)).1 ?_
  cases m with
  | zero =>
    have he:dG t 0 st=[]:=List.eq_nil_of_length_eq_zero hl;rw[he,List.append_nil]at hx;subst hx;have hH':NH W0 tb (.slice p t.length c) B (fun b A=>J b (iI t) A) vo st.reverse A:=hH;have HJ:=aA hH.j;clear hH hH' hu hst hY hJ;unfold ndRound mFA;simp only[Tryz.f161,Option.getD_some,qA,fD];unfold wW
    gi_wp2
    exact⟨rfl,.inl ⟨rfl,_,HJ.out⟩⟩
  | succ k =>
    cases st with
    | nil=>simp[dG]at hl
    | cons u st =>
      have hk:k < t.length:=by omega
      have hxk:t[k]? = some t[k]:=List.getElem?_eq_getElem hk;rw[aU hxk]at hx hl;obtain⟨b,off,rfl,hb,c0,c1,c2,c3⟩:=hp.node hxk;have hu1:=hu u (List.mem_cons_self ..);rw[List.length_cons]at hst;have hpre:pre++[(k,u)] <+: iI t:=⟨dG t k (((wG t[k]).map (u + ·)).reverse++st),by rw[← hx];simp⟩;refine wpIn_mono (hCB (Jd:=fun b A=>J b (pre++[(k,u)]) A) (Jx:=Jx (pre++[(k,u)])) (R:=fun k=>k < W0.heap.size∨k=tb) (l:=l) (fun b b' A A' h1 h2=>hJ b b' _ A A' h1 h2) hW ht (fun k hk=>Or.inl hk) (Or.inr rfl) hk hn hcap (by omega) (by omega) rfl (hs _ (List.getElem_mem hk)) hS hb c0 c1 c2 c3 Jn A hH (hY _ pre (k,u) A hH.j hpre)) ?_;rintro e a' A' h
      cases e with
      | normal =>
        refine⟨k,by omega,pre++[(k,u)],_,h,by rw[← hx];simp,by simpa using hl,by omega,?_,?_⟩
        · intro v hv; rcases List.mem_append.1 hv with hv | hv
          · rw[List.mem_reverse,List.mem_map]at hv;obtain⟨y,hy,rfl⟩:=hv;have:=fCA y hy;omega
          · have:=hu v (List.mem_cons_of_mem _ hv);omega
        · rw[List.length_append,List.length_reverse,List.length_map];have:=aHA t[k];omega
      | _=>exact⟨h.2.1,.inr ⟨h.1,_,h.2.2⟩⟩
theorem oTA(hn:t.length≤4000)(hcap:t.length≤c)(hs:∀ x∈t,x.s.size≤maxLen)(hp:RowArg W0 p (wB t))(hS:ShapesAt 3 W0)(hU:Under W0 w)(hB:BoxAt w tb 30 #[.slice p t.length c])(hlen:(iI t).length=t.length) :
 Iter Fence.wide n Tryz.prog 161 #[.pointer (some ⟨tb,0,none⟩)] (fun x:Nat×Nat=>#[.int .i64 (x.1:Int),.int .i64 (x.2:Int)]) (fun k=>k < W0.heap.size∨k=tb) (iI t) w:=by
 intro l J Jx W hW hJ hY h0;have HL:=aA (m0A (n:=n) (l:=l) (B:=W.heap.size) (tb:=tb) (W:=W) (c:=c) (p:=p) (t:=t) (W0:=W0) (J:=J) (Jx:=Jx) hn hcap hs hp hS (Nat.le_trans hU.size hW.size) (Nat.lt_of_lt_of_le hB.lt hW.size) hJ hY t.length);have HB:=aA (hB.under hW);have eb:=HB.out.cell 0;have elt:=HB.out.lt;have HU:=aA (hU.trans hW);have HJ:=aA hJ;have H0:=aA h0;have HLen:=aA hlen;have hn1:(t.length:Int)≤4000:=by omega
 have hn0:(0:Int)≤t.length:=Int.natCast_nonneg _;clear hJ hY h0 hp hS hs hlen;refine callsIn_of_wp Tryz.func161 rfl trivial ?_ rfl;simp only[Tryz.ntmps161,List.size_toArray,List.length_cons,List.length_nil,Nat.reduceAdd,Nat.reduceSub,Array.replicate_succ,Array.replicate_zero,List.push_toArray,List.append_toArray,List.nil_append,List.cons_append]
 gi_wp2
 have hNH:NH W0 tb (.slice p t.length c) W.heap.size (fun b A=>J b [] A) (.slice (some ⟨W.heap.size,0,none⟩) 1 1) [0].reverse (W.alloc (.cells #[.int .i64 0] 3)) :=
  ⟨HJ.out none _ [] W _ H0.out ⟨rfl,rfl,by simp,fun k hk _=>(bA (Under.refl W) _).low k hk,.inr ⟨W.heap.size,rfl,Nat.le_refl _⟩⟩,
   qAB W _ _ _ (Nat.le_refl _),bA HU.out _,HB.out.alloc _,by simp⟩
 refine wpIn_mono (HL.out _ _ ⟨[],[0],⟨_,eB (F:=wW _ tb _ ((t.length:Int) - 1)) (by rfl) hNH⟩,rfl,HLen.out,Nat.le_refl _,fun u hu=>by rw[List.mem_singleton.1 hu];omega,by simp;omega⟩) ?_;rintro e a' A' ⟨hd,(⟨rfl,b,hb⟩ | ⟨rfl,pre,hpre⟩)⟩
 · simp only[Exit.inBlock,if_pos];exact bodyPost_end (P:=Tryz.prog) (fn:=Tryz.f161) (R:=fun e W'=>(∃ v,e=Ending.returned v)∧((∃ b,J b (iI t) W')∨∃ pre,Jx pre W')) (results_none rfl _ _ _) hd ⟨⟨_,rfl⟩,.inl ⟨b,hb⟩⟩
 · simp only[Exit.inBlock];exact bodyPost_ret (P:=Tryz.prog) (fn:=Tryz.f161) (R:=fun e W'=>(∃ v,e=Ending.returned v)∧((∃ b,J b (iI t) W')∨∃ pre,Jx pre W')) (results_none rfl _ _ _) hd ⟨⟨_,rfl⟩,.inr ⟨pre,hpre⟩⟩
end
attribute [local go_sem] Oper.semAt_some
theorem jYA(p:Option Addr)(n c:Nat)(w:World):Calls Tryz.prog 140 #[.slice p n c] w fun e w'=>e = .returned (.func (.func 161) #[] #[.pointer (some ⟨w.heap.size,0,none⟩)])∧w'=w.alloc (.cells #[.slice p n c] 30):=by
 go_enter Tryz.func140,Tryz.ntmps140;go_wp2;go_ret;exact⟨rfl,rfl⟩
def Told(f:Nat)(g:Int→Int→Int):Prop:=(∀ args w,(callFunc f args).run Tryz.prog w = .ok (.enter f args) w)∧∀(nb:Nat) (s v:Int) (w:World),-1000000≤s→s≤1000000→0≤v→v≤99→BoxAt w nb 3 #[.int .i64 s] →
 Calls Tryz.prog f #[.int .i64 v,.pointer (some ⟨nb,0,none⟩)] w fun e w'=>(∃ v,e = .returned v)∧w'=w.setCell ⟨nb,0,none⟩ (.int .i64 (g s v))
def aN(t:List Nd)(g:Int→Int→Int)(s:Int)(x:Nat×Nat):Int :=
 match t[x.1]? with
 | some y=>if y.k=0∧(x.2:Int)≤y.n then g s (y.n - x.2) else s
 | none=>s
def tell(t:List Nd)(g:Int→Int→Int)(s:Int)(l:List (Nat×Nat)):Int:=l.foldl (aN t g) s
section
variable {W0 w0 : World} {t : List Nd} {p : Option Addr} {c nb f : Nat} {g : Int → Int → Int} {s0 : Int}
theorem g5A (hT : Told f g) (hcap : t.length ≤ c) (hn : t.length ≤ maxLen) (hs : ∀ x ∈ t, x.s.size ≤ maxLen) (hp : RowArg W0 p (wB t)) (hS : ShapesAt 3 W0) (hU : Under W0 w0) (hB : BoxAt w0 nb 3 #[.int .i64 s0]) (hnb : W0.heap.size ≤ nb) (hc : gB t = 0)
    (hbd:∀ pre,pre <+: iI t→-1000000≤tell t g s0 pre∧tell t g s0 pre≤1000000) :
    Calls Tryz.prog 110 #[.slice p t.length c,.func (.func f) #[] #[.pointer (some ⟨nb,0,none⟩)]] w0 fun e w=>e = .returned (.int .i64 0)∧Turned (some nb) w0 w∧BoxAt w nb 3 #[.int .i64 (tell t g s0 (iI t))]:=by
  obtain⟨hlen,hn4⟩:=sW hc;have hC:=fun(w:World) (h:Under W0 w)=>qO (c:=c) t hn hs (hp.under h) (hS.under h)
  rw[hc]at hC;have hBt:=(rA w0 #[.slice p t.length c] 30).alloc (.cells #[.func (.func f) #[] #[.pointer (some ⟨nb,0,none⟩)]] 174);have hBf:=rA (w0.alloc (.cells #[.slice p t.length c] 30)) #[.func (.func f) #[] #[.pointer (some ⟨nb,0,none⟩)]] 174;have hs1:(w0.alloc (.cells #[.slice p t.length c] 30)).heap.size=w0.heap.size+1:=by simp
  rw[hs1]at hBf;have hU2:=bA (bA (Under.refl w0) (.cells #[.slice p t.length c] 30)) (.cells #[.func (.func f) #[] #[.pointer (some ⟨nb,0,none⟩)]] 174);have HC:=aA (hC _ (hU.trans hU2));refine(callsIn_wide (n:=10)).1 ?_;refine callsIn_of_wp_marks Tryz.func110 rfl trivial ?_ rfl;simp only[Tryz.ntmps110,List.size_toArray,List.length_cons,List.length_nil,Nat.reduceAdd,Nat.reduceSub,Array.replicate_succ,Array.replicate_zero,List.push_toArray,List.append_toArray,List.nil_append,List.cons_append];have HBT:=aA hBt;have HBF:=aA hBf;have HU2:=aA hU2;clear hBt hBf hU2 hs1 hC
  gi_wp2
  refine⟨trivial,?_⟩;refine(callsIn_wide.2 HC.out).mono ?_;rintro e w1 ⟨rfl,hU1⟩;have hBt1:=HBT.out.under hU1;have hBf1:=HBF.out.under hU1;have et:=hBt1.cell 0;have elt:=hBt1.lt;have HBT1:=aA hBt1;have HBF1:=aA hBf1;have HU1:=aA hU1;have HN:=aA (jYA p t.length c w1);clear hBt1 hBf1 hU1
  gi_wp2
  refine⟨trivial,?_⟩;refine(callsIn_wide.2 HN.out).mono ?_;rintro e w2 ⟨rfl,rfl⟩;have hB2:=rA w1 #[.slice p t.length c] 30;have HBT2:=aA (HBT1.out.alloc (.cells #[.slice p t.length c] 30));have HBF2:=aA (HBF1.out.alloc (.cells #[.slice p t.length c] 30));have hUw:=(HU2.out.trans HU1.out).trans (bA (Under.refl w1) (.cells #[.slice p t.length c] 30));have HUw:=aA hUw;have HB2:=aA hB2;have HNb:=aA (hB.under hUw);have hsz:w1.heap.size < (w1.alloc (.cells #[.slice p t.length c] 30)).heap.size:=by simp
  have hsz1:=HU1.out.size;rw[World.size_alloc,World.size_alloc]at hsz1;have hnlt:=hB.lt;clear hUw hB2 et elt HBT1 HBF1
  gi_wp2
  refine gX rfl (by decide) (gf := 161) (lb := #[.pointer (some ⟨w1.heap.size, 0, none⟩)]) rfl trivial (enters_of Tryz.func161 (by kernel_rfl) rfl)
    (oTA (n := 9) (W0 := W0) (w := w1.alloc (.cells #[.slice p t.length c] 30)) hn4 hcap hs hp hS (hU.trans HUw.out) HB2.out hlen) (Under.refl _) (fun _ => rfl) (fun k hk => by
      rcases hk with hk | rfl
      · exact Nat.lt_of_lt_of_le hk (hU.trans HUw.out).size
      · exact hsz)
    (fun b pre A=>Turned (some nb) (w1.alloc (.cells #[.slice p t.length c] 30)) A∧BoxAt A nb 3 #[.int .i64 (tell t g s0 pre)])
    (fun _ _ _=>False)
    ?hI ?hIo (fun _ _ _ _ _ _ h _ _ _=>h) ⟨Turned.refl _ _,HNb.out⟩ ?a1 ?assign ?body ?done (fun _ _ _ _ _ h _=>h.elim)
  case hI =>
    rintro b b' pre A A' ⟨h1,h2⟩ hs hsz2 hb;have hne:some nb≠b:=fun e=>by have:=hb nb e.symm;have:=HUw.out.size;simp at *;omega
    exact⟨⟨hs.os.trans h1.os,hs.output.trans h1.output,Nat.le_trans h1.size hs.size,fun k hk hr=>(hs.block k (Nat.lt_of_lt_of_le hk h1.size) fun e=>by have:=hb k e.symm;omega).trans (h1.block k hk hr)⟩,(hs.block nb h2.lt hne).trans h2⟩
  case hIo =>
    rintro b pre A l o o' ⟨h1,h2⟩ hl ho hc;have hne:l≠nb:=fun e=>by subst e;have:=h2;unfold BoxAt at this;rw[this]at ho;cases ho;cases hc
    exact⟨⟨h1.os,h1.output,by simpa using h1.size,fun k hk hr=>(World.putObj_heap_other (by omega)).trans (h1.block k hk hr)⟩,(World.putObj_heap_other (fun e=>hne e.symm)).trans h2⟩
  case assign =>
    intro l x W K hK
    gi_wp2
    exact hK
  case body =>
    rintro l b pre ⟨at_,under⟩ A hsz3 hb ⟨hT1,hBn⟩ hpre;have hUA:=hT1.under (hU.trans HUw.out) hnb;have hmem:(at_,under)∈iI t:=hpre.subset (by simp);have hat:=hTA t t.length [0] _ hmem;simp only at hat;have hxk:t[at_]? = some t[at_]:=List.getElem?_eq_getElem hat;have hright:=uK hc _ (List.getElem_mem hat);obtain⟨bb,off,hpe,hbb,c0,c1,c2,c3⟩:=hp.node hxk;rw[← fA hUA hbb]at c0 c1 c2 c3;have hbbA:=Nat.lt_of_lt_of_le hbb hUA.size;have hbd1:=hbd pre ⟨_,by have:=hpre.choose_spec;rw[List.append_assoc]at this;exact this⟩;have htell:tell t g s0 (pre++[(at_,under)])=aN t g (tell t g s0 pre) (at_,under):=by unfold tell;rw[List.foldl_append];rfl
    have hone:aN t g (tell t g s0 pre) (at_,under)=if t[at_].k=0∧(under:Int)≤t[at_].n then g (tell t g s0 pre) (t[at_].n - under) else tell t g s0 pre:=by
     unfold aN;simp only[hxk]
    rw[hone]at htell;generalize hx:t[at_]=x at *;have hBT3:=HBT2.out.turned hT1 (by simp;omega);have hBF3:=HBF2.out.turned hT1 (by simp;omega);have et:=hBT3.cell 0;have ef:=hBF3.cell 0;have elt:=hBT3.lt;have elf:=hBF3.lt;have enb:=hBn.lt;have HT1:=aA hT1;have HBn:=aA hBn;have HTl:=aA htell;have HP:=aA hpe;have hat':(at_:Int) < t.length:=by omega
    have hat0:(0:Int)≤at_:=Int.natCast_nonneg _;have hn4':(t.length:Int)≤4000:=by omega
    subst hpe;have HBN2:=aA (hBn.alloc (.cells #[.int .i64 x.k,.int .i64 x.n,.int .i64 x.m,.string x.s] 112));clear hBT3 hBF3 hT1 hBn htell hone hxk hx hpre hmem;by_cases h0:x.k=0
    · obtain ⟨hv0, hv1⟩ := dU hright h0; have h0' : (x.k == 0) = true := by simpa using h0
      by_cases hle:(under:Int)≤x.n
      · have hu0 : (0 : Int) ≤ under := Int.natCast_nonneg _; have hen := hT.1; have HTo := aA (hT.2 nb (tell t g s0 pre) (x.n - under) (A.alloc (.cells #[.int .i64 x.k, .int .i64 x.n, .int .i64 x.m, .string x.s] 112)) hbd1.1 hbd1.2 (by omega) (by omega) HBN2.out); have hif : (if x.k = 0 ∧ (under : Int) ≤ x.n then g (tell t g s0 pre) (x.n - under) else tell t g s0 pre) = g (tell t g s0 pre) (x.n - under) := if_pos ⟨h0, hle⟩; have HIf := aA hif; clear hif h0 hbd1
        gi_wp2
        refine⟨trivial,?_⟩;refine(CallsIn.inRound l (callsIn_wide.2 HTo.out)).mono ?_;rintro e A2 ⟨⟨v,rfl⟩,hA2⟩;have hk2:KeepsOthers A A2:=by rw[hA2];exact(KeepsOthers.alloc _ _).trans (KeepsOthers.setCell _ _ _)
        have ht2:Turned (some nb) A A2:=by rw[hA2];exact(Turned.of_under (bA (Under.refl _) _)).trans (Turned.set _ _ _ _)
        have hb2:BoxAt A2 nb 3 #[.int .i64 (g (tell t g s0 pre) (x.n - under))]:=by rw[hA2];exact HBN2.out.set _ _
        have HK2:=aA hk2;have HT2:=aA ht2;have HB2':=aA hb2;clear hA2 hk2 ht2 hb2
        gi_wp2
        refine⟨HK2.out.from _,⟨HT2.out.os,HT2.out.output,HT2.out.size,fun k hk hr=>HT2.out.block k hk fun e=>?_⟩,HT1.out.trans HT2.out,?_⟩
        · cases e; rcases hr with (hr | hr) | hr
          · omega
          · have:=HU1.out.size;simp at *;omega
          · have:=hb nb hr;simp at *;omega
        · rw[HTl.out,HIf.out];exact HB2'.out
      · have hif : (if x.k = 0 ∧ (under : Int) ≤ x.n then g (tell t g s0 pre) (x.n - under) else tell t g s0 pre) = tell t g s0 pre := if_neg fun h => hle h.2
        have HIf:=aA hif;have hlt:x.n < (under:Int):=by omega
        clear hif h0 hle hbd1
        gi_wp2
        refine⟨(KeepsOthers.alloc _ _).from _,Kept.of_under (bA (Under.refl _) _),HT1.out.trans (Turned.of_under (bA (Under.refl _) _)),?_⟩;rw[HTl.out,HIf.out];exact HBN2.out
    · have h0' : (x.k == 0) = false := by simpa using h0
      have hif:(if x.k=0∧(under:Int)≤x.n then g (tell t g s0 pre) (x.n - under) else tell t g s0 pre)=tell t g s0 pre:=if_neg fun h=>h0 h.1
      have HIf:=aA hif;clear hif h0 hbd1
      gi_wp2
      refine⟨(KeepsOthers.alloc _ _).from _,Kept.of_under (bA (Under.refl _) _),HT1.out.trans (Turned.of_under (bA (Under.refl _) _)),?_⟩;rw[HTl.out,HIf.out];exact HBN2.out
  case done =>
    rintro D b W hD ⟨hT1,hBn⟩ hK
    gi_wp2
    refine⟨by simp,.inl ⟨_,_,rfl,run_takeDeferred hK,?_⟩⟩;refine⟨_,results_tmp rfl _ _ _,rfl,?_,?_⟩
    · have h0:=(Turned.of_under (r:=some nb) HUw.out).trans hT1;exact⟨h0.os,h0.output,by simpa using h0.size,fun k hk hr=>(World.putObj_heap_other (by have:=HUw.out.size;omega)).trans (h0.block k hk hr)⟩
    · exact(World.putObj_heap_other (by have:=HUw.out.size;omega)).trans hBn
end
def iP(s v:Int):Int:=max s (v+1)
def y9(t:List Nd):Int:=tell t iP 0 (iI t)
theorem k7A{t:List Nd}(hr:∀ x∈t,zA x=true):∀(l:List (Nat×Nat)) (s:Int),0≤s→s≤100→0≤tell t iP s l∧tell t iP s l≤100:=by
 intro l
 induction l with
 | nil=>intro s h0 h1;exact⟨h0,h1⟩
 | cons x l ih =>
   intro s h0 h1;have:0≤aN t iP s x∧aN t iP s x≤100:=by
    unfold aN
    split
    · rename_i y hy
      split
      · rename_i h;have:=dU (hr y (List.mem_of_getElem? hy)) h.1;unfold iP;omega
      · exact⟨h0,h1⟩
    · exact⟨h0,h1⟩
   exact ih _ this.1 this.2
theorem rUA:Told 111 iP:=by
 refine⟨enters_of Tryz.func111 (by kernel_rfl) rfl,?_⟩;intro nb s v w h0 h1 h2 h3 hB;have e0:=hB.cell 0;have f0:=hB.free 0;have hl:=hB.lt;unfold iP;clear hB;by_cases hm:v+1≤s
 · rw [show max s (v + 1) = s by omega]; go_enter Tryz.func111, Tryz.ntmps111; go_wp2
   all_goals
    go_end0
    first
     | exact⟨⟨_,rfl⟩,rfl⟩
     | (refine⟨⟨_,rfl⟩,?_⟩;congr 2;omega)
 · rw [show max s (v + 1) = v + 1 by omega]; go_enter Tryz.func111, Tryz.ntmps111; go_wp2
   all_goals
    go_end0
    first
     | exact⟨⟨_,rfl⟩,rfl⟩
     | (refine⟨⟨_,rfl⟩,?_⟩;congr 2;omega)
def mWA(w0:World)(t:List Nd)(e:Ending)(w:World):Prop:=e = .returned (.tuple #[.int .i64 (if gB t=0 then y9 t else 0),.int .i64 (gB t)])∧Under w0 w
theorem kNA{a a' b b':Int}(h:a=a')(h2:b=b'):Ending.returned (.tuple #[.int .i64 a,.int .i64 b]) = .returned (.tuple #[.int .i64 a',.int .i64 b']):=by rw[h,h2]
section
variable {w0 : World} {t : List Nd} {p : Option Addr} {c : Nat}
theorem q1A{W0:World}(f nb:Nat)(hn:t.length≤maxLen)(hs:∀ x∈t,x.s.size≤maxLen)(hp:RowArg W0 p (wB t))(hS:ShapesAt 3 W0)(hU:Under W0 w0)(hc:gB t≠0) :
 Calls Tryz.prog 110 #[.slice p t.length c,.func (.func f) #[] #[.pointer (some ⟨nb,0,none⟩)]] w0 fun e w=>e = .returned (.int .i64 (gB t))∧Under w0 w:=by
 have hU2:=bA (bA (Under.refl w0) (.cells #[.slice p t.length c] 30)) (.cells #[.func (.func f) #[] #[.pointer (some ⟨nb,0,none⟩)]] 174);have HC:=aA (qO (c:=c) t hn hs (hp.under (hU.trans hU2)) (hS.under (hU.trans hU2)));have HU2:=aA hU2;have hc':(gB t != 0)=true:=by simpa using hc
 clear hp hS hs hU2 hU hc;generalize gB t=ce at *;go_enter Tryz.func110,Tryz.ntmps110;go_wp2_with fail;refine HC.out.mono ?_;rintro e w1 ⟨rfl,hU1⟩;have HU1:=aA hU1;clear hU1;go_wp2;go_ret;exact⟨rfl,HU2.out.trans HU1.out⟩
theorem o1A(hcap:t.length≤c)(hn:t.length≤maxLen)(hs:∀ x∈t,x.s.size≤maxLen)(hp:RowArg w0 p (wB t))(hS:ShapesAt 3 w0) :
 Calls Tryz.prog 85 #[.slice p t.length c] w0 (mWA w0 t):=by
 have hB:=rA w0 #[.int .i64 0] 3;have hU:=bA (Under.refl w0) (.cells #[.int .i64 0] 3);by_cases hc:gB t=0
 · have HE:=aA (g5A (W0:=w0) (c:=c) (s0:=0) rUA hcap hn hs hp hS hU hB (Nat.le_refl _) hc (fun pre _=>by have:=k7A (uK hc) pre 0 (by omega) (by omega);omega));have HF:=aA (show(if gB t=0 then y9 t else 0)=tell t iP 0 (iI t) from if_pos hc);have HC:=aA hc;have HU:=aA hU;clear hp hS hs hU hc hB;go_enter Tryz.func85,Tryz.ntmps85;go_wp2_with fail;refine HE.out.mono ?_;rintro e w1 ⟨rfl,hT,hB1⟩;have e0:=hB1.cell 0;have hl:=hB1.lt;have HT:=aA hT;clear hT hB1;go_wp2;go_ret2;exact⟨kNA HF.out.symm HC.out.symm,HT.out.under HU.out (Nat.le_refl _)⟩
 · have HE:=aA (q1A (W0:=w0) (c:=c) 111 w0.heap.size hn hs hp hS hU hc);have HF:=aA (show(if gB t=0 then y9 t else 0)=0 from if_neg hc);have HU:=aA hU;have HB:=aA hB;clear hp hS hs hU hc hB;go_enter Tryz.func85,Tryz.ntmps85;go_wp2_with fail;refine HE.out.mono ?_;rintro e w1 ⟨rfl,hU1⟩;have hB1:=HB.out.under hU1;have e0:=hB1.cell 0;have hl:=hB1.lt;have HU1:=aA hU1;clear hU1 hB1;go_wp2;go_ret2;exact⟨kNA HF.out.symm rfl,HU.out.trans HU1.out⟩
end
section
variable {w0 : World}
def aO(x y:Nd):Bool:=x.k==y.k&&(x.n==y.n&&(x.m==y.m&&x.s.toList==y.s.toList))
def uI : List Nd → List Nd → Bool
  | [],[]=>true
  | x::a,y::b=>aO x y&&uI a b
  | _,_=>false
theorem a1A(x:Nd):aO x x=true:=by simp[aO]
theorem cCA : ∀ t : List Nd, uI t t = true
  | []=>rfl
  | x::t=>by simp[uI,a1A,cCA t]
theorem hKA : ∀ {a b : List Nd}, a.length ≠ b.length → uI a b = false
  | [],[],h=>absurd rfl h
  | x :: a, y :: b, h => by
    simp only[uI];rw[hKA (a:=a) (b:=b) (by simpa using h)];simp
  | [],y::b,h=>rfl
  | x::a,[],h=>rfl
def uDB(w0:World)(a b:List Nd)(i:Value)(wr:World):Prop:=∃ k:Nat,k≤a.length∧i = .int .i64 (k:Int)∧(uI a b=uI (a.drop k) (b.drop k))∧Under w0 wr
theorem lHA(a b:List Nd){u v:Value}(hn:a.length≤maxLen)(hu:TermV w0 u a)(hv:TermV w0 v b):Calls Tryz.prog 40 #[u,v] w0 fun e w=>e = .returned (.bool (uI a b))∧Under w0 w:=by
 obtain⟨p,c,rfl,_,_,hr⟩:=hu;obtain⟨p2,c2,rfl,_,_,hr2⟩:=hv;have HR:=aA hr;have HR2:=aA hr2;have hn0:(0:Int)≤(a.length:Int):=by omega
 have hn':(a.length:Int)≤9223372036854775807:=by unfold maxLen at hn;omega
 clear hr hn hr2;by_cases hl:a.length=b.length
 · have HLb := aA hl; have hl1 : ((a.length : Int) == (b.length : Int)) = true := by rw [hl]; simp
   rw[← hl]at hl1 ⊢;clear hl;go_enter Tryz.func40,Tryz.ntmps40;go_wp2;go_loopw [5] (fun i wr=>uDB w0 a b i wr) (fun i _=>a.length - (intOf i).toNat)
   case atStart=>exact⟨0,Nat.zero_le _,rfl,by simp,Under.refl _⟩
   case round =>
     obtain⟨k,hk,rfl,hN,hU⟩:=hrel;have HN:=aA hN;clear hN;by_cases hlt:k < a.length
     · have hlt2 : k < b.length := by rw [← HLb.out]; exact hlt
       obtain⟨b1,off1,rfl,hb1,c0,c1,c2,c3⟩:=RowArg.node HR.out (List.getElem?_eq_getElem hlt);obtain⟨b2,off2,rfl,hb2,d0,d1,d2,d3⟩:=RowArg.node HR2.out (List.getElem?_eq_getElem hlt2);rw[← fA hU hb1]at c0 c1 c2 c3;rw[← fA hU hb2]at d0 d1 d2 d3;have hb1':=Nat.lt_of_lt_of_le hb1 hU.size;have hb2':=Nat.lt_of_lt_of_le hb2 hU.size;have hd:uI (a.drop k) (b.drop k)=(aO a[k] b[k]&&uI (a.drop (k+1)) (b.drop (k+1))):=by rw[List.drop_eq_getElem_cons hlt,List.drop_eq_getElem_cons hlt2];rfl
       have HD:=aA hd;have HU:=aA hU;clear hd hU;generalize a[k]=x at *;generalize b[k]=y at *
       cases h1:(x.k==y.k)
       · skip
         have HX:RowKit.Hid (aO x y=false):=aA (by unfold aO;simp[*]);go_wp2_with fail;go_quiet (fail);go_wp2;go_ret;exact⟨by rw[HN.out,HD.out,HX.out];rfl,bB HU.out _⟩
       cases h2:(x.n==y.n)
       · skip
         have HX:RowKit.Hid (aO x y=false):=aA (by unfold aO;simp[*]);go_wp2_with fail;go_quiet (fail);go_wp2;go_ret;exact⟨by rw[HN.out,HD.out,HX.out];rfl,bB HU.out _⟩
       cases h3:(x.m==y.m)
       · skip
         have HX:RowKit.Hid (aO x y=false):=aA (by unfold aO;simp[*]);go_wp2_with fail;go_quiet (fail);go_wp2;go_ret;exact⟨by rw[HN.out,HD.out,HX.out];rfl,bB HU.out _⟩
       cases h4:(x.s.toList==y.s.toList)
       · skip
         have HX:RowKit.Hid (aO x y=false):=aA (by unfold aO;simp[*]);go_wp2_with fail;go_quiet (fail);go_wp2;go_ret;exact⟨by rw[HN.out,HD.out,HX.out];rfl,bB HU.out _⟩
       have HX:RowKit.Hid (aO x y=true):=aA (by unfold aO;rw[h1,h2,h3,h4];rfl);go_wp2_with fail;go_quiet (fail);go_wp2;go_roundw
       case rel=>exact⟨k+1,by omega,by go_num,by rw[HN.out,HD.out,HX.out];rfl,bB HU.out _⟩
       case measure=>simp[intOf];omega
     · obtain rfl : k = a.length := by omega
       have HE:RowKit.Hid (uI a b=true):=aA (by rw[HN.out,List.drop_length,HLb.out,List.drop_length];rfl);have HU:=aA hU;clear hU;go_wp2;go_ret;exact⟨by rw[HE.out];rfl,HU.out⟩
 · have HE := aA (hKA hl); have hl1 : ((a.length : Int) == (b.length : Int)) = false := by simp; omega
   clear hl;go_enter Tryz.func40,Tryz.ntmps40;go_wp2;go_ret;exact⟨by rw[HE.out];rfl,Under.refl _⟩
end
section
variable {w0 : World}
theorem fOA{t:List Nd}{x:Nd}{v:Value}(hn:t.length≤1000000)(hx:t[t.length - 1]? = some x)(hv:TermV w0 v t):Calls Tryz.prog 141 #[v] w0 fun e w=>e = .returned (ndV x)∧Under w0 w:=by
 obtain⟨p,c,rfl,_,_,hr⟩:=hv;have hpos:0 < t.length:=by have:=(List.getElem?_eq_some_iff.1 hx).1;omega
 obtain⟨b,off,rfl,hb,c0,c1,c2,c3⟩:=RowArg.node hr hx;have hb0:(b < w0.heap.size):=hb;obtain⟨m,hm⟩:∃ m,t.length=m+1:=⟨t.length - 1,by omega⟩;have hmi:((m:Int)+1 - 1)=(m:Int):=by omega
 rw[hm]at c0 c1 c2 c3 ⊢;simp only[Nat.add_sub_cancel]at c0 c1 c2 c3;have hm1:(m:Int)≤1000000:=by omega
 have hm0:(0:Int)≤(m:Int):=by omega
 clear hx hr hm hn hpos;go_enter Tryz.func141,Tryz.ntmps141;go_wp2;refine bodyPost_ret (v:=ndV x) ?_ rfl ⟨rfl,bA (Under.refl _) _⟩;simp[results,Tryz.f141,go_sem,ndV]
end
def lT(x:Nd):Bool:=(x.n==0)&&(x.m==0)&&x.s.toList.isEmpty
section
variable {w0 : World}
theorem bLA(x:Nd):Calls Tryz.prog 164 #[ndV x] w0 fun e w=>e = .returned (.bool (lT x))∧w=w0.alloc (.cells #[.int .i64 x.k,.int .i64 x.n,.int .i64 x.m,.string x.s] 112):=by
 have HO:RowKit.Hid (lT x=((x.n==0)&&(x.m==0)&&x.s.toList.isEmpty)):=aA rfl;generalize lT x=r at *;unfold ndV
 cases h1:(x.n==0)
 · rw[h1]at HO;go_enter Tryz.func164,Tryz.ntmps164;go_wp2;go_ret;exact⟨by rw[HO.out];rfl,rfl⟩
 · rw [h1] at HO
   cases h2:(x.m==0)
   · rw[h2]at HO;go_enter Tryz.func164,Tryz.ntmps164;go_wp2;go_ret;exact⟨by rw[HO.out];rfl,rfl⟩
   · rw [h2] at HO
     cases h3:x.s.toList.isEmpty
     all_goals
      rw[h3]at HO;go_enter Tryz.func164,Tryz.ntmps164;go_wp2;go_ret;exact⟨by rw[HO.out];rfl,rfl⟩
def wDA(n:Int):Bool:=decide (0≤n)&&decide (n≤9)
theorem g1A(n:Int):Calls Tryz.prog 181 #[.int .i64 n] w0 fun e w=>e = .returned (.bool (wDA n))∧w=w0:=by
 have HO:RowKit.Hid (wDA n=(decide (0≤n)&&decide (n≤9))):=aA rfl;generalize wDA n=r at *;by_cases h1:0≤n
 · by_cases h2 : n ≤ 9
   all_goals
    go_enter Tryz.func181,Tryz.ntmps181;go_wp2;go_ret;exact⟨by rw[HO.out];simp[h1];try omega,rfl⟩
 · go_enter Tryz.func181,Tryz.ntmps181;go_wp2;go_ret;exact⟨by rw[HO.out];simp;omega,rfl⟩
theorem jNA(n:Int):Calls Tryz.prog 163 #[.int .i64 n] w0 fun e w=>e = .returned (.int .i64 (if wDA n then 0 else 1))∧w=w0:=by
 have HL:=aA (g1A (w0:=w0) n)
 cases h:wDA n
 all_goals
  rw[h]at HL;go_enter Tryz.func163,Tryz.ntmps163;go_wp2_with fail;refine HL.out.mono ?_;rintro e w1 ⟨rfl,rfl⟩;go_wp2;go_ret;exact⟨rfl,rfl⟩
end
theorem gM(w:World)(base:Nat)(e:TypeId)(size:Nat)(hb:base≤w.heap.size):(w.alloc (.cells #[] e)).ownsRow base e size (.slice (some ⟨w.heap.size,0,none⟩) 0 0) 0 [] :=
 ⟨by simp,.inr ⟨w.heap.size,0,#[],rfl,hb,rA w _ _,Nat.le_refl _,by unfold maxLen;omega,by simp,by simp⟩⟩
def BOut(w0:World)(l:List Nat)(b:Bool)(e:Ending)(w:World):Prop:=∃ q c,e = .returned (.tuple #[.slice q l.length c,.bool b])∧l.length≤c∧RowArg w q (uE l)∧Under w0 w
def g7A:List (Int×List Nat):=[(4,[0,1]),(5,[0,0]),(15,[0,0]),(19,[0,0]),(23,[0,0]),(7,[0,0,0]),(18,[0,0,0]),(8,[0]),(9,[0]),(12,[0]),(28,[0]),(13,[1,0,2,0]),(20,[0,0,0,0]),(21,[0,0,1,0,0,0]),(22,[0,2,0,0,0]),(24,[0,1,0,0])]
section
variable {w0 : World}
theorem p9A(k n m:Int)(s:ByteArray)(l:List Nat)(h:(k,l)∈g7A):Calls Tryz.prog 142 #[ndV ⟨k,n,m,s⟩] w0 (BOut w0 l (lT ⟨k,n,m,s⟩)):=by
 obtain⟨i0,hi,hz0,hz1,hz2⟩:=info_parts Tryz.infoInt;obtain⟨x,Hx⟩:∃ x,RowKit.Hid (x=k):=⟨k,aA rfl⟩;have HPl:=aA (fun w=>bLA (w0:=w) ⟨k,n,m,s⟩);generalize lT ⟨k,n,m,s⟩=pb at *;unfold ndV at *;simp only at HPl ⊢;obtain⟨WN,HW⟩:∃ WN,RowKit.Hid (WN=w0.alloc (.cells #[.int .i64 x,.int .i64 n,.int .i64 m,.string s] 112)):=⟨_,aA rfl⟩;obtain⟨hs,HBx,HU⟩:WN.heap.size=w0.heap.size+1∧RowKit.Hid (BoxAt (WN.alloc (.cells #[] 3)) w0.heap.size 112 #[.int .i64 x,.int .i64 n,.int .i64 m,.string s])∧RowKit.Hid (Under w0 (WN.alloc (.cells #[] 3))):=by
  rw[HW.out];exact⟨by simp,(rA w0 _ _).alloc _,bA (bA (Under.refl _) _) _⟩
 have HR:=aA (hs▸gM WN (w0.heap.size+1) 3 1 (by omega));rw[← Hx.out]at HPl;simp only[g7A,List.mem_cons,Prod.mk.injEq,List.not_mem_nil,or_false]at h;rcases h with⟨rfl,rfl⟩ | ⟨rfl,rfl⟩ | ⟨rfl,rfl⟩ | ⟨rfl,rfl⟩ | ⟨rfl,rfl⟩ | ⟨rfl,rfl⟩ | ⟨rfl,rfl⟩ | ⟨rfl,rfl⟩ | ⟨rfl,rfl⟩ | ⟨rfl,rfl⟩ | ⟨rfl,rfl⟩ | ⟨rfl,rfl⟩ | ⟨rfl,rfl⟩ | ⟨rfl,rfl⟩ | ⟨rfl,rfl⟩ | ⟨rfl,rfl⟩
 all_goals
  go_enter Tryz.func142, Tryz.ntmps142; go_wp2_with fail; rw [← Hx.out, ← HW.out]; have Hs := aA hs; clear hs Hx HW; generalize WN.alloc (.cells #[] 3) = W1 at *; have c0 := HBx.out.cell 0; have c1 := HBx.out.cell 1; have c2 := HBx.out.cell 2; have c3 := HBx.out.cell 3; refine wp_region_noPanic ?_; go_region_held3 (fun w' => w'.cell? ⟨w0.heap.size, 0, none⟩ = some (.int .i64 x) ∧ w'.cell? ⟨w0.heap.size, 1, none⟩ = some (.int .i64 n) ∧ w'.cell? ⟨w0.heap.size, 2, none⟩ = some (.int .i64 m) ∧ w'.cell? ⟨w0.heap.size, 3, none⟩ = some (.string s))
    (first
      | exact⟨(HB2.out.alloc _).cell 0,(HB2.out.alloc _).cell 1,(HB2.out.alloc _).cell 2,(HB2.out.alloc _).cell 3⟩
      | exact⟨HBx.out.drew.cell 0,HBx.out.drew.cell 1,HBx.out.drew.cell 2,HBx.out.drew.cell 3⟩
      | exact⟨HB2.out.cell 0,HB2.out.cell 1,HB2.out.cell 2,HB2.out.cell 3⟩
      | exact⟨(HBx.out.alloc _).drew.cell 0,(HBx.out.alloc _).drew.cell 1,(HBx.out.alloc _).drew.cell 2,(HBx.out.alloc _).drew.cell 3⟩)
    (first
      | (go_at_call 164
         refine(HPl.out _).mono ?_;rintro e w3 ⟨rfl,rfl⟩)
      | (refine step_append_lies _ (by rfl) _ _ _ (by rfl) (w0.heap.size + 1) 3 i0 _ 1 8 Tryz.underlying123 hi hz0 hz1 hz2 rfl (by omega) _ 0 [] (by rfl) (HR.out.alloc _).drew ⟨W1.heap.size, 0, none⟩ _ _ _ (by rfl) (by rfl) (World.news_of_block (fr := (0, 0)) (heap_alloc_new W1 _)) (by simp [Value.oneCell']) (by omega) (by simp [maxLen]) (by simp) (by have := HBx.out.lt; simp; omega) (W1.heap.size + 1) (by simp) ?_
         intro gg cc w2 hown2 hgrow hat hlt;have HB2:=aA (BoxAt.grown ((HBx.out.alloc (.cells _ 3)).drew) hgrow (fun e=>by simp[Value.ownBlock]at e));have HU2:=aA (xA (nA (bA HU.out (.cells _ 3))) hgrow (fun g e=>by have:=HBx.out.lt;simp[Value.ownBlock]at e;omega));have HO2:=aA hown2;clear hown2 hgrow hat hlt))
  refine NoPanic.normal ?_;obtain⟨q,c,hv,hc,hr⟩:=RowArg.of_own HO2.out
  cases hv;go_wp2;go_ret2;exact⟨_,_,rfl,hc,hr.under (bA (Under.refl _) _),bA HU2.out _⟩
end
section
variable {w0 : World}
theorem Tryz.infoNdZ:(Tryz.prog.info? 112).map (fun i=>(i.zero,i.size,i.bytes))=some (some (.agg #[.int .i64 0,.int .i64 0,.int .i64 0,.string ⟨#[]⟩]),4,40):=by kernel_rfl
theorem yPA(t:List Nd):∀ u∈wB t,u.oneCell'=true:=by
 induction t with
 | nil=>intro u hu;simp[wB]at hu
 | cons x t ih =>
   intro u hu;simp only[wB,List.mem_cons]at hu;rcases hu with rfl | rfl | rfl | rfl | hu
   · rfl
   · rfl
   · rfl
   · rfl
   · exact ih u hu
theorem pQA(t:List Nd){a:Addr}{c:Nat}(hn:t.length≤2000000)(hc:t.length≤c)(hr:RowArg w0 (some a) (wB t)):Calls Tryz.prog 79 #[.slice (some a) t.length c] w0 fun e w=>∃ v,e = .returned v∧w.ownsRow w0.heap.size 112 4 v t.length (wB t)∧Under w0 w:=by
 obtain⟨i0,hi,hz0,hz1,hz2⟩:=info_parts Tryz.infoNdZ;have eqn:=Lib.run_eql_slice_nil (P:=Tryz.prog) w0 30 112 (some a) t.length c 0 0 Tryz.underlying30;have HR:=aA hr;clear hr;go_enter Tryz.func79,Tryz.ntmps79;go_wp2_with (at_builtin;refine nE rfl _ _ 30 rfl w0.heap.size 112 i0 _ 4 40 Tryz.underlying30 hi hz0 hz1 hz2 rfl (by decide) _ _ _ rfl (gM w0 w0.heap.size _ _ (Nat.le_refl _)) (some a) t.length c (wB t) rfl (gDA t) hc (fun h=>by cases h) (HR.out.under (bA (Under.refl _) _)) (yPA t) (by simp only[maxLen];omega) (by omega) (by simp) ?_);intro v1 w1 hown hgrow;replace hown:w1.ownsRow w0.heap.size 112 4 v1 t.length (wB t):=by simpa using hown
 have HO:=aA hown;have HU:=aA (xA (bA (Under.refl w0) _) hgrow fun z e=>by cases e;exact Nat.le_refl _);obtain⟨q,d,rfl,_,_⟩:=RowArg.of_own hown;clear hown hgrow;go_wp2;go_ret;exact⟨_,rfl,HO.out,HU.out⟩
theorem vP{w:World}{base:Nat}{e:TypeId}{v:Value}{t:List Nd}(h:w.ownsRow base e 4 v t.length (wB t)):TermV w v t:=by
 have hc:∀ q n c,v = .slice q n c→q=none→c=0:=by
  intro q n c e hq;subst hq;rcases h.2 with⟨rfl,_⟩ | ⟨g,cap,cur,e',_⟩
  · cases e;rfl
  · rw[e']at e;cases e
 obtain⟨q,c,rfl,h1,h2⟩:=RowArg.of_own h;exact⟨q,c,rfl,h1,hc q _ c rfl,h2⟩
theorem nY(t:List Nd){v:Value}(hn:t.length≤2000000)(hv:TermV w0 v t):Calls Tryz.prog 79 #[v] w0 fun e w=>∃ v',e = .returned v'∧w.ownsRow w0.heap.size 112 4 v' t.length (wB t)∧Under w0 w:=by
 obtain⟨p,c,rfl,hc,h0,hr⟩:=hv
 cases p with
 | none =>
   obtain rfl:=h0 rfl;obtain rfl:t=[]:=List.eq_nil_of_length_eq_zero (by omega);have eqn:=Lib.run_eql_slice_nil (P:=Tryz.prog) w0 30 112 none 0 0 0 0 Tryz.underlying30;clear hr;go_enter Tryz.func79,Tryz.ntmps79;go_wp2;go_ret;exact⟨_,rfl,World.ownsRow_nil _ _ _ _,Under.refl _⟩
 | some a=>exact pQA t hn hc hr
end
end Go.Proofs.YtggjbblgoddnjaaGreatDoor
