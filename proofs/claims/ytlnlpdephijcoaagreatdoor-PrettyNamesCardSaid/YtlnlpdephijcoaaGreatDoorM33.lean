/- Part 33 of what the proof rests on. -/
import Derived.Deep.RegionHeld3
import Derived.Test.YtlnlpdephijcoaaGreatDoorRows
import Derived.Deep.Slices
import Derived.Deep.Fields
import Derived.WideKeyArgs
import Derived.ProofKit
import Derived.LaidMore
import Derived.LaidLaws
import Derived.OpenShut
import Derived.ChangeAlike
import Derived.Stop.Joined
import Derived.Lib.LaidTab
import Derived.Carry
import Derived.LoopN
import Derived.Lib.ItoaLen
import Derived.Deep.QuietTactic
import Derived.Test.YtlnlpdephijcoaaGreatDoorM01
import Derived.Test.YtlnlpdephijcoaaGreatDoorM12
import Derived.Test.YtlnlpdephijcoaaGreatDoorM16
import Derived.Test.YtlnlpdephijcoaaGreatDoorM26
import Derived.Test.YtlnlpdephijcoaaGreatDoorM31
import Derived.Test.YtlnlpdephijcoaaGreatDoorM32
set_option linter.unusedSimpArgs false
set_option linter.unusedVariables false
set_option maxRecDepth 100000
set_option maxHeartbeats 4000000
namespace Go.Proofs.YtlnlpdephijcoaaGreatDoor
open Go.Lx Go.RowKit
section
variable {w0 : World} {t : List Nd} {c : Nat}
def o7A(w0:World)(t:List Nd)(l:Value)(e:Exit)(a:Act)(w:World):Prop :=
 match qC t 0 [] [] with
 | none=>dCB w0 e a w
 | some _=>z9A w0 t l t.length e a w
theorem rZA {p : Option Addr} (hn : t.length ≤ 4000) (hs : ∀ x ∈ t, x.s.size ≤ maxLen) (hp : RowArg w0 p (zB t)) (hS : ShapesAt 0 w0) (m : Nat) (a : Act) (w : World)
    (h0:∃ k,m+k=t.length∧wUA w0 t (.slice p t.length c) t.length k a w) :
    (Code.loop msRound).wp Tryz.prog (o7A w0 t (.slice p t.length c)) a w:=by
  refine wp_loop_ghost (fun m a w=>∃ k,m+k=t.length∧wUA w0 t (.slice p t.length c) t.length k a w) m h0 ?_;clear h0;rintro m a w ⟨k,hmk,va,vo,all,op,J,rfl,hM⟩;by_cases hkn:k=t.length
  · subst hkn; refine wp_mono (n6A J w hM) ?_; rintro e a' w' h; have hr := hM.res; rw [List.drop_length] at hr
    cases e with
    | normal=>exact h.elim
    | _=>unfold o7A;rw[← hr];exact h
  have hlt:k < t.length:=by omega
  obtain⟨b,off,rfl,hb,c0,c1,c2,c3⟩:=hp.node (List.getElem?_eq_getElem hlt);have hx:t[k]? = some t[k]:=List.getElem?_eq_getElem hlt;have hR:=fun w1 (hU:Under w0 w1)=>zR t[k] w1 (hs _ (List.getElem_mem hlt)) (hS.under hU)
  have hN:=fun(hr:nA t[k]=true) w1 (hU:Under w0 w1)=>kGA t[k] w1 (hS.under hU) hr
  by_cases hbad:nA t[k]=false∨op.length < (binds t[k]).length
  · have hnone : qC t 0 [] [] = none := by
      rw[← hM.res,List.drop_eq_getElem_cons hlt]
      show(if nA t[k]=false∨op.length < (binds t[k]).length then none else _)=none
      rw[if_pos hbad]
    refine wp_mono (zAB hlt hn hx hbad J w hM hR hN hb c0 c1 c2 c3) ?_;rintro e a' w' h
    cases e with
    | normal=>exact h.elim
    | _=>unfold o7A;rw[hnone];exact h
  · have hr : nA t[k] = true := by cases h : nA t[k] with
      | true=>rfl
      | false=>exact absurd (.inl h) hbad
    have hl:¬ op.length < (binds t[k]).length:=fun h=>hbad (.inr h)
    rw[hr]at hR;refine wp_mono (xBB (kk:=op.length - (binds t[k]).length) (bl:=(binds t[k]).length) hlt hn hx hr rfl (by omega) (fun y hy=>by have:=hM.dp y hy;omega) J w hM hR (hN hr) hb c0 c1 c2 c3) ?_;rintro e a' w' h
    cases e with
    | normal=>exact⟨m - 1,by omega,k+1,by omega,h⟩
    | _=>exact h.elim
theorem cFA:∀(t:List Nd) (k:Nat) (all op:List (Nat×Nat)) {r:List (Nat×Nat)×List (Nat×Nat)},all.length=k→op.length≤k→qC t k all op=some r→r.1.length=k+t.length∧r.2.length≤k+t.length:=by
 intro t
 induction t with
 | nil=>intro k all op r h1 h2 h;cases h;exact⟨h1,h2⟩
 | cons x t ih =>
   intro k all op r h1 h2 h;simp only[qC]at h
   split at h
   · cases h
   · have:=ih (k+1) _ _ (by rw[List.length_append,h1];rfl) (by rw[List.length_append,List.length_take,List.length_singleton];omega) h;rw[List.length_cons];omega
theorem pKA(t:List Nd){p:Option Addr}(hn:t.length≤4000)(hs:∀ x∈t,x.s.size≤maxLen)(hp:RowArg w0 p (zB t))(hS:ShapesAt 0 w0) :
 Calls Tryz.prog 102 #[.slice p t.length c] w0 (zZA w0 t):=by
 have HL:=Lib.hid (fun m a w h=>rZA (w0:=w0) (c:=c) (t:=t) hn hs hp hS m a w h);clear hp hs hS;go_enter Tryz.func102,Tryz.ntmps102;go_wp2;rename_i K hK;refine wp_mono (HL.out t.length _ _ ⟨0,by omega,.slice none 0 0,.slice none 0 0,[],[],rA (F:=jH _ _ _ _ 0) (by rfl) ⟨World.ownsRow_nil _ _ _ _,World.ownsRow_nil _ _ _ _,.inl rfl,Under.refl _,rfl,rfl,Nat.le_refl _,fun y hy=>by simp at hy⟩⟩) ?_;rintro e a' w' h;unfold o7A at h
 cases hR:qC t 0 [] [] with
 | none =>
   rw[hR]at h;obtain⟨rfl,J,rfl,hU⟩:=h;simp only[Exit.inBlock,Exit.then];go_ret2;unfold zZA;rw[hR];exact⟨rfl,hU⟩
 | some r =>
   rw[hR]at h;obtain⟨rfl,va,vo,all,op,J,rfl,hM⟩:=h;have hr:=hM.res;rw[List.drop_length,hR]at hr;obtain rfl:(all,op)=r:=Option.some.inj hr;simp only[Exit.inBlock,if_pos,Exit.then];refine hK _ _ ?_;clear hK;obtain⟨q,co,rfl,_,_⟩:=RowArg.of_own hM.op_;have HM:=Lib.hid hM;have HR:=Lib.hid hR;have hol:op.length≤4000:=by have:=hM.ol;omega
   clear hM hR hr;unfold jH;go_wp2;go_ret2;unfold zZA;rw[HR.out];exact⟨va,rfl,HM.out.all_,HM.out.low⟩
def kVA(w0:World)(t:List Nd)(e:Ending)(w:World):Prop :=
 Under w0 w ∧ if vB t = 0 then ∃ v all op, qC t 0 [] [] = some (all, op) ∧ e = .returned (.tuple #[v, .int .i64 0]) ∧ w.ownsRow w0.heap.size 169 2 v all.length (aD all)
   else e = .returned (.tuple #[.slice none 0 0,.int .i64 (vB t)])
theorem lZ{w w1:World}{e:Int}(h:vB t=e)(he:e≠0)(hU:Under w w1):kVA w t (.returned (.tuple #[.slice none 0 0,.int .i64 e])) w1:=⟨hU,by rw[if_neg (by rw[h];exact he),h]⟩
theorem hNA(t:List Nd){p:Option Addr}(hn:t.length≤maxLen)(hs:∀ x∈t,x.s.size≤maxLen)(hp:RowArg w0 p (zB t))(hS:ShapesAt 0 w0) :
 Calls Tryz.prog 62 #[.slice p t.length c] w0 (kVA w0 t):=by
 unfold maxLen at hn;by_cases hbig:4000 < t.length
 · have he : vB t = 21 := by unfold vB; rw [if_pos hbig]
   have HE:=Lib.hid he;clear he hp hs hS;go_enter Tryz.func62,Tryz.ntmps62;go_wp2;go_ret2;exact lZ HE.out (by decide) (Under.refl _)
 have HC:=Lib.hid (pKA (c:=c) t (by omega) hs hp hS);clear hp hs hS
 cases hR:qC t 0 [] [] with
 | none =>
   have he:vB t=20:=by unfold vB;rw[if_neg hbig,hR]
   have HE:=Lib.hid he;have HR:=Lib.hid hR;clear he hR;go_enter Tryz.func62,Tryz.ntmps62;go_wp2_with fail;refine HC.out.mono ?_;intro e w1 h;unfold zZA at h;rw[HR.out]at h;obtain⟨rfl,hU⟩:=h;have HU:=Lib.hid hU;clear hU;go_wp2;go_ret2;exact lZ HE.out (by decide) HU.out
 | some r =>
   obtain⟨all,op⟩:=r;obtain⟨hl1,hl2⟩:=cFA t 0 [] [] rfl (Nat.le_refl _) hR;simp only[Nat.zero_add]at hl1 hl2;by_cases ho:op.length=1
   · have hd : ∃ m d f, all.length = m + 1 ∧ all.getLastD (0, 0) = (f, d) ∧ all[m]? = some (f, d) := by
       refine⟨all.length - 1,_,_,by omega,rfl,?_⟩
       cases all with
       | nil=>simp at hl1;omega
       | cons y l=>simp[List.getLast_eq_getElem]
     obtain⟨m,d,f,hm,hg,ha⟩:=hd;obtain⟨ca,cb⟩:=jO ha;have he:vB t=if 60 < d then 22 else 0:=by unfold vB;rw[if_neg hbig,hR];simp only[ho,hg];simp
     have ho':decide ((op.length:Int)=1)=true:=by rw[ho];rfl
     have HE:=Lib.hid he;have HR:=Lib.hid hR;have HO:=Lib.hid ho';have HB:=Lib.hid cb;have hm4:m < 4000:=by omega
     have HMm:=Lib.hid hm;clear he hR ho ho' ca cb ha hg hl1 hl2 hm;have hm0:(0:Int)≤m:=Int.natCast_nonneg _;by_cases h60:60 < d
     all_goals
      have h60':decide ((60:Int) < d)=decide (60 < d):=by simp;omega
      go_enter Tryz.func62,Tryz.ntmps62;go_wp2_with fail;refine HC.out.mono ?_;intro e w1 h;unfold zZA at h;rw[HR.out]at h;obtain⟨v,rfl,hv,hU⟩:=h;rw[HO.out];have hv':=hv;rw[HMm.out]at hv;obtain⟨g,gc,rfl,hgo,_,hgl,_,_⟩:=wC hv (by omega);have e1:=lC hv hgo HB.out;have HU:=Lib.hid hU;have HV:=Lib.hid hv';clear hU hv hv';go_wp2;go_ret2
     · exact lZ (by rw[HE.out,if_pos h60]) (by decide) HU.out
     · exact⟨HU.out,by rw[HE.out,if_neg h60,if_pos rfl];exact⟨_,all,op,HR.out,rfl,HV.out⟩⟩
   · have he : vB t = 20 := by unfold vB; rw [if_neg hbig, hR]; simp only; rw [if_pos ho]
     have ho':decide ((op.length:Int)=1)=false:=by simp;omega
     have HE:=Lib.hid he;have HR:=Lib.hid hR;have HO:=Lib.hid ho';clear he hR ho ho' hl1 hl2;go_enter Tryz.func62,Tryz.ntmps62;go_wp2_with fail;refine HC.out.mono ?_;intro e w1 h;unfold zZA at h;rw[HR.out]at h;obtain⟨v,rfl,_,hU⟩:=h;rw[HO.out];have HU:=Lib.hid hU;clear hU;go_wp2;go_ret2;exact lZ HE.out (by decide) HU.out
theorem bS(t:List Nd){p:Option Addr}(hn:t.length≤maxLen)(hs:∀ x∈t,x.s.size≤maxLen)(hp:RowArg w0 p (zB t))(hS:ShapesAt 0 w0) :
 Calls Tryz.prog 29 #[.slice p t.length c] w0 fun e w=>e = .returned (.int .i64 (vB t))∧Under w0 w:=by
 have HC:=Lib.hid (hNA (c:=c) t hn hs hp hS);clear hp hs hS;by_cases h0:vB t=0
 all_goals
  have H0:=Lib.hid h0;clear h0;go_enter Tryz.func29,Tryz.ntmps29;go_wp2_with fail;refine HC.out.mono ?_;intro e w1 ⟨hU,h⟩;have HU:=Lib.hid hU;clear hU
 · rw[if_pos H0.out]at h;obtain⟨v,all,op,_,rfl,_⟩:=h;go_wp2;go_ret;exact⟨uL H0.out.symm,HU.out⟩
 · rw[if_neg H0.out]at h;subst h;go_wp2;go_ret;exact⟨rfl,HU.out⟩
end
section
variable {w0 : World}
theorem xRA(p1 p2:Option Addr)(n1 n2 d1 d2:Nat):Calls Tryz.prog 27 #[.agg #[.slice p1 n1 d1,.slice p2 n2 d2]] w0 fun e w=>∃ rb m1 m2,e = .returned (.pointer (some ⟨rb,0,none⟩))∧ReS w0 rb m1 m2 (.slice p1 n1 d1) (.slice p2 n2 d2) (.slice none 0 0) [] 0 0 w:=by
 have HU0 := Lib.hid (aA (Under.refl w0) (.cells #[.slice p1 n1 d1, .slice p2 n2 d2] 24)); go_enter Tryz.func27, Tryz.ntmps27; go_wp2_with fail; go_region_held3 (fun w' => w'.cell? ⟨w0.heap.size, 0, none⟩ = some (.slice p1 n1 d1) ∧ w'.cell? ⟨w0.heap.size, 1, none⟩ = some (.slice p2 n2 d2))
   (first
     | go_keep
     | (go_split_ands
        refine⟨?_,?_⟩
        · (rw[jA hU2 (by have:=hU1.size;simp at this ⊢;omega)];assumption)
        · (rw[jA hU2 (by have:=hU1.size;simp at this ⊢;omega)];assumption))
     | (go_split_ands
        refine⟨?_,?_⟩
        · (rw[jA hU1 (by simp)];assumption)
        · (rw[jA hU1 (by simp)];assumption)))
   (first
     | (go_simp;go_at_call 53;refine(zVA (w0:=_)).mono ?_;rintro e w1 ⟨rfl,hM1,hU1⟩)
     | (go_simp;go_at_call 54;refine(sXA (w0:=_)).mono ?_;rintro e w2 ⟨rfl,hM2,hU2⟩))
 have hM1':MapAt w1 (w0.heap.size+1) formsL:=by simpa using hM1
 have hB:=yA w2 #[.slice p1 n1 d1,.slice p2 n2 d2,.map (some (w0.heap.size+1)),.map (some w1.heap.size),.slice none 0 0,.int .i64 0,.int .i64 0] 63;have hU3:=aA (Under.refl w2) (.cells #[.slice p1 n1 d1,.slice p2 n2 d2,.map (some (w0.heap.size+1)),.map (some w1.heap.size),.slice none 0 0,.int .i64 0,.int .i64 0] 63);have hUa:=(((bA HU0.out).trans hU1).trans hU2).trans hU3;have hlo:w0.heap.size≤w2.heap.size:=by have:=hU1.size;have:=hU2.size;simp at *;omega
 have HT:RowKit.Hid (ReS w0 w2.heap.size (w0.heap.size+1) w1.heap.size (.slice p1 n1 d1) (.slice p2 n2 d2) (.slice none 0 0) [] 0 0 _):=Lib.hid ⟨hB,(hM1'.under hU2).under hU3,hM2.under hU3,World.ownsRow_nil _ _ _ _,hUa,hlo⟩;have HUa:=Lib.hid hUa;clear hM1 hM1' hM2 hU1 hU2 hU3 hB hUa hlo;go_wp2;go_ret;exact⟨_,_,_,rfl,HT.out⟩
def TermOut(w0:World)(R:Say)(e:Ending)(w:World):Prop:=Under w0 w∧match R with
 | .ok t=>∃ v,e = .returned (.tuple #[v,.int .i64 0,.int .i64 0])∧TermV w v t
 | .error (c,p)=>e = .returned (.tuple #[.slice none 0 0,.int .i64 p,.int .i64 c])
theorem aYA(T:ST){q:Option Addr}{cap:Nat}(cs ds:List ByteArray)(hok:okS T)(hn:(jB T).length≤20000)(hcap:(jB T).length≤cap)(hq:SxArg w0 q (jB T))(hw:∀ x∈jB T,x.word.size≤1000000)(hE:StrcAt w0)(hS:ShapesAt 0 w0){p1 p2:Option Addr}{d1 d2:Nat}(hcs:TextsV w0 (.slice p1 cs.length d1) cs)(hds:TextsV w0 (.slice p2 ds.length d2) ds)(hcn:cs.length≤1000000)(hdn:ds.length≤1000000) :
 Calls Tryz.prog 9 #[.agg #[.slice p1 cs.length d1,.slice p2 ds.length d2],.slice q (jB T).length cap] w0 (TermOut w0 (rJA cs ds T)):=by
 have HU0:=Lib.hid (aA (Under.refl w0) (.cells #[.slice p1 cs.length d1,.slice p2 ds.length d2] 24));have HB0:=Lib.hid (yA w0 #[.slice p1 cs.length d1,.slice p2 ds.length d2] 24);have HI:=Lib.hid (iJA (w0:=w0.alloc (.cells #[.slice p1 cs.length d1,.slice p2 ds.length d2] 24)) (cap:=cap) (p:=q) (jB T) (by omega) hcap (hq.under HU0.out));have hit:vM (jB T)=some [jB T]:=by
  have:=gV (ts:=[T]) ⟨hok,trivial⟩
  simpa [iA] using this
 rw [hit] at HI; have hp := aP T; have HN := Lib.hid (fun w1 => xRA (w0 := w1) p1 p2 cs.length ds.length d1 d2); have HLen := Lib.hid (fun t (ht : pJ cs ds T [] = .ok t) => And.intro (oGA T _ _ ht) (uTA T _ _ ht)); have HT := Lib.hid (k0A T); have HQ := Lib.hid hq; have HL := Lib.hid (fun w1 (hU : Under w0 w1) => fJ (w0 := w1) T (q := q) (cap := cap) (by omega) (hq.under hU)); have HFl := Lib.hid (And.intro hn hcap); have HD : RowKit.Hid (rJA cs ds T = match pJ cs ds T [] with | .error x => .error x | .ok t => if vB t = 0 then .ok t else .error (vB t, T.last.pos)) := Lib.hid rfl; generalize rJA cs ds T = TS at *; clear hq hit hn hcap; go_enter Tryz.func9, Tryz.ntmps9; go_wp2_with fail; refine HI.out.mono ?_; rintro e w1 ⟨hU1, vo, vs, rfl, h1, h2⟩; obtain ⟨q2, c2, rfl, _⟩ := RowArg.of_own h1; have HU1 := Lib.hid (HU0.out.trans hU1); have hb1 := HB0.out.under hU1; have e0 : w1.cell? ⟨w0.heap.size, 0, none⟩ = some (.slice p1 cs.length d1) := hb1.cell 0; have e1 : w1.cell? ⟨w0.heap.size, 1, none⟩ = some (.slice p2 ds.length d2) := hb1.cell 1; have el := hb1.lt; have h11 : ([jB T] : List (List Sx)).length = 1 := rfl; rw [h11]; clear hU1 h1 h2 HI hb1 h11; go_wp2_with fail; refine (HN.out _).mono ?_; rintro e w2 ⟨rb, m1, m2, rfl, hR2⟩; have HR2 := Lib.hid hR2; have HU2 := Lib.hid (HU1.out.trans hR2.und); have hrb := hR2.lo; have HCa := Lib.hid (HT.out w1 w2 rb m1 m2 _ _ _ [] 0 0 q cap (.slice none 0 0) [] cs ds hok HFl.out.1 HFl.out.2 hw (hE.under HU1.out) (hcs.under HU1.out) (hds.under HU1.out) hcn hdn hR2 (HQ.out.under HU2.out) (by
   intro b off x e hr;obtain⟨b',off',e',hb',_⟩:=HQ.out (fun e=>by rw[e]at hp;exact absurd hp (Nat.lt_irrefl _));rw[e]at e';cases e';rcases hr with rfl | hr
   · have:=HU1.out.size;omega
   · cases hr) (TextsV.nil _) (fun q n c e hne=>by cases e;exact absurd rfl hne) (by have:=HFl.out.1;simp;omega) (by have:=HFl.out.1;simp;omega))
 clear hR2 HN e0 e1 el;rcases hs:pJ cs ds T [] with⟨ec,ep⟩ | t
 · have HE : RowKit.Hid (TS = .error (ec, ep)) := Lib.hid (by rw [HD.out, hs]); rw [hs] at HCa; go_wp2_with fail; refine HCa.out.mono ?_; rintro e w3 ⟨ov', acc', p', e', g1, g2, g3, rfl, rfl, rfl⟩; have b5 := g1.box.cell 5; have b6 := g1.box.cell 6; have bl := g1.box.lt; have HG := Lib.hid g1.und; have bb := And.intro b5 b6; clear g1 g2 g3 HCa; go_wp2_with fail; go_region_held3 (fun w' => w'.cell? ⟨rb, 5, none⟩ = some (.int .i64 p') ∧ w'.cell? ⟨rb, 6, none⟩ = some (.int .i64 e'))
     (first
       | exact bb
       | go_keep)
     (fail)
   rename_i hHeld;clear hHeld bb b5 b6;go_wp2;go_ret3;rw[HE.out];exact⟨HU1.out.trans (HG.out.trans (bA (Under.refl _))),rfl⟩
 · rw [hs] at HCa; go_wp2_with fail; refine HCa.out.mono ?_; rintro e w3 ⟨ov', acc', p', e', g1, g2, g3, rfl, hacc⟩; obtain rfl : t = acc' := by rw [hacc]; rfl
   clear hacc; have HG := Lib.hid g1; obtain ⟨qo, co, rfl, hco, hro⟩ := RowArg.of_own g1.row; have b4 := g1.box.cell 4; have bl := g1.box.lt; obtain ⟨L1, L2⟩ := HLen.out t hs; have HCk := Lib.hid (bS (w0 := w3) (c := co) t (by have := HFl.out.1; simp only [maxLen]; omega) (fun x hx => by have := L2 x hx; simp only [maxLen]; omega) hro ((hS.under HU1.out).under g1.und)); have HTv := Lib.hid (show TermV w3 (.slice qo t.length co) t from ⟨qo, co, rfl, hco, (fun e => by
     subst e;rcases g1.row.2 with⟨e,_⟩ | ⟨g,c,cur,e,_⟩
     · injection e
     · injection e with e1;cases e1),hro⟩)
   have HU3:=Lib.hid (HU1.out.trans g1.und);clear g1 g2 g3 HCa hco hro L1 L2;go_wp2_with fail;refine HCk.out.mono ?_;rintro e w4 ⟨rfl,hU4⟩;have HBx:=Lib.hid (HG.out.box.under hU4);have HU4:=Lib.hid (HU3.out.trans hU4);have HT4:=Lib.hid (TermV.mono _ _ _ _ hU4 HTv.out);have b4:=HBx.out.cell 4;have bl:=HBx.out.lt;clear hU4
   cases hc:(vB t != 0)
   · have hc0 : vB t = 0 := by simpa using hc
     have HE:RowKit.Hid (TS = .ok t):=Lib.hid (by rw[HD.out,hs];simp only;rw[if_pos hc0]);clear hc0;go_wp2;go_ret3;rw[HE.out];exact⟨HU4.out,_,rfl,HT4.out⟩
   · have hc0 : ¬ vB t = 0 := by simpa using hc
     have HE:RowKit.Hid (TS = .error (vB t,T.last.pos)):=Lib.hid (by rw[HD.out,hs];simp only;rw[if_neg hc0]);have HFd:=fun(a b:Int) (s:ByteArray) (w:World)=>(show(Instr.field 29 (.agg #[.int .i64 a,.int .i64 b,.string s]) 1).run Tryz.prog w = .ok (.int .i64 b) w by kernel_rfl)
     have HLt:=Lib.hid (HL.out _ HU4.out);unfold sxV at HLt;clear hc0;go_wp2_with fail;refine HLt.out.mono ?_;rintro e w5 ⟨rfl,hU5⟩;have HU5:=Lib.hid (HU4.out.trans hU5);clear hU5;go_wp2;go_ret3;rw[HE.out];exact⟨HU5.out,rfl⟩
end
end Go.Proofs.YtlnlpdephijcoaaGreatDoor
namespace Go.Proofs.YtlnlpdephijcoaaGreatDoor
open Go.ChangeShapes Go.WideShapes Go.ChangeAt Go.WideMaps Go.WideElems Go.RowKit Go.Lx Go.Deep Go.Conc
theorem Tryz.own:ownKnob Tryz.prog.godebug=none:=by kernel_rfl
theorem Tryz.laidOut:laidOutB Tryz.prog=true:=by kernel_rfl
theorem gShapes : Tryz.prog.globalNamed "cornice/term.shapes" = some 0 := by kernel_rfl
theorem tShapes:(Tryz.prog.globals[0]?).map (·.type)=some 189:=by kernel_rfl
theorem tPow:(Tryz.prog.globals[3]?).map (·.type)=some 259:=by kernel_rfl
theorem gErrS : Tryz.prog.globalNamed "strconv.ErrSyntax" = some 1 := by kernel_rfl
theorem gErrR : Tryz.prog.globalNamed "strconv.ErrRange" = some 2 := by kernel_rfl
theorem tErrS:(Tryz.prog.globals[1]?).map (·.type)=some 163:=by kernel_rfl
theorem tErrR:(Tryz.prog.globals[2]?).map (·.type)=some 163:=by kernel_rfl
def hCA {H : Type} : List (String × DataW H) := [("math/bits.deBruijn32tab", Rows.laid_math_bits_deBruijn32tab), ("math/bits.deBruijn64tab", Rows.laid_math_bits_deBruijn64tab), ("internal/strconv.uint64pow10", Rows.laid_internal_strconv_uint64pow10), ("cornice/term.shapes", Rows.laid_cornice_term_shapes), ("strconv.ErrRange", Rows.laid_strconv_ErrRange), ("strconv.ErrSyntax", Rows.laid_strconv_ErrSyntax)]
theorem xYA{H:Type}:(Rows.laid_cornice_term_shapes:DataW H) = .agg ((List.range 30).map qSA):=by kernel_rfl
theorem jBB{H:Type}:(Rows.laid_internal_strconv_uint64pow10:DataW H)=Lib.tabData .u64 Lib.pow10Tab:=by kernel_rfl
theorem tPA(os:Os)(args:Array Value):laidMetH Tryz.prog hCA ((World.doorLaid Tryz.prog 400 os).forCall (fun _ _=>0) ⟨#[],args,[]⟩).memory :=
 laidMetH_of_parts3 (fuel:=8) (laidMet_of_run' 8 (by kernel_rfl) (by kernel_rfl)) (by kernel_rfl) (by kernel_rfl)
theorem dQA{H:Type}{enc:TypeId×Value→H}{W:World}{base:Nat}{sp:Nat→Bool}{fuel g:Nat}{nm n:String}{d:DataW H}{cs:Array Value}{q:List MemPlace}(hg:Tryz.prog.globalNamed n=some g)(hv:W.var? Tryz.prog n=some cs)(h:DataW.trod enc Tryz.prog W base sp false fuel 163 cs.toList=some (.iface nm d,q)):∃ v,W.cell? ⟨g,0,none⟩=some v∧m4A v:=by
 obtain⟨_,u,v,e,_⟩:=iface_of_trod Tryz.underlying163 h;obtain⟨cs⟩:=cs;obtain rfl:cs=[.iface u v]:=e;exact⟨_,by rw[World.var?_cell hg hv 0];rfl,.inr ⟨u,v,rfl⟩⟩
theorem yUA{W:World}(h:laidMetH Tryz.prog hCA W):StrcAt W∧ShapesAt 0 W:=by
 rw[MakeChecks.laidMetH_plain _ _ _ (by kernel_rfl)]at h;obtain⟨ps,⟨_,_,_,_,_,_,_,_,_,_,⟨_,_,_,_,_,_,_,_,_,_,⟨g2,t2,cs2,f2,p2,q2,hg2,ht2,hv2,hd2,⟨g3,t3,cs3,f3,p3,q3,hg3,ht3,hv3,hd3,⟨g4,t4,cs4,f4,p4,q4,hg4,ht4,hv4,hd4,⟨g5,t5,cs5,f5,p5,q5,hg5,ht5,hv5,hd5,_,_⟩,_⟩,_⟩,_⟩,_⟩,_⟩,_,_⟩:=h;obtain rfl:=Option.some.inj (gShapes.symm.trans hg3);obtain rfl:=Option.some.inj (gPow.symm.trans hg2);obtain rfl:=Option.some.inj (gErrR.symm.trans hg4);obtain rfl:=Option.some.inj (gErrS.symm.trans hg5);obtain rfl:=Option.some.inj (tShapes.symm.trans ht3);obtain rfl:=Option.some.inj (tPow.symm.trans ht2);obtain rfl:=Option.some.inj (tErrR.symm.trans ht4);obtain rfl:=Option.some.inj (tErrS.symm.trans ht5);refine⟨⟨dQA hg5 hv5 hd5,dQA hg4 hv4 hd4,?_⟩,?_⟩
 · rw [jBB] at hd2
   show W.var? Tryz.prog "internal/strconv.uint64pow10" = _
   rw[hv2,← Lib.cells_of_tab Tryz.underlying259 Tryz.underlying229 (by kernel_rfl) (by kernel_rfl) hd2]
 · rw[xYA]at hd3;exact nPA (cs:=cs3.toList) (fun j=>by rw[World.var?_cell hg3 hv3 j];simp) Tryz.underlying189 (by kernel_rfl) Tryz.underlying188 (by kernel_rfl) Tryz.underlying105 Tryz.underlying3 (by kernel_rfl) Tryz.underlying4 Tryz.underlying4 Tryz.underlying4 hd3
section
variable {H : Type} {enc : TypeId × Value → H} {w : World} {spare : Nat → Bool} {held : Bool} {fuel : Nat} {cs : List Value} {x : DataW H × List MemPlace}
theorem kAB(h:DataW.trod enc Tryz.prog w 0 spare held fuel 30 cs=some x):∃ v l,cs=[v]∧TermV w v l :=
 gUA Tryz.underlying30 Tryz.underlying76 (by kernel_rfl) (by kernel_rfl) Tryz.underlying3 Tryz.underlying3 Tryz.underlying3 Tryz.underlying9 h
theorem jAB(h:DataW.trod enc Tryz.prog w 0 spare held fuel 22 cs=some x):∃ v l,cs=[v]∧TextsV w v l :=
 lNA Tryz.underlying22 Tryz.underlying9 (by kernel_rfl) h
theorem wLA {W w : World} {t : TypeId} {v : Value} {d : DataW H} {ps : List MemPlace} (hr : Tryz.prog.readableRec t = true) (hrow : t < Tryz.prog.types.size) (hU : Under W w) (dd : Nat)
    (hlt:∀ p∈ps,p.block < W.heap.size) (h:DataW.Trod enc Tryz.prog W 0 (fun _=>true) true t v d ps):DataW.Trod enc Tryz.prog (re w W.tape dd) 0 (fun b=>decide (b < W.heap.size)) true t v d ps:=by
  refine Go.WideElems.Trod_stays Tryz.laidOut hr hrow h (fun p hp=>?_) (fun p hp=>by simpa using hlt p hp);have hb:=hlt p hp
  cases p with
  | cell b off=>exact jA (hU.re W.tape dd) hb off
  | map b=>exact(hU.re W.tape dd).low b hb
end
theorem qJA{W w:World}(h:Under W w)(d:Nat):Below W.heap.size W (re w W.tape d):=⟨h.os,rfl,h.output,h.size,fun b hb=>h.low b hb⟩
theorem qHA{H:Type}{enc:TypeId×Value→H}{W:World}{base:Nat}{sp:Nat→Bool}{held:Bool}(b:Bool):DataW.Trod enc Tryz.prog W base sp held 4 (.bool b) (.lit (.bool b)) []:=⟨1,by simp[DataW.trod,Value.cells,Tryz.underlying4]⟩
end Go.Proofs.YtlnlpdephijcoaaGreatDoor
namespace Go.Proofs.YtlnlpdephijcoaaGreatDoor
open Go.Lx Go.RowKit
def mG(k:Nat):Value:=.agg #[.string (kJ k)]
def vE:vK:=[(2,mG 2),(3,mG 3),(4,mG 4),(5,mG 5),(6,mG 6),(7,mG 7),(8,mG 8),(9,mG 9),(10,mG 10),(11,mG 11),(12,mG 12),(13,mG 13),(14,mG 14),(15,mG 15),(16,mG 16),(17,mG 17),(18,mG 18),(19,mG 19),(20,mG 20),(21,mG 21),(22,mG 22),(23,mG 23),(24,mG 24),(25,mG 25),(26,mG 26),(27,mG 27),(28,mG 28),(29,mG 29)]
theorem pQA(k:Nat)(hk:k < 30):(nIA vE (k:Int)).getD (.agg #[.string ⟨#[]⟩])=mG k:=by
 have h:∀ k:Nat,k < 30→(nIA vE (k:Int)).getD (.agg #[.string ⟨#[]⟩])=mG k:=by
  intro k hk;rcases(by omega:k=0∨k=1∨k=2∨k=3∨k=4∨k=5∨k=6∨k=7∨k=8∨k=9∨k=10∨k=11∨k=12∨k=13∨k=14∨k=15∨k=16∨k=17∨k=18∨k=19∨k=20∨k=21∨k=22∨k=23∨k=24∨k=25∨k=26∨k=27∨k=28∨k=29) with rfl | rfl | rfl | rfl | rfl | rfl | rfl | rfl | rfl | rfl | rfl | rfl | rfl | rfl | rfl | rfl | rfl | rfl | rfl | rfl | rfl | rfl | rfl | rfl | rfl | rfl | rfl | rfl | rfl | rfl<;>kernel_rfl
 exact h k hk
theorem jMA{w:World}{b:Nat}{ks ks':vK}(h:MapIAt w b ks)(e:ks=ks'):MapIAt w b ks':=e▸h
section
variable {w0 : World}
theorem nXA:Calls Tryz.prog 42 #[] w0 fun e w=>e = .returned (.map (some w0.heap.size))∧MapIAt w w0.heap.size vE∧Under w0 w:=by
 have hmm:=@run_makeMap Tryz.prog;have hM:=r1A w0;have hU:=aA (Under.refl w0) (.map #[] 0);go_enter Tryz.func42,Tryz.ntmps42;go_wp2_with (refine kY rfl _ _ _ rfl Tryz.underlying89 Tryz.underlying3 rfl hM rfl rfl (by kernel_rfl) ?_;intro w1 hM1 hT1;replace hU:=hT1.under hU (Nat.le_refl _);replace hM:=hM1;clear hM1 hT1);go_ret;exact⟨rfl,jMA hM (by kernel_rfl),hU⟩
end
def iEA(k:Int):ByteArray:=⟨#[120]⟩++⟨(Lib.itoa (max k 0)).toArray⟩
section
variable {w0 : World}
theorem uJA(k:Int)(h0 : -9223372036854775808≤k)(h1:k≤9223372036854775807)(hT:Pow10 w0):Calls Tryz.prog 40 #[.int .i64 k] w0 fun e w=>e = .returned (.string (iEA k))∧Under w0 w:=by
 have HN:RowKit.Hid (iEA k=⟨#[120]⟩++⟨(Lib.itoa (max k 0)).toArray⟩):=Lib.hid rfl;by_cases hk:0≤k
 · have hm : max k 0 = k := by omega
   rw[hm]at HN;have HI:=Lib.hid (Tryz.strconv_Itoa k h0 h1 w0 hT);generalize iEA k=nz at *;have hL:¬ 9223372036854775807 < 1+(Lib.itoa k).toArray.size:=by have:=Lib.itoa_length_le k h0 h1;simp;omega
   generalize (Lib.itoa k).toArray=L at *;clear hT;go_enter Tryz.func40,Tryz.ntmps40;go_wp2_with fail;refine HI.out.mono ?_;rintro e w1 ⟨rfl,kk,os,rfl⟩;have HU:=Lib.hid (qK (w:=w0) kk os);go_wp2;go_ret;exact⟨by rw[HN.out];rfl,HU.out⟩
 · have hm : max k 0 = 0 := by omega
   rw[hm]at HN;have HI:=Lib.hid (Tryz.strconv_Itoa 0 (by omega) (by omega) w0 hT);generalize iEA k=nz at *;have hL:¬ 9223372036854775807 < 1+(Lib.itoa 0).toArray.size:=by have:=Lib.itoa_length_le 0 (by omega) (by omega);simp;omega
   generalize (Lib.itoa 0).toArray=L at *;clear hT;go_enter Tryz.func40,Tryz.ntmps40;go_wp2_with fail;refine HI.out.mono ?_;rintro e w1 ⟨rfl,kk,os,rfl⟩;have HU:=Lib.hid (qK (w:=w0) kk os);go_wp2;go_ret;exact⟨by rw[HN.out];rfl,HU.out⟩
end
theorem qAB(a:Array UInt8)(b:ByteArray):(ByteArray.mk a++b)=⟨a++b.data⟩:=ByteArray.ext (by simp)
section
theorem z3A(n:Nat):Lib.itoa (n:Int)=Lib.decDigits n:=by
 unfold Lib.itoa;rw[if_neg (by omega)];exact congrArg Lib.decDigits (by omega)
end
def d8A(c:UInt8):Bool:=(decide (97≤(c.toNat:Int))&&decide ((c.toNat:Int)≤122))||(decide (65≤(c.toNat:Int))&&decide ((c.toNat:Int)≤90))||((c.toNat:Int)==95)
theorem t5A:∀ n:Nat,n < 256→d8A (UInt8.ofNat n)=oV (UInt8.ofNat n):=by decide +kernel
theorem f7A(c:UInt8):d8A c=oV c:=by
 have h:=t5A c.toNat c.toNat_lt
 rwa [UInt8.ofNat_toNat]at h
section
variable {w0 : World}
theorem kHA(c:UInt8):Calls Tryz.prog 124 #[.int .u8 c.toNat] w0 fun e w=>e = .returned (.bool (oV c))∧w=w0:=by
 rw[← f7A];have HR:RowKit.Hid (d8A c=((decide (97≤(c.toNat:Int))&&decide ((c.toNat:Int)≤122))||(decide (65≤(c.toNat:Int))&&decide ((c.toNat:Int)≤90))||((c.toNat:Int)==95))):=Lib.hid rfl;generalize d8A c=r at *;generalize (c.toNat:Int)=n at *;by_cases h1:97≤n
 all_goals by_cases h2:n≤122
 all_goals by_cases h3:65≤n
 all_goals by_cases h4:n≤90
 all_goals first | omega | skip
 all_goals
  go_enter Tryz.func124,Tryz.ntmps124;go_wp2;go_ret;exact⟨by rw[HR.out];simp[*]<;>omega,rfl⟩
def okR(c:UInt8):Bool:=oV c||eBA c
theorem o5 : ∀ (l : List UInt8) (i : Nat), i ≠ 0 → eD i l = l.all okR
  | [],i,h=>rfl
  | c :: r, i, h => by
    simp only[eD,List.all_cons,okB,okR];rw[o5 r (i+1) (by omega)];simp[h]
theorem mWA{s:ByteArray}{c:UInt8}{r:List UInt8}(h:s.data.toList=c::r)(hs:s.size≤16)(hc:oV c=true):qD s=s.data.toList.all okR:=by
 unfold qD;have h0:s.size≠0:=by
  have:s.data.toList.length=s.size:=by rw[Array.length_toList];rfl
  rw[h]at this;intro e;rw[e]at this;cases this
 rw[h];simp only[eD,List.all_cons];rw[o5 r 1 (by decide)];simp[okB,okR,hc,h0,hs]
theorem gXA{s:ByteArray}{c:UInt8}{r:List UInt8}(h:s.data.toList=c::r)(hc:oV c=false):qD s=false:=by
 unfold qD;rw[h];simp[eD,okB,hc]
def dDB(w0:World)(s:ByteArray)(i:Value)(wr:World):Prop:=∃ k:Nat,k≤s.size∧i = .int .i64 (k:Int)∧s.data.toList.all okR=(s.data.toList.drop k).all okR∧w0=wr
theorem xR(s:ByteArray):Calls Tryz.prog 103 #[.string s] w0 fun e w=>e = .returned (.bool (qD s))∧w=w0:=by
 have HLen:=Lib.hid (show s.data.toList.length=s.size by rw[Array.length_toList];rfl);by_cases h1:(s.size:Int) < 1
 · have HO : RowKit.Hid (qD s = false) := Lib.hid (by
     have:s.size=0:=by omega
     unfold qD;simp[this])
   go_enter Tryz.func103,Tryz.ntmps103;go_wp2;go_ret;exact⟨by rw[HO.out];rfl,rfl⟩
 by_cases h16:16 < (s.size:Int)
 · have HO:RowKit.Hid (qD s=false):=Lib.hid (by unfold qD;simp;intros;omega);go_enter Tryz.func103,Tryz.ntmps103;go_wp2;go_ret;exact⟨by rw[HO.out];rfl,rfl⟩
 have h0:0 < s.size:=by omega
 have hs16:s.size≤16:=by omega
 obtain⟨c,r,hcr⟩:∃ c r,s.data.toList=c::r:=by
  cases h:s.data.toList with
  | nil=>have:=HLen.out;rw[h]at this;simp at this;omega
  | cons c r=>exact⟨c,r,rfl⟩
 have hs0:s[0]=c:=by
  show s.data[0]=c
  rw[← Array.getElem_toList];simp[hcr]
 have HL0:=Lib.hid (kHA (w0:=w0) c)
 cases hc:oV c
 · have HO:=Lib.hid (gXA hcr hc);rw[hc]at HL0;clear hcr hc;go_enter Tryz.func103,Tryz.ntmps103;go_wp2_with fail;refine HL0.out.mono ?_;rintro e w1 ⟨rfl,rfl⟩;go_wp2;go_ret;exact⟨by rw[HO.out];rfl,rfl⟩
 · have HO := Lib.hid (mWA hcr hs16 hc); rw [hc] at HL0; have HL := Lib.hid (fun c => kHA (w0 := w0) c); clear hcr hc; go_enter Tryz.func103, Tryz.ntmps103; go_wp2_with fail; refine HL0.out.mono ?_; rintro e w1 ⟨rfl, rfl⟩; clear hs0 HL0; go_wp2; go_loopw [3] (fun i wr => dDB w1 s i wr) (fun i _ => s.size - (intOf i).toNat)
   case atStart=>exact⟨0,Nat.zero_le _,rfl,by simp,rfl⟩
   case round =>
     obtain⟨k,hk,rfl,hN,rfl⟩:=hrel;have HN:=Lib.hid hN;clear hN;by_cases hlt:k < s.size
     · have hk' : k < s.data.toList.length := by rw [HLen.out]; exact hlt
       have hd:(s.data.toList.drop k).all okR=(okR s[k]&&(s.data.toList.drop (k+1)).all okR):=by rw[List.drop_eq_getElem_cons hk'];rfl
       have HD:=Lib.hid hd;have HLk:=Lib.hid (HL.out s[k]);have hdg:eBA s[k]=(!(decide ((s[k].toNat:Int) < 48)) && !(decide (57 < (s[k].toNat:Int)))):=rfl;have HDg:=Lib.hid hdg;clear hd hdg;generalize hx:s[k]=x at *;have hok:okR x=(oV x||eBA x):=rfl;have HOk:=Lib.hid hok;clear hok
       cases hl:oV x
       · rw [hl] at HLk HOk; by_cases h48 : (x.toNat : Int) < 48
         · go_wp2_with fail;refine HLk.out.mono ?_;rintro e w1 ⟨rfl,rfl⟩;go_wp2;go_ret;exact⟨by rw[HO.out,HN.out,HD.out,HOk.out,HDg.out];simp[h48],rfl⟩
         · by_cases h57 : 57 < (x.toNat : Int)
           · go_wp2_with fail;refine HLk.out.mono ?_;rintro e w1 ⟨rfl,rfl⟩;go_wp2;go_ret;exact⟨by rw[HO.out,HN.out,HD.out,HOk.out,HDg.out];simp[h57],rfl⟩
           · have HT : RowKit.Hid (okR x = true) := Lib.hid (by rw [HOk.out, HDg.out]; simp; omega); go_wp2_with fail; refine HLk.out.mono ?_; rintro e w1 ⟨rfl, rfl⟩; go_wp2; go_roundw
             case rel=>exact⟨k+1,by omega,by go_num,by rw[HN.out,HD.out,HT.out];rfl,rfl⟩
             case measure=>simp[intOf];omega
       · rw [hl] at HLk HOk; go_wp2_with fail; refine HLk.out.mono ?_; rintro e w1 ⟨rfl, rfl⟩; go_wp2; go_roundw
         case rel=>exact⟨k+1,by omega,by go_num,by rw[HN.out,HD.out,HOk.out];rfl,rfl⟩
         case measure=>simp[intOf];omega
     · obtain rfl : k = s.size := by omega
       have HE:RowKit.Hid (qD s=true):=Lib.hid (by rw[HO.out,HN.out,← HLen.out,List.drop_length];rfl);go_wp2;go_ret;exact⟨by rw[HE.out];rfl,rfl⟩
end
end Go.Proofs.YtlnlpdephijcoaaGreatDoor
