/- Part 33 of what the proof rests on. -/
import Derived.Deep.RegionHeld3
import Derived.Test.YtlnlpdephijcoaaGreatDoorRows
import Derived.ProofKit
import Derived.LaidMore
import Derived.LaidLaws
import Derived.OpenShut
import Derived.ChangeAlike
import Derived.Stop.Joined
import Derived.Lib.LaidTab
import Derived.Test.YtlnlpdephijcoaaGreatDoorL14
import Derived.Test.YtlnlpdephijcoaaGreatDoorL22
import Derived.Test.YtlnlpdephijcoaaGreatDoorL31
import Derived.Test.YtlnlpdephijcoaaGreatDoorL32
set_option linter.unusedSimpArgs false
set_option linter.unusedVariables false
set_option maxRecDepth 100000
set_option maxHeartbeats 2000000
namespace Go.Proofs.YtlnlpdephijcoaaGreatDoor
open Go.Lx Go.RowKit
section
variable {w0 : World} {t : List Nd} {c : Nat}
def g2A(w0:World)(t:List Nd)(l:Value)(e:Exit)(a:Act)(w:World):Prop :=
 match nD t 0 [] [] with
 | none=>z9A w0 e a w
 | some _=>l5A w0 t l t.length e a w
theorem yUA {p : Option Addr} (hn : t.length ≤ 4000) (hs : ∀ x ∈ t, x.s.size ≤ maxLen) (hp : RowArg w0 p (lC t)) (hS : ShapesAt 0 w0) (m : Nat) (a : Act) (w : World)
    (h0:∃ k,m+k=t.length∧jSA w0 t (.slice p t.length c) t.length k a w) :
    (Code.loop msRound).wp Tryz.prog (g2A w0 t (.slice p t.length c)) a w:=by
  refine wp_loop_ghost (fun m a w=>∃ k,m+k=t.length∧jSA w0 t (.slice p t.length c) t.length k a w) m h0 ?_;clear h0;rintro m a w ⟨k,hmk,va,vo,all,op,J,rfl,hM⟩;by_cases hkn:k=t.length
  · subst hkn; refine wp_mono (t1A J w hM) ?_; rintro e a' w' h; have hr := hM.res; rw [List.drop_length] at hr
    cases e with
    | normal=>exact h.elim
    | _=>unfold g2A;rw[← hr];exact h
  have hlt:k < t.length:=by omega
  obtain⟨b,off,rfl,hb,c0,c1,c2,c3⟩:=hp.node (List.getElem?_eq_getElem hlt);have hx:t[k]? = some t[k]:=List.getElem?_eq_getElem hlt;have hR:=fun w1 (hU:Under w0 w1)=>bTA t[k] w1 (hs _ (List.getElem_mem hlt)) (hS.under hU)
  have hN:=fun(hr:eB t[k]=true) w1 (hU:Under w0 w1)=>lZA t[k] w1 (hS.under hU) hr
  by_cases hbad:eB t[k]=false∨op.length < (binds t[k]).length
  · have hnone : nD t 0 [] [] = none := by
      rw[← hM.res,List.drop_eq_getElem_cons hlt]
      show(if eB t[k]=false∨op.length < (binds t[k]).length then none else _)=none
      rw[if_pos hbad]
    refine wp_mono (l7A hlt hn hx hbad J w hM hR hN hb c0 c1 c2 c3) ?_;rintro e a' w' h
    cases e with
    | normal=>exact h.elim
    | _=>unfold g2A;rw[hnone];exact h
  · have hr : eB t[k] = true := by cases h : eB t[k] with
      | true=>rfl
      | false=>exact absurd (.inl h) hbad
    have hl:¬ op.length < (binds t[k]).length:=fun h=>hbad (.inr h)
    rw[hr]at hR;refine wp_mono (l6A (kk:=op.length - (binds t[k]).length) (bl:=(binds t[k]).length) hlt hn hx hr rfl (by omega) (fun y hy=>by have:=hM.dp y hy;omega) J w hM hR (hN hr) hb c0 c1 c2 c3) ?_;rintro e a' w' h
    cases e with
    | normal=>exact⟨m - 1,by omega,k+1,by omega,h⟩
    | _=>exact h.elim
theorem hQA:∀(t:List Nd) (k:Nat) (all op:List (Nat×Nat)) {r:List (Nat×Nat)×List (Nat×Nat)},all.length=k→op.length≤k→nD t k all op=some r→r.1.length=k+t.length∧r.2.length≤k+t.length:=by
 intro t
 induction t with
 | nil=>intro k all op r h1 h2 h;cases h;exact⟨h1,h2⟩
 | cons x t ih =>
   intro k all op r h1 h2 h;simp only[nD]at h
   split at h
   · cases h
   · have:=ih (k+1) _ _ (by rw[List.length_append,h1];rfl) (by rw[List.length_append,List.length_take,List.length_singleton];omega) h;rw[List.length_cons];omega
theorem uJA(t:List Nd){p:Option Addr}(hn:t.length≤4000)(hs:∀ x∈t,x.s.size≤maxLen)(hp:RowArg w0 p (lC t))(hS:ShapesAt 0 w0) :
 Calls Tryz.prog 102 #[.slice p t.length c] w0 (tVA w0 t):=by
 have HL:=Lib.hid (fun m a w h=>yUA (w0:=w0) (c:=c) (t:=t) hn hs hp hS m a w h);clear hp hs hS;go_enter Tryz.func102,Tryz.ntmps102;go_wp2;rename_i K hK;refine wp_mono (HL.out t.length _ _ ⟨0,by omega,.slice none 0 0,.slice none 0 0,[],[],nA (F:=jH _ _ _ _ 0) (by rfl) ⟨World.ownsRow_nil _ _ _ _,World.ownsRow_nil _ _ _ _,.inl rfl,Under.refl _,rfl,rfl,Nat.le_refl _,fun y hy=>by simp at hy⟩⟩) ?_;rintro e a' w' h;unfold g2A at h
 cases hR:nD t 0 [] [] with
 | none =>
   rw[hR]at h;obtain⟨rfl,J,rfl,hU⟩:=h;simp only[Exit.inBlock,Exit.then];go_ret2;unfold tVA;rw[hR];exact⟨rfl,hU⟩
 | some r =>
   rw[hR]at h;obtain⟨rfl,va,vo,all,op,J,rfl,hM⟩:=h;have hr:=hM.res;rw[List.drop_length,hR]at hr;obtain rfl:(all,op)=r:=Option.some.inj hr;simp only[Exit.inBlock,if_pos,Exit.then];refine hK _ _ ?_;clear hK;obtain⟨q,co,rfl,_,_⟩:=RowArg.of_own hM.op_;have HM:=Lib.hid hM;have HR:=Lib.hid hR;have hol:op.length≤4000:=by have:=hM.ol;omega
   clear hM hR hr;unfold jH;go_wp2;go_ret2;unfold tVA;rw[HR.out];exact⟨va,rfl,HM.out.all_,HM.out.low⟩
def iRA(w0:World)(t:List Nd)(e:Ending)(w:World):Prop :=
 Under w0 w ∧ if qE t = 0 then ∃ v all op, nD t 0 [] [] = some (all, op) ∧ e = .returned (.tuple #[v, .int .i64 0]) ∧ w.ownsRow w0.heap.size 169 2 v all.length (xC all)
   else e = .returned (.tuple #[.slice none 0 0,.int .i64 (qE t)])
theorem bY{w w1:World}{e:Int}(h:qE t=e)(he:e≠0)(hU:Under w w1):iRA w t (.returned (.tuple #[.slice none 0 0,.int .i64 e])) w1:=⟨hU,by rw[if_neg (by rw[h];exact he),h]⟩
theorem tXA(t:List Nd){p:Option Addr}(hn:t.length≤maxLen)(hs:∀ x∈t,x.s.size≤maxLen)(hp:RowArg w0 p (lC t))(hS:ShapesAt 0 w0) :
 Calls Tryz.prog 62 #[.slice p t.length c] w0 (iRA w0 t):=by
 unfold maxLen at hn;by_cases hbig:4000 < t.length
 · have he : qE t = 21 := by unfold qE; rw [if_pos hbig]
   have HE:=Lib.hid he;clear he hp hs hS;go_enter Tryz.func62,Tryz.ntmps62;go_wp2;go_ret2;exact bY HE.out (by decide) (Under.refl _)
 have HC:=Lib.hid (uJA (c:=c) t (by omega) hs hp hS);clear hp hs hS
 cases hR:nD t 0 [] [] with
 | none =>
   have he:qE t=20:=by unfold qE;rw[if_neg hbig,hR]
   have HE:=Lib.hid he;have HR:=Lib.hid hR;clear he hR;go_enter Tryz.func62,Tryz.ntmps62;go_wp2_with fail;refine HC.out.mono ?_;intro e w1 h;unfold tVA at h;rw[HR.out]at h;obtain⟨rfl,hU⟩:=h;have HU:=Lib.hid hU;clear hU;go_wp2;go_ret2;exact bY HE.out (by decide) HU.out
 | some r =>
   obtain⟨all,op⟩:=r;obtain⟨hl1,hl2⟩:=hQA t 0 [] [] rfl (Nat.le_refl _) hR;simp only[Nat.zero_add]at hl1 hl2;by_cases ho:op.length=1
   · have hd : ∃ m d f, all.length = m + 1 ∧ all.getLastD (0, 0) = (f, d) ∧ all[m]? = some (f, d) := by
       refine⟨all.length - 1,_,_,by omega,rfl,?_⟩
       cases all with
       | nil=>simp at hl1;omega
       | cons y l=>simp[List.getLast_eq_getElem]
     obtain⟨m,d,f,hm,hg,ha⟩:=hd;obtain⟨ca,cb⟩:=dR ha;have he:qE t=if 60 < d then 22 else 0:=by unfold qE;rw[if_neg hbig,hR];simp only[ho,hg];simp
     have ho':decide ((op.length:Int)=1)=true:=by rw[ho];rfl
     have HE:=Lib.hid he;have HR:=Lib.hid hR;have HO:=Lib.hid ho';have HB:=Lib.hid cb;have hm4:m < 4000:=by omega
     have HMm:=Lib.hid hm;clear he hR ho ho' ca cb ha hg hl1 hl2 hm;have hm0:(0:Int)≤m:=Int.natCast_nonneg _;by_cases h60:60 < d
     all_goals
      have h60':decide ((60:Int) < d)=decide (60 < d):=by simp;omega
      go_enter Tryz.func62,Tryz.ntmps62;go_wp2_with fail;refine HC.out.mono ?_;intro e w1 h;unfold tVA at h;rw[HR.out]at h;obtain⟨v,rfl,hv,hU⟩:=h;rw[HO.out];have hv':=hv;rw[HMm.out]at hv;obtain⟨g,gc,rfl,hgo,_,hgl,_,_⟩:=fD hv (by omega);have e1:=kD hv hgo HB.out;have HU:=Lib.hid hU;have HV:=Lib.hid hv';clear hU hv hv';go_wp2;go_ret2
     · exact bY (by rw[HE.out,if_pos h60]) (by decide) HU.out
     · exact⟨HU.out,by rw[HE.out,if_neg h60,if_pos rfl];exact⟨_,all,op,HR.out,rfl,HV.out⟩⟩
   · have he : qE t = 20 := by unfold qE; rw [if_neg hbig, hR]; simp only; rw [if_pos ho]
     have ho':decide ((op.length:Int)=1)=false:=by simp;omega
     have HE:=Lib.hid he;have HR:=Lib.hid hR;have HO:=Lib.hid ho';clear he hR ho ho' hl1 hl2;go_enter Tryz.func62,Tryz.ntmps62;go_wp2_with fail;refine HC.out.mono ?_;intro e w1 h;unfold tVA at h;rw[HR.out]at h;obtain⟨v,rfl,_,hU⟩:=h;rw[HO.out];have HU:=Lib.hid hU;clear hU;go_wp2;go_ret2;exact bY HE.out (by decide) HU.out
theorem nSA(t:List Nd){p:Option Addr}(hn:t.length≤maxLen)(hs:∀ x∈t,x.s.size≤maxLen)(hp:RowArg w0 p (lC t))(hS:ShapesAt 0 w0) :
 Calls Tryz.prog 29 #[.slice p t.length c] w0 fun e w=>e = .returned (.int .i64 (qE t))∧Under w0 w:=by
 have HC:=Lib.hid (tXA (c:=c) t hn hs hp hS);clear hp hs hS;by_cases h0:qE t=0
 all_goals
  have H0:=Lib.hid h0;clear h0;go_enter Tryz.func29,Tryz.ntmps29;go_wp2_with fail;refine HC.out.mono ?_;intro e w1 ⟨hU,h⟩;have HU:=Lib.hid hU;clear hU
 · rw[if_pos H0.out]at h;obtain⟨v,all,op,_,rfl,_⟩:=h;go_wp2;go_ret;exact⟨dL H0.out.symm,HU.out⟩
 · rw[if_neg H0.out]at h;subst h;go_wp2;go_ret;exact⟨rfl,HU.out⟩
end
section
variable {w0 : World}
theorem wQA(p1 p2:Option Addr)(n1 n2 d1 d2:Nat):Calls Tryz.prog 27 #[.agg #[.slice p1 n1 d1,.slice p2 n2 d2]] w0 fun e w=>∃ rb m1 m2,e = .returned (.pointer (some ⟨rb,0,none⟩))∧ReS w0 rb m1 m2 (.slice p1 n1 d1) (.slice p2 n2 d2) (.slice none 0 0) [] 0 0 w:=by
 have HU0 := Lib.hid (aA (Under.refl w0) (.cells #[.slice p1 n1 d1, .slice p2 n2 d2] 24)); go_enter Tryz.func27, Tryz.ntmps27; go_wp2_with fail; go_region_held3 (fun w' => w'.cell? ⟨w0.heap.size, 0, none⟩ = some (.slice p1 n1 d1) ∧ w'.cell? ⟨w0.heap.size, 1, none⟩ = some (.slice p2 n2 d2))
   (first
     | go_keep
     | (go_split_ands
        refine⟨?_,?_⟩
        · (rw[jA hU2 (by have:=hU1.size;simp at this ⊢;omega)];assumption)
        · (rw[jA hU2 (by have:=hU1.size;simp at this ⊢;omega)];assumption))
     | (go_split_ands
        refine⟨?_,?_⟩
        · (rw[jA hU1 (by simp)];assumption)
        · (rw[jA hU1 (by simp)];assumption)))
   (first
     | (go_simp;go_at_call 53;refine(xGA (w0:=_)).mono ?_;rintro e w1 ⟨rfl,hM1,hU1⟩)
     | (go_simp;go_at_call 54;refine(hGA (w0:=_)).mono ?_;rintro e w2 ⟨rfl,hM2,hU2⟩))
 have hM1':MapAt w1 (w0.heap.size+1) formsL:=by simpa using hM1
 have hB:=xA w2 #[.slice p1 n1 d1,.slice p2 n2 d2,.map (some (w0.heap.size+1)),.map (some w1.heap.size),.slice none 0 0,.int .i64 0,.int .i64 0] 63;have hU3:=aA (Under.refl w2) (.cells #[.slice p1 n1 d1,.slice p2 n2 d2,.map (some (w0.heap.size+1)),.map (some w1.heap.size),.slice none 0 0,.int .i64 0,.int .i64 0] 63);have hUa:=(((bA HU0.out).trans hU1).trans hU2).trans hU3;have hlo:w0.heap.size≤w2.heap.size:=by have:=hU1.size;have:=hU2.size;simp at *;omega
 have HT:RowKit.Hid (ReS w0 w2.heap.size (w0.heap.size+1) w1.heap.size (.slice p1 n1 d1) (.slice p2 n2 d2) (.slice none 0 0) [] 0 0 _):=Lib.hid ⟨hB,(hM1'.under hU2).under hU3,hM2.under hU3,World.ownsRow_nil _ _ _ _,hUa,hlo⟩;have HUa:=Lib.hid hUa;clear hM1 hM1' hM2 hU1 hU2 hU3 hB hUa hlo;go_wp2;go_ret;exact⟨_,_,_,rfl,HT.out⟩
def TermOut(w0:World)(R:Say)(e:Ending)(w:World):Prop:=Under w0 w∧match R with
 | .ok t=>∃ v,e = .returned (.tuple #[v,.int .i64 0,.int .i64 0])∧TermV w v t
 | .error (c,p)=>e = .returned (.tuple #[.slice none 0 0,.int .i64 p,.int .i64 c])
theorem g0A(row:List Sx){q:Option Addr}{cap:Nat}(hn:row.length≤20000)(hcap:row.length≤cap)(hq:SxArg w0 q row)(hb:∀ ls,gF row=some ls→ls.length≠1)(p1 p2:Option Addr)(n1 n2 d1 d2:Nat) :
 Calls Tryz.prog 9 #[.agg #[.slice p1 n1 d1,.slice p2 n2 d2],.slice q row.length cap] w0 (TermOut w0 (.error (71,0))):=by
 have HU0:=Lib.hid (aA (Under.refl w0) (.cells #[.slice p1 n1 d1,.slice p2 n2 d2] 24));have HI:=Lib.hid (y8 (w0:=w0.alloc (.cells #[.slice p1 n1 d1,.slice p2 n2 d2] 24)) (cap:=cap) (p:=q) row (by omega) hcap (hq.under HU0.out));have HB:=Lib.hid hb;clear hb hq;generalize gF row=R at *;go_enter Tryz.func9,Tryz.ntmps9;go_wp2_with fail;refine HI.out.mono ?_;rintro e w1 ⟨hU1,hR⟩;have HU1:=Lib.hid (HU0.out.trans hU1);clear hU1 HI
 cases R with
 | none =>
   subst hR;go_wp2;go_ret3;exact⟨HU1.out,rfl⟩
 | some ls =>
   obtain⟨vo,vs,rfl,h1,h2⟩:=hR;have hne:=HB.out ls rfl;obtain⟨q2,c2,rfl,_⟩:=RowArg.of_own h1;have HN:=Lib.hid hne;have h1e:((ls.length:Int) != 1)=true:=by simp;omega
   clear h1 h2 HB hne;go_wp2;go_ret3;exact⟨HU1.out,rfl⟩
theorem jHA(T:ST){q:Option Addr}{cap:Nat}(cs ds:List ByteArray)(hok:okS T)(hn:(uA T).length≤20000)(hcap:(uA T).length≤cap)(hq:SxArg w0 q (uA T))(hw:∀ x∈uA T,x.word.size≤1000000)(hE:StrcAt w0)(hS:ShapesAt 0 w0){p1 p2:Option Addr}{d1 d2:Nat}(hcs:TextsV w0 (.slice p1 cs.length d1) cs)(hds:TextsV w0 (.slice p2 ds.length d2) ds)(hcn:cs.length≤1000000)(hdn:ds.length≤1000000) :
 Calls Tryz.prog 9 #[.agg #[.slice p1 cs.length d1,.slice p2 ds.length d2],.slice q (uA T).length cap] w0 (TermOut w0 (xH cs ds T)):=by
 have HU0:=Lib.hid (aA (Under.refl w0) (.cells #[.slice p1 cs.length d1,.slice p2 ds.length d2] 24));have HB0:=Lib.hid (xA w0 #[.slice p1 cs.length d1,.slice p2 ds.length d2] 24);have HI:=Lib.hid (y8 (w0:=w0.alloc (.cells #[.slice p1 cs.length d1,.slice p2 ds.length d2] 24)) (cap:=cap) (p:=q) (uA T) (by omega) hcap (hq.under HU0.out));have hit:gF (uA T)=some [uA T]:=by
  have:=oH (ts:=[T]) ⟨hok,trivial⟩
  simpa [fA] using this
 rw [hit] at HI; have hp := zN T; have HN := Lib.hid (fun w1 => wQA (w0 := w1) p1 p2 cs.length ds.length d1 d2); have HLen := Lib.hid (fun t (ht : aG cs ds T [] = .ok t) => And.intro (pM T _ _ ht) (lFA T _ _ ht)); have HT := Lib.hid (uTA T); have HQ := Lib.hid hq; have HL := Lib.hid (fun w1 (hU : Under w0 w1) => dJ (w0 := w1) T (q := q) (cap := cap) (by omega) (hq.under hU)); have HFl := Lib.hid (And.intro hn hcap); have HD : RowKit.Hid (xH cs ds T = match aG cs ds T [] with | .error x => .error x | .ok t => if qE t = 0 then .ok t else .error (qE t, T.last.pos)) := Lib.hid rfl; generalize xH cs ds T = TS at *; clear hq hit hn hcap; go_enter Tryz.func9, Tryz.ntmps9; go_wp2_with fail; refine HI.out.mono ?_; rintro e w1 ⟨hU1, vo, vs, rfl, h1, h2⟩; obtain ⟨q2, c2, rfl, _⟩ := RowArg.of_own h1; have HU1 := Lib.hid (HU0.out.trans hU1); have hb1 := HB0.out.under hU1; have e0 : w1.cell? ⟨w0.heap.size, 0, none⟩ = some (.slice p1 cs.length d1) := hb1.cell 0; have e1 : w1.cell? ⟨w0.heap.size, 1, none⟩ = some (.slice p2 ds.length d2) := hb1.cell 1; have el := hb1.lt; have h11 : ([uA T] : List (List Sx)).length = 1 := rfl; rw [h11]; clear hU1 h1 h2 HI hb1 h11; go_wp2_with fail; refine (HN.out _).mono ?_; rintro e w2 ⟨rb, m1, m2, rfl, hR2⟩; have HR2 := Lib.hid hR2; have HU2 := Lib.hid (HU1.out.trans hR2.und); have hrb := hR2.lo; have HCa := Lib.hid (HT.out w1 w2 rb m1 m2 _ _ _ [] 0 0 q cap (.slice none 0 0) [] cs ds hok HFl.out.1 HFl.out.2 hw (hE.under HU1.out) (hcs.under HU1.out) (hds.under HU1.out) hcn hdn hR2 (HQ.out.under HU2.out) (by
   intro b off x e hr;obtain⟨b',off',e',hb',_⟩:=HQ.out (fun e=>by rw[e]at hp;exact absurd hp (Nat.lt_irrefl _));rw[e]at e';cases e';rcases hr with rfl | hr
   · have:=HU1.out.size;omega
   · cases hr) (TextsV.nil _) (fun q n c e hne=>by cases e;exact absurd rfl hne) (by have:=HFl.out.1;simp;omega) (by have:=HFl.out.1;simp;omega))
 clear hR2 HN e0 e1 el;rcases hs:aG cs ds T [] with⟨ec,ep⟩ | t
 · have HE : RowKit.Hid (TS = .error (ec, ep)) := Lib.hid (by rw [HD.out, hs]); rw [hs] at HCa; go_wp2_with fail; refine HCa.out.mono ?_; rintro e w3 ⟨ov', acc', p', e', g1, g2, g3, rfl, rfl, rfl⟩; have b5 := g1.box.cell 5; have b6 := g1.box.cell 6; have bl := g1.box.lt; have HG := Lib.hid g1.und; have bb := And.intro b5 b6; clear g1 g2 g3 HCa; go_wp2_with fail; go_region_held3 (fun w' => w'.cell? ⟨rb, 5, none⟩ = some (.int .i64 p') ∧ w'.cell? ⟨rb, 6, none⟩ = some (.int .i64 e'))
     (first
       | exact bb
       | go_keep)
     (fail)
   rename_i hHeld;clear hHeld bb b5 b6;go_wp2;go_ret3;rw[HE.out];exact⟨HU1.out.trans (HG.out.trans (bA (Under.refl _))),rfl⟩
 · rw [hs] at HCa; go_wp2_with fail; refine HCa.out.mono ?_; rintro e w3 ⟨ov', acc', p', e', g1, g2, g3, rfl, hacc⟩; obtain rfl : t = acc' := by rw [hacc]; rfl
   clear hacc; have HG := Lib.hid g1; obtain ⟨qo, co, rfl, hco, hro⟩ := RowArg.of_own g1.row; have b4 := g1.box.cell 4; have bl := g1.box.lt; obtain ⟨L1, L2⟩ := HLen.out t hs; have HCk := Lib.hid (nSA (w0 := w3) (c := co) t (by have := HFl.out.1; simp only [maxLen]; omega) (fun x hx => by have := L2 x hx; simp only [maxLen]; omega) hro ((hS.under HU1.out).under g1.und)); have HTv := Lib.hid (show TermV w3 (.slice qo t.length co) t from ⟨qo, co, rfl, hco, (fun e => by
     subst e;rcases g1.row.2 with⟨e,_⟩ | ⟨g,c,cur,e,_⟩
     · injection e
     · injection e with e1;cases e1),hro⟩)
   have HU3:=Lib.hid (HU1.out.trans g1.und);clear g1 g2 g3 HCa hco hro L1 L2;go_wp2_with fail;refine HCk.out.mono ?_;rintro e w4 ⟨rfl,hU4⟩;have HBx:=Lib.hid (HG.out.box.under hU4);have HU4:=Lib.hid (HU3.out.trans hU4);have HT4:=Lib.hid (TermV.mono _ _ _ _ hU4 HTv.out);have b4:=HBx.out.cell 4;have bl:=HBx.out.lt;clear hU4
   cases hc:(qE t != 0)
   · have hc0 : qE t = 0 := by simpa using hc
     have HE:RowKit.Hid (TS = .ok t):=Lib.hid (by rw[HD.out,hs];simp only;rw[if_pos hc0]);clear hc0;go_wp2;go_ret3;rw[HE.out];exact⟨HU4.out,_,rfl,HT4.out⟩
   · have hc0 : ¬ qE t = 0 := by simpa using hc
     have HE:RowKit.Hid (TS = .error (qE t,T.last.pos)):=Lib.hid (by rw[HD.out,hs];simp only;rw[if_neg hc0]);have HFd:=fun(a b:Int) (s:ByteArray) (w:World)=>(show(Instr.field 29 (.agg #[.int .i64 a,.int .i64 b,.string s]) 1).run Tryz.prog w = .ok (.int .i64 b) w by kernel_rfl)
     have HLt:=Lib.hid (HL.out _ HU4.out);unfold sxV at HLt;clear hc0;go_wp2_with fail;refine HLt.out.mono ?_;rintro e w5 ⟨rfl,hU5⟩;have HU5:=Lib.hid (HU4.out.trans hU5);clear hU5;go_wp2;go_ret3;rw[HE.out];exact⟨HU5.out,rfl⟩
end
end Go.Proofs.YtlnlpdephijcoaaGreatDoor
namespace Go.Proofs.YtlnlpdephijcoaaGreatDoor
open Go.ChangeShapes Go.WideShapes Go.ChangeAt Go.WideMaps Go.WideElems Go.RowKit Go.Lx Go.Deep Go.Conc
theorem Tryz.own:ownKnob Tryz.prog.godebug=none:=by kernel_rfl
theorem Tryz.laidOut:laidOutB Tryz.prog=true:=by kernel_rfl
theorem gShapes : Tryz.prog.globalNamed "cornice/term.shapes" = some 0 := by kernel_rfl
theorem tShapes:(Tryz.prog.globals[0]?).map (·.type)=some 189:=by kernel_rfl
theorem tPow:(Tryz.prog.globals[3]?).map (·.type)=some 259:=by kernel_rfl
theorem gErrS : Tryz.prog.globalNamed "strconv.ErrSyntax" = some 1 := by kernel_rfl
theorem gErrR : Tryz.prog.globalNamed "strconv.ErrRange" = some 2 := by kernel_rfl
theorem tErrS:(Tryz.prog.globals[1]?).map (·.type)=some 163:=by kernel_rfl
theorem tErrR:(Tryz.prog.globals[2]?).map (·.type)=some 163:=by kernel_rfl
def tAA {H : Type} : List (String × DataW H) := [("math/bits.deBruijn32tab", Rows.laid_math_bits_deBruijn32tab), ("math/bits.deBruijn64tab", Rows.laid_math_bits_deBruijn64tab), ("internal/strconv.uint64pow10", Rows.laid_internal_strconv_uint64pow10), ("cornice/term.shapes", Rows.laid_cornice_term_shapes), ("strconv.ErrRange", Rows.laid_strconv_ErrRange), ("strconv.ErrSyntax", Rows.laid_strconv_ErrSyntax)]
theorem dUA{H:Type}:(Rows.laid_cornice_term_shapes:DataW H) = .agg ((List.range 30).map lNA):=by kernel_rfl
theorem n6A{H:Type}:(Rows.laid_internal_strconv_uint64pow10:DataW H)=Lib.tabData .u64 Lib.pow10Tab:=by kernel_rfl
theorem pKA(os:Os)(args:Array Value):laidMetH Tryz.prog tAA ((World.doorLaid Tryz.prog 400 os).forCall (fun _ _=>0) ⟨#[],args,[]⟩).memory :=
 laidMetH_of_parts3 (fuel:=8) (laidMet_of_run' 8 (by kernel_rfl) (by kernel_rfl)) (by kernel_rfl) (by kernel_rfl)
theorem cMA{H:Type}{enc:TypeId×Value→H}{W:World}{base:Nat}{sp:Nat→Bool}{fuel g:Nat}{nm n:String}{d:DataW H}{cs:Array Value}{q:List MemPlace}(hg:Tryz.prog.globalNamed n=some g)(hv:W.var? Tryz.prog n=some cs)(h:DataW.trod enc Tryz.prog W base sp false fuel 163 cs.toList=some (.iface nm d,q)):∃ v,W.cell? ⟨g,0,none⟩=some v∧bYA v:=by
 obtain⟨_,u,v,e,_⟩:=iface_of_trod Tryz.underlying163 h;obtain⟨cs⟩:=cs;obtain rfl:cs=[.iface u v]:=e;exact⟨_,by rw[World.var?_cell hg hv 0];rfl,.inr ⟨u,v,rfl⟩⟩
theorem mRA{W:World}(h:laidMetH Tryz.prog tAA W):StrcAt W∧ShapesAt 0 W:=by
 rw[MakeChecks.laidMetH_plain _ _ _ (by kernel_rfl)]at h;obtain⟨ps,⟨_,_,_,_,_,_,_,_,_,_,⟨_,_,_,_,_,_,_,_,_,_,⟨g2,t2,cs2,f2,p2,q2,hg2,ht2,hv2,hd2,⟨g3,t3,cs3,f3,p3,q3,hg3,ht3,hv3,hd3,⟨g4,t4,cs4,f4,p4,q4,hg4,ht4,hv4,hd4,⟨g5,t5,cs5,f5,p5,q5,hg5,ht5,hv5,hd5,_,_⟩,_⟩,_⟩,_⟩,_⟩,_⟩,_,_⟩:=h;obtain rfl:=Option.some.inj (gShapes.symm.trans hg3);obtain rfl:=Option.some.inj (gPow.symm.trans hg2);obtain rfl:=Option.some.inj (gErrR.symm.trans hg4);obtain rfl:=Option.some.inj (gErrS.symm.trans hg5);obtain rfl:=Option.some.inj (tShapes.symm.trans ht3);obtain rfl:=Option.some.inj (tPow.symm.trans ht2);obtain rfl:=Option.some.inj (tErrR.symm.trans ht4);obtain rfl:=Option.some.inj (tErrS.symm.trans ht5);refine⟨⟨cMA hg5 hv5 hd5,cMA hg4 hv4 hd4,?_⟩,?_⟩
 · rw [n6A] at hd2
   show W.var? Tryz.prog "internal/strconv.uint64pow10" = _
   rw[hv2,← Lib.cells_of_tab Tryz.underlying259 Tryz.underlying229 (by kernel_rfl) (by kernel_rfl) hd2]
 · rw[dUA]at hd3;exact jLA (cs:=cs3.toList) (fun j=>by rw[World.var?_cell hg3 hv3 j];simp) Tryz.underlying189 (by kernel_rfl) Tryz.underlying188 (by kernel_rfl) Tryz.underlying105 Tryz.underlying3 (by kernel_rfl) Tryz.underlying4 Tryz.underlying4 Tryz.underlying4 hd3
section
variable {H : Type} {enc : TypeId × Value → H} {w : World} {spare : Nat → Bool} {held : Bool} {fuel : Nat} {cs : List Value} {x : DataW H × List MemPlace}
theorem p9A(h:DataW.trod enc Tryz.prog w 0 spare held fuel 22 cs=some x):∃ v l,cs=[v]∧TextsV w v l :=
 fLA Tryz.underlying22 Tryz.underlying9 (by kernel_rfl) h
theorem z8A(hcl:cs.length=2)(h:DataW.trod enc Tryz.prog w 0 spare held fuel 24 cs=some x):∃ v l u m,cs=[v,u]∧TextsV w v l∧TextsV w u m :=
 sPA Tryz.underlying24 (by kernel_rfl) rfl rfl p9A hcl h
theorem a8A(h:DataW.trod enc Tryz.prog w 0 spare held fuel 25 cs=some x):∃(p:Option Addr) (cap:Nat) (l:List Sx),cs=[.slice p l.length cap]∧l.length≤cap∧l.length≤maxLen∧(p=none→cap=0)∧SxArg w p l :=
 y7A Tryz.underlying25 Tryz.underlying29 (by kernel_rfl) (by kernel_rfl) Tryz.underlying3 Tryz.underlying3 Tryz.underlying9 h
theorem mDA {W w : World} {t : TypeId} {v : Value} {d : DataW H} {ps : List MemPlace} (hr : Tryz.prog.readableRec t = true) (hrow : t < Tryz.prog.types.size) (hU : Under W w) (dd : Nat)
    (hlt:∀ p∈ps,p.block < W.heap.size) (h:DataW.Trod enc Tryz.prog W 0 (fun _=>true) true t v d ps):DataW.Trod enc Tryz.prog (re w W.tape dd) 0 (fun b=>decide (b < W.heap.size)) true t v d ps:=by
  refine Go.WideElems.Trod_stays Tryz.laidOut hr hrow h (fun p hp=>?_) (fun p hp=>by simpa using hlt p hp);have hb:=hlt p hp
  cases p with
  | cell b off=>exact jA (hU.re W.tape dd) hb off
  | map b=>exact(hU.re W.tape dd).low b hb
end
theorem oGA{W w:World}(h:Under W w)(d:Nat):Below W.heap.size W (re w W.tape d):=⟨h.os,rfl,h.output,h.size,fun b hb=>h.low b hb⟩
theorem tCA{H:Type}{enc:TypeId×Value→H}{W:World}{base:Nat}{sp:Nat→Bool}{held:Bool}(b:Bool):DataW.Trod enc Tryz.prog W base sp held 4 (.bool b) (.lit (.bool b)) []:=⟨1,by simp[DataW.trod,Value.cells,Tryz.underlying4]⟩
end Go.Proofs.YtlnlpdephijcoaaGreatDoor
namespace Go.Proofs.YtlnlpdephijcoaaGreatDoor
open Go.Conc Go.Lx Go.RowKit
def Tok.p(t:Tok):PTok:=⟨t.kind,t.at_,t.text⟩
theorem iAA(all:List Tok):∀ k t,all[k]? = some t→(fG all)[k * 3]? = some (.int .i64 t.kind)∧(fG all)[k * 3+1]? = some (.int .i64 (t.at_:Int))∧(fG all)[k * 3+2]? = some (.string t.text):=by
 induction all with
 | nil=>intro k t h;simp at h
 | cons x l ih =>
   intro k t h
   cases k with
   | zero=>cases h;exact⟨rfl,rfl,rfl⟩
   | succ k =>
     have:=ih k t h;rw[show(k+1) * 3=k * 3+1+1+1 by omega,show k * 3+1+1+1+1=(k * 3+1)+1+1+1 by omega,show k * 3+1+1+1+2=(k * 3+2)+1+1+1 by omega];exact this
def ReadPost(W:World)(R:Except (Int×Int) (List Sx))(v:Value)(w:World):Prop :=
 Under W w∧match R with
  | .ok row=>∃ vr,v = .tuple #[vr,.int .i64 0,.int .i64 0]∧w.ownsRow W.heap.size 29 3 vr row.length (nC row)
  | .error (p,c)=>v = .tuple #[.slice none 0 0,.int .i64 p,.int .i64 c]
theorem z6A{w:World}{base:Nat}{e:TypeId}{size n:Nat}{v:Value}{xs:List Value}(h:w.ownsRow base e size v n xs)(τ:Nat→Question→Nat)(d:Nat):(re w τ d).ownsRow base e size v n xs:=h
theorem ReadPost.re{W:World}{R:Except (Int×Int) (List Sx)}(v:Value)(w:World)(τ:Nat→Question→Nat)(d:Nat)(h:ReadPost W R v w):ReadPost W R v (re w τ d):=by
 obtain⟨h1,h2⟩:=h;refine⟨h1.re τ d,?_⟩
 cases R with
 | error p=>exact h2
 | ok row=>obtain⟨vr,e,h3⟩:=h2;exact⟨vr,e,z6A h3 τ d⟩
theorem f1A{W w:World}{l:Value}{all:List Tok}(h:w.ownsRow W.heap.size 174 3 l all.length (fG all)):∃ p cap,l = .slice p all.length cap∧z8 w p (all.map Tok.p):=by
 rcases h.2 with⟨rfl,h0⟩ | ⟨g,cap,cur,rfl,hb,hg,rest⟩
 · refine⟨none,0,by rw[h0],fun hne=>?_⟩;have:all=[]:=List.length_eq_zero_iff.1 h0;subst this;exact absurd rfl hne
 · refine⟨_,cap,rfl,fun _=>⟨g,0,rfl,(Array.getElem?_eq_some_iff.1 hg).1,fun k t ht=>?_⟩⟩;rw[List.getElem?_map]at ht;obtain⟨u,hu,rfl⟩:=Option.map_eq_some_iff.1 ht;obtain⟨h1,h2,h3⟩:=iAA all k u hu;rw[Nat.zero_add];exact⟨kD h rfl h1,kD h rfl h2,kD h rfl h3⟩
theorem xYA{P:Program}{c:Code}{Q:Exit→Act→World→Prop}{A:Array Value}{F:(Nat→Value)→Array Value}{df:List Deferred}{w:World}(hA:A=F fun n=>A.getD n undef)(h:∀ J,c.wpG P Q ⟨F J,df⟩ w):c.wpG P Q ⟨A,df⟩ w:=by
 have:=h fun n=>A.getD n undef
 rw[← hA]at this;exact this
theorem xW{P:Program}{fn:Func}{t u r:Tmp}{Post:Value→World→Prop}{a:Act}{w:World}(h:fn.results=#[.tmp t,.tmp u,.tmp r])(hd:a.defers=[])(hp:Post (.tuple #[a.tmps.getD t undef,a.tmps.getD u undef,a.tmps.getD r undef]) w):lK P fn Post .ret a w :=
 ⟨hd,_,fun _ _=>results_tmp3 h _ P _,hp⟩
theorem xOA{s:ByteArray}{all:List Tok}(h:Lexes s all)(hk:∀ t∈all,t.kind=1∨t.kind=2∨t.kind=3)(W:World) :
 CallsG Tryz.prog 38 #[.string s] W (ReadPost W (vC (all.map Tok.p) [] [] ⟨0,0,⟨#[]⟩⟩)):=by
 refine rJ xB Tryz.func38 rfl ?_ ReadPost.re;simp only[Tryz.ntmps38,List.size_toArray,List.length_cons,List.length_nil,Nat.reduceAdd,Nat.reduceSub,Array.replicate_succ,Array.replicate_zero,List.push_toArray,List.append_toArray,List.nil_append,List.cons_append];refine oC xB (aC xB fun τ d=>?_);go_wp2;refine nG ?_ τ d;refine oC xB ?_;refine vN xB 1 (by decide) fun τ d=>?_
 simp only[List.take_succ_cons,List.take_zero];go_wp2;refine aY ?_ τ d;refine pG (i:=1) (rest:=List.range' 2 7) xB rfl (by rfl) (bF (vs:=#[.string s]) rfl Tryz.func73 (by kernel_rfl) rfl (by simp[Act.eval])) (h.calls W) ?_;rintro v w1 ⟨l,rfl,hown,hU1⟩;obtain⟨p,cap,rfl,hp⟩:=f1A hown;have hlen:(all.map Tok.p).length≤1000000:=by rw[List.length_map];exact h.len
 have hkk:∀ t∈all.map Tok.p,t.kind=1∨t.kind=2∨t.kind=3:=by
  intro t ht;obtain⟨u,hu,rfl⟩:=List.mem_map.1 ht;exact hk u hu
 have hc:=fun τ d=>kTA (w0:=re w1 τ d) (cap:=cap) (all.map Tok.p) hlen hp hkk
 simp only[List.length_map]at hc;have HC:=Lib.hid hc;clear hc;clear hown hp hkk hlen hk h;generalize vC (all.map Tok.p) [] [] ⟨0,0,⟨#[]⟩⟩=R at *;refine jE xB 2 7 0 (by decide) fun τ d=>?_
 simp only[List.drop_succ_cons,List.drop_zero,List.take_succ_cons,List.take_zero];walk_nrm;go_wp2;refine jG xB ?_;simp only[Exit.then];refine nG ?_ τ d;refine aC xB fun τ d=>?_
 go_wp2_with fail;refine(HC.out τ d).mono ?_;rintro e w2 ⟨hU2,hR⟩;have hUU:Under W w2:=hU1.trans ⟨hU2.os,hU2.output,hU2.size,hU2.low⟩;have hz:W.heap.size≤(re w1 τ d).heap.size:=hU1.size
 cases R with
 | ok row =>
   obtain⟨vr,rfl,ho⟩:=hR;have HO:=Lib.hid ho;clear ho;go_wp2;exact xW rfl rfl ⟨hUU,vr,rfl,iR HO.out hz⟩
 | error pc =>
   obtain⟨p',c⟩:=pc;subst hR;go_wp2;exact xW rfl rfl ⟨hUU,rfl⟩
def TermPost(W:World)(R:Say)(v:Value)(w:World):Prop:=Under W w∧match R with
 | .ok t=>∃ u,v = .tuple #[u,.int .i64 0,.int .i64 0]∧TermV w u t
 | .error (c,p)=>v = .tuple #[.slice none 0 0,.int .i64 p,.int .i64 c]
theorem gY{w:World}{u:Value}{t:List Nd}(h:TermV w u t)(τ:Nat→Question→Nat)(d:Nat):TermV (re w τ d) u t:=h
theorem TermPost.re{W:World}{R:Say}(v:Value)(w:World)(τ:Nat→Question→Nat)(d:Nat)(h:TermPost W R v w):TermPost W R v (re w τ d):=by
 obtain⟨h1,h2⟩:=h;refine⟨h1.re τ d,?_⟩
 cases R with
 | error p=>exact h2
 | ok t=>obtain⟨u,e,h3⟩:=h2;exact⟨u,e,gY h3 τ d⟩
theorem TermOut.post{w0 W:World}{R:Say}{e:Ending}{w:World}(h:TermOut w0 R e w)(hU:Under W w0):∃ v,e = .returned v∧TermPost W R v w:=by
 obtain⟨h1,h2⟩:=h
 cases R with
 | error p=>exact⟨_,h2,hU.trans h1,rfl⟩
 | ok t=>obtain⟨u,e,h3⟩:=h2;exact⟨_,e,hU.trans h1,u,rfl,h3⟩
theorem mAA {s : ByteArray} {all : List Tok} (h : Lexes s all) (hk : ∀ t ∈ all, t.kind = 1 ∨ t.kind = 2 ∨ t.kind = 3) {T : ST} (hp : vC (all.map Tok.p) [] [] ⟨0, 0, ⟨#[]⟩⟩ = .ok (uA T)) (cs ds : List ByteArray) (W : World) (hok : okS T) (hn : (uA T).length ≤ 20000) (hw : ∀ x ∈ uA T, x.word.size ≤ 1000000) (hE : StrcAt W) (hS : ShapesAt 0 W)
    {p1 p2:Option Addr} {d1 d2:Nat} (hcs:TextsV W (.slice p1 cs.length d1) cs) (hds:TextsV W (.slice p2 ds.length d2) ds) (hcn:cs.length≤1000000) (hdn:ds.length≤1000000) :
    CallsG Tryz.prog 16 #[.agg #[.slice p1 cs.length d1,.slice p2 ds.length d2],.string s] W (TermPost W (xH cs ds T)):=by
  refine rJ xB Tryz.func16 rfl ?_ TermPost.re;simp only[Tryz.ntmps16,List.size_toArray,List.length_cons,List.length_nil,Nat.reduceAdd,Nat.reduceSub,Array.replicate_succ,Array.replicate_zero,List.push_toArray,List.append_toArray,List.nil_append,List.cons_append];refine oC xB (aC xB fun τ d=>?_);go_wp2;have HU0:=Lib.hid (aA ((Under.refl W).re τ d) (.cells #[.slice p1 cs.length d1,.slice p2 ds.length d2] 24));have HB0:=Lib.hid (xA (re W τ d) #[.slice p1 cs.length d1,.slice p2 ds.length d2] 24);have hsz:(re W τ d).heap.size=W.heap.size:=rfl;rw[hsz]at HB0 ⊢;generalize (re W τ d).alloc (.cells #[.slice p1 cs.length d1,.slice p2 ds.length d2] 24)=w2 at *;clear hsz;refine oC xB ?_;refine vN xB 1 (by decide) fun τ d=>?_
  simp only[List.take_succ_cons,List.take_zero];go_wp2;refine aY ?_ τ d;refine pG (i:=1) (rest:=List.range' 2 7) xB rfl (by rfl) (bF (vs:=#[.string s]) rfl Tryz.func38 (by kernel_rfl) rfl (by simp[Act.eval])) (xOA h hk w2) ?_;rintro v w3 ⟨hU3,hR⟩;rw[hp]at hR;obtain⟨vr,rfl,hown⟩:=hR;obtain⟨q,cap,rfl,hcap,hsx⟩:=aZ hown;have HC:=Lib.hid (fun τ d=>jHA (w0:=re w3 τ d) T (q:=q) (cap:=cap) cs ds hok hn hcap hsx hw (hE.under ((HU0.out.trans hU3).re τ d)) (hS.under ((HU0.out.trans hU3).re τ d)) (hcs.under ((HU0.out.trans hU3).re τ d)) (hds.under ((HU0.out.trans hU3).re τ d)) hcn hdn);have HU3:=Lib.hid (HU0.out.trans hU3);have HB3:=Lib.hid (HB0.out.under hU3);clear hU3 hown hsx hcap;refine jE xB 2 7 0 (by decide) fun τ d=>?_
  simp only[List.drop_succ_cons,List.drop_zero,List.take_succ_cons,List.take_zero];walk_nrm;go_wp2;refine jG xB ?_;simp only[Exit.then];refine nG ?_ τ d;refine aC xB fun τ d=>?_
  have n0:(re w3 τ d).cell? ⟨W.heap.size,0,none⟩=some (.slice p1 cs.length d1):=HB3.out.cell 0;have n1:(re w3 τ d).cell? ⟨W.heap.size,1,none⟩=some (.slice p2 ds.length d2):=HB3.out.cell 1;have nl:W.heap.size < (re w3 τ d).heap.size:=HB3.out.lt;go_wp2_with fail;refine(HC.out τ d).mono ?_;rintro e w4 hO;obtain⟨v,rfl,hP⟩:=hO.post (HU3.out.re τ d);have hv:∃ a b c,v = .tuple #[a,b,c]:=by
   obtain⟨_,h2⟩:=hP
   split at h2
   · obtain⟨u,e,_⟩:=h2;exact⟨_,_,_,e⟩
   · exact⟨_,_,_,h2⟩
  obtain⟨a,b,c,rfl⟩:=hv;have HP:=Lib.hid hP;clear hO hP;go_wp2;exact xW rfl rfl HP.out
end Go.Proofs.YtlnlpdephijcoaaGreatDoor
