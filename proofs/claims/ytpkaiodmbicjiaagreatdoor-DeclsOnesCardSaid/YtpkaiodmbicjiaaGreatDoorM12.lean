/- Part 12 of what the proof rests on. -/
import Derived.Deep.RegionHeld3
import Derived.Test.YtpkaiodmbicjiaaGreatDoorRows
import Derived.ProofKit
import Derived.LaidMore
import Derived.LaidLaws
import Derived.OpenShut
import Derived.ChangeAlike
import Derived.Stop.Joined
import Derived.Lib.LaidTab
import Derived.Lib.SliceRun
import Derived.TacticsInMore
import Derived.LoopNIn
import Derived.LoopIn
import Derived.Shelf.Abstract
import Derived.Shelf.RegionOpen
import Derived.Laws.ResultCell
import Derived.Deep.QuietTactic
import Derived.Deep.AppendLies
import Derived.Deep.DeepAppendWide
import Derived.Laws.AppendOwnNone
import Derived.Conc.CompanyMem
import Derived.Conc.WalkWords
import Derived.Test.YtpkaiodmbicjiaaGreatDoorM00
import Derived.Test.YtpkaiodmbicjiaaGreatDoorM05
import Derived.Test.YtpkaiodmbicjiaaGreatDoorM06
import Derived.Test.YtpkaiodmbicjiaaGreatDoorM08
import Derived.Test.YtpkaiodmbicjiaaGreatDoorM10
import Derived.Test.YtpkaiodmbicjiaaGreatDoorM11
set_option linter.unusedSimpArgs false
set_option linter.unusedVariables false
set_option maxRecDepth 100000
set_option maxHeartbeats 16000000
namespace Go.Proofs.YtpkaiodmbicjiaaGreatDoor
open Go.Proofs.Tryz
open Go.Lx Go.RowKit
section
variable {w0 : World} {t : List Nd} {c : Nat}
def q5A(w0:World)(t:List Nd)(l:Value)(e:Exit)(a:Act)(w:World):Prop :=
 match yD t 0 [] [] with
 | none=>kBB w0 e a w
 | some _=>g8A w0 t l t.length e a w
theorem bYA{p:Option Addr}(hn:t.length<=4000)(hs:∀ x∈t,x.s.size<=maxLen)(hp:RowArg w0 p (dC t))(hS:ShapesAt 2 w0)(m:Nat)(a:Act)(w:World)
    (h0:∃ k,m+k=t.length/\vTA w0 t (.slice p t.length c) t.length k a w) :
    (Code.loop msRound).wp prog (q5A w0 t (.slice p t.length c)) a w:=by
  refine wp_loop_ghost (λm a w=>∃ k,m+k=t.length/\vTA w0 t (.slice p t.length c) t.length k a w) m h0 ?_;clear h0;rintro m a w ⟨k,hmk,va,vo,all,op,J,rfl,hM⟩;by_cases hkn:k=t.length
  . subst hkn;refine wp_mono (f5A J w hM) ?_;rintro e a' w' h;have hr:=hM.res;rw[List.drop_length]at hr
    cases e with
    | normal=>exact h.elim
    | _=>unfold q5A;rw[<- hr];exact h
  have hlt:k < t.length:=by omega
  obtain⟨b,off,rfl,hb,c0,c1,c2,c3⟩:=hp.node (Qa hlt);have hx:t[k]? = some t[k]:=Qa hlt;have hR:=λw1 (hU:Under w0 w1)=>pXA t[k] w1 (hs _ (Qr hlt)) (hS.under hU)
  have hN:=λ(hr:jB t[k]=true) w1 (hU:Under w0 w1)=>sZA t[k] w1 (hS.under hU) hr
  by_cases hbad:jB t[k]=false∨op.length < (binds t[k]).length
  . have hnone:yD t 0 [] []=none:=by
      rw[<- hM.res,Qi hlt]
      show(if jB t[k]=false∨op.length < (binds t[k]).length then none else _)=none
      rw[if_pos hbad]
    refine wp_mono (jAB hlt hn hx hbad J w hM hR hN hb c0 c1 c2 c3) ?_;rintro e a' w' h
    cases e with
    | normal=>exact h.elim
    | _=>unfold q5A;rw[hnone];exact h
  . have hr:jB t[k]=true:=by cases h:jB t[k] with
      | true=>rfl
      | false=>exact absurd (.inl h) hbad
    have hl:¬ op.length < (binds t[k]).length:=λh=>hbad (.inr h)
    rw[hr]at hR;refine wp_mono (qAB (kk:=op.length - (binds t[k]).length) (bl:=(binds t[k]).length) hlt hn hx hr rfl (by omega) (λy hy=>by have:=hM.dp y hy;omega) J w hM hR (hN hr) hb c0 c1 c2 c3) ?_;rintro e a' w' h
    cases e with
    | normal=>exact⟨m - 1,by omega,k+1,by omega,h⟩
    | _=>exact h.elim
theorem vSA:∀(t:List Nd) (k:Nat) (all op:List (Nat×Nat)) {r:List (Nat×Nat)×List (Nat×Nat)},all.length=k->op.length<=k->yD t k all op=some r->r.1.length=k+t.length/\r.2.length<=k+t.length:=by
 intro t
 induction t with
 | nil=>intro k all op r h1 h2 h;cases h;exact⟨h1,h2⟩
 | cons x t ih =>
   intro k all op r h1 h2 h;simp only[yD]at h
   split at h
   . cases h
   . have:=ih (k+1) _ _ (by rw[Qc,h1];rfl) (by rw[Qc,List.length_take,List.length_singleton];omega) h;rw[Qk];omega
theorem sIA(t:List Nd){p:Option Addr}(hn:t.length<=4000)(hs:∀ x∈t,x.s.size<=maxLen)(hp:RowArg w0 p (dC t))(hS:ShapesAt 2 w0) :
 Calls prog 103 #[.slice p t.length c] w0 (fYA w0 t):=by
 have HL:=aA (λm a w h=>bYA (w0:=w0) (c:=c) (t:=t) hn hs hp hS m a w h);clear hp hs hS;go_enter func103,ntmps103;go_wp2;rename_i K hK;refine wp_mono (HL.out t.length _ _ ⟨0,by omega,.slice none 0 0,.slice none 0 0,[],[],bB (F:=gJ _ _ _ _ 0) (by rfl) ⟨World.ownsRow_nil _ _ _ _,World.ownsRow_nil _ _ _ _,.inl rfl,Qu _,rfl,rfl,Qd _,λy hy=>by simp at hy⟩⟩) ?_;rintro e a' w' h;unfold q5A at h
 cases hR:yD t 0 [] [] with
 | none =>
   rw[hR]at h;obtain⟨rfl,J,rfl,hU⟩:=h;simp only[Exit.inBlock,Exit.then];go_ret2;unfold fYA;rw[hR];exact⟨rfl,hU⟩
 | some r =>
   rw[hR]at h;obtain⟨rfl,va,vo,all,op,J,rfl,hM⟩:=h;have hr:=hM.res;rw[List.drop_length,hR]at hr;obtain rfl:(all,op)=r:=Qt hr;simp only[Exit.inBlock,if_pos,Exit.then];refine hK _ _ ?_;clear hK;obtain⟨q,co,rfl,_,_⟩:=RowArg.of_own hM.op_;have HM:=aA hM;have HR:=aA hR;have hol:op.length<=4000:=by have:=hM.ol;omega
   clear hM hR hr;unfold gJ;go_wp2;go_ret2;unfold fYA;rw[HR.out];exact⟨va,rfl,HM.out.all_,HM.out.low⟩
def cTA(w0:World)(t:List Nd)(e:Ending)(w:World):Prop :=
 Under w0 w/\if bF t=0 then ∃ v all op,yD t 0 [] []=some (all,op)/\e = .returned (.tuple #[v,.int .i64 0])/\w.ownsRow w0.heap.size 187 2 v all.length (jD all)
   else e = .returned (.tuple #[.slice none 0 0,.int .i64 (bF t)])
theorem bY{w w1:World}{e:Int}(h:bF t=e)(he:e≠0)(hU:Under w w1):cTA w t (.returned (.tuple #[.slice none 0 0,.int .i64 e])) w1:=⟨hU,by rw[if_neg (by rw[h];exact he),h]⟩
theorem oYA(t:List Nd){p:Option Addr}(hn:t.length<=maxLen)(hs:∀ x∈t,x.s.size<=maxLen)(hp:RowArg w0 p (dC t))(hS:ShapesAt 2 w0) :
 Calls prog 86 #[.slice p t.length c] w0 (cTA w0 t):=by
 unfold maxLen at hn;by_cases hbig:4000 < t.length
 . have he:bF t=21:=by unfold bF;rw[if_pos hbig]
   have HE:=aA he;clear he hp hs hS;go_enter func86,ntmps86;go_wp2;go_ret2;exact bY HE.out (by decide) (Qu _)
 have HC:=aA (sIA (c:=c) t (by omega) hs hp hS);clear hp hs hS
 cases hR:yD t 0 [] [] with
 | none =>
   have he:bF t=20:=by unfold bF;rw[if_neg hbig,hR]
   have HE:=aA he;have HR:=aA hR;clear he hR;go_enter func86,ntmps86;go_wp2_with fail;refine HC.out.mono ?_;intro e w1 h;unfold fYA at h;rw[HR.out]at h;obtain⟨rfl,hU⟩:=h;have HU:=aA hU;clear hU;go_wp2;go_ret2;exact bY HE.out (by decide) HU.out
 | some r =>
   obtain⟨all,op⟩:=r;obtain⟨hl1,hl2⟩:=vSA t 0 [] [] rfl (Qd _) hR;simp only[Nat.zero_add]at hl1 hl2;by_cases ho:op.length=1
   . have hd:∃ m d f,all.length=m+1/\all.getLastD (0,0)=(f,d)/\all[m]? = some (f,d):=by
       refine⟨all.length - 1,_,_,by omega,rfl,?_⟩
       cases all with
       | nil=>simp at hl1;omega
       | cons y l=>simp[List.getLast_eq_getElem]
     obtain⟨m,d,f,hm,hg,ha⟩:=hd;obtain⟨ca,cb⟩:=wR ha;have he:bF t=if 60 < d then 22 else 0:=by unfold bF;rw[if_neg hbig,hR];simp only[ho,hg];simp
     have ho':decide ((op.length:Int)=1)=true:=by rw[ho];rfl
     have HE:=aA he;have HR:=aA hR;have HO:=aA ho';have HB:=aA cb;have hm4:m < 4000:=by omega
     have HMm:=aA hm;clear he hR ho ho' ca cb ha hg hl1 hl2 hm;have hm0:(0:Int)<=m:=Int.natCast_nonneg _;by_cases h60:60 < d
     all_goals
      have h60':decide ((60:Int) < d)=decide (60 < d):=by simp;omega
      go_enter func86,ntmps86;go_wp2_with fail;refine HC.out.mono ?_;intro e w1 h;unfold fYA at h;rw[HR.out]at h;obtain⟨v,rfl,hv,hU⟩:=h;rw[HO.out];have hv':=hv;rw[HMm.out]at hv;obtain⟨g,gc,rfl,hgo,_,hgl,_,_⟩:=yE hv (by omega);have e1:=rD hv hgo HB.out;have HU:=aA hU;have HV:=aA hv';clear hU hv hv';go_wp2;go_ret2
     . exact bY (by rw[HE.out,if_pos h60]) (by decide) HU.out
     . exact⟨HU.out,by rw[HE.out,if_neg h60,if_pos rfl];exact⟨_,all,op,HR.out,rfl,HV.out⟩⟩
   . have he:bF t=20:=by unfold bF;rw[if_neg hbig,hR];simp only;rw[if_pos ho]
     have ho':decide ((op.length:Int)=1)=false:=by simp;omega
     have HE:=aA he;have HR:=aA hR;have HO:=aA ho';clear he hR ho ho' hl1 hl2;go_enter func86,ntmps86;go_wp2_with fail;refine HC.out.mono ?_;intro e w1 h;unfold fYA at h;rw[HR.out]at h;obtain⟨v,rfl,_,hU⟩:=h;rw[HO.out];have HU:=aA hU;clear hU;go_wp2;go_ret2;exact bY HE.out (by decide) HU.out
theorem qWA(t:List Nd){p:Option Addr}(hn:t.length<=maxLen)(hs:∀ x∈t,x.s.size<=maxLen)(hp:RowArg w0 p (dC t))(hS:ShapesAt 2 w0) :
 Calls prog 60 #[.slice p t.length c] w0 λe w=>e = .returned (.int .i64 (bF t))/\Under w0 w:=by
 have HC:=aA (oYA (c:=c) t hn hs hp hS);clear hp hs hS;by_cases h0:bF t=0
 all_goals
  have H0:=aA h0;clear h0;go_enter func60,ntmps60;go_wp2_with fail;refine HC.out.mono ?_;intro e w1 ⟨hU,h⟩;have HU:=aA hU;clear hU
 . rw[if_pos H0.out]at h;obtain⟨v,all,op,_,rfl,_⟩:=h;go_wp2;go_ret;exact⟨iJ H0.out.symm,HU.out⟩
 . rw[if_neg H0.out]at h;subst h;go_wp2;go_ret;exact⟨rfl,HU.out⟩
end
section
variable {w0 : World}
theorem kQA(p1 p2:Option Addr)(n1 n2 d1 d2:Nat):Calls prog 57 #[.agg #[.slice p1 n1 d1,.slice p2 n2 d2]] w0 λe w=>∃ rb m1 m2,e = .returned (.pointer (some ⟨rb,0,none⟩))/\ReS w0 rb m1 m2 (.slice p1 n1 d1) (.slice p2 n2 d2) (.slice none 0 0) [] 0 0 w:=by
 have HU0:=aA (bA (Qu w0) (.cells #[.slice p1 n1 d1,.slice p2 n2 d2] 82));go_enter func57,ntmps57;go_wp2_with fail;go_region_held3 (λw'=>w'.cell? ⟨w0.heap.size,0,none⟩=some (.slice p1 n1 d1)/\w'.cell? ⟨w0.heap.size,1,none⟩=some (.slice p2 n2 d2))
   (first
     | go_keep
     | (go_split_ands
        refine⟨?_,?_⟩
        . (rw[iA hU2 (by have:=hU1.size;simp at this ⊢;omega)];assumption)
        . (rw[iA hU2 (by have:=hU1.size;simp at this ⊢;omega)];assumption))
     | (go_split_ands
        refine⟨?_,?_⟩
        . (rw[iA hU1 (by simp)];assumption)
        . (rw[iA hU1 (by simp)];assumption)))
   (first
     | (go_simp;go_at_call 77;refine(iHA (w0:=_)).mono ?_;rintro e w1 ⟨rfl,hM1,hU1⟩)
     | (go_simp;go_at_call 78;refine(zGA (w0:=_)).mono ?_;rintro e w2 ⟨rfl,hM2,hU2⟩))
 have hM1':MapAt w1 (w0.heap.size+1) formsL:=by simpa using hM1
 have hB:=zA w2 #[.slice p1 n1 d1,.slice p2 n2 d2,.map (some (w0.heap.size+1)),.map (some w1.heap.size),.slice none 0 0,.int .i64 0,.int .i64 0] 129;have hU3:=bA (Qu w2) (.cells #[.slice p1 n1 d1,.slice p2 n2 d2,.map (some (w0.heap.size+1)),.map (some w1.heap.size),.slice none 0 0,.int .i64 0,.int .i64 0] 129);have hUa:=(((fA HU0.out).trans hU1).trans hU2).trans hU3;have hlo:w0.heap.size<=w2.heap.size:=by have:=hU1.size;have:=hU2.size;simp at *;omega
 have HT:RowKit.Hid (ReS w0 w2.heap.size (w0.heap.size+1) w1.heap.size (.slice p1 n1 d1) (.slice p2 n2 d2) (.slice none 0 0) [] 0 0 _):=aA ⟨hB,(hM1'.under hU2).under hU3,hM2.under hU3,World.ownsRow_nil _ _ _ _,hUa,hlo⟩;have HUa:=aA hUa;clear hM1 hM1' hM2 hU1 hU2 hU3 hB hUa hlo;go_wp2;go_ret;exact⟨_,_,_,rfl,HT.out⟩
def v7A(w0:World)(R:Say)(e:Ending)(w:World):Prop:=Under w0 w/\match R with
 | .ok t=>∃ v,e = .returned (.tuple #[v,.int .i64 0,.int .i64 0])/\TermV w v t
 | .error (c,p)=>e = .returned (.tuple #[.slice none 0 0,.int .i64 p,.int .i64 c])
def TermOwn(w0:World)(R:Say)(e:Ending)(w:World):Prop:=Under w0 w/\match R with
 | .ok t=>∃ v,e = .returned (.tuple #[v,.int .i64 0,.int .i64 0])/\OwnTm 96 w v t
 | .error (c,p)=>e = .returned (.tuple #[.slice none 0 0,.int .i64 p,.int .i64 c])
theorem TermOwn.out{w0:World}{R:Say}{e:Ending}{w:World}(h:TermOwn w0 R e w):v7A w0 R e w:=by
 obtain⟨hU,h⟩:=h;refine⟨hU,?_⟩
 cases R with
 | ok t=>obtain⟨v,h1,h2⟩:=h;exact⟨v,h1,h2.val⟩
 | error x=>exact h
theorem j3A(T:ST)(hT:tJA T){q:Option Addr}{cap:Nat}(cs ds:List ByteArray)(hok:okS T)(hn:(qA T).length<=20000)(hcap:(qA T).length<=cap)(hq:SxArg w0 q (qA T))(hw:∀ x∈qA T,x.word.size<=1000000)(hE:StrcAt w0)(hS:ShapesAt 2 w0){p1 p2:Option Addr}{d1 d2:Nat}(hcs:TextsV w0 (.slice p1 cs.length d1) cs)(hds:TextsV w0 (.slice p2 ds.length d2) ds)(hcn:cs.length<=1000000)(hdn:ds.length<=1000000) :
 Calls prog 48 #[.agg #[.slice p1 cs.length d1,.slice p2 ds.length d2],.slice q (qA T).length cap] w0 (TermOwn w0 (oF cs ds T)):=by
 have HU0:=aA (bA (Qu w0) (.cells #[.slice p1 cs.length d1,.slice p2 ds.length d2] 82));have HB0:=aA (zA w0 #[.slice p1 cs.length d1,.slice p2 ds.length d2] 82);have HI:=aA (oQ (w0:=w0.alloc (.cells #[.slice p1 cs.length d1,.slice p2 ds.length d2] 82)) (cap:=cap) (p:=q) (qA T) (by omega) hcap (hq.under HU0.out));have hit:qC (qA T)=some [qA T]:=by
  have:=gF (ts:=[T]) ⟨hok,trivial⟩
  simpa [rA] using this
 rw[hit]at HI;have hp:=tL T;have HN:=aA (λw1=>kQA (w0:=w1) p1 p2 cs.length ds.length d1 d2);have HLen:=aA (λt (ht:pG cs ds T [] = .ok t)=>And.intro (aP T _ _ ht) (wCA T _ _ ht));have HT:=aA hT;clear hT;have HQ:=aA hq;have HL:=aA (λw1 (hU:Under w0 w1)=>jJ (w0:=w1) T (q:=q) (cap:=cap) (by omega) (hq.under hU));have HFl:=aA (And.intro hn hcap);have HD:RowKit.Hid (oF cs ds T=match pG cs ds T [] with|.error x=>.error x|.ok t=>if bF t=0 then .ok t else .error (bF t,T.last.pos)):=aA rfl;generalize oF cs ds T=TS at *;clear hq hit hn hcap;go_enter func48,ntmps48;go_wp2_with fail;refine HI.out.mono ?_;rintro e w1 ⟨hU1,vo,vs,rfl,h1,h2⟩;obtain⟨q2,c2,rfl,_⟩:=RowArg.of_own h1;have HU1:=aA (HU0.out.trans hU1);have hb1:=HB0.out.under hU1;have e0:w1.cell? ⟨w0.heap.size,0,none⟩=some (.slice p1 cs.length d1):=hb1.cell 0;have e1:w1.cell? ⟨w0.heap.size,1,none⟩=some (.slice p2 ds.length d2):=hb1.cell 1;have el:=hb1.lt;have h11:([qA T]:List (List Sx)).length=1:=rfl;rw[h11];clear hU1 h1 h2 HI hb1 h11;go_wp2_with fail;refine(HN.out _).mono ?_;rintro e w2 ⟨rb,m1,m2,rfl,hR2⟩;have HR2:=aA hR2;have HU2:=aA (HU1.out.trans hR2.und);have hrb:=hR2.lo;have HCa:=aA (HT.out w1 w2 rb m1 m2 _ _ _ [] 0 0 q cap (.slice none 0 0) [] cs ds hok HFl.out.1 HFl.out.2 hw (hE.under HU1.out) (hcs.under HU1.out) (hds.under HU1.out) hcn hdn hR2 (HQ.out.under HU2.out) (by
   intro b off x e hr;obtain⟨b',off',e',hb',_⟩:=HQ.out (λe=>by rw[e]at hp;exact absurd hp (Nat.lt_irrefl _));rw[e]at e';cases e';rcases hr with rfl|hr
   . have:=HU1.out.size;omega
   . cases hr) (TextsV.nil _) (λq n c e hne=>by cases e;exact absurd rfl hne) (by have:=HFl.out.1;simp;omega) (by have:=HFl.out.1;simp;omega))
 clear hR2 HN e0 e1 el;rcases hs:pG cs ds T [] with⟨ec,ep⟩|t
 . have HE:RowKit.Hid (TS = .error (ec,ep)):=aA (by rw[HD.out,hs]);rw[hs]at HCa;go_wp2_with fail;refine HCa.out.mono ?_;rintro e w3 ⟨ov',acc',p',e',g1,g2,g3,rfl,rfl,rfl⟩;have b5:=g1.box.cell 5;have b6:=g1.box.cell 6;have bl:=g1.box.lt;have HG:=aA g1.und;have bb:=And.intro b5 b6;clear g1 g2 g3 HCa;go_wp2_with fail;go_region_held3 (λw'=>w'.cell? ⟨rb,5,none⟩=some (.int .i64 p')/\w'.cell? ⟨rb,6,none⟩=some (.int .i64 e'))
     (first
       | exact bb
       | go_keep)
     (fail)
   rename_i hHeld;clear hHeld bb b5 b6;go_wp2;go_ret3;rw[HE.out];exact⟨HU1.out.trans (HG.out.trans (fA (Qu _))),rfl⟩
 . rw[hs]at HCa;go_wp2_with fail;refine HCa.out.mono ?_;rintro e w3 ⟨ov',acc',p',e',g1,g2,g3,rfl,hacc⟩;obtain rfl:t=acc':=by rw[hacc];rfl
   clear hacc;have HG:=aA g1;obtain⟨qo,co,rfl,hco,hro⟩:=RowArg.of_own g1.row;have b4:=g1.box.cell 4;have bl:=g1.box.lt;obtain⟨L1,L2⟩:=HLen.out t hs;have HCk:=aA (qWA (w0:=w3) (c:=co) t (by have:=HFl.out.1;simp only[maxLen];omega) (λx hx=>by have:=L2 x hx;simp only[maxLen];omega) hro ((hS.under HU1.out).under g1.und));have HTv:=aA (show TermV w3 (.slice qo t.length co) t from⟨qo,co,rfl,hco,(λe=>by
     subst e;rcases g1.row.2 with⟨e,_⟩|⟨g,c,cur,e,_⟩
     . injection e
     . injection e with e1;cases e1),hro⟩)
   have HTo:=aA (show OwnTm 96 w3 (.slice qo t.length co) t from uD g1.row (Nat.zero_le _));have HU3:=aA (HU1.out.trans g1.und);clear g1 g2 g3 HCa hco hro L1 L2;go_wp2_with fail;refine HCk.out.mono ?_;rintro e w4 ⟨rfl,hU4⟩;have HBx:=aA (HG.out.box.under hU4);have HU4:=aA (HU3.out.trans hU4);have HT4:=aA (HTo.out.under hU4);have b4:=HBx.out.cell 4;have bl:=HBx.out.lt;clear hU4
   cases hc:(bF t != 0)
   . have hc0:bF t=0:=by simpa using hc
     have HE:RowKit.Hid (TS = .ok t):=aA (by rw[HD.out,hs];simp only;rw[if_pos hc0]);clear hc0;go_wp2;go_ret3;rw[HE.out];exact⟨HU4.out,_,rfl,HT4.out⟩
   . have hc0:¬ bF t=0:=by simpa using hc
     have HE:RowKit.Hid (TS = .error (bF t,T.last.pos)):=aA (by rw[HD.out,hs];simp only;rw[if_neg hc0]);have HFd:=λ(a b:Int) (s:ByteArray) (w:World)=>(show(Instr.field 28 (.agg #[.int .i64 a,.int .i64 b,.string s]) 1).run prog w = .ok (.int .i64 b) w by kernel_rfl)
     have HLt:=aA (HL.out _ HU4.out);unfold sxV at HLt;clear hc0;go_wp2_with fail;refine HLt.out.mono ?_;rintro e w5 ⟨rfl,hU5⟩;have HU5:=aA (HU4.out.trans hU5);clear hU5;go_wp2;go_ret3;rw[HE.out];exact⟨HU5.out,rfl⟩
end
end Go.Proofs.YtpkaiodmbicjiaaGreatDoor
namespace Go.Proofs.YtpkaiodmbicjiaaGreatDoor
open Go.Proofs.Tryz
open Go.ChangeShapes Go.WideShapes Go.ChangeAt Go.WideMaps Go.WideElems Go.RowKit Go.Lx Go.Deep Go.Conc
theorem Tryz.own:ownKnob prog.godebug=none:=by kernel_rfl
theorem Tryz.laidOut:laidOutB prog=true:=by kernel_rfl
theorem gShapes : Tryz.prog.globalNamed "cornice/term.shapes" = some 2 := by kernel_rfl
theorem tShapes:(prog.globals[2]?).map (·.type)=some 208:=by kernel_rfl
theorem tPow:(prog.globals[4]?).map (·.type)=some 217:=by kernel_rfl
theorem gErrS : Tryz.prog.globalNamed "strconv.ErrSyntax" = some 0 := by kernel_rfl
theorem gErrR : Tryz.prog.globalNamed "strconv.ErrRange" = some 1 := by kernel_rfl
theorem tErrS:(prog.globals[0]?).map (·.type)=some 106:=by kernel_rfl
theorem tErrR:(prog.globals[1]?).map (·.type)=some 106:=by kernel_rfl
def dLA {H : Type} : List (String × DataW H) := [("math/bits.deBruijn32tab", Rows.laid_math_bits_deBruijn32tab), ("math/bits.deBruijn64tab", Rows.laid_math_bits_deBruijn64tab), ("internal/strconv.uint64pow10", Rows.laid_internal_strconv_uint64pow10), ("cornice/term.shapes", Rows.laid_cornice_term_shapes), ("strconv.ErrRange", Rows.laid_strconv_ErrRange), ("strconv.ErrSyntax", Rows.laid_strconv_ErrSyntax)]
theorem rWA{H:Type}:(Rows.laid_cornice_term_shapes:DataW H) = .agg ((List.range 30).map nRA):=by kernel_rfl
theorem l9A{H:Type}:(Rows.laid_internal_strconv_uint64pow10:DataW H)=Lib.tabData .u64 Lib.pow10Tab:=by kernel_rfl
theorem v0A(os:Os)(args:Array Value):laidMetH prog dLA ((World.doorLaid prog 400 os).forCall (λ_ _=>0) ⟨#[],args,[]⟩).memory :=
 laidMetH_of_parts3 (fuel:=8) (laidMet_of_run' 8 (by kernel_rfl) (by kernel_rfl)) (by kernel_rfl) (by kernel_rfl)
theorem qMA{H:Type}{enc:TypeId×Value->H}{W:World}{base:Nat}{sp:Nat->Bool}{fuel g:Nat}{nm n:String}{d:DataW H}{cs:Array Value}{q:List MemPlace}(hg:prog.globalNamed n=some g)(hv:W.var? prog n=some cs)(h:DataW.trod enc prog W base sp false fuel 106 cs.toList=some (.iface nm d,q)):∃ v,W.cell? ⟨g,0,none⟩=some v/\tZA v:=by
 obtain⟨_,u,v,e,_⟩:=iface_of_trod underlying106 h;obtain⟨cs⟩:=cs;obtain rfl:cs=[.iface u v]:=e;exact⟨_,by rw[World.var?_cell hg hv 0];rfl,.inr ⟨u,v,rfl⟩⟩
theorem m5A{W:World}(h:laidMetH prog dLA W):StrcAt W/\ShapesAt 2 W:=by
 rw[MakeChecks.laidMetH_plain _ _ _ (by kernel_rfl)]at h;obtain⟨ps,⟨_,_,_,_,_,_,_,_,_,_,⟨_,_,_,_,_,_,_,_,_,_,⟨g2,t2,cs2,f2,p2,q2,hg2,ht2,hv2,hd2,⟨g3,t3,cs3,f3,p3,q3,hg3,ht3,hv3,hd3,⟨g4,t4,cs4,f4,p4,q4,hg4,ht4,hv4,hd4,⟨g5,t5,cs5,f5,p5,q5,hg5,ht5,hv5,hd5,_,_⟩,_⟩,_⟩,_⟩,_⟩,_⟩,_,_⟩:=h;obtain rfl:=Qt (gShapes.symm.trans hg3);obtain rfl:=Qt (gPow.symm.trans hg2);obtain rfl:=Qt (gErrR.symm.trans hg4);obtain rfl:=Qt (gErrS.symm.trans hg5);obtain rfl:=Qt (tShapes.symm.trans ht3);obtain rfl:=Qt (tPow.symm.trans ht2);obtain rfl:=Qt (tErrR.symm.trans ht4);obtain rfl:=Qt (tErrS.symm.trans ht5);refine⟨⟨qMA hg5 hv5 hd5,qMA hg4 hv4 hd4,?_⟩,?_⟩
 . rw[l9A]at hd2
   show W.var? Tryz.prog "internal/strconv.uint64pow10" = _
   rw[hv2,<- Lib.cells_of_tab underlying217 underlying188 (by kernel_rfl) (by kernel_rfl) hd2]
 . rw[rWA]at hd3;exact sKA (cs:=cs3.toList) (λj=>by rw[World.var?_cell hg3 hv3 j];simp) underlying208 (by kernel_rfl) underlying207 (by kernel_rfl) underlying66 underlying3 (by kernel_rfl) underlying4 underlying4 underlying4 hd3
section
variable {H : Type} {enc : TypeId × Value -> H} {w : World} {spare : Nat -> Bool} {held : Bool} {fuel : Nat} {cs : List Value} {x : DataW H × List MemPlace}
theorem gBB(h:DataW.trod enc prog w 0 spare held fuel 23 cs=some x):∃(p:Option Addr) (cap:Nat) (l:List Sx),cs=[.slice p l.length cap]/\l.length<=cap/\l.length<=maxLen/\(p=none->cap=0)/\SxArg w p l :=
 tAB underlying23 underlying28 (by kernel_rfl) (by kernel_rfl) underlying3 underlying3 underlying9 h
theorem a4A{W w:World}{t:TypeId}{v:Value}{d:DataW H}{ps:List MemPlace}(hr:prog.readableRec t=true)(hrow:t < prog.types.size)(hU:Under W w)(dd:Nat)
    (hlt:∀ p∈ps,p.block < W.heap.size) (h:DataW.Trod enc prog W 0 (λ_=>true) true t v d ps):DataW.Trod enc prog (re w W.tape dd) 0 (λb=>decide (b < W.heap.size)) true t v d ps:=by
  refine Go.WideElems.Trod_stays Tryz.laidOut hr hrow h (λp hp=>?_) (λp hp=>by simpa using hlt p hp);have hb:=hlt p hp
  cases p with
  | cell b off=>exact iA (hU.re W.tape dd) hb off
  | map b=>exact(hU.re W.tape dd).low b hb
end
theorem jVA{W w:World}(h:Under W w)(d:Nat):Below W.heap.size W (re w W.tape d):=⟨h.os,rfl,h.output,h.size,λb hb=>h.low b hb⟩
theorem iQA{H:Type}{enc:TypeId×Value->H}{W:World}{base:Nat}{sp:Nat->Bool}{held:Bool}(b:Bool):DataW.Trod enc prog W base sp held 4 (.bool b) (.lit (.bool b)) []:=⟨1,by simp[DataW.trod,Value.cells,underlying4]⟩
end Go.Proofs.YtpkaiodmbicjiaaGreatDoor
namespace Go.Proofs.YtpkaiodmbicjiaaGreatDoor
open Go.Proofs.Tryz
open Go.Lx Go.RowKit
def y7A(c:UInt8):Bool:=(decide (97<=(c.toNat:Int))&&decide ((c.toNat:Int)<=122))||(decide (65<=(c.toNat:Int))&&decide ((c.toNat:Int)<=90))||((c.toNat:Int)==95)
theorem uYA:∀ n:Nat,n < 256->y7A (UInt8.ofNat n)=pX (UInt8.ofNat n):=by decide +kernel
theorem i7A(c:UInt8):y7A c=pX c:=by
 have h:=uYA c.toNat c.toNat_lt
 rwa [UInt8.ofNat_toNat]at h
section
variable {w0 : World}
theorem dFA(c:UInt8):Calls prog 64 #[.int .u8 c.toNat] w0 λe w=>e = .returned (.bool (pX c))/\w=w0:=by
 rw[<- i7A];have HR:RowKit.Hid (y7A c=((decide (97<=(c.toNat:Int))&&decide ((c.toNat:Int)<=122))||(decide (65<=(c.toNat:Int))&&decide ((c.toNat:Int)<=90))||((c.toNat:Int)==95))):=aA rfl;generalize y7A c=r at *;generalize (c.toNat:Int)=n at *;by_cases h1:97<=n
 all_goals by_cases h2:n<=122
 all_goals by_cases h3:65<=n
 all_goals by_cases h4:n<=90
 all_goals first|omega|skip
 all_goals
  go_enter func64,ntmps64;go_wp2;go_ret;exact⟨by rw[HR.out];simp[*]<;>omega,rfl⟩
def okR(c:UInt8):Bool:=pX c||zJA c
theorem xX:∀(l:List UInt8) (i:Nat),i≠0->xD i l=l.all okR
  | [],i,h=>rfl
  | c :: r, i, h => by
    simp only[xD,List.all_cons,okB,okR];rw[xX r (i+1) (by omega)];simp[h]
theorem sWA{s:ByteArray}{c:UInt8}{r:List UInt8}(h:s.data.toList=c::r)(hs:s.size<=16)(hc:pX c=true):fD s=s.data.toList.all okR:=by
 unfold fD;have h0:s.size≠0:=by
  have:s.data.toList.length=s.size:=by rw[Array.length_toList];rfl
  rw[h]at this;intro e;rw[e]at this;cases this
 rw[h];simp only[xD,List.all_cons];rw[xX r 1 (by decide)];simp[okB,okR,hc,h0,hs]
theorem eVA{s:ByteArray}{c:UInt8}{r:List UInt8}(h:s.data.toList=c::r)(hc:pX c=false):fD s=false:=by
 unfold fD;rw[h];simp[xD,okB,hc]
def wBB(w0:World)(s:ByteArray)(i:Value)(wr:World):Prop:=∃ k:Nat,k<=s.size/\i = .int .i64 (k:Int)/\s.data.toList.all okR=(s.data.toList.drop k).all okR/\w0=wr
theorem lJ(s:ByteArray):Calls prog 50 #[.string s] w0 λe w=>e = .returned (.bool (fD s))/\w=w0:=by
 have HLen:=aA (show s.data.toList.length=s.size by rw[Array.length_toList];rfl);by_cases h1:(s.size:Int) < 1
 . have HO:RowKit.Hid (fD s=false):=aA (by
     have:s.size=0:=by omega
     unfold fD;simp[this])
   go_enter func50,ntmps50;go_wp2;go_ret;exact⟨by rw[HO.out];rfl,rfl⟩
 by_cases h16:16 < (s.size:Int)
 . have HO:RowKit.Hid (fD s=false):=aA (by unfold fD;simp;intros;omega);go_enter func50,ntmps50;go_wp2;go_ret;exact⟨by rw[HO.out];rfl,rfl⟩
 have h0:0 < s.size:=by omega
 have hs16:s.size<=16:=by omega
 obtain⟨c,r,hcr⟩:∃ c r,s.data.toList=c::r:=by
  cases h:s.data.toList with
  | nil=>have:=HLen.out;rw[h]at this;simp at this;omega
  | cons c r=>exact⟨c,r,rfl⟩
 have hs0:s[0]=c:=by
  show s.data[0]=c
  rw[<- Array.getElem_toList];simp[hcr]
 have HL0:=aA (dFA (w0:=w0) c)
 cases hc:pX c
 . have HO:=aA (eVA hcr hc);rw[hc]at HL0;clear hcr hc;go_enter func50,ntmps50;go_wp2_with fail;refine HL0.out.mono ?_;rintro e w1 ⟨rfl,rfl⟩;go_wp2;go_ret;exact⟨by rw[HO.out];rfl,rfl⟩
 . have HO := aA (sWA hcr hs16 hc); rw [hc] at HL0; have HL := aA (λc => dFA (w0 := w0) c); clear hcr hc; go_enter func50, ntmps50; go_wp2_with fail; refine HL0.out.mono ?_; rintro e w1 ⟨rfl, rfl⟩; clear hs0 HL0; go_wp2; go_loopw [3] (λi wr => wBB w1 s i wr) (λi _ => s.size - (intOf i).toNat)
   case atStart=>exact⟨0,Nat.zero_le _,rfl,by simp,rfl⟩
   case round =>
     obtain⟨k,hk,rfl,hN,rfl⟩:=hrel;have HN:=aA hN;clear hN;by_cases hlt:k < s.size
     . have hk':k < s.data.toList.length:=by rw[HLen.out];exact hlt
       have hd:(s.data.toList.drop k).all okR=(okR s[k]&&(s.data.toList.drop (k+1)).all okR):=by rw[Qi hk'];rfl
       have HD:=aA hd;have HLk:=aA (HL.out s[k]);have hdg:zJA s[k]=(!(decide ((s[k].toNat:Int) < 48)) && !(decide (57 < (s[k].toNat:Int)))):=rfl;have HDg:=aA hdg;clear hd hdg;generalize hx:s[k]=x at *;have hok:okR x=(pX x||zJA x):=rfl;have HOk:=aA hok;clear hok
       cases hl:pX x
       . rw[hl]at HLk HOk;by_cases h48:(x.toNat:Int) < 48
         . go_wp2_with fail;refine HLk.out.mono ?_;rintro e w1 ⟨rfl,rfl⟩;go_wp2;go_ret;exact⟨by rw[HO.out,HN.out,HD.out,HOk.out,HDg.out];simp[h48],rfl⟩
         . by_cases h57 : 57 < (x.toNat : Int)
           . go_wp2_with fail;refine HLk.out.mono ?_;rintro e w1 ⟨rfl,rfl⟩;go_wp2;go_ret;exact⟨by rw[HO.out,HN.out,HD.out,HOk.out,HDg.out];simp[h57],rfl⟩
           . have HT:RowKit.Hid (okR x=true):=aA (by rw[HOk.out,HDg.out];simp;omega);go_wp2_with fail;refine HLk.out.mono ?_;rintro e w1 ⟨rfl,rfl⟩;go_wp2;go_roundw
             case rel=>exact⟨k+1,by omega,by go_num,by rw[HN.out,HD.out,HT.out];rfl,rfl⟩
             case measure=>simp[intOf];omega
       . rw[hl]at HLk HOk;go_wp2_with fail;refine HLk.out.mono ?_;rintro e w1 ⟨rfl,rfl⟩;go_wp2;go_roundw
         case rel=>exact⟨k+1,by omega,by go_num,by rw[HN.out,HD.out,HOk.out];rfl,rfl⟩
         case measure=>simp[intOf];omega
     . obtain rfl:k=s.size:=by omega
       have HE:RowKit.Hid (fD s=true):=aA (by rw[HO.out,HN.out,<- HLen.out,List.drop_length];rfl);go_wp2;go_ret;exact⟨by rw[HE.out];rfl,rfl⟩
end
section
variable {w0 : World}
theorem Tryz.infoInt:(Tryz.prog.info? 3).map (λi=>(i.zero,i.size,i.bytes))=some (some (.int .i64 0),1,8):=by kernel_rfl
end
def hasB(ss:List ByteArray)(s:ByteArray):Bool:=ss.any λx=>x.toList==s.toList
def rBB(w0:World)(ss:List ByteArray)(s:ByteArray)(i:Value)(wr:World):Prop:=∃ k:Nat,k<=ss.length/\i = .int .i64 (k:Int)/\(hasB ss s=hasB (ss.drop k) s)/\w0=wr
section
variable {w0 : World}
theorem hJA(ss:List ByteArray)(s:ByteArray){v:Value}(hn:ss.length<=maxLen)(hv:TextsV w0 v ss):Calls prog 72 #[v,.string s] w0 λe w=>e = .returned (.bool (hasB ss s))/\w=w0:=by
 obtain⟨p,c,rfl,_,_,hr⟩:=hv;have HR:=aA hr;have hn0:(0:Int)<=(ss.length:Int):=by omega
 have hn':(ss.length:Int)<=9223372036854775807:=by unfold maxLen at hn;omega
 clear hr hn;go_enter func72,ntmps72;go_wp2;go_loopw [5] (λi wr=>rBB w0 ss s i wr) (λi _=>ss.length - (intOf i).toNat)
 case atStart=>exact⟨0,Nat.zero_le _,rfl,by simp,rfl⟩
 case round =>
   obtain⟨k,hk,rfl,hN,rfl⟩:=hrel;have HN:=aA hN;clear hN;by_cases hlt:k < ss.length
   . obtain⟨b,off,rfl,hb,cc⟩:=kTA HR.out hlt;have hd:hasB (ss.drop k) s=(ss[k].toList==s.toList||hasB (ss.drop (k+1)) s):=by rw[Qi hlt];rfl
     have HD:=aA hd;clear hd;generalize ss[k]=x at *
     cases hx:(x.toList==s.toList)
     . have HX:=aA hx;go_wp2;go_roundw
       case rel=>exact⟨k+1,by omega,by go_num,by rw[HN.out,HD.out,HX.out];rfl,rfl⟩
       case measure=>simp[intOf];omega
     . have HX:=aA hx;go_wp2;go_ret;exact⟨by rw[HN.out,HD.out,HX.out];rfl,rfl⟩
   . obtain rfl:k=ss.length:=by omega
     have HE:RowKit.Hid (hasB ss s=false):=aA (by rw[HN.out,List.drop_length];rfl);go_wp2;go_ret;exact⟨by rw[HE.out];rfl,rfl⟩
end
section
variable {w0 : World}
def oP(x y:Nd):Bool:=x.k==y.k&&(x.n==y.n&&(x.m==y.m&&x.s.toList==y.s.toList))
def jU:List Nd->List Nd->Bool
  | [],[]=>true
  | x::a,y::b=>oP x y&&jU a b
  | _,_=>false
theorem qVA(x:Nd):oP x x=true:=by simp[oP]
theorem p8:∀ t:List Nd,jU t t=true
  | []=>rfl
  | x::t=>by simp[jU,qVA,p8 t]
theorem fIA:∀ {a b:List Nd},a.length≠b.length->jU a b=false
  | [],[],h=>absurd rfl h
  | x :: a, y :: b, h => by
    simp only[jU];rw[fIA (a:=a) (b:=b) (by simpa using h)];simp
  | [],y::b,h=>rfl
  | x::a,[],h=>rfl
def aDB(w0:World)(a b:List Nd)(i:Value)(wr:World):Prop:=∃ k:Nat,k<=a.length/\i = .int .i64 (k:Int)/\(jU a b=jU (a.drop k) (b.drop k))/\Under w0 wr
theorem hEA(a b:List Nd){u v:Value}(hn:a.length<=maxLen)(hu:TermV w0 u a)(hv:TermV w0 v b):Calls prog 19 #[u,v] w0 λe w=>e = .returned (.bool (jU a b))/\Under w0 w:=by
 obtain⟨p,c,rfl,_,_,hr⟩:=hu;obtain⟨p2,c2,rfl,_,_,hr2⟩:=hv;have HR:=aA hr;have HR2:=aA hr2;have hn0:(0:Int)<=(a.length:Int):=by omega
 have hn':(a.length:Int)<=9223372036854775807:=by unfold maxLen at hn;omega
 clear hr hn hr2;by_cases hl:a.length=b.length
 . have HLb:=aA hl;have hl1:((a.length:Int)==(b.length:Int))=true:=by rw[hl];simp
   rw[<- hl]at hl1 ⊢;clear hl;go_enter func19,ntmps19;go_wp2;go_loopw [5] (λi wr=>aDB w0 a b i wr) (λi _=>a.length - (intOf i).toNat)
   case atStart=>exact⟨0,Nat.zero_le _,rfl,by simp,Qu _⟩
   case round =>
     obtain⟨k,hk,rfl,hN,hU⟩:=hrel;have HN:=aA hN;clear hN;by_cases hlt:k < a.length
     . have hlt2:k < b.length:=by rw[<- HLb.out];exact hlt
       obtain⟨b1,dQ,rfl,hb1,c0,c1,c2,c3⟩:=RowArg.node HR.out (Qa hlt);obtain⟨b2,off2,rfl,hb2,d0,d1,d2,d3⟩:=RowArg.node HR2.out (Qa hlt2);rw[<- iA hU hb1]at c0 c1 c2 c3;rw[<- iA hU hb2]at d0 d1 d2 d3;have hb1':=Qb hb1 hU.size;have hb2':=Qb hb2 hU.size;have hd:jU (a.drop k) (b.drop k)=(oP a[k] b[k]&&jU (a.drop (k+1)) (b.drop (k+1))):=by rw[Qi hlt,Qi hlt2];rfl
       have HD:=aA hd;have HU:=aA hU;clear hd hU;generalize a[k]=x at *;generalize b[k]=y at *
       cases h1:(x.k==y.k)
       . skip
         have HX:RowKit.Hid (oP x y=false):=aA (by unfold oP;simp[*]);go_wp2_with fail;go_quiet (fail);go_wp2;go_ret;exact⟨by rw[HN.out,HD.out,HX.out];rfl,iB HU.out _⟩
       cases h2:(x.n==y.n)
       . skip
         have HX:RowKit.Hid (oP x y=false):=aA (by unfold oP;simp[*]);go_wp2_with fail;go_quiet (fail);go_wp2;go_ret;exact⟨by rw[HN.out,HD.out,HX.out];rfl,iB HU.out _⟩
       cases h3:(x.m==y.m)
       . skip
         have HX:RowKit.Hid (oP x y=false):=aA (by unfold oP;simp[*]);go_wp2_with fail;go_quiet (fail);go_wp2;go_ret;exact⟨by rw[HN.out,HD.out,HX.out];rfl,iB HU.out _⟩
       cases h4:(x.s.toList==y.s.toList)
       . skip
         have HX:RowKit.Hid (oP x y=false):=aA (by unfold oP;simp[*]);go_wp2_with fail;go_quiet (fail);go_wp2;go_ret;exact⟨by rw[HN.out,HD.out,HX.out];rfl,iB HU.out _⟩
       have HX:RowKit.Hid (oP x y=true):=aA (by unfold oP;rw[h1,h2,h3,h4];rfl);go_wp2_with fail;go_quiet (fail);go_wp2;go_roundw
       case rel=>exact⟨k+1,by omega,by go_num,by rw[HN.out,HD.out,HX.out];rfl,iB HU.out _⟩
       case measure=>simp[intOf];omega
     . obtain rfl:k=a.length:=by omega
       have HE:RowKit.Hid (jU a b=true):=aA (by rw[HN.out,List.drop_length,HLb.out,List.drop_length];rfl);have HU:=aA hU;clear hU;go_wp2;go_ret;exact⟨by rw[HE.out];rfl,HU.out⟩
 . have HE:=aA (fIA hl);have hl1:((a.length:Int)==(b.length:Int))=false:=by simp;omega
   clear hl;go_enter func19,ntmps19;go_wp2;go_ret;exact⟨by rw[HE.out];rfl,Qu _⟩
end
def uR(x:Nd):Bool:=(x.n==0)&&(x.m==0)&&x.s.toList.isEmpty
section
variable {w0 : World}
theorem hIA(x:Nd):Calls prog 108 #[ndV x] w0 λe w=>e = .returned (.bool (uR x))/\w=w0.alloc (.cells #[.int .i64 x.k,.int .i64 x.n,.int .i64 x.m,.string x.s] 96):=by
 have HO:RowKit.Hid (uR x=((x.n==0)&&(x.m==0)&&x.s.toList.isEmpty)):=aA rfl;generalize uR x=r at *;unfold ndV
 cases h1:(x.n==0)
 . rw[h1]at HO;go_enter func108,ntmps108;go_wp2;go_ret;exact⟨by rw[HO.out];rfl,rfl⟩
 . rw[h1]at HO
   cases h2:(x.m==0)
   . rw[h2]at HO;go_enter func108,ntmps108;go_wp2;go_ret;exact⟨by rw[HO.out];rfl,rfl⟩
   . rw[h2]at HO
     cases h3:x.s.toList.isEmpty
     all_goals
      rw[h3]at HO;go_enter func108,ntmps108;go_wp2;go_ret;exact⟨by rw[HO.out];rfl,rfl⟩
def rBA(n:Int):Bool:=decide (0<=n)&&decide (n<=9)
theorem hXA(n:Int):Calls prog 117 #[.int .i64 n] w0 λe w=>e = .returned (.bool (rBA n))/\w=w0:=by
 have HO:RowKit.Hid (rBA n=(decide (0<=n)&&decide (n<=9))):=aA rfl;generalize rBA n=r at *;by_cases h1:0<=n
 . by_cases h2:n<=9
   all_goals
    go_enter func117,ntmps117;go_wp2;go_ret;exact⟨by rw[HO.out];simp[h1];try omega,rfl⟩
 . go_enter func117,ntmps117;go_wp2;go_ret;exact⟨by rw[HO.out];simp;omega,rfl⟩
theorem pLA(n:Int):Calls prog 107 #[.int .i64 n] w0 λe w=>e = .returned (.int .i64 (if rBA n then 0 else 1))/\w=w0:=by
 have HL:=aA (hXA (w0:=w0) n)
 cases h:rBA n
 all_goals
  rw[h]at HL;go_enter func107,ntmps107;go_wp2_with fail;refine HL.out.mono ?_;rintro e w1 ⟨rfl,rfl⟩;go_wp2;go_ret;exact⟨rfl,rfl⟩
end
theorem vO(w:World)(base:Nat)(e:TypeId)(size:Nat)(hb:base<=w.heap.size):(w.alloc (.cells #[] e)).ownsRow base e size (.slice (some ⟨w.heap.size,0,none⟩) 0 0) 0 [] :=
 ⟨by simp,.inr ⟨w.heap.size,0,#[],rfl,hb,zA w _ _,Qd _,by unfold maxLen;omega,by simp,by simp⟩⟩
def BOut(w0:World)(l:List Nat)(b:Bool)(e:Ending)(w:World):Prop:=∃ q c,e = .returned (.tuple #[.slice q l.length c,.bool b])/\l.length<=c/\RowArg w q (jN l)/\Under w0 w
def k3A:List (Int×List Nat):=[(4,[0,1]),(5,[0,0]),(15,[0,0]),(19,[0,0]),(23,[0,0]),(7,[0,0,0]),(18,[0,0,0]),(8,[0]),(9,[0]),(12,[0]),(28,[0]),(13,[1,0,2,0]),(20,[0,0,0,0]),(21,[0,0,1,0,0,0]),(22,[0,2,0,0,0]),(24,[0,1,0,0])]
section
variable {w0 : World}
theorem a5A(k n m:Int)(s:ByteArray)(l:List Nat)(h:(k,l)∈k3A):Calls prog 92 #[ndV ⟨k,n,m,s⟩] w0 (BOut w0 l (uR ⟨k,n,m,s⟩)):=by
 obtain⟨i0,hi,hz0,hz1,hz2⟩:=info_parts Tryz.infoInt;obtain⟨x,Hx⟩:∃ x,RowKit.Hid (x=k):=⟨k,aA rfl⟩;have HPl:=aA (λw=>hIA (w0:=w) ⟨k,n,m,s⟩);generalize uR ⟨k,n,m,s⟩=pb at *;unfold ndV at *;simp only at HPl ⊢;obtain⟨WN,HW⟩:∃ WN,RowKit.Hid (WN=w0.alloc (.cells #[.int .i64 x,.int .i64 n,.int .i64 m,.string s] 96)):=⟨_,aA rfl⟩;obtain⟨hs,HBx,HU⟩:WN.heap.size=w0.heap.size+1/\RowKit.Hid (BoxAt (WN.alloc (.cells #[] 3)) w0.heap.size 96 #[.int .i64 x,.int .i64 n,.int .i64 m,.string s])/\RowKit.Hid (Under w0 (WN.alloc (.cells #[] 3))):=by
  rw[HW.out];exact⟨by simp,(zA w0 _ _).alloc _,bA (bA (Qu _) _) _⟩
 have HR:=aA (hs▸vO WN (w0.heap.size+1) 3 1 (by omega));rw[<- Hx.out]at HPl;simp only[k3A,List.mem_cons,Prod.mk.injEq,List.not_mem_nil,or_false]at h;rcases h with⟨rfl,rfl⟩|⟨rfl,rfl⟩|⟨rfl,rfl⟩|⟨rfl,rfl⟩|⟨rfl,rfl⟩|⟨rfl,rfl⟩|⟨rfl,rfl⟩|⟨rfl,rfl⟩|⟨rfl,rfl⟩|⟨rfl,rfl⟩|⟨rfl,rfl⟩|⟨rfl,rfl⟩|⟨rfl,rfl⟩|⟨rfl,rfl⟩|⟨rfl,rfl⟩|⟨rfl,rfl⟩
 all_goals
  go_enter func92,ntmps92;go_wp2_with fail;rw[<- Hx.out,<- HW.out];have Hs:=aA hs;clear hs Hx HW;generalize WN.alloc (.cells #[] 3)=W1 at *;have c0:=HBx.out.cell 0;have c1:=HBx.out.cell 1;have c2:=HBx.out.cell 2;have c3:=HBx.out.cell 3;refine wp_region_noPanic ?_;go_region_held3 (λw'=>w'.cell? ⟨w0.heap.size,0,none⟩=some (.int .i64 x)/\w'.cell? ⟨w0.heap.size,1,none⟩=some (.int .i64 n)/\w'.cell? ⟨w0.heap.size,2,none⟩=some (.int .i64 m)/\w'.cell? ⟨w0.heap.size,3,none⟩=some (.string s))
    (first
      | exact⟨(HB2.out.alloc _).cell 0,(HB2.out.alloc _).cell 1,(HB2.out.alloc _).cell 2,(HB2.out.alloc _).cell 3⟩
      | exact⟨HBx.out.drew.cell 0,HBx.out.drew.cell 1,HBx.out.drew.cell 2,HBx.out.drew.cell 3⟩
      | exact⟨HB2.out.cell 0,HB2.out.cell 1,HB2.out.cell 2,HB2.out.cell 3⟩
      | exact⟨(HBx.out.alloc _).drew.cell 0,(HBx.out.alloc _).drew.cell 1,(HBx.out.alloc _).drew.cell 2,(HBx.out.alloc _).drew.cell 3⟩)
    (first
      | (go_at_call 108
         refine(HPl.out _).mono ?_;rintro e w3 ⟨rfl,rfl⟩)
      | (refine step_append_lies _ (by rfl) _ _ _ (by rfl) (w0.heap.size + 1) 3 i0 _ 1 8 underlying66 hi hz0 hz1 hz2 rfl (by omega) _ 0 [] (by rfl) (HR.out.alloc _).drew ⟨W1.heap.size, 0, none⟩ _ _ _ (by rfl) (by rfl) (World.news_of_block (fr := (0, 0)) (heap_alloc_new W1 _)) (by simp [Value.oneCell']) (by omega) (by simp [maxLen]) (by simp) (by have := HBx.out.lt; simp; omega) (W1.heap.size + 1) (by simp) ?_
         intro gg cc w2 hown2 hgrow hat hlt;have HB2:=aA (BoxAt.grown ((HBx.out.alloc (.cells _ 3)).drew) hgrow (λe=>by simp[Value.ownBlock]at e));have HU2:=aA (eB (fA (bA HU.out (.cells _ 3))) hgrow (λg e=>by have:=HBx.out.lt;simp[Value.ownBlock]at e;omega));have HO2:=aA hown2;clear hown2 hgrow hat hlt))
  refine NoPanic.normal ?_;obtain⟨q,c,hv,hc,hr⟩:=RowArg.of_own HO2.out
  cases hv;go_wp2;go_ret2;exact⟨_,_,rfl,hc,hr.under (bA (Qu _) _),bA HU2.out _⟩
end
section
variable {w0 : World}
theorem Tryz.infoNdZ:(Tryz.prog.info? 96).map (λi=>(i.zero,i.size,i.bytes))=some (some (.agg #[.int .i64 0,.int .i64 0,.int .i64 0,.string ⟨#[]⟩]),4,40):=by kernel_rfl
theorem pKA(t:List Nd):∀ u∈dC t,u.oneCell'=true:=by
 induction t with
 | nil=>intro u hu;simp[dC]at hu
 | cons x t ih =>
   intro u hu;simp only[dC,List.mem_cons]at hu;rcases hu with rfl|rfl|rfl|rfl|hu
   . rfl
   . rfl
   . rfl
   . rfl
   . exact ih u hu
theorem mKA(t:List Nd){a:Addr}{c:Nat}(hn:t.length<=2000000)(hc:t.length<=c)(hr:RowArg w0 (some a) (dC t)):Calls prog 56 #[.slice (some a) t.length c] w0 λe w=>∃ v,e = .returned v/\w.ownsRow w0.heap.size 96 4 v t.length (dC t)/\Under w0 w:=by
 obtain⟨i0,hi,hz0,hz1,hz2⟩:=info_parts Tryz.infoNdZ;have eqn:=Lib.run_eql_slice_nil (P:=prog) w0 30 96 (some a) t.length c 0 0 underlying30;have HR:=aA hr;clear hr;go_enter func56,ntmps56;go_wp2_with (at_builtin;refine zC rfl _ _ 30 rfl w0.heap.size 96 i0 _ 4 40 underlying30 hi hz0 hz1 hz2 rfl (by decide) _ _ _ rfl (vO w0 w0.heap.size _ _ (Qd _)) (some a) t.length c (dC t) rfl (iU t) hc (λh=>by cases h) (HR.out.under (bA (Qu _) _)) (pKA t) (by simp only[maxLen];omega) (by omega) (by simp) ?_);intro v1 w1 hown hgrow;replace hown:w1.ownsRow w0.heap.size 96 4 v1 t.length (dC t):=by simpa using hown
 have HO:=aA hown;have HU:=aA (eB (bA (Qu w0) _) hgrow λz e=>by cases e;exact Qd _);obtain⟨q,d,rfl,_,_⟩:=RowArg.of_own hown;clear hown hgrow;go_wp2;go_ret;exact⟨_,rfl,HO.out,HU.out⟩
theorem fP{w:World}{base:Nat}{e:TypeId}{v:Value}{t:List Nd}(h:w.ownsRow base e 4 v t.length (dC t)):TermV w v t:=by
 have hc:∀ q n c,v = .slice q n c->q=none->c=0:=by
  intro q n c e hq;subst hq;rcases h.2 with⟨rfl,_⟩|⟨g,cap,cur,e',_⟩
  . cases e;rfl
  . rw[e']at e;cases e
 obtain⟨q,c,rfl,h1,h2⟩:=RowArg.of_own h;exact⟨q,c,rfl,h1,hc q _ c rfl,h2⟩
theorem vW(t:List Nd){v:Value}(hn:t.length<=2000000)(hv:TermV w0 v t):Calls prog 56 #[v] w0 λe w=>∃ v',e = .returned v'/\w.ownsRow w0.heap.size 96 4 v' t.length (dC t)/\Under w0 w:=by
 obtain⟨p,c,rfl,hc,h0,hr⟩:=hv
 cases p with
 | none =>
   obtain rfl:=h0 rfl;obtain rfl:t=[]:=List.eq_nil_of_length_eq_zero (by omega);have eqn:=Lib.run_eql_slice_nil (P:=prog) w0 30 96 none 0 0 0 0 underlying30;clear hr;go_enter func56,ntmps56;go_wp2;go_ret;exact⟨_,rfl,World.ownsRow_nil _ _ _ _,Qu _⟩
 | some a=>exact mKA t hn hc hr
end
structure Lite (d:Dc):Prop where
 type:d.type.length<=2000000
 body:d.body.length<=2000000
 cons:d.cons.length<=5864062014634
 con:∀ c∈d.cons,c.length<=5864062014634/\∀ t∈c,t.length<=2000000
theorem Tryz.infoNdsC:(Tryz.prog.info? 30).map (λi=>(i.zero,i.size,i.bytes))=some (some (.slice none 0 0),1,24):=by kernel_rfl
theorem Tryz.infoNds2C:(Tryz.prog.info? 62).map (λi=>(i.zero,i.size,i.bytes))=some (some (.slice none 0 0),1,24):=by kernel_rfl
def o0A(db rb:Nat)(J:Nat->Value):Array Value:=#[J 0,.pointer (some ⟨db,0,none⟩),.pointer (some ⟨rb,0,none⟩),J 3,J 4,J 5,J 6,J 7,J 8,J 9,J 10,J 11,J 12,J 13,J 14,J 15,J 16,J 17,J 18,J 19,J 20,J 21,J 22,J 23,J 24,J 25,J 26,J 27,J 28,J 29,J 30,J 31,J 32,J 33,J 34,J 35,J 36,J 37,J 38,J 39,J 40,J 41,J 42,J 43]
abbrev dcZ:Array Value:=#[.int .i64 0,.int .i64 0,.string ⟨#[]⟩,.slice none 0 0,.slice none 0 0,.slice none 0 0]
def jDB(w0:World)(t b:List Nd)(k l:Int)(s:ByteArray)(vc:Value)(e:Exit)(a':Act)(w':World):Prop:=e = .normal/\∃ vt vb,(∃ J,a'=⟨o0A w0.heap.size (w0.heap.size+1) J,[]⟩)/\BoxAt w' w0.heap.size 33 #[.int .i64 k,.int .i64 l,.string s,vt,vb,vc]/\BoxAt w' (w0.heap.size+1) 33 dcZ/\w'.ownsRow (w0.heap.size+2) 96 4 vt t.length (dC t)/\w'.ownsRow (w0.heap.size+2) 96 4 vb b.length (dC b)/\Under w0 w'
def Ow1(B:Nat)(w:World)(u:Value)(t:List Nd):Prop:=w.ownsRow B 96 4 u t.length (dC t)
def Ow2(B:Nat)(w:World)(u:Value)(c:List (List Nd)):Prop:=∃ vs,w.ownsRow B 30 1 u c.length vs/\Zip (Ow1 B w) vs c
section
variable {B : Nat} {w w' : World} {u : Value}
theorem Ow1.under{t:List Nd}(h:Ow1 B w u t)(hU:Under w w'):Ow1 B w' u t:=uA h hU
theorem Ow2.under{c:List (List Nd)}(h:Ow2 B w u c)(hU:Under w w'):Ow2 B w' u c:=by
 obtain⟨vs,h1,h2⟩:=h;exact⟨vs,uA h1 hU,h2.mono λv x h=>h.under hU⟩
theorem Ow1.grown{t:List Nd}(h:Ow1 B w u t){b e s n:Nat}{v:Value}{xs:List Value}(k:w.ownsRow b e s v n xs)(hg:w.grownBy w' v.ownBlock)(he:96≠e):Ow1 B w' u t:=rC h hg (own_ne h k he)
theorem Ow2.grown{c:List (List Nd)}(h:Ow2 B w u c){b e s n:Nat}{v:Value}{xs:List Value}(k:w.ownsRow b e s v n xs)(hg:w.grownBy w' v.ownBlock)(he:96≠e)(he2:30≠e):Ow2 B w' u c:=by
 obtain⟨vs,h1,h2⟩:=h;exact⟨vs,rC h1 hg (own_ne h1 k he2),h2.mono λv x h=>h.grown k hg he⟩
theorem Ow1.ch{t:List Nd}(h:Ow1 B w u t){C:Nat->Prop}(k:Ch C w w')(hC:∀ b,C b->b < B):Ow1 B w' u t:=iE h k λg hg hc=>by have:=(xB h hg).1;have:=hC g hc;omega
theorem Ow2.ch{c:List (List Nd)}(h:Ow2 B w u c){C:Nat->Prop}(k:Ch C w w')(hC:∀ b,C b->b < B):Ow2 B w' u c:=by
 obtain⟨vs,h1,h2⟩:=h;exact⟨vs,iE h1 k λg hg hc=>by have:=(xB h1 hg).1;have:=hC g hc;omega,h2.mono λv x h=>h.ch k hC⟩
theorem Ow2.terms{c:List (List Nd)}(h:Ow2 B w u c):TermsV w u c:=by
 obtain⟨vs,h1,h2⟩:=h;exact ListV.of_own h1 (h2.mono λv x h=>fP h)
end
def Ow3(B:Nat)(w:World)(u:Value)(c:List (List (List Nd))):Prop:=∃ vs,w.ownsRow B 62 1 u c.length vs/\Zip (Ow2 B w) vs c
def DcO(B:Nat)(w:World)(v:Value)(d:Dc):Prop:=∃ vt vb vc,v = .agg #[.int .i64 d.kind,.int .i64 d.level,.string d.name,vt,vb,vc]/\Ow1 B w vt d.type/\Ow1 B w vb d.body/\Ow3 B w vc d.cons
section
variable {B : Nat} {w w' : World} {u : Value}
theorem Ow1.base{B':Nat}{t:List Nd}(h:Ow1 B w u t)(hB:B'<=B):Ow1 B' w u t:=uD h hB
theorem Ow2.base{B':Nat}{c:List (List Nd)}(h:Ow2 B w u c)(hB:B'<=B):Ow2 B' w u c:=by
 obtain⟨vs,h1,h2⟩:=h;exact⟨vs,uD h1 hB,h2.mono λv x h=>h.base hB⟩
theorem Ow3.base{B':Nat}{c:List (List (List Nd))}(h:Ow3 B w u c)(hB:B'<=B):Ow3 B' w u c:=by
 obtain⟨vs,h1,h2⟩:=h;exact⟨vs,uD h1 hB,h2.mono λv x h=>h.base hB⟩
theorem Ow3.under{c:List (List (List Nd))}(h:Ow3 B w u c)(hU:Under w w'):Ow3 B w' u c:=by
 obtain⟨vs,h1,h2⟩:=h;exact⟨vs,uA h1 hU,h2.mono λv x h=>h.under hU⟩
theorem Ow3.ch{c:List (List (List Nd))}(h:Ow3 B w u c){C:Nat->Prop}(k:Ch C w w')(hC:∀ b,C b->b < B):Ow3 B w' u c:=by
 obtain⟨vs,h1,h2⟩:=h;exact⟨vs,iE h1 k λg hg hc=>by have:=(xB h1 hg).1;have:=hC g hc;omega,h2.mono λv x h=>h.ch k hC⟩
theorem Ow3.cons{c:List (List (List Nd))}(h:Ow3 B w u c):ConsV w u c:=by
 obtain⟨vs,h1,h2⟩:=h;exact ListV.of_own h1 (h2.mono λv x h=>h.terms)
theorem DcO.under{d:Dc}(h:DcO B w u d)(hU:Under w w'):DcO B w' u d:=by
 obtain⟨vt,vb,vc,e,h1,h2,h3⟩:=h;exact⟨vt,vb,vc,e,h1.under hU,h2.under hU,h3.under hU⟩
theorem DcO.ch{d:Dc}(h:DcO B w u d){C:Nat->Prop}(k:Ch C w w')(hC:∀ b,C b->b < B):DcO B w' u d:=by
 obtain⟨vt,vb,vc,e,h1,h2,h3⟩:=h;exact⟨vt,vb,vc,e,h1.ch k hC,h2.ch k hC,h3.ch k hC⟩
theorem DcO.base{B':Nat}{d:Dc}(h:DcO B w u d)(hB:B'<=B):DcO B' w u d:=by
 obtain⟨vt,vb,vc,e,h1,h2,h3⟩:=h;exact⟨vt,vb,vc,e,h1.base hB,h2.base hB,h3.base hB⟩
theorem DcO.val{d:Dc}(h:DcO B w u d):DcV w u d:=by
 obtain⟨vt,vb,vc,e,h1,h2,h3⟩:=h;exact⟨vt,vb,vc,e,fP h1,fP h2,h3.cons⟩
theorem DcO.agg{d:Dc}(h:DcO B w u d):∃ q k q' k' r c,u = .agg #[.int .i64 d.kind,.int .i64 d.level,.string d.name,.slice q d.type.length k,.slice q' d.body.length k',.slice r d.cons.length c]:=by
 obtain⟨vt,vb,vc,e,h1,h2,⟨vs,h3,_⟩⟩:=h;obtain⟨q,k,rfl,_⟩:=RowArg.of_own h1;obtain⟨q',k',rfl,_⟩:=RowArg.of_own h2;obtain⟨r,c,rfl,_⟩:=RowArg.of_own h3;exact⟨q,k,q',k',r,c,e⟩
end
def CaR(B:Nat)(w1:World)(c:List (List Nd))(va i:Value)(wr:World):Prop:=∃(k:Nat) (us:List Value),k<=c.length/\i = .int .i64 (k:Int)/\wr.ownsRow w1.heap.size 30 1 va k us/\Zip (Ow1 B wr) us (c.take k)/\Under w1 wr
def CoR(B:Nat)(w1:World)(cs:List (List (List Nd)))(va i:Value)(wr:World):Prop:=∃(k:Nat) (us:List Value),k<=cs.length/\i = .int .i64 (k:Int)/\wr.ownsRow w1.heap.size 62 1 va k us/\Zip (Ow2 B wr) us (cs.take k)/\Under w1 wr
section
variable {w0 : World}
theorem cRA(d:Dc){v:Value}(hd:Lite d)(hv:DcV w0 v d):Calls prog 45 #[v] w0 λe w=>∃ v',e = .returned v'/\DcO w0.heap.size w v' d/\Under w0 w:=by
 obtain⟨i0,hi,hz0,hz1,hz2⟩:=info_parts Tryz.infoNdsC;obtain⟨j0,hj,hy0,hy1,hy2⟩:=info_parts Tryz.infoNds2C;obtain⟨vt,vb,vc,rfl,h1,h2,h3⟩:=hv;have HT:=aA (λw (h:Under w0 w)=>vW (w0:=w) d.type hd.type (TermV.mono _ _ _ _ h h1));have HBd:=aA (λw (h:Under w0 w)=>vW (w0:=w) d.body hd.body (TermV.mono _ _ _ _ h h2));obtain⟨pt,ct,rfl,_⟩:=h1;obtain⟨pb,cb,rfl,_⟩:=h2;obtain⟨pc,cc,vs,rfl,hcc,hc0,hrc,hzc⟩:=h3;have HRc:=aA hrc;have HZc:=aA hzc;have HD:=aA hd;clear hcc hc0 hrc hzc hd;go_enter func45,ntmps45;go_wp2;rename_i K hK;obtain⟨w1,hw1⟩:∃ w1,w1=(w0.alloc (.cells #[.int .i64 d.kind,.int .i64 d.level,.string d.name,.slice pt d.type.length ct,.slice pb d.body.length cb,.slice pc d.cons.length cc] 33)).alloc (.cells dcZ 33):=⟨_,rfl⟩;have HB1:=aA (show BoxAt w1 w0.heap.size 33 #[.int .i64 d.kind,.int .i64 d.level,.string d.name,.slice pt d.type.length ct,.slice pb d.body.length cb,.slice pc d.cons.length cc] by rw[hw1];exact(zA w0 _ _).alloc _);have HB2:=aA (show BoxAt w1 (w0.heap.size+1) 33 dcZ by rw[hw1];have:=zA (w0.alloc (.cells #[.int .i64 d.kind,.int .i64 d.level,.string d.name,.slice pt d.type.length ct,.slice pb d.body.length cb,.slice pc d.cons.length cc] 33)) dcZ 33;simpa using this);have HU:=aA (show Under w0 w1 by rw[hw1];exact bA (bA (Qu w0) _) _);have HSz:=aA (show w0.heap.size+2<=w1.heap.size by rw[hw1];simp);rw[<- hw1];clear hw1;refine wp_mono (Q:=jDB w0 d.type d.body d.kind d.level d.name (.slice pc d.cons.length cc)) ?_ ?_
 . clear hK;have c3:=HB1.out.cell 3;have c4:=HB1.out.cell 4;have cl:=HB1.out.lt;refine wp_region_noPanic ?_;refine wp_region_held_drew (S:=λ_=>True) (by kernel_rfl) trivial (λhHeld=>?_);refine dA 0 rfl ?_;refine dA 3 rfl ?_
   try walk_nrm
   refine kG 1 4 (by kernel_rfl) rfl rfl (λK hK=>?_) (λK hK=>?_)
   . go_simp;refine hK.out _ _ trivial (λ_=>?_);clear hK K hHeld;rename_i hHeld
     try walk_nrm
     refine kG 2 4 (by kernel_rfl) rfl rfl (λK hK=>?_) (λK hK=>?_)
     . go_simp;go_at_call 56;refine(HT.out _ (fA HU.out)).mono ?_;rintro e w3 ⟨v3,rfl,hv3,hU3⟩;obtain⟨q3,k3,rfl,_,_⟩:=RowArg.of_own hv3;have hO3:=uD (base':=w0.heap.size+2) hv3 (by have:=HSz.out;simpa using this);have HU3:=aA ((fA HU.out).trans hU3);have HB3:=aA (HB1.out.under ((fA (Qu _)).trans hU3));have HZ3:=aA (HB2.out.under ((fA (Qu _)).trans hU3));have HO3:=aA hO3;have hS3:w0.heap.size+2<=w3.heap.size:=Ql (by have:=HSz.out;simpa using this) hU3.size;clear hv3 hO3 hU3;refine hK.out _ _ trivial (λ_=>?_);clear hK K hHeld;rename_i hHeld
       try walk_nrm
       have c4:=HB3.out.cell 4;have cl:=HB3.out.lt;refine yA 4 (by kernel_rfl) rfl λK hK=>?_
       go_simp;refine hK.out _ _ trivial (λ_=>?_);clear hK K hHeld;rename_i hHeld
       try walk_nrm
       clear c3 c4 cl;refine dA 6 rfl ?_;refine yA 5 (by kernel_rfl) rfl λK hK=>?_
       go_simp;go_at_call 56;refine(HBd.out _ HU3.out).mono ?_;rintro e w4 ⟨v4,rfl,hv4,hU4⟩;obtain⟨q4,k4,rfl,_,_⟩:=RowArg.of_own hv4;have HO4:=aA (uD (base':=w0.heap.size+2) hv4 hS3);have HB4:=aA (HB3.out.under hU4);have HZ4:=aA (HZ3.out.under hU4);have HP4:=aA (uA HO3.out hU4);have HU4:=aA (HU3.out.trans hU4);clear hv4 hU4;refine hK.out _ _ trivial (λ_=>?_);clear hK K hHeld;rename_i hHeld
       try walk_nrm
       have b3:=HB4.out.cell 3;have bf:=HB4.out.free 3;have bl:=HB4.out.lt;refine yA 7 (by kernel_rfl) rfl λK hK=>?_
       go_simp;obtain⟨w5,hw5⟩:∃ w5,w5=w4.setCell ⟨w0.heap.size,3,none⟩ (.slice q3 d.type.length k3):=⟨_,rfl⟩;have HB5:=aA (show BoxAt w5 w0.heap.size 33 #[.int .i64 d.kind,.int .i64 d.level,.string d.name,.slice q3 d.type.length k3,.slice pb d.body.length cb,.slice pc d.cons.length cc] by rw[hw5];exact HB4.out.set 3 _);have HZ5:=aA (show BoxAt w5 (w0.heap.size+1) 33 dcZ by rw[hw5];exact HZ4.out.other (by omega) _ _);have HO5:=aA (show w5.ownsRow (w0.heap.size+2) 96 4 (.slice q4 d.body.length k4) d.body.length (dC d.body) by rw[hw5];exact qD HO4.out (bC HB4.out HO4.out (by decide)) _ _);have HP5:=aA (show w5.ownsRow (w0.heap.size+2) 96 4 (.slice q3 d.type.length k3) d.type.length (dC d.type) by rw[hw5];exact qD HP4.out (bC HB4.out HP4.out (by decide)) _ _);have HU5:=aA (show Under w0 w5 by rw[hw5];exact nA HU4.out (Qd _) _ _);rw[<- hw5];clear hw5 b3 bf bl;refine hK.out _ _ trivial (λ_=>?_);clear hK K hHeld;rename_i hHeld
       try walk_nrm
       refine dA 8 rfl ?_
       try walk_nrm
       have b3:=HB5.out.cell 4;have bf:=HB5.out.free 4;have bl:=HB5.out.lt;refine yA 9 (by kernel_rfl) rfl λK hK=>?_
       go_simp;refine hK.out _ _ trivial (λ_=>?_);clear hK K hHeld;rename_i hHeld
       try walk_nrm
       refine wpAnyH_done (by kernel_rfl) ?_ _;refine NoPanic.normal ?_;exact⟨rfl,.slice q3 d.type.length k3,.slice q4 d.body.length k4,⟨_,fB (F:=o0A w0.heap.size (w0.heap.size+1)) (by rfl)⟩,HB5.out.set 4 _,HZ5.out.other (by omega) _ _,qD HP5.out (bC HB5.out HP5.out (by decide)) _ _,qD HO5.out (bC HB5.out HO5.out (by decide)) _ _,nA HU5.out (Qd _) _ _⟩
     . go_simp;refine hK.out _ _ trivial (λ_=>?_);clear hK K hHeld;rename_i hHeld
       try walk_nrm
       refine yA 2 (by kernel_rfl) rfl λK hK=>?_
       clear c3 c4 cl;go_simp;go_at_call 56;refine(HT.out _ (fA HU.out)).mono ?_;rintro e w3 ⟨v3,rfl,hv3,hU3⟩;obtain⟨q3,k3,rfl,_,_⟩:=RowArg.of_own hv3;have hO3:=uD (base':=w0.heap.size+2) hv3 (by have:=HSz.out;simpa using this);have HU3:=aA ((fA HU.out).trans hU3);have HB3:=aA (HB1.out.under ((fA (Qu _)).trans hU3));have HZ3:=aA (HB2.out.under ((fA (Qu _)).trans hU3));have HO3:=aA hO3;have hS3:w0.heap.size+2<=w3.heap.size:=Ql (by have:=HSz.out;simpa using this) hU3.size;clear hv3 hO3 hU3;refine hK.out _ _ trivial (λ_=>?_);clear hK K hHeld;rename_i hHeld
       try walk_nrm
       refine dA 6 rfl ?_;refine yA 5 (by kernel_rfl) rfl λK hK=>?_
       go_simp;go_at_call 56;refine(HBd.out _ HU3.out).mono ?_;rintro e w4 ⟨v4,rfl,hv4,hU4⟩;obtain⟨q4,k4,rfl,_,_⟩:=RowArg.of_own hv4;have HO4:=aA (uD (base':=w0.heap.size+2) hv4 hS3);have HB4:=aA (HB3.out.under hU4);have HZ4:=aA (HZ3.out.under hU4);have HP4:=aA (uA HO3.out hU4);have HU4:=aA (HU3.out.trans hU4);clear hv4 hU4;refine hK.out _ _ trivial (λ_=>?_);clear hK K hHeld;rename_i hHeld
       try walk_nrm
       have b3:=HB4.out.cell 3;have bf:=HB4.out.free 3;have bl:=HB4.out.lt;refine yA 7 (by kernel_rfl) rfl λK hK=>?_
       go_simp;obtain⟨w5,hw5⟩:∃ w5,w5=w4.setCell ⟨w0.heap.size,3,none⟩ (.slice q3 d.type.length k3):=⟨_,rfl⟩;have HB5:=aA (show BoxAt w5 w0.heap.size 33 #[.int .i64 d.kind,.int .i64 d.level,.string d.name,.slice q3 d.type.length k3,.slice pb d.body.length cb,.slice pc d.cons.length cc] by rw[hw5];exact HB4.out.set 3 _);have HZ5:=aA (show BoxAt w5 (w0.heap.size+1) 33 dcZ by rw[hw5];exact HZ4.out.other (by omega) _ _);have HO5:=aA (show w5.ownsRow (w0.heap.size+2) 96 4 (.slice q4 d.body.length k4) d.body.length (dC d.body) by rw[hw5];exact qD HO4.out (bC HB4.out HO4.out (by decide)) _ _);have HP5:=aA (show w5.ownsRow (w0.heap.size+2) 96 4 (.slice q3 d.type.length k3) d.type.length (dC d.type) by rw[hw5];exact qD HP4.out (bC HB4.out HP4.out (by decide)) _ _);have HU5:=aA (show Under w0 w5 by rw[hw5];exact nA HU4.out (Qd _) _ _);rw[<- hw5];clear hw5 b3 bf bl;refine hK.out _ _ trivial (λ_=>?_);clear hK K hHeld;rename_i hHeld
       try walk_nrm
       refine dA 8 rfl ?_
       try walk_nrm
       have b3:=HB5.out.cell 4;have bf:=HB5.out.free 4;have bl:=HB5.out.lt;refine yA 9 (by kernel_rfl) rfl λK hK=>?_
       go_simp;refine hK.out _ _ trivial (λ_=>?_);clear hK K hHeld;rename_i hHeld
       try walk_nrm
       refine wpAnyH_done (by kernel_rfl) ?_ _;refine NoPanic.normal ?_;exact⟨rfl,.slice q3 d.type.length k3,.slice q4 d.body.length k4,⟨_,fB (F:=o0A w0.heap.size (w0.heap.size+1)) (by rfl)⟩,HB5.out.set 4 _,HZ5.out.other (by omega) _ _,qD HP5.out (bC HB5.out HP5.out (by decide)) _ _,qD HO5.out (bC HB5.out HO5.out (by decide)) _ _,nA HU5.out (Qd _) _ _⟩
   . go_simp;refine hK.out _ _ trivial (λ_=>?_);clear hK K hHeld;rename_i hHeld
     try walk_nrm
     refine yA 1 (by kernel_rfl) rfl λK hK=>?_
     go_simp;refine hK.out _ _ trivial (λ_=>?_);clear hK K hHeld;rename_i hHeld
     try walk_nrm
     clear c3 c4 cl;refine yA 2 (by kernel_rfl) rfl λK hK=>?_
     go_simp;go_at_call 56;refine(HT.out _ (fA HU.out)).mono ?_;rintro e w3 ⟨v3,rfl,hv3,hU3⟩;obtain⟨q3,k3,rfl,_,_⟩:=RowArg.of_own hv3;have hO3:=uD (base':=w0.heap.size+2) hv3 (by have:=HSz.out;simpa using this);have HU3:=aA ((fA HU.out).trans hU3);have HB3:=aA (HB1.out.under ((fA (Qu _)).trans hU3));have HZ3:=aA (HB2.out.under ((fA (Qu _)).trans hU3));have HO3:=aA hO3;have hS3:w0.heap.size+2<=w3.heap.size:=Ql (by have:=HSz.out;simpa using this) hU3.size;clear hv3 hO3 hU3;refine hK.out _ _ trivial (λ_=>?_);clear hK K hHeld;rename_i hHeld
     try walk_nrm
     refine dA 6 rfl ?_;refine yA 5 (by kernel_rfl) rfl λK hK=>?_
     go_simp;go_at_call 56;refine(HBd.out _ HU3.out).mono ?_;rintro e w4 ⟨v4,rfl,hv4,hU4⟩;obtain⟨q4,k4,rfl,_,_⟩:=RowArg.of_own hv4;have HO4:=aA (uD (base':=w0.heap.size+2) hv4 hS3);have HB4:=aA (HB3.out.under hU4);have HZ4:=aA (HZ3.out.under hU4);have HP4:=aA (uA HO3.out hU4);have HU4:=aA (HU3.out.trans hU4);clear hv4 hU4;refine hK.out _ _ trivial (λ_=>?_);clear hK K hHeld;rename_i hHeld
     try walk_nrm
     have b3:=HB4.out.cell 3;have bf:=HB4.out.free 3;have bl:=HB4.out.lt;refine yA 7 (by kernel_rfl) rfl λK hK=>?_
     go_simp;obtain⟨w5,hw5⟩:∃ w5,w5=w4.setCell ⟨w0.heap.size,3,none⟩ (.slice q3 d.type.length k3):=⟨_,rfl⟩;have HB5:=aA (show BoxAt w5 w0.heap.size 33 #[.int .i64 d.kind,.int .i64 d.level,.string d.name,.slice q3 d.type.length k3,.slice pb d.body.length cb,.slice pc d.cons.length cc] by rw[hw5];exact HB4.out.set 3 _);have HZ5:=aA (show BoxAt w5 (w0.heap.size+1) 33 dcZ by rw[hw5];exact HZ4.out.other (by omega) _ _);have HO5:=aA (show w5.ownsRow (w0.heap.size+2) 96 4 (.slice q4 d.body.length k4) d.body.length (dC d.body) by rw[hw5];exact qD HO4.out (bC HB4.out HO4.out (by decide)) _ _);have HP5:=aA (show w5.ownsRow (w0.heap.size+2) 96 4 (.slice q3 d.type.length k3) d.type.length (dC d.type) by rw[hw5];exact qD HP4.out (bC HB4.out HP4.out (by decide)) _ _);have HU5:=aA (show Under w0 w5 by rw[hw5];exact nA HU4.out (Qd _) _ _);rw[<- hw5];clear hw5 b3 bf bl;refine hK.out _ _ trivial (λ_=>?_);clear hK K hHeld;rename_i hHeld
     try walk_nrm
     refine dA 8 rfl ?_
     try walk_nrm
     have b3:=HB5.out.cell 4;have bf:=HB5.out.free 4;have bl:=HB5.out.lt;refine yA 9 (by kernel_rfl) rfl λK hK=>?_
     go_simp;refine hK.out _ _ trivial (λ_=>?_);clear hK K hHeld;rename_i hHeld
     try walk_nrm
     refine wpAnyH_done (by kernel_rfl) ?_ _;refine NoPanic.normal ?_;exact⟨rfl,.slice q3 d.type.length k3,.slice q4 d.body.length k4,⟨_,fB (F:=o0A w0.heap.size (w0.heap.size+1)) (by rfl)⟩,HB5.out.set 4 _,HZ5.out.other (by omega) _ _,qD HP5.out (bC HB5.out HP5.out (by decide)) _ _,qD HO5.out (bC HB5.out HO5.out (by decide)) _ _,nA HU5.out (Qd _) _ _⟩
 rintro e a' w2 ⟨rfl,ut,ub,⟨J,rfl⟩,hB,hZ,hO,hP,hU2⟩;have HB:=aA hB;have HZ:=aA hZ;have HO:=aA hO;have HP:=aA hP;have HU:=aA hU2;clear hB hZ hO hP hU2 HB1 HB2 HT HBd;simp only[Exit.then];refine hK _ _ ?_;clear hK K;have HS2:=aA (show w0.heap.size+2<=w2.heap.size from by have:=HZ.out.lt;omega);have c5:=HB.out.cell 5;have cl:=HB.out.lt;have hn9:(d.cons.length:Int)<=5864062014634:=by have:=HD.out.cons;omega
 have hn0:(0:Int)<=(d.cons.length:Int):=by omega
 unfold o0A;go_wp2;go_loopw [3,20] (λva i wr=>CoR (w0.heap.size+2) w2 d.cons va i wr) (λ_ i _=>d.cons.length - (intOf i).toNat)
 case atStart=>exact⟨0,[],Nat.zero_le _,rfl,World.ownsRow_nil _ _ _ _,by simpa using Zip.nil _,Qu _⟩
 case round =>
   obtain⟨k,us,hk,rfl,hown,hz,hU⟩:=hrel;have HO2:=aA hown;have HZ2:=aA hz;have HUr:=aA hU;have hk0:(0:Int)<=(k:Int):=by omega
   clear hown hz hU;by_cases hlt:k < d.cons.length
   . obtain⟨u,hu,hcv⟩:=HZc.out.at (Qa hlt);obtain⟨b,off,rfl,hb,hcs⟩:=HRc.out (λe=>by rw[e]at hu;simp at hu);have cc:=hcs k _ hu;rw[<- iA (HU.out.trans HUr.out) hb]at cc;have hb':=Qb hb (HU.out.trans HUr.out).size;obtain⟨q,cq,ws,rfl,hq1,hq2,hq3,hq4⟩:=hcv;have HQ3:=aA hq3;have HQ4:=aA hq4;obtain⟨hm,htl⟩:=HD.out.con _ (Qr hlt);have HTl:=aA htl;have HTk:=aA (show d.cons.take (k+1)=d.cons.take k++[d.cons[k]] from Qj hlt);clear hcs hu hq1 hq2 hq3 hq4 htl;generalize d.cons[k]=c at *;have hm0:(0:Int)<=(c.length:Int):=by omega
     have hm9:(c.length:Int)<=5864062014634:=by omega
     have hlt':(k:Int) < (d.cons.length:Int):=by omega
     go_wp2;generalize wr=wo at *;go_loopw [6,26] (λva i w3=>CaR (w0.heap.size+2) wo c va i w3) (λ_ i _=>c.length - (intOf i).toNat)
     case atStart=>exact⟨0,[],Nat.zero_le _,rfl,World.ownsRow_nil _ _ _ _,by simpa using Zip.nil _,Qu _⟩
     case round =>
       obtain⟨k2,us2,hk2,rfl,hown2,hz2,hU2⟩:=hrel;have HO3:=aA hown2;have HZ3:=aA hz2;have HU3:=aA hU2;have hk20:(0:Int)<=(k2:Int):=by omega
       by_cases hlt2:k2 < c.length
       . obtain⟨u2,hu2,htv⟩:=HQ4.out.at (Qa hlt2);obtain⟨b2,off2,rfl,hb2,hcs2⟩:=HQ3.out (λe=>by rw[e]at hu2;simp at hu2);have cc2:=hcs2 k2 _ hu2;have hUall:=(HU.out.trans HUr.out).trans HU3.out;rw[<- iA hUall hb2]at cc2;have hb2':=Qb hb2 hUall.size;have hsz:w0.heap.size+2<=wr.heap.size:=Ql HS2.out (Ql HUr.out.size HU3.out.size);have HC:=aA (vW (w0:=wr) c[k2] (HTl.out _ (Qr hlt2)) (TermV.mono _ _ _ _ hUall htv));obtain⟨pt2,ct2,rfl,_⟩:=htv;have HTk2:=aA (show c.take (k2+1)=c.take k2++[c[k2]] from Qj hlt2);have hlt2':(k2:Int) < (c.length:Int):=by omega
         have HSz:=aA (And.intro hsz HU3.out.size);clear hcs2 hu2 hUall hsz hU2 hown2 hz2;generalize c[k2]=t2 at *;go_wp2_with fail;refine HC.out.mono ?_;rintro e w4 ⟨v4,rfl,hO4,hU4⟩;have HO4:=aA (show Ow1 (w0.heap.size+2) w4 v4 t2 from uD (base':=w0.heap.size+2) hO4 HSz.out.1);obtain⟨q4,k4,rfl,_,_⟩:=RowArg.of_own hO4;have HO3:=aA (uA HO3.out hU4);have HZ3:=aA (HZ3.out.mono λv x h=>h.under hU4);have HU4:=aA (HU3.out.trans hU4);clear hO4 hU4 HC cc2 hb2';go_wp2_with (at_builtin;refine zC rfl _ _ 62 rfl wo.heap.size 30 i0 _ 1 24 underlying62 hi hz0 hz1 hz2 rfl (by decide) _ _ _ rfl (HO3.out.alloc _) _ 1 1 [.slice q4 t2.length k4] rfl rfl (Qd _) (λh=>by cases h) (wP w4 [.slice q4 t2.length k4] _ _) (λu hu=>by simp at hu;subst hu;rfl) (by simp only[maxLen];omega) (by omega) (by have:=HU4.out.size;simp;omega) ?_);intro v5 w5 hown hgrow;have HO5:=aA hown;have HU5:=aA (eB (bA HU4.out _) hgrow λg e=>(xB HO3.out e).1);have HZ5:=aA ((HZ3.out.mono λv x h=>(h.under (bA (Qu _) _)).grown (HO3.out.alloc _) hgrow (by decide)).app (Zip.one ((HO4.out.under (bA (Qu _) _)).grown (HO3.out.alloc _) hgrow (by decide))));clear hown hgrow;go_wp2;go_roundw
         case rel=>exact⟨k2+1,us2++[_],by omega,by go_num,HO5.out,by rw[HTk2.out];exact HZ5.out,HU5.out⟩
         case measure=>simp[intOf];omega
       . obtain rfl:k2=c.length:=by omega
         have hz3:=HZ3.out;rw[List.take_length]at hz3;have HR2:=aA (show Ow2 (w0.heap.size+2) wr _ c from⟨us2,uD HO3.out (Ql HS2.out HUr.out.size),hz3⟩);obtain⟨q6,k6,rfl,_,_⟩:=RowArg.of_own HO3.out;have HO2:=aA (uA HO2.out HU3.out);have HZ2:=aA (HZ2.out.mono λv x h=>h.under HU3.out);have HU4:=aA (HUr.out.trans HU3.out);clear hz3 HZ3 HO3 hown2 hz2 hU2;go_wp2_with (at_builtin;refine zC rfl _ _ 31 rfl w2.heap.size 62 j0 _ 1 24 underlying31 hj hy0 hy1 hy2 rfl (by decide) _ _ _ rfl (HO2.out.alloc _) _ 1 1 [.slice q6 c.length k6] rfl rfl (Qd _) (λh=>by cases h) (wP wr [.slice q6 c.length k6] _ _) (λu hu=>by simp at hu;subst hu;rfl) (by simp only[maxLen];omega) (by omega) (by have:=HU4.out.size;simp;omega) ?_);intro v5 w5 hown hgrow;have HO5:=aA hown;have HU5:=aA (eB (bA HU4.out _) hgrow λg e=>(xB HO2.out e).1);have HZ5:=aA ((HZ2.out.mono λv x h=>(h.under (bA (Qu _) _)).grown (HO2.out.alloc _) hgrow (by decide) (by decide)).app (Zip.one ((HR2.out.under (bA (Qu _) _)).grown (HO2.out.alloc _) hgrow (by decide) (by decide))));clear hown hgrow;go_wp2;go_roundw
         case rel=>exact⟨k+1,us++[_],by omega,by go_num,HO5.out,by rw[HTk.out];exact HZ5.out,HU5.out⟩
         case measure=>simp[intOf];omega
   . obtain rfl:k=d.cons.length:=by omega
     have hz2:=HZ2.out;rw[List.take_length]at hz2;have HZ2:=aA hz2;obtain⟨q6,k6,rfl,_,_⟩:=RowArg.of_own HO2.out;obtain⟨q3,k3,rfl,_,_⟩:=RowArg.of_own HO.out;obtain⟨q4,k4,rfl,_,_⟩:=RowArg.of_own HP.out;have HB:=aA (HB.out.under HUr.out);have HZb:=aA (HZ.out.under HUr.out);have c0:=HB.out.cell 0;have c1:=HB.out.cell 1;have c2:=HB.out.cell 2;have c3:=HB.out.cell 3;have c4:=HB.out.cell 4;have c5:=HB.out.cell 5;have f5:=HB.out.free 5;have cl:=HB.out.lt;have d0:=HZb.out.cell 0;have d1:=HZb.out.cell 1;have d2:=HZb.out.cell 2;have d3:=HZb.out.cell 3;have d4:=HZb.out.cell 4;have d5:=HZb.out.cell 5;have g0:=HZb.out.free 0;have g1:=HZb.out.free 1;have g2:=HZb.out.free 2;have g3:=HZb.out.free 3;have g4:=HZb.out.free 4;have g5:=HZb.out.free 5;have dl:=HZb.out.lt;clear hz2;go_wp2;clear c0 c1 c2 c3 c4 c5 d0 d1 d2 d3 d4 d5 f5 g0 g1 g2 g3 g4 g5 hi hj hz0 hz1 hz2 hy0 hy1 hy2;obtain⟨wf,hwf⟩:∃ wf,wf=((((((wr.setCell ⟨w0.heap.size,5,none⟩ (.slice q6 d.cons.length k6)).setCell ⟨w0.heap.size+1,0,none⟩ (.int .i64 d.kind)).setCell ⟨w0.heap.size+1,1,none⟩ (.int .i64 d.level)).setCell ⟨w0.heap.size+1,2,none⟩ (.string d.name)).setCell ⟨w0.heap.size+1,3,none⟩ (.slice q3 d.type.length k3)).setCell ⟨w0.heap.size+1,4,none⟩ (.slice q4 d.body.length k4)).setCell ⟨w0.heap.size+1,5,none⟩ (.slice q6 d.cons.length k6):=⟨_,rfl⟩;have HF:=aA (show BoxAt wf (w0.heap.size+1) 33 #[.int .i64 d.kind,.int .i64 d.level,.string d.name,.slice q3 d.type.length k3,.slice q4 d.body.length k4,.slice q6 d.cons.length k6] by rw[hwf];exact((((((HZb.out.other (by omega) _ _).set 0 _).set 1 _).set 2 _).set 3 _).set 4 _).set 5 _);have HC:=aA (show Ch (λb=>b=w0.heap.size∨b=w0.heap.size+1) wr wf by rw[hwf];exact(((((((Ch.refl wr).set (λ_=>.inl rfl) _ _).set (λ_=>.inr rfl) _ _).set (λ_=>.inr rfl) _ _).set (λ_=>.inr rfl) _ _).set (λ_=>.inr rfl) _ _).set (λ_=>.inr rfl) _ _).set (λ_=>.inr rfl) _ _);rw[<- hwf];clear hwf;have e0:=HF.out.cell 0;have e1:=HF.out.cell 1;have e2:=HF.out.cell 2;have e3:=HF.out.cell 3;have e4:=HF.out.cell 4;have e5:=HF.out.cell 5;have hlow:∀ b,(b=w0.heap.size∨b=w0.heap.size+1)->b < w0.heap.size+2:=λb hb=>by omega
     refine bodyPost_ret (v:=.agg #[.int .i64 d.kind,.int .i64 d.level,.string d.name,.slice q3 d.type.length k3,.slice q4 d.body.length k4,.slice q6 d.cons.length k6]) ((bQ rfl _ _ _).trans (by simp[go_sem,e0,e1,e2,e3,e4,e5])) rfl ⟨_,rfl,⟨_,_,_,rfl,?_,?_,?_⟩,dB (HU.out.trans HUr.out) HC.out λb hb=>by omega⟩
     . exact((Ow1.under (show Ow1 _ w2 _ _ from HO.out) HUr.out).ch HC.out hlow).base (by omega)
     . exact((Ow1.under (show Ow1 _ w2 _ _ from HP.out) HUr.out).ch HC.out hlow).base (by omega)
     . exact Ow3.base (B:=w0.heap.size+2) ⟨_,iE (uD HO2.out HS2.out) HC.out λg hg hc=>by have:=(xB HO2.out hg).1;have:=HS2.out;have:=hlow g hc;omega,HZ2.out.mono λv x h=>h.ch HC.out hlow⟩ (by omega)
end
end Go.Proofs.YtpkaiodmbicjiaaGreatDoor
namespace Go.Proofs.YtpkaiodmbicjiaaGreatDoor
open Go.Proofs.Tryz
open Go.ChangeShapes Go.WideShapes Go.ChangeAt Go.WideMaps Go.WideElems Go.RowKit Go.Lx Go.Deep Go.Conc
theorem fWA{H:Type}{P:Program}{ts:List TypeId}{ds:List (DataW H)}(h:(DataW.weightsEach P ts ds).all (· <= reachBytes)=true){j:Nat}{t:TypeId}{d:DataW H}(ht:ts[j]? = some t)(hd:ds[j]? = some d):Go.Lx.Reach P t d :=
 λn hn=>of_decide_eq_true (List.all_eq_true.1 h n (DataW.weights_mem_each ht hd n hn))
section
variable {H : Type} {enc : TypeId × Value -> H} {w : World} {spare : Nat -> Bool} {held : Bool} {fuel : Nat} {cs : List Value} {x : DataW H × List MemPlace}
theorem xQA(h:DataW.trod enc prog w 0 spare held fuel 30 cs=some x)(hz:Go.Lx.Reach prog 30 x.1):∃ v l,cs=[v]/\TermV w v l/\tQ l :=
 mGA underlying30 underlying96 (by kernel_rfl) (by kernel_rfl) (by rw[show prog.bytesOf 96=40 by kernel_rfl];decide) underlying3 underlying3 underlying3 underlying9 h hz
theorem zAB(h:DataW.trod enc prog w 0 spare held fuel 31 cs=some x)(hz:Go.Lx.Reach prog 31 x.1):∃ v l,cs=[v]/\ConsV w v l/\l.length<=5864062014634/\∀ c∈l,c.length<=5864062014634/\∀ t∈c,tQ t :=
 jGA (e3:=96) underlying31 (by kernel_rfl) (by kernel_rfl) underlying62 (by kernel_rfl) (by kernel_rfl) (λ_ _ _ h hz=>xQA h hz) h hz
theorem k9A(hcl:cs.length=6)(h:DataW.trod enc prog w 0 spare held fuel 33 cs=some x)(hz:Go.Lx.Reach prog 33 x.1):∃ d,DcRow w cs d/\SzD d :=
 xGA underlying33 (by kernel_rfl) underlying3 underlying3 underlying9 (λ_ _ _ h hz=>xQA h hz) (λ_ _ _ h hz=>xQA h hz) (λ_ _ _ h hz=>zAB h hz) hcl h hz
theorem gAB(h:DataW.trod enc prog w 0 spare held fuel 22 cs=some x)(hz:Go.Lx.Reach prog 22 x.1):∃(p:Option Addr) (c:Nat) (ds:List Dc),cs=[.slice p ds.length c]/\ds.length<=c/\(p=none->c=0)/\RowsV 6 DcRow w p ds/\(∀ d∈ds,SzD d)/\ds.length<=9223372036854775807:=by
 obtain⟨p,c,xs,rfl,hc,h0,hr,hb⟩:=wS (R:=λw cs d=>DcRow w cs d/\SzD d) underlying22 (by kernel_rfl) (by decide) (λfuel cs x hcl hx hz=>k9A hcl hx hz) h hz;obtain⟨h1,h2⟩:=RowsV.split hr;have hb':prog.bytesOf 33=104:=by kernel_rfl
 rw[hb']at hb;exact⟨p,c,xs,rfl,hc,h0,h1,h2,by unfold reachBytes at hb;omega⟩
end
end Go.Proofs.YtpkaiodmbicjiaaGreatDoor
namespace Go.Proofs.YtpkaiodmbicjiaaGreatDoor
open Go.Proofs.Tryz
open Go.Lx Go.RowKit
def zO(s:ByteArray):Nat->List Dc->Int
  | _,[] => -1
  | i,d::l=>if(d.name.toList==s.toList)=true then i else zO s (i+1) l
def bH(s:ByteArray)(l:List Dc):Option Dc:=l.find? λd=>d.name.toList==s.toList
theorem iOA{s:ByteArray}{l:List Dc}{k:Nat}(hk:k < l.length):zO s k (l.drop k)=if(l[k].name.toList==s.toList)=true then(k:Int) else zO s (k+1) (l.drop (k+1)):=by
 rw[Qi hk];rfl
theorem tZ(s:ByteArray):∀(l:List Dc) (i:Nat),(zO s i l = -1/\bH s l=none)∨∃(k:Nat) (h:k < l.length),zO s i l=((i+k:Nat):Int)/\bH s l=some l[k]
  | [],_=>.inl ⟨rfl,rfl⟩
  | d :: l, i => by
    by_cases h:(d.name.toList==s.toList)=true
    . exact .inr ⟨0,by simp,by simp[zO,h],by simp[bH,h]⟩
    . rcases tZ s l (i+1) with⟨h1,h2⟩|⟨k,hk,h1,h2⟩
      . exact .inl ⟨by simp only[zO,if_neg h,h1],by unfold bH at *;rw[List.find?_cons_of_neg (p:=λd:Dc=>d.name.toList==s.toList) h,h2]⟩
      . exact .inr ⟨k+1,by simpa using hk,by simp only[zO,if_neg h,h1];omega,by unfold bH at *;rw[List.find?_cons_of_neg (p:=λd:Dc=>d.name.toList==s.toList) h,h2];rfl⟩
def qLA:Dc:=⟨0,0,⟨#[]⟩,[],[],[]⟩
theorem wOA(w:World):DcV w (.agg dcZ) qLA:=⟨_,_,_,rfl,⟨none,0,rfl,Qd _,λ_=>rfl,RowArg.nil⟩,⟨none,0,rfl,Qd _,λ_=>rfl,RowArg.nil⟩,⟨none,0,[],rfl,Qd _,λ_=>rfl,RowArg.nil,Zip.nil _⟩⟩
section
variable {w0 : World}
theorem sPA(l:List Dc)(s:ByteArray){p:Option Addr}{c sb:Nat}(hl:l.length<=100000)(hp:RowsV 6 DcRow w0 p l)(hb:sb < w0.heap.size)(hs:w0.cell? ⟨sb,0,none⟩=some (.string s)) :
 Calls prog 43 #[.slice p l.length c,.func (.func 44) #[] #[.pointer (some ⟨sb,0,none⟩)]] w0 λe w'=>e = .returned (.int .i64 (zO s 0 l))/\Under w0 w':=by
 have HP:=aA hp;have HS:=aA hs;have HSb:=aA hb;have hn0:(0:Int)<=(l.length:Int):=by omega
 have hn9:(l.length:Int)<=100000:=by omega
 clear hp hs hb hl;go_enter func43,ntmps43;go_wp2;go_loopw [8] (λi wr=>∃ k:Nat,k<=l.length/\i = .int .i64 k/\zO s 0 l=zO s k (l.drop k)/\Under w0 wr) (λi _=>l.length - (intOf i).toNat)
 case atStart=>exact⟨0,Nat.zero_le _,rfl,by simp,Qu _⟩
 case round =>
   obtain⟨k,hk,rfl,hN,hU⟩:=hrel;have HN:=aA hN;have HU:=aA hU;have hk0:(0:Int)<=(k:Int):=by omega
   have hs:=(iA HU.out HSb.out 0).trans HS.out;have hsl:=Qb HSb.out HU.out.size;clear hN hU;by_cases hlt:k < l.length
   . have HC:=aA (iOA (s:=s) hlt);obtain⟨b,off,r,rfl,hb,hrl,hr,hc⟩:=HP.out.at (Qa hlt) (by decide);obtain⟨v1,v2,v3,rfl,⟨p1,c1,rfl,_⟩,⟨p2,c2,rfl,_⟩,⟨p3,c3,us3,rfl,_⟩⟩:=hr;have cc0:=hc 0 _ rfl;have cc1:=hc 1 _ rfl;have cc2:=hc 2 _ rfl;have cc3:=hc 3 _ rfl;have cc4:=hc 4 _ rfl;have cc5:=hc 5 _ rfl;simp only[Nat.add_zero,<- Nat.add_assoc]at cc0 cc1 cc2 cc3 cc4 cc5;rw[<- iA HU.out hb]at cc0 cc1 cc2 cc3 cc4 cc5;have hb':=Qb hb HU.out.size;have hlt':(k:Int) < (l.length:Int):=by omega
     clear hc hrl;generalize l[k]=d at *;have HUn:=aA (λo=>bA HU.out o)
     cases hx:(d.name.toList==s.toList)
     . rw[hx]at HC;go_wp2;go_roundw
       case rel=>exact⟨k+1,by omega,by go_num,by rw[HN.out,HC.out];rfl,HUn.out _⟩
       case measure=>simp[intOf];omega
     . rw[hx]at HC;go_wp2;go_ret;exact⟨iJ (by rw[HN.out,HC.out];rfl),HUn.out _⟩
   . obtain rfl:k=l.length:=by omega
     go_wp2;go_ret;exact⟨iJ (by rw[HN.out,List.drop_eq_nil_of_le (by omega)];rfl),HU.out⟩
def lTA(w0:World)(s:ByteArray)(l:List Dc)(e:Ending)(w:World):Prop:=∃ v,e = .returned (.tuple #[v,.bool (bH s l).isSome])/\DcV w v ((bH s l).getD qLA)/\Under w0 w
theorem p0A(l:List Dc)(s:ByteArray){p:Option Addr}{c:Nat}(hl:l.length<=100000)(hd:∀ d∈l,Lite d)(hp:RowsV 6 DcRow w0 p l):Calls prog 27 #[.slice p l.length c,.string s] w0 (lTA w0 s l):=by
 have HB1:=aA ((zA w0 #[.string s] 9).alloc (.cells dcZ 33));have HU:=aA (bA (bA (Qu w0) (.cells #[.string s] 9)) (.cells dcZ 33));have HB2:=aA (show BoxAt ((w0.alloc (.cells #[.string s] 9)).alloc (.cells dcZ 33)) (w0.heap.size+1) 33 dcZ by have:=zA (w0.alloc (.cells #[.string s] 9)) dcZ 33;simpa using this);have HI:=aA (sPA (c:=c) l s hl (RowsV.under DcRow.mono hp HU.out) HB1.out.lt (HB1.out.cell 0));have HP:=aA hp;have HD:=aA hd;have HCs:=aA (tZ s l 0);have hn9:(l.length:Int)<=100000:=by omega
 have hn0:(0:Int)<=(l.length:Int):=by omega
 clear hp hd hl;go_enter func27,ntmps27;go_wp2_with fail;refine HI.out.mono ?_;rintro e w1 ⟨rfl,hU1⟩;have HU1:=aA (HU.out.trans hU1);have HB:=aA (HB2.out.under hU1);clear hU1 HI HB1 HB2;have d0:=HB.out.cell 0;have d1:=HB.out.cell 1;have d2:=HB.out.cell 2;have d3:=HB.out.cell 3;have d4:=HB.out.cell 4;have d5:=HB.out.cell 5;have g0:=HB.out.free 0;have g1:=HB.out.free 1;have g2:=HB.out.free 2;have g3:=HB.out.free 3;have g4:=HB.out.free 4;have g5:=HB.out.free 5;have dl:=HB.out.lt;rcases HCs.out with⟨h1,h2⟩|⟨k,hk,h1,h2⟩
 . rw[h1];have H2:=aA h2;clear h1 h2 HCs;go_wp2;obtain⟨wf,hwf⟩:∃ wf,wf=(((((w1.setCell ⟨w0.heap.size+1,0,none⟩ (.int .i64 0)).setCell ⟨w0.heap.size+1,1,none⟩ (.int .i64 0)).setCell ⟨w0.heap.size+1,2,none⟩ (.string ⟨#[]⟩)).setCell ⟨w0.heap.size+1,3,none⟩ (.slice none 0 0)).setCell ⟨w0.heap.size+1,4,none⟩ (.slice none 0 0)).setCell ⟨w0.heap.size+1,5,none⟩ (.slice none 0 0):=⟨_,rfl⟩;have HF:=aA (show BoxAt wf (w0.heap.size+1) 33 #[.int .i64 0,.int .i64 0,.string ⟨#[]⟩,.slice none 0 0,.slice none 0 0,.slice none 0 0] by rw[hwf];exact(((((HB.out.set 0 _).set 1 _).set 2 _).set 3 _).set 4 _).set 5 _);have HX:=aA (show Ch (λb=>b=w0.heap.size+1) w1 wf by rw[hwf];exact((((((Ch.refl (C:=λb=>b=w0.heap.size+1) w1).set (λ_=>rfl) _ _).set (λ_=>rfl) _ _).set (λ_=>rfl) _ _).set (λ_=>rfl) _ _).set (λ_=>rfl) _ _).set (λ_=>rfl) _ _);rw[<- hwf];clear hwf d0 d1 d2 d3 d4 d5 g0 g1 g2 g3 g4 g5;have e0:=HF.out.cell 0;have e1:=HF.out.cell 1;have e2:=HF.out.cell 2;have e3:=HF.out.cell 3;have e4:=HF.out.cell 4;have e5:=HF.out.cell 5;refine bodyPost_ret (v:=.tuple #[.agg #[.int .i64 0,.int .i64 0,.string ⟨#[]⟩,.slice none 0 0,.slice none 0 0,.slice none 0 0],.bool _]) ((results_cell_tmp rfl _ _ _).trans (by simp[go_sem,e0,e1,e2,e3,e4,e5];rfl)) rfl ?_;exact⟨_,by rw[H2.out];rfl,by rw[H2.out];exact wOA _,dB HU1.out HX.out λb hb=>by omega⟩
 . rw[h1,Nat.zero_add];have H2:=aA h2;have hk0:(0:Int)<=(k:Int):=by omega
   have hk9:(k:Int) < (l.length:Int):=by omega
   obtain⟨b,off,r,rfl,hb,hrl,hr,hc⟩:=HP.out.at (Qa hk) (by decide);have HR:=aA (DcRow.val hr);obtain⟨v1,v2,v3,rfl,⟨p1,c1,rfl,_⟩,⟨p2,c2,rfl,_⟩,⟨p3,c3,us3,rfl,_⟩⟩:=hr;have cc0:=hc 0 _ rfl;have cc1:=hc 1 _ rfl;have cc2:=hc 2 _ rfl;have cc3:=hc 3 _ rfl;have cc4:=hc 4 _ rfl;have cc5:=hc 5 _ rfl;simp only[Nat.add_zero,<- Nat.add_assoc]at cc0 cc1 cc2 cc3 cc4 cc5;rw[<- iA HU1.out hb]at cc0 cc1 cc2 cc3 cc4 cc5;have hb':=Qb hb HU1.out.size;have HC:=aA (cRA (w0:=w1) l[k] (HD.out _ (Qr hk)) (DcV.mono _ _ _ _ HU1.out HR.out));clear h1 h2 HCs hc hrl;generalize l[k]=d at *;go_wp2_with fail;refine HC.out.mono ?_;rintro e w2 ⟨v2,rfl,hv2,hU2⟩;obtain⟨q,k1,q',k2,r',k3,rfl⟩:=hv2.agg;have HV:=aA hv2;have HB:=aA (HB.out.under hU2);have HS:=aA HB.out.lt;have HL:=aA (show w0.heap.size+1 < w1.heap.size from dl);have HU2:=aA (HU1.out.trans hU2);clear hv2 hU2 HC cc0 cc1 cc2 cc3 cc4 cc5 hb' d0 d1 d2 d3 d4 d5 g0 g1 g2 g3 g4 g5 dl;have d0:=HB.out.cell 0;have d1:=HB.out.cell 1;have d2:=HB.out.cell 2;have d3:=HB.out.cell 3;have d4:=HB.out.cell 4;have d5:=HB.out.cell 5;have g0:=HB.out.free 0;have g1:=HB.out.free 1;have g2:=HB.out.free 2;have g3:=HB.out.free 3;have g4:=HB.out.free 4;have g5:=HB.out.free 5;have dl:=HB.out.lt;go_wp2;obtain⟨wf,hwf⟩:∃ wf,wf=(((((w2.setCell ⟨w0.heap.size+1,0,none⟩ (.int .i64 d.kind)).setCell ⟨w0.heap.size+1,1,none⟩ (.int .i64 d.level)).setCell ⟨w0.heap.size+1,2,none⟩ (.string d.name)).setCell ⟨w0.heap.size+1,3,none⟩ (.slice q d.type.length k1)).setCell ⟨w0.heap.size+1,4,none⟩ (.slice q' d.body.length k2)).setCell ⟨w0.heap.size+1,5,none⟩ (.slice r' d.cons.length k3):=⟨_,rfl⟩;have HF:=aA (show BoxAt wf (w0.heap.size+1) 33 #[.int .i64 d.kind,.int .i64 d.level,.string d.name,.slice q d.type.length k1,.slice q' d.body.length k2,.slice r' d.cons.length k3] by rw[hwf];exact(((((HB.out.set 0 _).set 1 _).set 2 _).set 3 _).set 4 _).set 5 _);have HX:=aA (show Ch (λb=>b=w0.heap.size+1) w2 wf by rw[hwf];exact((((((Ch.refl (C:=λb=>b=w0.heap.size+1) w2).set (λ_=>rfl) _ _).set (λ_=>rfl) _ _).set (λ_=>rfl) _ _).set (λ_=>rfl) _ _).set (λ_=>rfl) _ _).set (λ_=>rfl) _ _);rw[<- hwf];clear hwf d0 d1 d2 d3 d4 d5 g0 g1 g2 g3 g4 g5;have e0:=HF.out.cell 0;have e1:=HF.out.cell 1;have e2:=HF.out.cell 2;have e3:=HF.out.cell 3;have e4:=HF.out.cell 4;have e5:=HF.out.cell 5;refine bodyPost_ret (v:=.tuple #[.agg #[.int .i64 d.kind,.int .i64 d.level,.string d.name,.slice q d.type.length k1,.slice q' d.body.length k2,.slice r' d.cons.length k3],.bool _]) ((results_cell_tmp rfl _ _ _).trans (by simp[go_sem,e0,e1,e2,e3,e4,e5];rfl)) rfl ?_;exact⟨_,by rw[H2.out];rfl,by rw[H2.out];exact(HV.out.ch HX.out λb hb=>by have:=HL.out;omega).val,dB HU2.out HX.out λb hb=>by omega⟩
end
end Go.Proofs.YtpkaiodmbicjiaaGreatDoor
