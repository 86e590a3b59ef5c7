/- Part 13 of what the proof rests on. -/
import Derived.Maps.AppendAt
import Derived.Shelf.Abstract
import Derived.Conc.CompanyMem
import Derived.Conc.WalkWords
import Derived.Laws.ResultCell
import Derived.Deep.DeepAppendWide
import Derived.Lib.SliceRun
import Derived.Laws.AppendOwnNone
import Derived.TacticsInMore
import Derived.LoopNIn
import Derived.LoopIn
import Derived.Shelf.RegionOpen
import Derived.Deep.RegionHeld3
import Derived.Deep.RegionLawGrows
import Derived.Laws.MakeOwn
import Derived.Laws.Cover1
import Derived.Test.YtpkaiodmbicjiaaGreatDoorM00
import Derived.Test.YtpkaiodmbicjiaaGreatDoorM05
import Derived.Test.YtpkaiodmbicjiaaGreatDoorM06
import Derived.Test.YtpkaiodmbicjiaaGreatDoorM08
import Derived.Test.YtpkaiodmbicjiaaGreatDoorM09
import Derived.Test.YtpkaiodmbicjiaaGreatDoorM12
set_option linter.unusedSimpArgs false
set_option linter.unusedVariables false
set_option maxRecDepth 100000
set_option maxHeartbeats 4000000
namespace Go.Proofs.YtpkaiodmbicjiaaGreatDoor
open Go.Proofs.Tryz
open Go.Lx Go.RowKit
def knC(l:List Dc):List ByteArray:=(l.filter λd=>d.kind==1||d.kind==2).map (·.name)
def knD(l:List Dc):List ByteArray:=(l.filter λd=>d.kind==3).map (·.name)
theorem yTA(l:List Dc){k:Nat}(hk:k < l.length):knC (l.take (k+1))=knC (l.take k)++(if(l[k].kind==1||l[k].kind==2)=true then [l[k].name] else [])/\knD (l.take (k+1))=knD (l.take k)++(if(l[k].kind==3)=true then [l[k].name] else []):=by
 rw[Qj hk];unfold knC knD;simp only[List.filter_append,List.map_append,List.filter_cons,List.filter_nil];constructor<;>split<;>simp[*]
theorem eQ(l:List Dc):(knC l).length<=l.length/\(knD l).length<=l.length:=by
 unfold knC knD;simp only[List.length_map];exact⟨List.length_filter_le _ _,List.length_filter_le _ _⟩
structure TwoT (B:Nat) (w:World) (vc vd:Value) (cs ds:List ByteArray):Prop where
 one:w.ownsRow B 9 1 vc cs.length (cs.map .string)
 two:w.ownsRow B 9 1 vd ds.length (ds.map .string)
 ne:vc.ownBlock=none∨vc.ownBlock≠vd.ownBlock
structure KnR (T:TypeId) (w0:World) (l:List Dc) (k:Nat) (wr:World):Prop where
 ex:∃ vc vd,BoxAt wr (w0.heap.size+1) T #[vc,vd]/\TwoT (w0.heap.size+2) wr vc vd (knC (l.take k)) (knD (l.take k))
 res:BoxAt wr w0.heap.size T #[.slice none 0 0,.slice none 0 0]
 und:Under w0 wr
theorem KnR.under{T:TypeId}{w0:World}{l:List Dc}{k:Nat}{w w':World}(h:KnR T w0 l k w)(hU:Under w w'):KnR T w0 l k w':=by
 obtain⟨⟨vc,vd,h1,h2⟩,h3,h4⟩:=h;exact⟨⟨vc,vd,h1.under hU,uA h2.one hU,uA h2.two hU,h2.ne⟩,h3.under hU,h4.trans hU⟩
def a9A(w0:World)(l:List Dc)(e:Ending)(w:World):Prop:=∃ vc vd,e = .returned (.agg #[vc,vd])/\TwoT w0.heap.size w vc vd (knC l) (knD l)/\Under w0 w
theorem Tryz.infoStrK:(Tryz.prog.info? 9).map (λi=>(i.zero,i.size,i.bytes))=some (some (.string ⟨#[]⟩),1,16):=by kernel_rfl
theorem KnR.same{T:TypeId}{w0:World}{l:List Dc}{k k':Nat}{w:World}(h1:knC (l.take k')=knC (l.take k)++[])(h2:knD (l.take k')=knD (l.take k)++[])(h:KnR T w0 l k w):KnR T w0 l k' w:=by
 obtain⟨⟨vc,vd,a,b⟩,c,d⟩:=h;rw[List.append_nil]at h1 h2;exact⟨⟨vc,vd,a,by rw[h1,h2];exact b⟩,c,d⟩
theorem qV{a b:Option Nat}(h:a=none∨a≠b):b=none∨b≠a:=by
 rcases h with rfl|h
 . cases b with
   | none=>exact .inl rfl
   | some x=>exact .inr λe=>by cases e
 . exact .inr λe=>h e.symm
theorem yIA{T:TypeId}{w0 w:World}{l:List Dc}{k:Nat}{vc vd:Value}{cs ds:List ByteArray}(hb:BoxAt w (w0.heap.size+1) T #[vc,vd])(hr:BoxAt w w0.heap.size T #[.slice none 0 0,.slice none 0 0])(hU:Under w0 w)(h1:knC (l.take k)=cs)(h2:knD (l.take k)=ds)(hc:w.ownsRow (w0.heap.size+2) 9 1 vc cs.length (cs.map .string))(hd:w.ownsRow (w0.heap.size+2) 9 1 vd ds.length (ds.map .string))(hn:vc.ownBlock=none∨vc.ownBlock≠vd.ownBlock):KnR T w0 l k w:=by
 subst h1 h2;exact⟨⟨vc,vd,hb,hc,hd,hn⟩,hr,hU⟩
section
variable {w0 : World}
theorem tAA(l:List Dc){p:Option Addr}{c:Nat}(hl:l.length<=100000)(hp:RowsV 6 DcRow w0 p l):Calls prog 30 #[.slice p l.length c] w0 (a9A w0 l):=by
 obtain⟨i0,hi,hz0,hz1,hz2⟩:=info_parts Tryz.infoStrK;have HP:=aA hp;have HL:=aA hl;have hn9:(l.length:Int)<=100000:=by omega
 have hn0:(0:Int)<=(l.length:Int):=by omega
 clear hp hl;go_enter func30,ntmps30;go_wp2;have HK0:=aA (show KnR 82 w0 l 0 ((w0.alloc (.cells #[.slice none 0 0,.slice none 0 0] 82)).alloc (.cells #[.slice none 0 0,.slice none 0 0] 82)) from by
   have hb:=zA (w0.alloc (.cells #[.slice none 0 0,.slice none 0 0] 82)) #[.slice none 0 0,.slice none 0 0] 82;exact⟨⟨_,_,by simpa using hb,World.ownsRow_nil _ _ _ _,World.ownsRow_nil _ _ _ _,.inl rfl⟩,(zA w0 _ _).alloc _,bA (bA (Qu w0) _) _⟩)
 generalize (w0.alloc (.cells #[.slice none 0 0,.slice none 0 0] 82)).alloc (.cells #[.slice none 0 0,.slice none 0 0] 82)=w1 at *;go_loopw [8] (λi wr=>∃ k:Nat,k<=l.length/\i = .int .i64 k/\KnR 82 w0 l k wr) (λi _=>l.length - (intOf i).toNat)
 case atStart=>exact⟨0,Nat.zero_le _,rfl,HK0.out⟩
 case round =>
   obtain⟨k,hk,rfl,hK⟩:=hrel;have HK:=aA hK;have hk0:(0:Int)<=(k:Int):=by omega
   by_cases hlt:k < l.length
   . have HN:=aA (yTA l hlt);obtain⟨b,off,r,rfl,hb,hrl,hr,hc⟩:=HP.out.at (Qa hlt) (by decide);obtain⟨v1,v2,v3,rfl,⟨p1,c1,rfl,_⟩,⟨p2,c2,rfl,_⟩,⟨p3,c3,us3,rfl,_⟩⟩:=hr;have cc0:=hc 0 _ rfl;have cc1:=hc 1 _ rfl;have cc2:=hc 2 _ rfl;have cc3:=hc 3 _ rfl;have cc4:=hc 4 _ rfl;have cc5:=hc 5 _ rfl;simp only[Nat.add_zero,<- Nat.add_assoc]at cc0 cc1 cc2 cc3 cc4 cc5;rw[<- iA hK.und hb]at cc0 cc1 cc2 cc3 cc4 cc5;have hb':=Qb hb hK.und.size;have hlt':(k:Int) < (l.length:Int):=by omega
     clear hc hrl hK;generalize l[k]=d at *;obtain⟨⟨vc,vd,hBn,hT⟩,hR,hUr⟩:=HK.out;have HKd:=aA (λo=>HK.out.under (bA (Qu _) o));have hlc:=(eQ (l.take k)).1;have hld:=(eQ (l.take k)).2;rw[List.length_take]at hlc hld;have hl8:=HL.out;have hlc9:(knC (l.take k)).length<=100000:=by omega
     have hld9:(knD (l.take k)).length<=100000:=by omega
     have HC:=aA hT.one;have HD:=aA hT.two;have HNe:=aA hT.ne;obtain⟨qc,kc,rfl,_,_⟩:=RowArg.of_own hT.one;obtain⟨qd,kd,rfl,_,_⟩:=RowArg.of_own hT.two;have HBn:=aA hBn;have HRs:=aA hR;have HUr:=aA hUr;have n0:=HBn.out.cell 0;have n1:=HBn.out.cell 1;have nl:=HBn.out.lt;have HUs:=aA hUr.size;clear hBn hR hUr hT hlc hld hl8;have hkk:((d.kind==3)=false/\(d.kind==1)=true)∨((d.kind==3)=false/\(d.kind==1)=false/\(d.kind==2)=true)∨((d.kind==3)=true/\(d.kind==1)=false/\(d.kind==2)=false)∨((d.kind==3)=false/\(d.kind==1)=false/\(d.kind==2)=false):=by
      simp only[beq_iff_eq,beq_eq_false_iff_ne,ne_eq];omega
     rcases hkk with⟨h3,h1⟩|⟨h3,h1,h2⟩|⟨h3,h1,h2⟩|⟨h3,h1,h2⟩
     rotate_left 2
     . rw[h1,h2,h3]at HN;generalize knC (l.take k)=cs at *;generalize knD (l.take k)=ds at *;go_wp2_with (at_builtin;refine wpList_append_own_at _ rfl _ _ 80 rfl (w0.heap.size+2) 9 i0 _ 1 16 underlying80 hi hz0 hz1 hz2 rfl (by decide) _ _ _ rfl ((HD.out.alloc _).alloc _) ⟨wr.heap.size+1,0,none⟩ 1 1 [.string d.name] rfl rfl (by intro j u hj;rcases j with _|j<;>simp at hj;subst hj;simp[Addr.add]) (λu hu=>by simp at hu;subst hu;rfl) (by simp only[maxLen];omega) (by omega) (by have:=HBn.out.lt;simp;omega) ?_);intro v' w6 hown hgrow hnil hat;have HAs:=aA hown;have hbk:=λg e=>(xB HD.out (g:=g) e).1
       have HBs:=aA (((HBn.out.alloc _).alloc _).grown hgrow (λe=>by have:=hbk _ e.symm;omega));have HRe:=aA (((HRs.out.alloc _).alloc _).grown hgrow (λe=>by have:=hbk _ e.symm;omega));have HOs:=aA (rC ((HC.out.alloc _).alloc _) hgrow (HNe.out));have HUe:=aA (eB (bA (bA HUr.out _) _) hgrow (λg e=>by have:=hbk _ e;omega));have hns:=λ(h:(.slice qd ds.length kd:Value).ownBlock=none∨(.slice qd ds.length kd:Value).ownBlock≠(.slice qc cs.length kc:Value).ownBlock)=>(show v'.ownBlock=none∨v'.ownBlock≠(.slice qc cs.length kc:Value).ownBlock by
         rcases hat with e|e
         . rw[e];exact h
         . right;rw[e];intro h;have:=(xB HC.out h.symm).2;omega)
       obtain⟨q',k',rfl,_,_⟩:=RowArg.of_own hown;have HNs:=aA (hns (qV HNe.out));clear hown hgrow hat hnil hbk hns n0 n1 nl;have n0:=HBs.out.cell 0;have n1:=HBs.out.cell 1;have f0:=HBs.out.free 0;have f1:=HBs.out.free 1;have nl:=HBs.out.lt;go_wp2;go_roundw
       case rel=>exact⟨k+1,by omega,by go_num,yIA (HBs.out.set 1 _) (HRe.out.other (by omega) _ _) (nA HUe.out (by omega) _ _) HN.out.1 HN.out.2 (by simpa using qD HOs.out (bC HBs.out HOs.out (by decide)) _ _) (by simpa using qD HAs.out (bC HBs.out HAs.out (by decide)) _ _) (qV HNs.out)⟩
       case measure=>simp[intOf];omega
     . rw[h1,h2,h3]at HN;go_wp2;go_roundw
       case rel=>exact⟨k+1,by omega,by go_num,KnR.same HN.out.1 HN.out.2 (HKd.out _)⟩
       case measure=>simp[intOf];omega
     all_goals
      first|rw[h1,h2,h3]at HN|rw[h1,h3]at HN
      generalize knC (l.take k)=cs at *;generalize knD (l.take k)=ds at *;go_wp2_with (at_builtin;refine wpList_append_own_at _ rfl _ _ 80 rfl (w0.heap.size+2) 9 i0 _ 1 16 underlying80 hi hz0 hz1 hz2 rfl (by decide) _ _ _ rfl ((HC.out.alloc _).alloc _) ⟨wr.heap.size+1,0,none⟩ 1 1 [.string d.name] rfl rfl (by intro j u hj;rcases j with _|j<;>simp at hj;subst hj;simp[Addr.add]) (λu hu=>by simp at hu;subst hu;rfl) (by simp only[maxLen];omega) (by omega) (by have:=HBn.out.lt;simp;omega) ?_);intro v' w6 hown hgrow hnil hat;have HAs:=aA hown;have hbk:=λg e=>(xB HC.out (g:=g) e).1
      have HBs:=aA (((HBn.out.alloc _).alloc _).grown hgrow (λe=>by have:=hbk _ e.symm;omega));have HRe:=aA (((HRs.out.alloc _).alloc _).grown hgrow (λe=>by have:=hbk _ e.symm;omega));have HOs:=aA (rC ((HD.out.alloc _).alloc _) hgrow (qV HNe.out));have HUe:=aA (eB (bA (bA HUr.out _) _) hgrow (λg e=>by have:=hbk _ e;omega));have hns:=λ(h:(.slice qc cs.length kc:Value).ownBlock=none∨(.slice qc cs.length kc:Value).ownBlock≠(.slice qd ds.length kd:Value).ownBlock)=>(show v'.ownBlock=none∨v'.ownBlock≠(.slice qd ds.length kd:Value).ownBlock by
        rcases hat with e|e
        . rw[e];exact h
        . right;rw[e];intro h;have:=(xB HD.out h.symm).2;omega)
      obtain⟨q',k',rfl,_,_⟩:=RowArg.of_own hown;have HNs:=aA (hns (HNe.out));clear hown hgrow hat hnil hbk hns n0 n1 nl;have n0:=HBs.out.cell 0;have n1:=HBs.out.cell 1;have f0:=HBs.out.free 0;have f1:=HBs.out.free 1;have nl:=HBs.out.lt;go_wp2;go_roundw
      case rel=>exact⟨k+1,by omega,by go_num,yIA (HBs.out.set 0 _) (HRe.out.other (by omega) _ _) (nA HUe.out (by omega) _ _) HN.out.1 HN.out.2 (by simpa using qD HAs.out (bC HBs.out HAs.out (by decide)) _ _) (by simpa using qD HOs.out (bC HBs.out HOs.out (by decide)) _ _) HNs.out⟩
      case measure=>simp[intOf];omega
   . obtain rfl:k=l.length:=by omega
     obtain⟨⟨vc,vd,hBn,hT⟩,hR,hUr⟩:=HK.out;rw[List.take_length]at hT;obtain⟨qc,kc,rfl,_,_⟩:=RowArg.of_own hT.one;obtain⟨qd,kd,rfl,_,_⟩:=RowArg.of_own hT.two;have HT:=aA hT;have HR:=aA hR;have HU:=aA hUr;have n0:=hBn.cell 0;have n1:=hBn.cell 1;have nl:=hBn.lt;have r0:=hR.cell 0;have r1:=hR.cell 1;have g0:=hR.free 0;have g1:=hR.free 1;have rl:=hR.lt;clear hBn hT hR hUr;go_wp2;obtain⟨wf,hwf⟩:∃ wf,wf=(wr.setCell ⟨w0.heap.size,0,none⟩ (.slice qc (knC l).length kc)).setCell ⟨w0.heap.size,1,none⟩ (.slice qd (knD l).length kd):=⟨_,rfl⟩;have HF:=aA (show BoxAt wf w0.heap.size 82 #[.slice qc (knC l).length kc,.slice qd (knD l).length kd] by rw[hwf];exact(HR.out.set 0 _).set 1 _);have HC:=aA (show Ch (λb=>b=w0.heap.size) wr wf by rw[hwf];exact((Ch.refl (C:=λb=>b=w0.heap.size) wr).set (λ_=>rfl) _ _).set (λ_=>rfl) _ _);rw[<- hwf];clear hwf n0 n1 r0 r1 g0 g1;have e0:=HF.out.cell 0;have e1:=HF.out.cell 1;refine bodyPost_ret (v:=.agg #[.slice qc (knC l).length kc,.slice qd (knD l).length kd]) ((bQ rfl _ _ _).trans (by simp[go_sem,e0,e1])) rfl ⟨_,_,rfl,⟨uD (iE HT.out.one HC.out λg hg hc=>by have:=(xB HT.out.one hg).1;omega) (by omega),uD (iE HT.out.two HC.out λg hg hc=>by have:=(xB HT.out.two hg).1;omega) (by omega),HT.out.ne⟩,dB HU.out HC.out λb hb=>by omega⟩
end
section
variable {w0 : World}
def bN(s:ByteArray):Bool:=fD s && !kwB s
theorem mUA(s:ByteArray)(hs:s.size<=maxLen):Calls prog 28 #[.string s] w0 λe w=>e = .returned (.bool (bN s))/\Under w0 w:=by
 have HN:=aA (bI s w0 hs);have HK:=aA (jMA (w0:=w0) s);have hd:bN s=(fD s && !kwB s):=rfl;have HD:=aA hd;clear hd
 cases hn:fD s with
 | true =>
   rw[hn]at HD HN;clear hn;go_enter func28,ntmps28;go_wp2_with fail;refine HN.out.mono ?_;rintro e w1 ⟨rfl,rfl⟩;go_wp2_with fail;refine HK.out.mono ?_;rintro e w1 ⟨rfl,hU⟩;have HU:=aA hU;clear hU;go_wp2;go_ret;exact⟨xI (by rw[HD.out];rfl),HU.out⟩
 | false =>
   rw[hn]at HD HN;clear hn;go_enter func28,ntmps28;go_wp2_with fail;refine HN.out.mono ?_;rintro e w1 ⟨rfl,rfl⟩;go_wp2;go_ret;exact⟨xI (by rw[HD.out];rfl),Qu _⟩
end
abbrev lS:=Except (Int×Int) Dc
def kI(s:ByteArray):Int:=if s.toList==[100,101,102] then 1 else if s.toList==[97,120,105,111,109] then 2 else if s.toList==[105,110,100,117,99,116,105,118,101] then 3 else 0
def pR(s:ByteArray):Option Int:=match s.toList with
 | [b]=>if 49<=b.toNat/\b.toNat<=57 then some ((b.toNat:Int) - 48) else none
 | _=>none
def mP(cs ds:List ByteArray):List (List Nd)->List ST->Except (Int×Int) (List (List Nd))
  | acc,[]=>.ok acc
  | acc, T :: r => match oF cs ds T with
    | .error x=>.error x
    | .ok t=>mP cs ds (acc++[t]) r
def lI(cs ds:List ByteArray)(p:Int):List (List (List Nd))->List ST->Except (Int×Int) (List (List (List Nd)))
  | acc,[]=>.ok acc
  | _,.word q _::_=>.error (71,q)
  | acc, .list _ l :: r => if 6 < l.length then .error (21, p) else match mP cs ds [] l with
    | .error x=>.error x
    | .ok c=>lI cs ds p (acc++[c]) r
def vLA(l:List Dc)(nm:ByteArray)(p:Int)(a:ST)(q:List ST):lS:=match pR a.last.word with
 | none=>.error (71,a.last.pos)
 | some lev => if 6 < q.length then .error (21, p) else match lI (knC l) (knD l ++ [nm]) p [] q with
   | .error x=>.error x
   | .ok c=>.ok ⟨3,lev,nm,[],[],c⟩
def l6(l:List Dc)(nm:ByteArray)(a:ST):lS:=match oF (knC l) (knD l) a with
 | .error x=>.error x
 | .ok t=>.ok ⟨2,0,nm,t,[],[]⟩
def tVA(l:List Dc)(nm:ByteArray)(a b:ST):lS:=match oF (knC l) (knD l) a with
 | .error x=>.error x
 | .ok t => match oF (knC l) (knD l) b with
   | .error x=>.error x
   | .ok u=>.ok ⟨1,0,nm,t,u,[]⟩
def lL(l:List Dc)(k:Int)(nm:ByteArray)(p:Int):List ST->lS
  | []=>.error (71,p)
  | a :: q => if k = 3 then vLA l nm p a q else match q with
    | []=>l6 l nm a
    | b::_=>tVA l nm a b
def cK(k:Int)(n:Nat):Bool:=(k==1&&n==4)||(k==2&&n==3)||(k==3&&decide (3<=n))
def gL(l:List Dc):ST->lS
  | .word p _=>.error (71,p)
  | .list p []=>.error (71,p)
  | .list p (h :: r) => if cK (kI h.last.word) (r.length + 1) = false then .error (71, p) else match r with
    | []=>.error (71,p)
    | n::q=>if bN n.last.word=false then .error (71,n.last.pos) else if(bH n.last.word l).isSome=true then .error (4,n.last.pos) else if 40<=l.length then .error (21,p) else lL l (kI h.last.word) n.last.word p q
section
variable {w w' : World}
def ConsT(B:Nat)(w:World)(v:Value)(c:List (List (List Nd))):Prop:=∃ vs,w.ownsRow B 62 1 v c.length vs/\Zip (λv c=>∃ us,w.ownsRow B 30 1 v c.length us/\Zip (OwnTm 96 w) us c) vs c
theorem ConsT.val{B:Nat}{v:Value}{c:List (List (List Nd))}(h:ConsT B w v c):ConsV w v c:=by
 obtain⟨vs,ho,hz⟩:=h;refine ListV.of_own ho (hz.mono λv x hx=>?_);obtain⟨us,hu,hz⟩:=hx;exact ListV.of_own hu (hz.mono λv x h=>h.val)
theorem ConsT.nil(B:Nat)(w:World):ConsT B w (.slice none 0 0) []:=⟨[],⟨by simp,.inl ⟨rfl,rfl⟩⟩,Zip.nil _⟩
theorem ConsT.keep{B:Nat}{C:Nat->Prop}{v:Value}{c:List (List (List Nd))}(hv:ConsT B w v c)(h:Ch C w w')(hB:∀ b,C b->b < B)(hC:∀ b,C b->∃ T cs,BoxAt w b T cs/\96≠T):ConsT B w' v c:=by
 obtain⟨vs,ho,hz⟩:=hv;refine⟨vs,iE ho h λg hg hc=>by have:=(xB ho hg).1;have:=hB g hc;omega,hz.mono λv x hx=>?_⟩;obtain⟨us,hu,hzu⟩:=hx;exact⟨us,iE hu h λg hg hc=>by have:=(xB hu hg).1;have:=hB g hc;omega,hzu.mono λv x hx=>hx.ch h hC⟩
end
def uTA(w0:World)(rb db:Nat)(lv:Value)(R:lS)(e:Ending)(w:World):Prop:=Ch (λb=>b=rb∨b=db) w0 w/\match R with
 | .ok d=>e = .returned (.bool true)/\(∃ a b,BoxAt w rb 54 #[lv,.int .i64 a,.int .i64 b])/\∃ vt vb vc,BoxAt w db 33 #[.int .i64 d.kind,.int .i64 d.level,.string d.name,vt,vb,vc]/\OwnTm 96 w vt d.type/\OwnTm 96 w vb d.body/\ConsT w0.heap.size w vc d.cons
 | .error x=>e = .returned (.bool false)/\BoxAt w rb 54 #[lv,.int .i64 x.2,.int .i64 x.1]
theorem oD{C:Nat->Prop}{a b c:World}(h:Under a b)(k:Ch C b c):Ch C a c :=
 ⟨k.os.trans h.os,k.output.trans h.output,Ql h.size k.size,λi hi hc=>(k.block i (Qb hi h.size) hc).trans (h.low i hi)⟩
section
variable {w0 : World}
theorem yF{rb:Nat}{lv x y:Value}{e at0:Int}(hr:BoxAt w0 rb 54 #[lv,x,y]):Calls prog 26 #[.pointer (some ⟨rb,0,none⟩),.int .i64 e,.int .i64 at0] w0 λr w=>r = .returned (.bool false)/\w=(w0.setCell ⟨rb,2,none⟩ (.int .i64 e)).setCell ⟨rb,1,none⟩ (.int .i64 at0):=by
 have c1:=hr.cell 1;have c2:=hr.cell 2;have f1:=hr.free 1;have f2:=hr.free 2;have rl:=hr.lt;clear hr;go_enter func26,ntmps26;go_wp2;go_ret;exact⟨rfl,rfl⟩
def pBB(w0:World)(rb db j:Nat)(T:TypeId)(cs:Array Value)(lv x0 y0:Value)(R:Say)(e:Ending)(w:World):Prop:=Ch (λb=>b=rb∨b=db) w0 w/\match R with
 | .ok t=>e = .returned (.bool true)/\BoxAt w rb 54 #[lv,x0,y0]/\∃ u,OwnTm 96 w u t/\BoxAt w db T (cs.setIfInBounds j u)
 | .error x=>e = .returned (.bool false)/\BoxAt w rb 54 #[lv,.int .i64 x.2,.int .i64 x.1]/\BoxAt w db T cs
theorem mV{rb db j:Nat}{T:TypeId}{cs:Array Value}{v1 v2 x lv y1 y2:Value}{R:Say}(hne:rb≠db)(hs:96≠T)(hT:∀ w,Under w0 w->Calls prog 48 #[.agg #[v1,v2],x] w (TermOwn w R))(hR0:∀ p,R≠.error (0,p))(hr:BoxAt w0 rb 54 #[lv,y1,y2])(hB:BoxAt w0 db T cs)(hj:j < cs.size)(h1:v1.oneCell'=true)(h2:v2.oneCell'=true) :
 Calls prog 31 #[.pointer (some ⟨rb,0,none⟩),.agg #[v1,v2],x,.pointer (some ⟨db,j,none⟩)] w0 (pBB w0 rb db j T cs lv y1 y2 R):=by
 have HT:=aA (hT _ (bA (Qu w0) (.cells #[v1,v2] 82)));have HB:=aA hB;have HR:=aA hr;have HJ:=aA (show ∃ z,cs[j]? = some z from⟨_,Array.getElem?_eq_getElem hj⟩);have HR0:=aA hR0;clear hT hB hj hr hR0;go_enter func31,ntmps31;go_wp2_with fail;refine HT.out.mono ?_;rintro e w1 ⟨hU1,h⟩;have HU:=aA ((bA (Qu w0) _).trans hU1);have HB1:=aA ((HB.out.alloc _).under hU1);have HR1:=aA ((HR.out.alloc _).under hU1);clear hU1 HT HB HR
 cases R with
 | ok t =>
   obtain⟨u,rfl,hu⟩:=h;have HV:=aA hu;obtain⟨q,c,rfl,_⟩:=hu.val;obtain⟨z,hz⟩:=HJ.out;have cj:=(HB1.out.cell j).trans hz;have fj:=HB1.out.free j;have bl:=HB1.out.lt;clear hz;have HC:=aA ((Ch.refl (C:=λb=>b=rb∨b=db) w1).set (λ_=>.inr rfl) j (.slice q t.length c));go_wp2;go_ret;refine⟨oD HU.out HC.out,rfl,HR1.out.other hne j _,_,HV.out.ch ((Ch.refl (C:=λb=>b=db) w1).set (λ_=>rfl) j _) (λb hb=>⟨T,cs,by rw[hb];exact HB1.out,hs⟩),HB1.out.set j _⟩
 | error x =>
   obtain⟨c,p⟩:=x;replace h:e = .returned (.tuple #[.slice none 0 0,.int .i64 p,.int .i64 c]):=h;subst h;have hc:(c != 0)=true:=by simp only[bne_iff_ne,ne_eq];rintro rfl;exact HR0.out p rfl
   have HW:=aA (yF (w0:=w1) (e:=c) (at0:=p) HR1.out);clear HR0;go_wp2_with fail;refine HW.out.mono ?_;rintro e w2 ⟨rfl,hw2⟩;have HC:=aA (show Ch (λb=>b=rb∨b=db) w1 w2 by rw[hw2];exact((Ch.refl w1).set (λ_=>.inl rfl) _ _).set (λ_=>.inl rfl) _ _);have HR2:=aA (show BoxAt w2 rb 54 #[lv,.int .i64 p,.int .i64 c] by rw[hw2];exact(HR1.out.set 2 _).set 1 _);have HB2:=aA (show BoxAt w2 db T cs by rw[hw2];exact(HB1.out.other hne.symm 2 _).other hne.symm 1 _);clear hw2;go_wp2;go_ret;exact⟨oD HU.out HC.out,rfl,HR2.out,HB2.out⟩
end
def iCA(W:World)(cs ds:List ByteArray)(T:ST):Prop:=∀ w,Under W w->∀(q:Option Addr) (c:Nat),(qA T).length<=c->SxArg w q (qA T)->∀(v1 v2:Option Addr) (d1 d2:Nat),TextsV w (.slice v1 cs.length d1) cs->TextsV w (.slice v2 ds.length d2) ds->Calls prog 48 #[.agg #[.slice v1 cs.length d1,.slice v2 ds.length d2],.slice q (qA T).length c] w (TermOwn w (oF cs ds T))
theorem k8A{C:Nat->Prop}{w w':World}{q:Option Addr}{row:List Sx}(h:SxArg w q row)(k:Ch C w w')(hn:∀ a,q=some a->¬ C a.block):SxArg w' q row:=by
 intro hne;obtain⟨b,off,e,hb,hc⟩:=h hne;refine⟨b,off,e,Qb hb k.size,λi x hx=>?_⟩;have hk:=k.block b hb (hn _ e);obtain⟨c0,c1,c2⟩:=hc i x hx;simp only[World.cell?,hk]at *;exact⟨c0,c1,c2⟩
theorem iK{cs ds:List ByteArray}{T:ST}(p:Int):oF cs ds T≠.error (0,p):=by
 intro h;unfold oF at h
 split at h
 . rename_i x hx
   cases h;exact nV T _ _ _ hx rfl
 . split at h
   . cases h
   . rename_i he
     injection h with h
     injection h with h1 _
     exact he h1
theorem kV(e:TypeId)(w:World):OwnTm e w (.slice none 0 0) []:=⟨rfl,.inl ⟨rfl,rfl⟩⟩
section
variable {w0 : World}
theorem fRA{l:List Dc}{pl:Option Addr}{cl rb db b off m c c1:Nat}{at0 a1 a2:Int}{nm:ByteArray}{q:Option Addr}{T:ST}{W:World}(hW:Under W w0)(hl:l.length<=100000)(hp:RowsV 6 DcRow w0 pl l)(hr:BoxAt w0 rb 54 #[.slice pl l.length cl,.int .i64 a1,.int .i64 a2])
    (hB:BoxAt w0 db 33 #[.int .i64 2,.int .i64 0,.string nm,.slice none 0 0,.slice none 0 0,.slice none 0 0]) (hn:rb≠db) (hn1:b≠rb) (hn2:b≠db) (hm:2 < m) (hb:b < w0.heap.size) (hpc:w0.cell? ⟨b,off+2,none⟩=some (.slice q (qA T).length c1)) (hc1:(qA T).length<=c1) (hq:SxArg w0 q (qA T)) (hT:iCA W (knC l) (knD l) T) :
    Calls prog 32 #[.pointer (some ⟨rb,0,none⟩),.pointer (some ⟨db,0,none⟩),.slice (some ⟨b,off,none⟩) m c,.int .i64 at0] w0 (uTA w0 rb db (.slice pl l.length cl) (l6 l nm T)):=by
  have HK:=aA (λw (h:Under w0 w)=>tAA (w0:=w) (p:=pl) (c:=cl) l hl (RowsV.under DcRow.mono hp h));have HT:=aA (λw (h:Under w0 w)=>hT w (hW.trans h) q c1 hc1 (hq.under h));have HR:=aA hr;have HB:=aA hB;have HN:=aA (And.intro hn1 hn2);have r0:=hr.cell 0;have rl:=hr.lt;have hm2:(2:Int) < (m:Int):=by omega
  clear hr hB hp hT hm hn1 hn2 hc1 hq hW;go_enter func32,ntmps32;go_wp2_with fail;rename_i K0 hK0;refine wp_region_noPanic ?_;refine wp_region_held_drew (S:=λw'=>w'.cell? ⟨rb,0,none⟩=some (.slice pl l.length cl)/\w'.cell? ⟨b,off+2,none⟩=some (.slice q (qA T).length c1)) (by kernel_rfl) ⟨r0,hpc⟩ (λhHeld=>?_);refine dA 0 rfl ?_;refine dA 1 rfl ?_;refine dA 2 rfl ?_;refine dA 3 rfl ?_;refine dA 4 rfl ?_;refine dA 6 rfl ?_;refine dA 7 rfl ?_;refine dA 8 rfl ?_;refine dA 9 rfl ?_;refine dA 10 rfl ?_;refine dA 11 rfl ?_;refine yA 5 (by kernel_rfl) rfl λK hK=>?_
  go_simp;go_at_call 30;refine(HK.out _ (fA (Qu w0))).mono ?_;rintro e w1 ⟨vc,vd,rfl,hT2,hU1⟩;have h1:=TextsV.of_own hT2.one;have h2:=TextsV.of_own hT2.two;have HG:=aA (And.intro h1 h2);obtain⟨v1,d1,rfl,_⟩:=h1;obtain⟨v2,d2,rfl,_⟩:=h2;have HU1:=aA ((fA (Qu w0)).trans hU1);clear hT2 hU1;refine hK.out _ _ ⟨(iA HU1.out rl 0).trans r0,(iA HU1.out hb _).trans hpc⟩ (λ_=>?_);clear hK K hHeld;rename_i hHeld
  try walk_nrm
  have HC:=aA (mV (w0:=w1) (j:=3) hn (by decide) (λw h=>HT.out w (HU1.out.trans h) v1 v2 d1 d2 (HG.out.1.under h) (HG.out.2.under h)) iK (HR.out.under HU1.out) (HB.out.under HU1.out) (show 3 < 6 by decide) rfl rfl);have HAx:RowKit.Hid (l6 l nm T=match oF (knC l) (knD l) T with|.error x=>.error x|.ok t=>.ok ⟨2,0,nm,t,[],[]⟩):=aA rfl;generalize l6 l nm T=RA at *;generalize oF (knC l) (knD l) T=RT at *;refine yA 12 (by kernel_rfl) rfl λK hK=>?_
  go_simp;go_at_call 31;refine HC.out.mono ?_;rintro e w2 ⟨hCh,h⟩;have HCh:=aA (oD HU1.out hCh);have hbc:w2.cell? ⟨b,off+2,none⟩=some (.slice q (qA T).length c1):=by
   simp only[World.cell?,HCh.out.block b hb (λe=>e.elim HN.out.1 HN.out.2)];exact hpc
  have HBc:=aA hbc;clear hCh hbc HC HT HR HB HK
  cases RT with
  | ok t =>
    obtain⟨rfl,hR2,u,hu,hB2⟩:=h;have HR2:=aA hR2;have HB2:=aA (And.intro hu hB2);clear hR2 hu hB2;refine hK.out _ _ ⟨HR2.out.cell 0,HBc.out⟩ (λ_=>?_);clear hK K hHeld;rename_i hHeld
    try walk_nrm
    refine dA 13 rfl ?_
    try walk_nrm
    refine wpAnyH_done (by kernel_rfl) ?_ _;refine NoPanic.normal ?_;refine hK0 _ _ ?_;go_wp2;go_ret;refine⟨HCh.out,?_⟩;rw[HAx.out];exact⟨rfl,⟨_,_,HR2.out⟩,_,_,_,HB2.out.2,HB2.out.1,kV _ _,ConsT.nil _ _⟩
  | error x =>
    obtain⟨rfl,hR2,hB2⟩:=h;have HR2:=aA hR2;clear hR2 hB2;refine hK.out _ _ ⟨HR2.out.cell 0,HBc.out⟩ (λ_=>?_);clear hK K hHeld;rename_i hHeld
    try walk_nrm
    refine dA 13 rfl ?_
    try walk_nrm
    refine wpAnyH_done (by kernel_rfl) ?_ _;refine NoPanic.normal ?_;refine hK0 _ _ ?_;go_wp2;go_ret;refine⟨HCh.out,?_⟩;rw[HAx.out];exact⟨rfl,HR2.out⟩
end
section
variable {w0 : World}
theorem iDA{B:Nat}{C:Nat->Prop}{w w':World}{vc vd:Value}{cs ds:List ByteArray}(h:TwoT B w vc vd cs ds)(k:Ch C w w')(hC:∀ b,C b->b < B):TwoT B w' vc vd cs ds :=
 ⟨iE h.one k λg hg hc=>by have:=(xB h.one hg).1;have:=hC g hc;omega,iE h.two k λg hg hc=>by have:=(xB h.two hg).1;have:=hC g hc;omega,h.ne⟩
theorem e2A{l:List Dc}{pl:Option Addr}{cl rb db b off m c c1 c2:Nat}{at0 a1 a2:Int}{nm:ByteArray}{q q2:Option Addr}{T T2:ST}{W:World}(hW:Under W w0)(hl:l.length<=100000)(hp:RowsV 6 DcRow w0 pl l)(hr:BoxAt w0 rb 54 #[.slice pl l.length cl,.int .i64 a1,.int .i64 a2])
    (hB:BoxAt w0 db 33 #[.int .i64 1,.int .i64 0,.string nm,.slice none 0 0,.slice none 0 0,.slice none 0 0]) (hn:rb≠db) (hn1:b≠rb) (hn2:b≠db) (hwr:W.heap.size<=rb) (hwd:W.heap.size<=db) (hm:3 < m) (hb:b < w0.heap.size) (hpc:w0.cell? ⟨b,off+2,none⟩=some (.slice q (qA T).length c1)) (hpc2:w0.cell? ⟨b,off+3,none⟩=some (.slice q2 (qA T2).length c2)) (hc1:(qA T).length<=c1) (hc2:(qA T2).length<=c2) (hq:SxArg w0 q (qA T)) (hq2:SxArg w0 q2 (qA T2)) (hqn:∀ a,q2=some a->¬(a.block=rb∨a.block=db)) (hT:iCA W (knC l) (knD l) T) (hT2:iCA W (knC l) (knD l) T2) :
    Calls prog 29 #[.pointer (some ⟨rb,0,none⟩),.pointer (some ⟨db,0,none⟩),.slice (some ⟨b,off,none⟩) m c,.int .i64 at0] w0 (uTA w0 rb db (.slice pl l.length cl) (tVA l nm T T2)):=by
  have HK:=aA (tAA (w0:=w0) (p:=pl) (c:=cl) l hl hp);have HT:=aA (λw (h:Under w0 w)=>hT w (hW.trans h) q c1 hc1 (hq.under h));have HT2:=aA (λw (h:Under W w)=>hT2 w h q2 c2 hc2);have HQ2:=aA (And.intro hq2 hqn);have HWW:=aA (And.intro hW (And.intro hwr hwd));have HR:=aA hr;have HB:=aA hB;have HN:=aA (And.intro hn1 hn2);have HPc:=aA (And.intro hpc hpc2);have r0:=hr.cell 0;have rl:=hr.lt;have hm2:(2:Int) < (m:Int):=by omega
  have hm3:(3:Int) < (m:Int):=by omega
  clear hr hB hp hT hT2 hm hn1 hn2 hc1 hc2 hq hq2 hqn hW hwr hwd hpc hpc2;go_enter func29,ntmps29;go_wp2_with fail;refine HK.out.mono ?_;rintro e w1 ⟨vc,vd,rfl,hT2,hU1⟩;have HG:=aA hT2;obtain⟨v1,d1,rfl,_⟩:=TextsV.of_own hT2.one;obtain⟨v2,d2,rfl,_⟩:=TextsV.of_own hT2.two;have HU1:=aA (hU1.trans (bA (Qu w1) (.cells #[.slice v1 (knC l).length d1,.slice v2 (knD l).length d2] 82)));have HNb:=aA (zA w1 #[.slice v1 (knC l).length d1,.slice v2 (knD l).length d2] 82);have HG:=aA (show TwoT w0.heap.size (w1.alloc (.cells #[.slice v1 (knC l).length d1,.slice v2 (knD l).length d2] 82)) (.slice v1 (knC l).length d1) (.slice v2 (knD l).length d2) (knC l) (knD l) from⟨uA HG.out.one (bA (Qu _) _),uA HG.out.two (bA (Qu _) _),HG.out.ne⟩);have hnb:w0.heap.size<=w1.heap.size:=hU1.size;clear hT2 hU1 HK r0 rl;go_wp2_with fail;rename_i K0 hK0;obtain⟨wn,hwn⟩:∃ wn,wn=w1.alloc (.cells #[.slice v1 (knC l).length d1,.slice v2 (knD l).length d2] 82):=⟨_,rfl⟩;rw[<- hwn]at HU1 HNb HG ⊢;clear hwn;generalize w1.heap.size=nb at *;have HHC:=aA (λw (k:Ch (λb=>b=rb∨b=db) wn w)=>(show w.cell? ⟨nb,0,none⟩=some (.slice v1 (knC l).length d1)/\w.cell? ⟨nb,1,none⟩=some (.slice v2 (knD l).length d2)/\w.cell? ⟨b,off+2,none⟩=some (.slice q (qA T).length c1)/\w.cell? ⟨b,off+3,none⟩=some (.slice q2 (qA T2).length c2) from by
    have hbn:¬(nb=rb∨nb=db):=λe=>by have:=HR.out.lt;have:=HB.out.lt;omega
    have hbk:=fH HNb.out k hbn;have hbb:∀ j,w.cell? ⟨b,j,none⟩=w0.cell? ⟨b,j,none⟩:=λj=>by
     have:=k.block b (Qb hb HU1.out.size) (λe=>e.elim HN.out.1 HN.out.2);simp only[World.cell?,this];exact iA HU1.out hb j
    exact⟨hbk.cell 0,hbk.cell 1,(hbb _).trans HPc.out.1,(hbb _).trans HPc.out.2⟩))
  have nbl:=HNb.out.lt;refine wp_region_noPanic ?_;refine wp_region_held_drew (S:=λw'=>w'.cell? ⟨nb,0,none⟩=some (.slice v1 (knC l).length d1)/\w'.cell? ⟨nb,1,none⟩=some (.slice v2 (knD l).length d2)/\w'.cell? ⟨b,off+2,none⟩=some (.slice q (qA T).length c1)/\w'.cell? ⟨b,off+3,none⟩=some (.slice q2 (qA T2).length c2)) (by kernel_rfl) (HHC.out _ (Ch.of_under (fA (Qu _)))) (λhHeld=>?_);have HUd:=aA (HU1.out.trans (fA (Qu wn)));have HC:=aA (mV (w0:=wn.drew) (j:=3) hn (by decide) (λw h=>HT.out w (HUd.out.trans h) v1 v2 d1 d2 (TextsV.of_own (uA HG.out.one ((fA (Qu wn)).trans h))) (TextsV.of_own (uA HG.out.two ((fA (Qu wn)).trans h)))) iK (HR.out.under HUd.out) (HB.out.under HUd.out) (show 3 < 6 by decide) rfl rfl);have HAx:RowKit.Hid (tVA l nm T T2=match oF (knC l) (knD l) T with|.error x=>.error x|.ok t=>match oF (knC l) (knD l) T2 with|.error x=>.error x|.ok u=>.ok ⟨1,0,nm,t,u,[]⟩):=aA rfl;have HE2:=aA (show ∀ p,oF (knC l) (knD l) T2≠.error (0,p) from iK);generalize tVA l nm T T2=RA at *;generalize oF (knC l) (knD l) T=RT at *;generalize oF (knC l) (knD l) T2=RT2 at *;refine dA 0 rfl ?_;refine dA 1 rfl ?_;refine dA 2 rfl ?_;refine dA 3 rfl ?_;refine dA 4 rfl ?_;refine dA 5 rfl ?_;refine dA 6 rfl ?_;refine dA 7 rfl ?_;refine yA 8 (by kernel_rfl) rfl λK hK=>?_
  go_simp;go_at_call 31;refine HC.out.mono ?_;rintro e w2 ⟨hCh,h⟩;have HCn:=aA (oD (fA (Qu wn)) hCh);have HCh:=aA (oD HUd.out hCh);clear hCh HC HT
  cases RT with
  | ok t =>
    obtain⟨rfl,hR2,u,hu,hB2⟩:=h;have HR2:=aA hR2;have HB2:=aA hB2;have HTu:=aA hu;have HG2:=aA (iDA HG.out HCn.out (λb hb=>by have:=HR.out.lt;have:=HB.out.lt;omega));have HW2:=aA (dB (HWW.out.1.trans HU1.out) HCn.out (λb hb=>by have:=HWW.out.2;omega));have HC:=aA (mV (w0:=w2) (j:=4) hn (by decide) (λw h=>HT2.out w (HW2.out.trans h) ((k8A HQ2.out.1 (HCh.out.under h) HQ2.out.2)) v1 v2 d1 d2 (TextsV.of_own (uA HG2.out.one h)) (TextsV.of_own (uA HG2.out.two h))) HE2.out HR2.out HB2.out (show 4 < 6 by decide) rfl rfl);clear hR2 hu hB2 HG;refine hK.out _ _ (HHC.out _ HCn.out) (λ_=>?_);clear hK K hHeld;rename_i hHeld
    try walk_nrm
    refine dA 9 rfl ?_;refine dA 10 rfl ?_;refine dA 11 rfl ?_;refine dA 12 rfl ?_;refine dA 13 rfl ?_;refine dA 14 rfl ?_;refine dA 15 rfl ?_;refine dA 16 rfl ?_;refine dA 17 rfl ?_;refine yA 18 (by kernel_rfl) rfl λK hK=>?_
    go_simp;go_at_call 31;refine HC.out.mono ?_;rintro e w3 ⟨hCh,h⟩;have HC3:=aA (HCn.out.trans hCh (λ_ _ h=>h));have HCm:=aA hCh;have HCh:=aA (HCh.out.trans hCh (λ_ _ h=>h));clear hCh HC
    cases RT2 with
    | ok t2 =>
      obtain⟨rfl,hR3,u2,hu2,hB3⟩:=h;have HR3:=aA hR3;have HB3:=aA hB3;have HTv:=aA hu2;have HTw:=aA (HTu.out.ch HCm.out (λb hb=>by
        rcases hb with rfl|rfl
        . exact⟨_,_,HR2.out,by decide⟩
        . exact⟨_,_,HB2.out,by decide⟩))
      clear hR3 hB3 hu2;refine hK.out _ _ (HHC.out _ HC3.out) (λ_=>?_);clear hK K hHeld;rename_i hHeld
      try walk_nrm
      refine dA 19 rfl ?_;refine dA 20 rfl ?_
      try walk_nrm
      refine wpAnyH_done (by kernel_rfl) ?_ _;refine NoPanic.normal ?_;refine hK0 _ _ ?_;go_wp2;go_ret;refine⟨HCh.out,?_⟩;rw[HAx.out];exact⟨rfl,⟨_,_,HR3.out⟩,_,_,_,HB3.out,HTw.out,HTv.out,ConsT.nil _ _⟩
    | error x =>
      obtain⟨rfl,hR3,hB3⟩:=h;have HR3:=aA hR3;clear hR3 hB3;refine hK.out _ _ (HHC.out _ HC3.out) (λ_=>?_);clear hK K hHeld;rename_i hHeld
      try walk_nrm
      refine dA 19 rfl ?_;refine dA 20 rfl ?_
      try walk_nrm
      refine wpAnyH_done (by kernel_rfl) ?_ _;refine NoPanic.normal ?_;refine hK0 _ _ ?_;go_wp2;go_ret;refine⟨HCh.out,?_⟩;rw[HAx.out];exact⟨rfl,HR3.out⟩
  | error x =>
    obtain⟨rfl,hR2,hB2⟩:=h;have HR2:=aA hR2;clear hR2 hB2;refine hK.out _ _ (HHC.out _ HCn.out) (λ_=>?_);clear hK K hHeld;rename_i hHeld
    try walk_nrm
    refine dA 9 rfl ?_;refine uK 10 rfl ?_;refine uK 11 rfl ?_;refine uK 12 rfl ?_;refine uK 13 rfl ?_;refine uK 14 rfl ?_;refine uK 15 rfl ?_;refine uK 16 rfl ?_;refine uK 17 rfl ?_;refine uK 18 rfl ?_;refine dA 19 rfl ?_;refine dA 20 rfl ?_
    try walk_nrm
    refine wpAnyH_done (by kernel_rfl) ?_ _;refine NoPanic.normal ?_;refine hK0 _ _ ?_;go_wp2;go_ret;refine⟨HCh.out,?_⟩;rw[HAx.out];exact⟨rfl,HR2.out⟩
end
section
variable {w0 : World}
theorem bO(T:ST){q:Option Addr}{cap:Nat}(hn:(qA T).length<=1000000)(hq:SxArg w0 q (qA T)):Calls prog 24 #[.slice q (qA T).length cap] w0 λe w=>e = .returned (sxV T.last)/\Under w0 w:=by
 obtain⟨init,hi⟩:=zF T;obtain⟨b,off,rfl,hb,ht⟩:=hq (by rw[hi];simp);obtain⟨c0,c1,c2⟩:=ht init.length T.last (by rw[hi];simp);have hl:(qA T).length=init.length+1:=by rw[hi];simp
 rw[hl]at hn ⊢;generalize T.last=x at *;generalize init.length=m at *;have hmi:((m:Int)+1 - 1)=(m:Int):=by omega
 have hm1:(m:Int)<=1000000:=by omega
 have hm0:(0:Int)<=(m:Int):=by omega
 clear hi ht hl hn;go_enter func24,ntmps24;go_wp2;refine bodyPost_ret (v:=sxV x) ?_ rfl ⟨rfl,bA (Qu _) _⟩;simp[results,f24,go_sem,sxV]
theorem cO(T:ST){q:Option Addr}{cap:Nat}(hn:(qA T).length<=1000000)(hq:SxArg w0 q (qA T)):Calls prog 35 #[.slice q (qA T).length cap] w0 λe w=>e = .returned (sxV T.last)/\Under w0 w:=by
 obtain⟨init,hi⟩:=zF T;obtain⟨b,off,rfl,hb,ht⟩:=hq (by rw[hi];simp);obtain⟨c0,c1,c2⟩:=ht init.length T.last (by rw[hi];simp);have hl:(qA T).length=init.length+1:=by rw[hi];simp
 rw[hl]at hn ⊢;generalize T.last=x at *;generalize init.length=m at *;have hmi:((m:Int)+1 - 1)=(m:Int):=by omega
 have hm1:(m:Int)<=1000000:=by omega
 have hm0:(0:Int)<=(m:Int):=by omega
 clear hi ht hl hn;go_enter func35,ntmps35;go_wp2;refine bodyPost_ret (v:=sxV x) ?_ rfl ⟨rfl,bA (Qu _) _⟩;simp[results,f35,go_sem,sxV]
end
section
variable {w0 : World} {d : Dc} {v : Value}
theorem gXA(w:World)(base:Nat)(e:TypeId)(size:Nat)(hb:base<=w.heap.size):(w.alloc (.cells #[] e)).ownsRow base e size (.slice (some ⟨w.heap.size,0,none⟩) 0 0) 0 [] :=
 ⟨by simp,.inr ⟨w.heap.size,0,#[],rfl,hb,zA w _ _,Qd _,by unfold maxLen;omega,by simp,by simp⟩⟩
end
theorem Tryz.infoDecl10:(Tryz.prog.info? 37).map (λi=>(i.zero,i.size,i.bytes))=some (some (.agg #[.int .i64 0,.int .i64 0,.string ⟨#[]⟩,.slice none 0 0,.slice none 0 0,.slice none 0 0]),6,104):=by kernel_rfl
theorem i5A(w:World){n:Nat}(cs:List Value)(t:TypeId)(h:w.heap.size=n):RowArg (w.alloc (.cells cs.toArray t)) (some ⟨n,0,none⟩) cs:=h▸wP w cs t (0,0)
theorem e0A{w:World}{base s n m c:Nat}{e:TypeId}{q:Option Addr}{xs:List Value}(h:w.ownsRow base e s (.slice q m c) n xs):q=none->c=0:=by
 rintro rfl;rcases h.2 with⟨h0,_⟩|⟨g,cap,cur,h0,_⟩
 . cases h0;rfl
 . cases h0
def cBB(w0:World)(ds:List Dc)(v i:Value)(wr:World):Prop:=∃(k:Nat) (rows:List (List Value)),k<=ds.length/\i = .int .i64 (k:Int)/\wr.ownsRow w0.heap.size 37 6 v k rows.flatten/\(∀ r∈rows,r.length=6)/\Zip (DcRow w0) rows (ds.take k)/\Under w0 wr
section
variable {w0 : World} {ds : List Dc}
theorem iZA{p:Option Addr}{c:Nat}(hn:ds.length<=100000)(hp:RowsV 6 DcRow w0 p ds):Calls prog 8 #[.slice p ds.length c] w0 λe w=>∃ q c',e = .returned (.slice q ds.length c')/\ds.length<=c'/\(q=none->c'=0)/\RowsV 6 DcRow w q ds/\Under w0 w:=by
 obtain⟨i0,hi,hz0,hz1,hz2⟩:=info_parts Tryz.infoDecl10;have HP:=aA hp;have hn0:(0:Int)<=(ds.length:Int):=by omega
 clear hp;go_enter func8,ntmps8;go_wp2;have HE:=aA (gXA w0 w0.heap.size 37 6 (Qd _));have HU0:=aA (bA (Qu w0) (.cells #[] 37));go_loopw [3,4] (λv i wr=>cBB w0 ds v i wr) (λ_ i _=>ds.length - (intOf i).toNat)
 case atStart=>exact⟨0,[],Nat.zero_le _,rfl,HE.out,λr h=>(List.not_mem_nil h).elim,by simpa using Zip.nil _,HU0.out⟩
 case round =>
   obtain⟨k,rows,hk,rfl,hown,hrows,hzip,hU⟩:=hrel;have hrk:rows.length=k:=by rw[hzip.1,List.length_take];omega
   by_cases hlt:k < ds.length
   . obtain⟨b,off,r,rfl,hb,hrl,hr,hc⟩:=HP.out.at (Qa hlt) (by decide);have HRr:=aA hr;obtain⟨v1,v2,v3,rfl,⟨p1,c1,rfl,_⟩,⟨p2,c2,rfl,_⟩,⟨p3,c3,us3,rfl,_⟩⟩:=hr;have cc0:=hc 0 _ rfl;have cc1:=hc 1 _ rfl;have cc2:=hc 2 _ rfl;have cc3:=hc 3 _ rfl;have cc4:=hc 4 _ rfl;have cc5:=hc 5 _ rfl;simp only[Nat.add_zero,<- Nat.add_assoc]at cc0 cc1 cc2 cc3 cc4 cc5;rw[<- iA hU hb]at cc0 cc1 cc2 cc3 cc4 cc5;have hb':=Qb hb hU.size;have htk:ds.take (k+1)=ds.take k++[ds[k]]:=Qj hlt;have HTK:=aA htk;have HO:=aA hown;have HU:=aA hU;have HZ:=aA hzip;have HRw:=aA hrows;clear hc hU hown hzip hrows htk hrk hrl;generalize ds[k]=d at *;go_wp2_with (at_builtin;refine zC rfl _ _ 40 rfl w0.heap.size 37 i0 _ 6 104 underlying40 hi hz0 hz1 hz2 rfl (by decide) _ _ _ rfl (HO.out.alloc _) _ 1 1 _ rfl rfl (Qd _) (λh=>by cases h) (i5A _ [.int .i64 d.kind,.int .i64 d.level,.string d.name,.slice p1 d.type.length c1,.slice p2 d.body.length c2,.slice p3 d.cons.length c3] 37 rfl) ?c3 (by simp only[maxLen];omega) (by omega) ?c5 ?_)
     case c3=>intro u hu;simp at hu;rcases hu with rfl|rfl|rfl|rfl|rfl|rfl<;>rfl
     case c5=>have:=HU.out.size;simp;omega
     intro v' w' hown hgrow;have HW:=aA hown;have HU2:=aA (eB (bA HU.out _) hgrow λg e=>(xB HO.out e).1);clear hown hgrow;go_wp2;go_roundw
     case rel=>exact⟨k+1,rows++[_],by omega,by go_num,by rw[List.flatten_append];simpa using HW.out,by
       intro r hr;rcases List.mem_append.1 hr with hr|hr
       . exact HRw.out r hr
       . rw[List.mem_singleton.1 hr];rfl,by rw[HTK.out];exact HZ.out.app (Zip.one HRr.out),HU2.out⟩
     case measure=>simp[intOf];omega
   . obtain rfl:k=ds.length:=by omega
     rw[List.take_length]at hzip;obtain⟨q,c',rfl,hc',hr'⟩:=RowsV.of_own (R:=DcRow) hown hrows (hzip.mono λv x hx=>DcRow.mono _ _ _ _ hU hx);have HX:=aA hr';have HU:=aA hU;have HN0:=aA (And.intro hc' (e0A hown));clear hown hrows hzip hU hc' hr';go_wp2;go_ret;exact⟨_,_,rfl,HN0.out.1,HN0.out.2,HX.out,HU.out⟩
end
section
variable {W0 w0 : World} {d : Dc}
def DcR(B:Nat)(w:World)(cs:List Value)(d:Dc):Prop:=∃ vt vb vc,cs=[.int .i64 d.kind,.int .i64 d.level,.string d.name,vt,vb,vc]/\Ow1 B w vt d.type/\Ow1 B w vb d.body/\Ow3 B w vc d.cons
theorem DcR.under{B:Nat}{w w':World}{cs:List Value}{d:Dc}(h:DcR B w cs d)(hU:Under w w'):DcR B w' cs d:=by
 obtain⟨vt,vb,vc,e,h1,h2,h3⟩:=h;exact⟨vt,vb,vc,e,h1.under hU,h2.under hU,h3.under hU⟩
theorem DcR.base{B B':Nat}{w:World}{cs:List Value}{d:Dc}(h:DcR B w cs d)(hB:B'<=B):DcR B' w cs d:=by
 obtain⟨vt,vb,vc,e,h1,h2,h3⟩:=h;exact⟨vt,vb,vc,e,h1.base hB,h2.base hB,h3.base hB⟩
theorem DcR.grown{B:Nat}{w w':World}{cs:List Value}{d:Dc}(h:DcR B w cs d){b e s n:Nat}{v:Value}{xs:List Value}(k:w.ownsRow b e s v n xs)(hg:w.grownBy w' v.ownBlock)(he:96≠e)(he2:30≠e)(he3:62≠e):DcR B w' cs d:=by
 obtain⟨vt,vb,vc,e,h1,h2,⟨vs,h3,h4⟩⟩:=h;exact⟨vt,vb,vc,e,h1.grown k hg he,h2.grown k hg he,vs,rC h3 hg (own_ne h3 k he3),h4.mono λv x h=>h.grown k hg he he2⟩
theorem DcR.row{B:Nat}{w:World}{cs:List Value}{d:Dc}(h:DcR B w cs d):DcRow w cs d:=by
 obtain⟨vt,vb,vc,e,h1,h2,h3⟩:=h;exact⟨vt,vb,vc,e,fP h1,fP h2,h3.cons⟩
theorem hCA{w:World}{p:Option Addr}{cs:List Value}(h:RowArg w p cs):∀ b,p=some b->∀ j u,cs[j]? = some u->w.cell? (b.add j)=some u:=by
 intro b hb j u hj;obtain⟨b',off,e,_,hc⟩:=h (λe=>by rw[e]at hj;simp at hj);rw[hb]at e
 cases e;rw[tN];exact hc j u hj
theorem Tryz.infoDeclP:(Tryz.prog.info? 33).map (λi=>(i.zero,i.size,i.bytes))=some (some (.agg #[.int .i64 0,.int .i64 0,.string ⟨#[]⟩,.slice none 0 0,.slice none 0 0,.slice none 0 0]),6,104):=by kernel_rfl
end
theorem sOA{x:UInt8}(h:49<=x.toNat/\x.toNat<=57):Lib.atoiAll [x] = .ok ((x.toNat:Int) - 48):=by
 have:∀ n:Nat,49<=n->n<=57->Lib.atoiAll [UInt8.ofNat n] = .ok (((UInt8.ofNat n).toNat:Int) - 48):=by
  intro n h1 h2;obtain rfl|rfl|rfl|rfl|rfl|rfl|rfl|rfl|rfl:n=49∨n=50∨n=51∨n=52∨n=53∨n=54∨n=55∨n=56∨n=57:=by omega
  all_goals decide +kernel
 have:=this x.toNat h.1 h.2
 rwa [UInt8.ofNat_toNat]at this
theorem a8A(n:Nat):madeCells (Value.cells (.slice none 0 0)) (n * 1)=(List.replicate n (.slice none 0 0)).toArray:=by
 apply Array.ext
 . simp[madeCells]
 . intro i h1 h2;simp[madeCells,Value.cells,Nat.mod_one]
theorem zCB(n:Nat)(hn:n<=100000)(w:World):(Instr.makeSlice 62 (.int .i64 (n:Int)) (.int .i64 (n:Int))).run prog w = .ok (.slice (some ⟨w.heap.size,0,none⟩) n n) (w.alloc (.cells (List.replicate n (Value.slice none 0 0)).toArray 30)):=by
 obtain⟨i0,hi,hz0,hz1,hz2⟩:=info_parts Tryz.infoNdsC;have:=run_makeSlice (P:=prog) w 62 30 i0 _ underlying62 hi hz0 .i64 .i64 (n:Int) (n:Int) (by omega) (by omega) (by rw[hz1];omega) (by rw[hz2];omega) (by omega);rw[this];simp only[Int.toNat_natCast,hz1];rw[a8A]
def PartsAt(w:World)(b off lo hi:Nat)(ls:List (List Sx)):Prop:=lo<=b/\b < hi/\hi<=w.heap.size/\∀ i l,ls[i]? = some l->∃ q c,w.cell? ⟨b,off+i,none⟩=some (.slice q l.length c)/\l.length<=c/\SxArg w q l/\∀ a,q=some a->lo<=a.block/\a.block < hi
theorem PartsAt.ch{w w':World}{b off lo hi:Nat}{ls:List (List Sx)}{C:Nat->Prop}(h:PartsAt w b off lo hi ls)(k:Ch C w w')(hC:∀ b,C b->b < lo∨hi<=b):PartsAt w' b off lo hi ls:=by
 obtain⟨h1,h2,h3,h4⟩:=h;refine⟨h1,h2,Ql h3 k.size,λi l hl=>?_⟩;obtain⟨q,c,a1,a2,a3,a4⟩:=h4 i l hl;refine⟨q,c,?_,a2,k8A a3 k (λa e hc=>by have:=a4 a e;have:=hC _ hc;omega),a4⟩;have:=k.block b (by omega) (λhc=>by have:=hC _ hc;omega);simp only[World.cell?,this]at *;exact a1
theorem aUA{w:World}{g:Nat}{e:TypeId}{cs:List Value}{n:Nat}(h:BoxAt w g e cs.toArray)(hn:cs.length=n)(hm:n<=maxLen){B:Nat}(hB:B<=g):w.ownsRow B e 1 (.slice (some ⟨g,0,none⟩) n n) n cs :=
 ⟨by rw[hn];omega,.inr ⟨g,n,cs.toArray,rfl,hB,h,Qd _,hm,by simp[hn],by simp[<- hn]⟩⟩
theorem set_mid{us:List Value}{k n:Nat}(hk:us.length=k)(hn:k < n)(u z:Value):(us++List.replicate (n - k) z).toArray.setIfInBounds k u=((us++[u])++List.replicate (n - (k+1)) z).toArray:=by
 obtain⟨m,hm⟩:∃ m,n - k=m+1:=⟨n - k - 1,by omega⟩;rw[hm,show n - (k+1)=m by omega,List.replicate_succ];subst hk;simp[List.set_append_right]
theorem xDA{cs ds:List ByteArray}{acc:List (List Nd)}{l:List ST}{k:Nat}(hk:k < l.length):mP cs ds acc (l.drop k)=match oF cs ds l[k] with|.error x=>.error x|.ok t=>mP cs ds (acc++[t]) (l.drop (k+1)):=by
 rw[Qi hk];rfl
theorem qDA{cs ds:List ByteArray}{p q:Int}{s:ByteArray}{acc:List (List (List Nd))}{l:List ST}{k:Nat}(hk:k < l.length)(h:l[k] = .word q s):lI cs ds p acc (l.drop k) = .error (71,q):=by
 rw[Qi hk,h];rfl
theorem tFA{cs ds:List ByteArray}{p q:Int}{r:List ST}{acc:List (List (List Nd))}{l:List ST}{k:Nat}(hk:k < l.length)(h:l[k] = .list q r):lI cs ds p acc (l.drop k)=if 6 < r.length then .error (21,p) else match mP cs ds [] r with|.error x=>.error x|.ok c=>lI cs ds p (acc++[c]) (l.drop (k+1)):=by
 rw[Qi hk,h];rfl
structure DiS (w0:World) (rb db nb:Nat) (lv:Value) (x0 y0 lev:Int) (nm:ByteArray) (cs ds:List ByteArray) (v1 v2:Option Addr) (d1 d2:Nat) (vc:Value) (acc:List (List (List Nd))) (w:World):Prop where
 ch:Ch (λb=>b=rb∨b=db) w0 w
 rd:BoxAt w rb 54 #[lv,.int .i64 x0,.int .i64 y0]
 dc:BoxAt w db 33 #[.int .i64 3,.int .i64 lev,.string nm,.slice none 0 0,.slice none 0 0,vc]
 nb:BoxAt w nb 82 #[.slice v1 cs.length d1,.slice v2 ds.length d2]
 two:TwoT w0.heap.size w (.slice v1 cs.length d1) (.slice v2 ds.length d2) cs ds
 con:ConsT w0.heap.size w vc acc
theorem DiS.under{w0 w w':World}{rb db nb:Nat}{lv:Value}{x0 y0 lev:Int}{nm:ByteArray}{cs ds:List ByteArray}{v1 v2:Option Addr}{d1 d2:Nat}{vc:Value}{acc:List (List (List Nd))}(h:DiS w0 rb db nb lv x0 y0 lev nm cs ds v1 v2 d1 d2 vc acc w)(hU:Under w w'):DiS w0 rb db nb lv x0 y0 lev nm cs ds v1 v2 d1 d2 vc acc w' :=
 ⟨h.ch.under hU,h.rd.under hU,h.dc.under hU,h.nb.under hU,⟨uA h.two.one hU,uA h.two.two hU,h.two.ne⟩,h.con.keep (Ch.of_under (C:=λ_=>False) hU) (λ_ h=>h.elim) (λ_ h=>h.elim)⟩
def iBB(w0:World)(rb db nb:Nat)(lv:Value)(x0 y0 lev p:Int)(nm:ByteArray)(cs ds:List ByteArray)(v1 v2:Option Addr)(d1 d2:Nat)(qs:List ST)(i:Value)(wr:World):Prop:=∃(j:Nat) (vc:Value) (acc:List (List (List Nd))),j<=qs.length/\i = .int .i64 (j:Int)/\acc.length=j/\lI cs ds p [] qs=lI cs ds p acc (qs.drop j)/\DiS w0 rb db nb lv x0 y0 lev nm cs ds v1 v2 d1 d2 vc acc wr
def yBB(wi:World)(rb cb:Nat)(cs ds:List ByteArray)(r:List ST)(lv:Value)(x0 y0:Int)(i:Value)(wr:World):Prop:=∃(k:Nat) (us:List Value) (acc:List (List Nd)),k<=r.length/\i = .int .i64 (k:Int)/\acc.length=k/\mP cs ds [] r=mP cs ds acc (r.drop k)/\BoxAt wr cb 30 (us++List.replicate (r.length - k) (Value.slice none 0 0)).toArray/\Zip (OwnTm 96 wr) us acc/\Under wi wr
theorem q4A{w w':World}{a b:Nat}{T:TypeId}{cs:Array Value}(h:Ch (λg=>g=a∨g=b) w w')(h1:BoxAt w a T cs)(h2:BoxAt w' a T cs):Ch (λg=>g=b) w w' :=
 ⟨h.os,h.output,h.size,λi hi hn=>by
   by_cases e:i=a
   . subst e;exact h2.trans h1.symm
   . exact h.block i hi λhc=>hc.elim e hn⟩
theorem xU(a b:UInt8):Op.bytesLess [a] [b]=decide (a.toNat < b.toNat):=by
 by_cases h:a.toNat < b.toNat
 . have:a < b:=UInt8.lt_iff_toNat_lt.2 h;simp[Op.bytesLess,h,this]
 . have:¬ a < b:=λk=>h (UInt8.lt_iff_toNat_lt.1 k)
   simp[Op.bytesLess,h,this]
def dWA(off c:Nat):Nat:=if c=3 then off else off+3
theorem zS{p:Int}{s:ByteArray}(h:s.size≠0):yG (qA (.word p s))=none:=by
 show yG ([]++[⟨0,p,s⟩])=none
 rw[aH]
 split
 . rw[if_neg h]
 . rfl
theorem wCB{b off n c:Nat}(h3:3<=n)(hc:n<=c)(w:World):(Instr.slice 48 (.slice (some ⟨b,off,none⟩) n c) (some (.int .i64 3)) none none).run prog w = .ok (.slice (some ⟨b,dWA off c,none⟩) (n - 3) (c - 3)) w:=by
 by_cases h:c=3
 . subst h;obtain rfl:n=3:=by omega
   simp[Instr.slice,Instr.sliceBounds,Instr.sliceBound,asIntOf,run_underlying underlying48,go_sem,dWA]
 . have h1:(3:Int)<=(n:Int):=by omega
   have h2:(n:Int)<=(c:Int):=by omega
   have h4:¬ c - 3=0:=by omega
   simp[Instr.slice,Instr.sliceBounds,Instr.sliceBound,asIntOf,run_underlying underlying48,go_sem,dWA,h,h1,h2,h4]
   done
theorem yEA{s:ByteArray}{lev:Int}(h:pR s=some lev):∃ x:UInt8,s=⟨⟨[x]⟩⟩/\49<=x.toNat/\x.toNat<=57/\lev=(x.toNat:Int) - 48:=by
 unfold pR at h;rw[ByteArray.toList_eq]at h;obtain⟨⟨l⟩⟩:=s
 match l,h with
 | [b], h =>
   simp only at h
   split at h
   . rename_i hb;exact⟨b,rfl,hb.1,hb.2,(Qt h).symm⟩
   . cases h
theorem gGA{s:ByteArray}(h:pR s=none):s.size≠1∨∃ x:UInt8,s=⟨⟨[x]⟩⟩/\(x.toNat < 49∨57 < x.toNat):=by
 unfold pR at h;rw[ByteArray.toList_eq]at h;obtain⟨⟨l⟩⟩:=s
 match l,h with
 | [],_=>exact .inl (by decide)
 | [b], h =>
   simp only at h
   split at h
   . cases h
   . exact .inr ⟨b,rfl,by omega⟩
 | a::b::l,_=>exact .inl (by show(a::b::l).length≠1;simp)
def b8A(rb db b off m c:Nat)(p:Int)(nb:Nat)(J:Nat->Value):Array Value:=#[.pointer (some ⟨rb,0,none⟩),.pointer (some ⟨db,0,none⟩),.slice (some ⟨b,off,none⟩) m c,.int .i64 p,J 4,J 5,J 6,J 7,J 8,J 9,.pointer (some ⟨nb,0,none⟩),J 11,J 12,J 13,J 14,J 15,J 16,J 17,J 18,J 19,J 20,J 21,J 22,J 23,J 24,J 25,J 26,J 27,J 28,J 29,J 30,J 31,J 32,J 33,J 34,J 35,J 36,J 37,J 38,J 39,J 40,J 41,J 42,J 43,J 44,J 45,J 46,J 47,J 48,J 49,J 50,J 51,J 52,J 53,J 54,J 55,J 56,J 57,J 58,J 59,J 60,J 61,J 62,J 63,J 64,J 65,J 66,J 67,J 68,J 69,J 70,J 71,J 72,J 73,J 74,J 75,J 76,J 77,J 78,J 79,J 80,J 81,J 82,J 83,J 84,J 85,J 86,J 87,J 88,J 89,J 90,J 91,J 92,J 93,J 94,J 95,J 96,J 97,J 98,J 99,J 100,J 101,J 102,J 103,J 104,J 105,J 106,J 107,J 108,J 109,J 110,J 111,J 112,J 113,J 114,J 115,J 116,J 117,J 118,J 119,J 120,J 121,J 122,J 123,J 124,J 125,J 126]
def DiQ(w0:World)(rb db b off m c nb:Nat)(lv:Value)(x0 y0 lev p:Int)(nm:ByteArray)(cs ds:List ByteArray)(v1:Option Addr)(e1:Nat)(e:Exit)(a':Act)(w':World):Prop:=e = .normal/\∃ gg cc,(∃ J,a'=⟨b8A rb db b off m c p nb J,[]⟩)/\DiS w0 rb db nb lv x0 y0 lev nm cs ds v1 (some ⟨gg,0,none⟩) e1 cc (.slice none 0 0) [] w'
section
variable {w0 : World}
theorem j0A{l:List Dc}{pl:Option Addr}{cl rb db b off m c lo hi:Nat}{p a1 a2:Int}{nm:ByteArray}{hd n a:ST}{qs:List ST}{W:World}(hW:Under W w0)(hl:l.length<=100000)(hp:RowsV 6 DcRow W pl l)(hr:BoxAt w0 rb 54 #[.slice pl l.length cl,.int .i64 a1,.int .i64 a2])
    (hB:BoxAt w0 db 33 #[.int .i64 3,.int .i64 0,.string nm,.slice none 0 0,.slice none 0 0,.slice none 0 0]) (hn:rb≠db) (hwr:W.heap.size<=rb) (hwd:W.heap.size<=db) (hrl:rb < lo) (hhd:hi<=db) (hm:m=qs.length+3) (hm9:m<=100000) (hmc:m<=c) (hpa:PartsAt w0 b off lo hi ((hd::n::a::qs).map qA))
    (hok:uI qs) (hlen:∀ y∈a::qs,(qA y).length<=1000000) (hT:∀ y∈qs,∀ q r,y=ST.list q r->∀ t∈r,iCA W (knC l) (knD l++[nm]) t) (hE:StrcAt w0) :
    Calls prog 33 #[.pointer (some ⟨rb,0,none⟩),.pointer (some ⟨db,0,none⟩),.slice (some ⟨b,off,none⟩) m c,.int .i64 p] w0 (uTA w0 rb db (.slice pl l.length cl) (vLA l nm p a qs)):=by
  have HPa:=aA hpa;obtain⟨qa,ca,pa1,pa2,pa3,pa4⟩:=hpa.2.2.2 2 (qA a) rfl;have HL:=aA (bO (w0:=w0) (cap:=ca) a (q:=qa) (hlen a (by simp)) pa3);have HK:=aA (λw (h:Under W w)=>tAA (w0:=w) (p:=pl) (c:=cl) l hl (RowsV.under DcRow.mono hp h));have HR:=aA hr;have HB:=aA hB;have HBd:=aA (And.intro hrl hhd);have HWW:=aA (And.intro hW (And.intro hwr hwd));have HQs:=aA (And.intro hok (And.intro (λy hy=>hlen y (Qh _ hy)) hT));have HM:=aA (And.intro hm (And.intro hm9 hmc));have HE:=aA (λw (h:Under W w) (s:ByteArray) (hs:s.size<=281474976710656)=>mEA s hs w);have hb:b < w0.heap.size:=by have:=hpa.2.1;have:=hpa.2.2.1;omega
  have hm2:(2:Int) < (m:Int):=by omega
  have hmx:(m:Int)<=100000:=by omega
  have rl:=hr.lt;have HPR:RowKit.Hid (vLA l nm p a qs=match pR a.last.word with|none=>.error (71,a.last.pos)|some lev=>if 6 < qs.length then .error (21,p) else match lI (knC l) (knD l++[nm]) p [] qs with|.error x=>.error x|.ok c=>.ok ⟨3,lev,nm,[],[],c⟩):=aA rfl;generalize vLA l nm p a qs=PR at *;clear hpa pa2 pa3 pa4 hlen hp hr hB hrl hhd hW hwr hwd hok hT hm hm9 hmc;have HF1:=λ(a b:Int) (s:ByteArray) (w:World)=>(show(Instr.field 28 (.agg #[.int .i64 a,.int .i64 b,.string s]) 1).run prog w = .ok (.int .i64 b) w by kernel_rfl)
  go_enter func33,ntmps33;go_wp2_with fail;refine HL.out.mono ?_;rintro e w1 ⟨rfl,hU1⟩;simp only[sxV];have HX:=aA (zA w1 #[.int .i64 a.last.many,.int .i64 a.last.pos,.string a.last.word] 28);have HU2:=aA (hU1.trans (bA (Qu w1) (.cells #[.int .i64 a.last.many,.int .i64 a.last.pos,.string a.last.word] 28)));clear hU1 HL pa1;generalize a.last.many=am at *;generalize a.last.pos=ap at *;generalize a.last.word=aw at *
  cases hlv:pR aw with
  | none =>
    have HPS:=aA (show PR = .error (71,ap) by rw[HPR.out,hlv]);clear HPR;have HWr:=aA (yF (w0:=w1.alloc (.cells #[.int .i64 am,.int .i64 ap,.string aw] 28)) (e:=71) (at0:=ap) (HR.out.under HU2.out));rcases gGA hlv with h1|⟨x,rfl,hx⟩
    . have h1':((aw.size:Int) != 1)=true:=by simp;omega
      clear h1 hlv;go_wp2_with fail;refine HWr.out.mono ?_;rintro e w9 ⟨rfl,hw⟩;have HC9:=aA (show Ch (λb=>b=rb∨b=db) (w1.alloc (.cells #[.int .i64 am,.int .i64 ap,.string aw] 28)) w9 by rw[hw];exact((Ch.refl (w1.alloc (.cells #[.int .i64 am,.int .i64 ap,.string aw] 28))).set (λ_=>.inl rfl) _ _).set (λ_=>.inl rfl) _ _);have HR9:=aA (show BoxAt w9 rb 54 #[.slice pl l.length cl,.int .i64 ap,.int .i64 71] by rw[hw];exact((HR.out.under HU2.out).set 2 _).set 1 _);clear hw;go_wp2;go_ret;rw[HPS.out];exact⟨(Ch.of_under HU2.out).trans HC9.out (λ_ _ h=>h),rfl,HR9.out⟩
    . have h1:(⟨⟨[x]⟩⟩:ByteArray).size=1:=rfl;clear hlv;rcases hx with hx|hx
      . have hb1:Op.bytesLess [x] [49]=true:=by rw[xU];exact decide_eq_true hx
        clear hx;go_wp2_with fail;refine HWr.out.mono ?_;rintro e w9 ⟨rfl,hw⟩;have HC9:=aA (show Ch (λb=>b=rb∨b=db) (w1.alloc (.cells #[.int .i64 am,.int .i64 ap,.string ⟨⟨[x]⟩⟩] 28)) w9 by rw[hw];exact((Ch.refl (w1.alloc (.cells #[.int .i64 am,.int .i64 ap,.string ⟨⟨[x]⟩⟩] 28))).set (λ_=>.inl rfl) _ _).set (λ_=>.inl rfl) _ _);have HR9:=aA (show BoxAt w9 rb 54 #[.slice pl l.length cl,.int .i64 ap,.int .i64 71] by rw[hw];exact((HR.out.under HU2.out).set 2 _).set 1 _);clear hw;go_wp2;go_ret;rw[HPS.out];exact⟨(Ch.of_under HU2.out).trans HC9.out (λ_ _ h=>h),rfl,HR9.out⟩
      . have hb1:Op.bytesLess [x] [49]=false:=by rw[xU];exact decide_eq_false (by show ¬ x.toNat < 49;omega)
        have hb2:Op.bytesLess [x] [57]=false:=by rw[xU];exact decide_eq_false (by show ¬ x.toNat < 57;omega)
        have hb3:(x==57)=false:=beq_eq_false_iff_ne.2 (by rintro rfl;exact absurd hx (by decide));clear hx;go_wp2_with fail;refine HWr.out.mono ?_;rintro e w9 ⟨rfl,hw⟩;have HC9:=aA (show Ch (λb=>b=rb∨b=db) (w1.alloc (.cells #[.int .i64 am,.int .i64 ap,.string ⟨⟨[x]⟩⟩] 28)) w9 by rw[hw];exact((Ch.refl (w1.alloc (.cells #[.int .i64 am,.int .i64 ap,.string ⟨⟨[x]⟩⟩] 28))).set (λ_=>.inl rfl) _ _).set (λ_=>.inl rfl) _ _);have HR9:=aA (show BoxAt w9 rb 54 #[.slice pl l.length cl,.int .i64 ap,.int .i64 71] by rw[hw];exact((HR.out.under HU2.out).set 2 _).set 1 _);clear hw;go_wp2;go_ret;rw[HPS.out];exact⟨(Ch.of_under HU2.out).trans HC9.out (λ_ _ h=>h),rfl,HR9.out⟩
  | some lev =>
    obtain⟨x,rfl,hx1,hx2,hlev⟩:=yEA hlv;have h1:(⟨⟨[x]⟩⟩:ByteArray).size=1:=rfl;have hb1:Op.bytesLess [x] [49]=false:=by rw[xU];exact decide_eq_false (by show ¬ x.toNat < 49;omega)
    have hb2:(Op.bytesLess [x] [57]||x==57)=true:=by
     rw[xU];by_cases h:x.toNat=57
     . obtain rfl:x=57:=UInt8.toNat_inj.1 h;rfl
     . rw[decide_eq_true (show x.toNat < (57:UInt8).toNat from by show x.toNat < 57;omega)];rfl
    have HAt:=aA (mEA ⟨⟨[x]⟩⟩ (by rw[h1];decide) (w1.alloc (.cells #[.int .i64 am,.int .i64 ap,.string ⟨⟨[x]⟩⟩] 28)) (hE.under HU2.out));have HLv:=aA (show Lib.atoiAll [x] = .ok lev by rw[hlev];exact sOA ⟨hx1,hx2⟩);have HPT:=aA (show PR=if 6 < qs.length then .error (21,p) else match lI (knC l) (knD l++[nm]) p [] qs with|.error x=>.error x|.ok c=>.ok ⟨3,lev,nm,[],[],c⟩ by rw[HPR.out,hlv]);clear hlv hx1 hx2 hlev HE HPR;go_wp2_with fail;refine HAt.out.mono ?_;rintro e w3 ⟨⟨v,ev,rfl,hv⟩,hU3⟩;obtain rfl:v=lev:=by
     rcases hv with⟨_,h⟩|⟨_,h⟩
     . have:=HLv.out.symm.trans h
       cases this;rfl
     . exact absurd HLv.out (h _)
    have HR3:=aA ((HR.out.under HU2.out).under hU3);have HB3:=aA ((HB.out.under HU2.out).under hU3);have HU3:=aA (HU2.out.trans hU3);clear hv hU3 HAt HLv hb1 hb2 h1 HX HU2;have d1:=HB3.out.cell 1;have f1:=HB3.out.free 1;have dl:=HB3.out.lt;by_cases h6:6 < qs.length
    . have HPS:=aA (show PR = .error (21,p) by rw[HPT.out,if_pos h6]);have h6':(6:Int) < (m:Int) - 3:=by have:=HM.out.1;omega
      have HWr:=aA (yF (w0:=w3.setCell ⟨db,1,none⟩ (.int .i64 v)) (e:=21) (at0:=p) (HR3.out.other hn 1 _));clear h6;go_wp2_with fail;refine HWr.out.mono ?_;rintro e w9 ⟨rfl,hw⟩;have HC9:=aA (show Ch (λb=>b=rb∨b=db) (w3.setCell ⟨db,1,none⟩ (.int .i64 v)) w9 by rw[hw];exact((Ch.refl (w3.setCell ⟨db,1,none⟩ (.int .i64 v))).set (λ_=>.inl rfl) _ _).set (λ_=>.inl rfl) _ _);have HR9:=aA (show BoxAt w9 rb 54 #[.slice pl l.length cl,.int .i64 p,.int .i64 21] by rw[hw];exact((HR3.out.other hn 1 _).set 2 _).set 1 _);clear hw;go_wp2;go_ret;rw[HPS.out];exact⟨(oD HU3.out ((Ch.refl w3).set (λ_=>.inr rfl) 1 _)).trans HC9.out (λ_ _ h=>h),rfl,HR9.out⟩
    . have h6' : ¬ (6 : Int) < (m : Int) - 3 := by have := HM.out.1; omega
      have hm3:(3:Int)<=(m:Int):=by omega
      have HPS:=aA (show PR=match lI (knC l) (knD l++[nm]) p [] qs with|.error x=>.error x|.ok c=>.ok ⟨3,v,nm,[],[],c⟩ by rw[HPT.out,if_neg h6]);have HUw:=aA (oD (C:=λb=>b=rb∨b=db) HU3.out ((Ch.refl w3).set (λ_=>.inr rfl) 1 (.int .i64 v)));have HR4:=aA (HR3.out.other hn 1 (.int .i64 v));have HB4:=aA (HB3.out.set 1 (.int .i64 v));have HW4:=aA (dB HWW.out.1 HUw.out (λb hb=>by have:=HWW.out.2;omega));have r0:=HR4.out.cell 0;have rl4:=HR4.out.lt;obtain⟨i0,hi0,hz0,hz1,hz2⟩:=info_parts Tryz.infoStrK;clear HPT;go_wp2_with fail;refine(HK.out _ HW4.out).mono ?_;rintro e w4 ⟨vc,vd,rfl,hT2,hU4⟩;have HTw:=aA hT2;obtain⟨v1,e1,rfl,_⟩:=TextsV.of_own hT2.one;obtain⟨v2,e2,rfl,_⟩:=TextsV.of_own hT2.two;have HA4:=aA (hU4.trans (bA (Qu w4) (.cells #[.slice v1 (knC l).length e1,.slice v2 (knD l).length e2] 82)));have HTw:=aA (show TwoT w0.heap.size (w4.alloc (.cells #[.slice v1 (knC l).length e1,.slice v2 (knD l).length e2] 82)) (.slice v1 (knC l).length e1) (.slice v2 (knD l).length e2) (knC l) (knD l) from⟨uD (uA HTw.out.one (bA (Qu _) _)) HUw.out.size,uD (uA HTw.out.two (bA (Qu _) _)) HUw.out.size,HTw.out.ne⟩);have HNb:=aA (zA w4 #[.slice v1 (knC l).length e1,.slice v2 (knD l).length e2] 82);have hnb:w0.heap.size<=w4.heap.size:=Ql HUw.out.size hU4.size;clear hT2 hU4 r0 rl4 d1 f1 dl h6' hm3 h6;go_wp2_with fail;rename_i K0 hK0;obtain⟨w5,hw5⟩:∃ w5,w5=w4.alloc (.cells #[.slice v1 (knC l).length e1,.slice v2 (knD l).length e2] 82):=⟨_,rfl⟩;rw[<- hw5]at HA4 HTw HNb ⊢;clear hw5;generalize w4.heap.size=nb at *;have HR5:=aA (HR4.out.under HA4.out);have HB5:=aA (HB4.out.under HA4.out);have HU5:=aA (HUw.out.under HA4.out);have hnn:nb≠db:=by have:=HB.out.lt;omega
      have hnr:nb≠rb:=by have:=HR.out.lt;omega
      have HS:=aA (λw (h:Under w5 w)=>(HB5.out.under h).cell 2);have dl5:=HB5.out.lt;clear HR4 HB4 HUw HA4 HR3 HB3 HU3;refine wp_mono (Q:=DiQ w0 rb db b off m c nb (.slice pl l.length cl) a1 a2 v p nm (knC l) (knD l++[nm]) v1 e1) ?_ ?_;rotate_left
      . rintro e a' w7 ⟨rfl,gg,cc,⟨J,rfl⟩,hS⟩;have HD:=aA hS;refine hK0 _ _ ?_;clear hK0 K0 hS HNb HTw HR5 HB5 HU5 HS dl5 hz0 hz1 hz2 hi0 i0 HW4 HK;obtain⟨i0,hi0,hz0,hz1,hz2⟩:=info_parts Tryz.infoNds2C;generalize knD l++[nm]=ds at *;generalize knC l=cs at *;unfold b8A;have hq3:m - 3=qs.length:=by have:=HM.out.1;omega
        have HCut:=wCB (b:=b) (off:=off) (n:=m) (c:=c) (by have:=HM.out.1;omega) HM.out.2.2;rw[hq3]at HCut;have hq9:(qs.length:Int)<=6:=by omega
        have hq0:(0:Int)<=(qs.length:Int):=by omega
        clear hq3;go_wp2;clear HCut;go_loopw [73] (λi wr=>iBB w0 rb db nb (.slice pl l.length cl) a1 a2 v p nm cs ds v1 (some ⟨gg,0,none⟩) e1 cc qs i wr) (λi _=>qs.length - (intOf i).toNat)
        case atStart=>exact⟨0,_,[],Nat.zero_le _,rfl,rfl,by rw[List.drop_zero],HD.out⟩
        case round =>
          obtain⟨j,vc,acc,hj,rfl,hak,hcs,hS⟩:=hrel;have hj0:(0:Int)<=(j:Int):=by omega
          have HD:=aA hS;have HCs:=aA hcs;have HAk:=aA hak;clear hS hcs hak;by_cases hlt:j < qs.length
          . have hlt':(j:Int) < (qs.length:Int):=by omega
            have ho3:dWA off c=off+3:=by have:=HM.out;unfold dWA;rw[if_neg (by omega)]
            have hP:=HPa.out.ch HD.out.ch (λb hb=>by have:=HBd.out;omega);have hrow:((hd::n::a::qs).map qA)[j+3]? = some (qA qs[j]):=by simp[Qa hlt]
            obtain⟨qj,cj,p1,p2,p3,_⟩:=hP.2.2.2 (j+3) _ hrow;have cc1:wr.cell? ⟨b,dWA off c+j,none⟩=some (.slice qj (qA qs[j]).length cj):=by rw[ho3,show off+3+j=off+(j+3) by omega];exact p1
            have hbw:b < wr.heap.size:=by have:=hP.2.1;have:=hP.2.2.1;omega
            have HPt:=aA (rV (w0:=wr) (cap:=cj) (qA qs[j]) (p:=qj) (HQs.out.2.1 _ (Qr hlt)) p2 p3);have HLs:=aA (λw (h:Under wr w)=>bO (w0:=w) (cap:=cj) qs[j] (q:=qj) (HQs.out.2.1 _ (Qr hlt)) (p3.under h));have hokj:=rO.1 HQs.out.1 _ (Qr hlt);have HTj:=aA (HQs.out.2.2 _ (Qr hlt));have HCw:=aA (λ(q:Int) (s:ByteArray) (h:qs[j] = .word q s)=>qDA (cs:=cs) (ds:=ds) (p:=p) (acc:=acc) hlt h);have HCl:=aA (λ(q:Int) (r:List ST) (h:qs[j] = .list q r)=>tFA (cs:=cs) (ds:=ds) (p:=p) (acc:=acc) hlt h);generalize qs[j]=y at *;clear ho3 hP hrow p1 p2 p3;go_wp2_with fail;refine HPt.out.mono ?_;rintro e w8 ⟨hU8,hR⟩;have HD8:=aA (HD.out.under hU8);have HL8:=aA (HLs.out w8 hU8);clear hU8 HPt HLs cc1 hbw
            cases y with
            | word q s =>
              rw[zS hokj]at hR;subst hR;have HPS:=aA (show PR = .error (71,q) by rw[HPS.out,HCs.out,HCw.out q s rfl]);rw[show(ST.word q s).last=⟨0,q,s⟩ from rfl]at HL8;clear HCw HCl HTj hokj;go_wp2_with fail;refine HL8.out.mono ?_;rintro e w9 ⟨rfl,hU9⟩;simp only[sxV];have HD9:=aA (HD8.out.under hU9);have HWr:=aA (yF (w0:=w9) (e:=71) (at0:=q) HD9.out.rd);clear hU9;go_wp2_with fail;refine HWr.out.mono ?_;rintro e w10 ⟨rfl,hw⟩;have HC9:=aA (show Ch (λb=>b=rb∨b=db) w9 w10 by rw[hw];exact((Ch.refl w9).set (λ_=>.inl rfl) _ _).set (λ_=>.inl rfl) _ _);have HR9:=aA (show BoxAt w10 rb 54 #[.slice pl l.length cl,.int .i64 q,.int .i64 71] by rw[hw];exact(HD9.out.rd.set 2 _).set 1 _);clear hw;go_wp2;go_ret;rw[HPS.out];exact⟨HD9.out.ch.trans HC9.out (λ_ _ h=>h),rfl,HR9.out⟩
            | list q r =>
              rw[xL hokj]at hR;obtain⟨vo,vs,rfl,g1,g2⟩:=hR;obtain⟨pq,pc,rfl,hrows⟩:=jT g1 g2;have hrl:(r.map qA).length=r.length:=by simp
              have HRo:=aA hrows;rw[hrl];have HCq:=aA (HCs.out.trans (HCl.out q r rfl));have HTr:=aA (λt (ht:t∈r)=>HTj.out q r rfl t ht);clear HCw HCl HTj hokj g1 g2 hrows hrl HL8;by_cases h6:6 < r.length
              . have HPS:=aA (show PR = .error (21,p) by rw[HPS.out,HCq.out,if_pos h6]);have h6':(6:Int) < (r.length:Int):=by omega
                have HWr:=aA (yF (w0:=w8) (e:=21) (at0:=p) HD8.out.rd);clear h6;go_wp2_with fail;refine HWr.out.mono ?_;rintro e w9 ⟨rfl,hw⟩;have HC9:=aA (show Ch (λb=>b=rb∨b=db) w8 w9 by rw[hw];exact((Ch.refl w8).set (λ_=>.inl rfl) _ _).set (λ_=>.inl rfl) _ _);have HR9:=aA (show BoxAt w9 rb 54 #[.slice pl l.length cl,.int .i64 p,.int .i64 21] by rw[hw];exact(HD8.out.rd.set 2 _).set 1 _);clear hw;go_wp2;go_ret;rw[HPS.out];exact⟨HD8.out.ch.trans HC9.out (λ_ _ h=>h),rfl,HR9.out⟩
              . have HCq:=aA (show lI cs ds p [] qs=match mP cs ds [] r with|.error x=>.error x|.ok c=>lI cs ds p (acc++[c]) (qs.drop (j+1)) by rw[HCq.out,if_neg h6]);have h6':¬(6:Int) < (r.length:Int):=by omega
                have hr9:(r.length:Int)<=6:=by omega
                have hr0:(0:Int)<=(r.length:Int):=by omega
                have HMk:=zCB r.length (by omega);clear h6;go_wp2;clear HMk;go_loopw [102] (λi wi=>yBB w8 rb w8.heap.size cs ds r (.slice pl l.length cl) a1 a2 i wi) (λi _=>r.length - (intOf i).toNat)
                case atStart=>exact⟨0,[],[],Nat.zero_le _,rfl,rfl,by rw[List.drop_zero],by simpa using zA w8 (List.replicate r.length (Value.slice none 0 0)).toArray 30,Zip.nil _,bA (Qu _) _⟩
                case round =>
                  obtain⟨k,us,ac,hk,rfl,hka,hcs2,hbx,hz,hU⟩:=hrel;have hk0:(0:Int)<=(k:Int):=by omega
                  have HBx:=aA hbx;have HZ:=aA hz;have HUi:=aA hU;have HC2:=aA hcs2;have HKa:=aA hka;have HDi:=aA (HD8.out.under hU);clear hbx hz hU hcs2 hka;by_cases hkt:k < r.length
                  . have hkt':(k:Int) < (r.length:Int):=by omega
                    obtain⟨b2,off2,rfl,hb2,hcs3⟩:=HRo.out (λe=>by rw[List.map_eq_nil_iff]at e;rw[e]at hkt;simp at hkt);obtain⟨q2,c2,a0,a1',a2'⟩:=hcs3 k (qA r[k]) (by simp[Qa hkt]);rw[<- iA HUi.out hb2]at a0;have hb2':=Qb hb2 HUi.out.size;have HDr:=aA (xDA (cs:=cs) (ds:=ds) (acc:=ac) hkt);have HTm:=aA (HTr.out r[k] (Qr hkt));have HSx:=aA (And.intro a1' a2');generalize r[k]=t at *;clear hcs3 a1' a2';have HWi:=aA (show Under W wr from dB HWW.out.1 HDi.out.ch (λb hb=>by have:=HWW.out.2;omega));have hcbr:rb≠w8.heap.size:=by have:=HR.out.lt;have:=HD8.out.ch.size;omega
                    have HUd:=aA (fA (Qu wr));have HC:=aA (mV (w0:=wr.drew) (j:=k) hcbr (by decide) (λw h=>HTm.out w (HWi.out.trans (HUd.out.trans h)) q2 c2 HSx.out.1 (HSx.out.2.under (HUi.out.trans (HUd.out.trans h))) v1 (some ⟨gg,0,none⟩) e1 cc (TextsV.of_own (uA HDi.out.two.one (HUd.out.trans h))) (TextsV.of_own (uA HDi.out.two.two (HUd.out.trans h)))) iK (HDi.out.rd.under HUd.out) (HBx.out.under HUd.out) (by have h1:=HZ.out.1;have h2:=HKa.out;simp;omega) rfl rfl);generalize oF cs ds t=RT at *;go_wp2_with fail;rename_i K1 hK1;have nbl:=HDi.out.nb.lt;refine wp_region_noPanic ?_;refine wp_region_held_drew (S:=λw=>w.cell? ⟨nb,0,none⟩=some (.slice v1 cs.length e1)/\w.cell? ⟨nb,1,none⟩=some (.slice (some ⟨gg,0,none⟩) ds.length cc)) (by kernel_rfl) ⟨HDi.out.nb.cell 0,HDi.out.nb.cell 1⟩ (λhHeld=>?_);refine dA 0 rfl ?_;refine dA 1 rfl ?_;refine dA 2 rfl ?_;refine dA 3 rfl ?_;refine dA 4 rfl ?_;refine dA 5 rfl ?_;refine yA 6 (by kernel_rfl) rfl λK hK=>?_
                    go_simp;go_at_call 31;refine HC.out.mono ?_;rintro e w9 ⟨hCh,h⟩;have HCh:=aA (oD HUd.out hCh);have HNb9:=aA (fH HDi.out.nb HCh.out (λe=>by have:=HD8.out.nb.lt;omega));clear hCh HC
                    cases RT with
                    | ok tt =>
                      obtain⟨rfl,hR2,u,hu,hB2⟩:=h;have HR2:=aA (And.intro hR2 (And.intro hu hB2));clear hR2 hu hB2;refine hK.out _ _ ⟨HNb9.out.cell 0,HNb9.out.cell 1⟩ (λ_=>?_);clear hK K hHeld;rename_i hHeld
                      try walk_nrm
                      refine dA 7 rfl ?_
                      try walk_nrm
                      refine wpAnyH_done (by kernel_rfl) ?_ _;refine NoPanic.normal ?_;have HCl:=aA (q4A HCh.out HDi.out.rd HR2.out.1);have HU9:=aA (dB HUi.out HCl.out (λb hb=>by omega));refine hK1 _ _ ?_;clear hK1 K1 hHeld;go_wp2;go_roundw
                      case rel=>exact⟨k+1,us++[u],ac++[tt],by omega,by go_num,by rw[Qc,HKa.out];rfl,by rw[HC2.out,HDr.out],by rw[<- set_mid (by have h1:=HZ.out.1;have h2:=HKa.out;omega) hkt];exact HR2.out.2.2,(HZ.out.mono λv x hv=>hv.ch HCl.out (λb hb=>⟨30,(us++List.replicate (r.length - k) (Value.slice none 0 0)).toArray,by rw[hb];exact HBx.out,by decide⟩)).app (Zip.one HR2.out.2.1),HU9.out⟩
                      case measure=>simp[intOf];omega
                    | error x =>
                      obtain⟨rfl,hR2,_⟩:=h;have HR2:=aA hR2;clear hR2;refine hK.out _ _ ⟨HNb9.out.cell 0,HNb9.out.cell 1⟩ (λ_=>?_);clear hK K hHeld;rename_i hHeld
                      try walk_nrm
                      refine dA 7 rfl ?_
                      try walk_nrm
                      refine wpAnyH_done (by kernel_rfl) ?_ _;refine NoPanic.normal ?_;refine hK1 _ _ ?_;clear hK1 K1 hHeld;go_wp2;go_ret;rw[HPS.out,HCq.out,HC2.out,HDr.out];exact⟨HDi.out.ch.trans HCh.out (λi hi h=>by have:=HD8.out.ch.size;omega),rfl,HR2.out⟩
                  . obtain rfl:k=r.length:=by omega
                    have hA:mP cs ds [] r = .ok ac:=by rw[HC2.out,List.drop_length];rfl
                    have HCs:=aA (show lI cs ds p [] qs=lI cs ds p (acc++[ac]) (qs.drop (j+1)) by rw[HCq.out,hA]);have hul:us.length=r.length:=by have:=HZ.out.1;have:=HKa.out;omega
                    have HOc:=aA (aUA (n:=r.length) (B:=w0.heap.size) (show BoxAt wr w8.heap.size 30 us.toArray by have:=HBx.out;simpa using this) hul (by simp only[maxLen];omega) HD8.out.ch.size);obtain⟨vs3,ho3,hz3⟩:=HDi.out.con;have HO3:=aA (And.intro ho3 hz3);obtain⟨qv,cv,rfl,_⟩:=RowArg.of_own ho3;have d5:=HDi.out.dc.cell 5;have f5:=HDi.out.dc.free 5;have dl:=HDi.out.dc.lt;have HMb:=aA (show acc.length+1<=maxLen/\(acc.length+1) * 24<=140737488355328 from by have:=HAk.out;simp only[maxLen];omega);have hbs:w0.heap.size<=wr.heap.size:=HDi.out.ch.size;generalize hal:acc.length=na at *;have HNa:=aA hal;clear hA hal ho3 hz3 hul;go_wp2_with (at_builtin;refine wpList_append_own_at _ rfl _ _ 31 rfl w0.heap.size 62 i0 _ 1 24 underlying31 hi0 hz0 hz1 hz2 rfl (by decide) _ _ _ rfl (uA HO3.out.1 (bA (Qu _) _)) ⟨wr.heap.size,0,none⟩ 1 1 [.slice (some ⟨w8.heap.size,0,none⟩) r.length r.length] rfl rfl ?c1 ?c2 HMb.out.1 HMb.out.2 ?c5 ?_)
                    case c1 =>
                      intro jj u hj
                      match jj,hj with
                      | 0,hj=>cases hj;simp[Addr.add]
                    case c2=>intro u hu;simp at hu;subst hu;rfl
                    case c5=>simp;omega
                    intro v' w9 hown hgrow hnil hat;obtain⟨q5,c5,rfl,_⟩:=RowArg.of_own hown;have hA:=bA (Qu wr) (.cells #[.slice (some ⟨w8.heap.size,0,none⟩) r.length r.length] 62);have HO':=aA hown;have hvb:∀ g,(Value.slice qv na cv).ownBlock=some g->w0.heap.size<=g:=λg e=>(xB HO3.out.1 e).1
                    have HDg:=aA ((HDi.out.ch.under hA).grown hgrow (λg e hg=>by have:=hvb g e;omega));have HRg:=aA ((HDi.out.rd.under hA).grown hgrow (λe=>by have:=hvb _ e.symm;have:=HR.out.lt;omega));have HBg:=aA ((HDi.out.dc.under hA).grown hgrow (λe=>by have:=hvb _ e.symm;have:=HB.out.lt;omega));have HNg:=aA ((HDi.out.nb.under hA).grown hgrow (λe=>bC (HDi.out.nb.under hA) (uA HO3.out.1 hA) (by decide) e.symm));have HTg:=aA (show TwoT w0.heap.size w9 (.slice v1 cs.length e1) (.slice (some ⟨gg,0,none⟩) ds.length cc) cs ds from⟨rC (uA HDi.out.two.one hA) hgrow (own_ne (uA HDi.out.two.one hA) (uA HO3.out.1 hA) (by decide)),rC (uA HDi.out.two.two hA) hgrow (own_ne (uA HDi.out.two.two hA) (uA HO3.out.1 hA) (by decide)),HDi.out.two.ne⟩);have HZg:=aA (((HO3.out.2.app (Zip.one (show ∃ us',wr.ownsRow w0.heap.size 30 1 (.slice (some ⟨w8.heap.size,0,none⟩) r.length r.length) ac.length us'/\Zip (OwnTm 96 wr) us' ac from⟨us,by rw[HKa.out];exact HOc.out,HZ.out⟩))).mono λv x ⟨us,hu,hz⟩=>(⟨us,rC (uA hu hA) hgrow (own_ne (uA hu hA) (uA HO3.out.1 hA) (by decide)),hz.mono λv x h=>(h.under hA).grown (uA HO3.out.1 hA) hgrow (by decide)⟩:∃ us,w9.ownsRow w0.heap.size 30 1 v x.length us/\Zip (OwnTm 96 w9) us x)));clear hown hgrow hnil hat hA hvb d5 f5 dl;have d5:=HBg.out.cell 5;have f5:=HBg.out.free 5;have dl:=HBg.out.lt;have HC5:=aA ((Ch.refl (C:=λb=>b=db) w9).set (λ_=>rfl) 5 (.slice q5 (na+1) c5));have hdb0:=HB.out.lt;go_wp2;go_roundw
                    case rel=>exact⟨j+1,_,acc++[ac],by omega,by go_num,by rw[Qc,HNa.out];simp;have:=HAk.out;omega,HCs.out,HDg.out.trans HC5.out (λi hi h=>.inr h),HRg.out.other hn 5 _,HBg.out.set 5 _,HNg.out.other hnn 5 _,iDA HTg.out HC5.out (λb hb=>by omega),⟨_,by rw[Qc,HNa.out];exact iE HO'.out HC5.out (λg hg h=>by have:=(xB HO'.out hg).1;omega),HZg.out.mono λ_ _ ⟨us,hu,hz⟩=>⟨us,iE hu HC5.out (λg hg h=>by have:=(xB hu hg).1;omega),hz.mono λ_ _ h=>h.ch HC5.out (λb hb=>⟨33,#[.int .i64 3,.int .i64 v,.string nm,.slice none 0 0,.slice none 0 0,.slice qv na cv],by rw[hb];exact HBg.out,by decide⟩)⟩⟩⟩
                    case measure=>simp[intOf];omega
          . obtain rfl:j=qs.length:=by omega
            have HPS:=aA (show PR = .ok ⟨3,v,nm,[],[],acc⟩ by rw[HPS.out,HCs.out,List.drop_length];rfl);go_wp2;go_ret;rw[HPS.out];exact⟨HD.out.ch,rfl,⟨_,_,HD.out.rd⟩,_,_,_,HD.out.dc,kV _ _,kV _ _,HD.out.con⟩
      refine wp_region_noPanic ?_;refine wp_region_held_drew (S:=λw=>w.cell? ⟨db,2,none⟩=some (.string nm)) (by kernel_rfl) (HS.out _ (fA (Qu w5))) (λhHeld=>?_);refine dA 0 rfl ?_;refine dA 2 rfl ?_;refine dA 3 rfl ?_;refine dA 4 rfl ?_;refine dA 5 rfl ?_
      try walk_nrm
      refine kG 1 6 (by kernel_rfl) rfl rfl (λK hK=>?_) (λK hK=>?_)
      . have r0:(w5.drew).cell? ⟨nb,1,none⟩=some (.slice v2 (knD l).length e2):=HNb.out.cell 1;have rl:=HNb.out.lt;go_simp;refine hK.out _ _ hHeld (λ_=>?_);clear hK K hHeld;rename_i hHeld
        try walk_nrm
        refine yA 6 (by kernel_rfl) rfl λK hK=>?_
        go_simp;have HUb:=aA (show Under w5 ((w5.alloc (.cells #[.string nm] 9)).drew) from fA (bA (Qu w5) _));refine hK.out _ _ (HS.out _ HUb.out) (λ_=>?_);clear hK K hHeld;rename_i hHeld
        try walk_nrm
        refine yA 7 (by kernel_rfl) rfl λK hK=>?_
        refine step_append_lies _ (by rfl) _ _ _ (by rfl) w0.heap.size 9 i0 _ 1 16 underlying80 hi0 hz0 hz1 hz2 rfl (by omega) (.slice v2 (knD l).length e2) (knD l).length ((knD l).map .string) (by rfl) (uA HTw.out.two HUb.out)
          ⟨w5.heap.size,0,none⟩ 1 1 [.string nm] (by rfl) (by rfl) (World.news_of_block (cs:=#[.string nm]) (t:=9) (fr:=(0,0)) (heap_alloc_new _ _)) (by simp[Value.oneCell'])
          (by omega) (by have:=(eQ l).2;simp only[maxLen];omega) (by have:=(eQ l).2;omega) (by have:=HB5.out.lt;have:=HB.out.lt;have:=HUb.out.size;have:=HU5.out.size;omega) (w5.heap.size+1) (by simp) ?_
        intro gg cc w6 hown hgrow hat hlt;have HNb6:=aA ((HNb.out.under HUb.out).grown hgrow λe=>by have:=(bC HNb.out HTw.out.two (by decide));exact this e.symm);have HO6:=aA (show w6.ownsRow w0.heap.size 9 1 (.slice (some ⟨gg,0,none⟩) ((knD l).length+1) cc) (knD l++[nm]).length ((knD l++[nm]).map .string) by rw[Qc,List.map_append];exact hown);have HV6:=aA (rC (uA HTw.out.one HUb.out) hgrow HTw.out.ne);have HNe:=aA (show(Value.slice v1 (knC l).length e1).ownBlock=none∨(Value.slice v1 (knC l).length e1).ownBlock≠some gg by
          rcases hat with h|h
          . rcases HTw.out.ne with h1|h1
            . exact .inl h1
            . exact .inr (by rw[<- h];exact h1)
          . by_cases hv : (Value.slice v1 (knC l).length e1).ownBlock = none
            . exact .inl hv
            . obtain⟨g,hg⟩:=Option.ne_none_iff_exists'.1 hv
              right
              rw[hg];intro e;have:=(xB HTw.out.one hg).2
              cases e;omega)
        have HU6:=aA ((HU5.out.under HUb.out).grown hgrow λg e hg=>by have:=(xB HTw.out.two e).1;omega);have HR6:=aA ((HR5.out.under HUb.out).grown hgrow λe=>by have:=(xB HTw.out.two e.symm).1;have:=HR.out.lt;omega);have HB6:=aA ((HB5.out.under HUb.out).grown hgrow λe=>by have:=(xB HTw.out.two e.symm).1;have:=HB.out.lt;omega);clear hown hgrow hat hlt;refine hK.out _ _ (HB6.out.cell 2) (λ_=>?_);clear hK K hHeld;rename_i hHeld
        try walk_nrm
        refine dA 8 rfl ?_
        try walk_nrm
        have y1:=HNb6.out.lt;have y2:=HNb6.out.free 1;have y3:=HNb6.out.cell 1;refine yA 9 (by kernel_rfl) rfl λK hK=>?_
        go_simp;refine hK.out _ _ ((HB6.out.other hnn.symm 1 _).cell 2) (λ_=>?_);clear hK K hHeld;rename_i hHeld
        try walk_nrm
        refine wpAnyH_done (by kernel_rfl) ?_ _;refine NoPanic.normal ?_;have HC7:=aA ((Ch.refl (C:=λb=>b=nb) w6).set (λ_=>rfl) 1 (.slice (some ⟨gg,0,none⟩) ((knD l).length+1) cc));have HD7:=aA (show DiS w0 rb db nb (.slice pl l.length cl) a1 a2 v nm (knC l) (knD l++[nm]) v1 (some ⟨gg,0,none⟩) e1 cc (.slice none 0 0) [] (w6.setCell ⟨nb,1,none⟩ (.slice (some ⟨gg,0,none⟩) ((knD l).length+1) cc)) from
          ⟨HU6.out.trans HC7.out (λi hi h=>by omega),HR6.out.other hnr.symm 1 _,HB6.out.other hnn.symm 1 _,by have:=HNb6.out.set 1 (.slice (some ⟨gg,0,none⟩) ((knD l).length+1) cc);simpa using this,⟨iE HV6.out HC7.out (λg hg h=>bC HNb6.out HV6.out (by decide) (by rw[hg,h])),by
            have:=iE HO6.out HC7.out (λg hg h=>bC HNb6.out HO6.out (by decide) (by rw[hg,h]))
            simpa using this,HNe.out⟩,ConsT.nil _ _⟩)
        exact⟨rfl,gg,cc,⟨_,fB (F:=b8A rb db b off m c p nb) (by rfl)⟩,HD7.out⟩
      . go_simp;have HUb:=aA (show Under w5 ((w5.alloc (.cells #[.string nm] 9)).drew) from fA (bA (Qu w5) _));refine hK.out _ _ (HS.out _ HUb.out) (λ_=>?_);clear hK K hHeld;rename_i hHeld
        try walk_nrm
        have r0:((w5.alloc (.cells #[.string nm] 9)).drew).cell? ⟨nb,1,none⟩=some (.slice v2 (knD l).length e2):=(HNb.out.under HUb.out).cell 1;have rl:=(HNb.out.under HUb.out).lt;refine yA 1 (by kernel_rfl) rfl λK hK=>?_
        go_simp;refine hK.out _ _ (HS.out _ HUb.out) (λ_=>?_);clear hK K hHeld;rename_i hHeld
        try walk_nrm
        refine yA 7 (by kernel_rfl) rfl λK hK=>?_
        refine step_append_lies _ (by rfl) _ _ _ (by rfl) w0.heap.size 9 i0 _ 1 16 underlying80 hi0 hz0 hz1 hz2 rfl (by omega) (.slice v2 (knD l).length e2) (knD l).length ((knD l).map .string) (by rfl) (uA HTw.out.two HUb.out)
          ⟨w5.heap.size,0,none⟩ 1 1 [.string nm] (by rfl) (by rfl) (World.news_of_block (cs:=#[.string nm]) (t:=9) (fr:=(0,0)) (heap_alloc_new _ _)) (by simp[Value.oneCell'])
          (by omega) (by have:=(eQ l).2;simp only[maxLen];omega) (by have:=(eQ l).2;omega) (by have:=HB5.out.lt;have:=HB.out.lt;have:=HUb.out.size;have:=HU5.out.size;omega) (w5.heap.size+1) (by simp) ?_
        intro gg cc w6 hown hgrow hat hlt;have HNb6:=aA ((HNb.out.under HUb.out).grown hgrow λe=>by have:=(bC HNb.out HTw.out.two (by decide));exact this e.symm);have HO6:=aA (show w6.ownsRow w0.heap.size 9 1 (.slice (some ⟨gg,0,none⟩) ((knD l).length+1) cc) (knD l++[nm]).length ((knD l++[nm]).map .string) by rw[Qc,List.map_append];exact hown);have HV6:=aA (rC (uA HTw.out.one HUb.out) hgrow HTw.out.ne);have HNe:=aA (show(Value.slice v1 (knC l).length e1).ownBlock=none∨(Value.slice v1 (knC l).length e1).ownBlock≠some gg by
          rcases hat with h|h
          . rcases HTw.out.ne with h1|h1
            . exact .inl h1
            . exact .inr (by rw[<- h];exact h1)
          . by_cases hv : (Value.slice v1 (knC l).length e1).ownBlock = none
            . exact .inl hv
            . obtain⟨g,hg⟩:=Option.ne_none_iff_exists'.1 hv
              right
              rw[hg];intro e;have:=(xB HTw.out.one hg).2
              cases e;omega)
        have HU6:=aA ((HU5.out.under HUb.out).grown hgrow λg e hg=>by have:=(xB HTw.out.two e).1;omega);have HR6:=aA ((HR5.out.under HUb.out).grown hgrow λe=>by have:=(xB HTw.out.two e.symm).1;have:=HR.out.lt;omega);have HB6:=aA ((HB5.out.under HUb.out).grown hgrow λe=>by have:=(xB HTw.out.two e.symm).1;have:=HB.out.lt;omega);clear hown hgrow hat hlt;refine hK.out _ _ (HB6.out.cell 2) (λ_=>?_);clear hK K hHeld;rename_i hHeld
        try walk_nrm
        refine dA 8 rfl ?_
        try walk_nrm
        have y1:=HNb6.out.lt;have y2:=HNb6.out.free 1;have y3:=HNb6.out.cell 1;refine yA 9 (by kernel_rfl) rfl λK hK=>?_
        go_simp;refine hK.out _ _ ((HB6.out.other hnn.symm 1 _).cell 2) (λ_=>?_);clear hK K hHeld;rename_i hHeld
        try walk_nrm
        refine wpAnyH_done (by kernel_rfl) ?_ _;refine NoPanic.normal ?_;have HC7:=aA ((Ch.refl (C:=λb=>b=nb) w6).set (λ_=>rfl) 1 (.slice (some ⟨gg,0,none⟩) ((knD l).length+1) cc));have HD7:=aA (show DiS w0 rb db nb (.slice pl l.length cl) a1 a2 v nm (knC l) (knD l++[nm]) v1 (some ⟨gg,0,none⟩) e1 cc (.slice none 0 0) [] (w6.setCell ⟨nb,1,none⟩ (.slice (some ⟨gg,0,none⟩) ((knD l).length+1) cc)) from
          ⟨HU6.out.trans HC7.out (λi hi h=>by omega),HR6.out.other hnr.symm 1 _,HB6.out.other hnn.symm 1 _,by have:=HNb6.out.set 1 (.slice (some ⟨gg,0,none⟩) ((knD l).length+1) cc);simpa using this,⟨iE HV6.out HC7.out (λg hg h=>bC HNb6.out HV6.out (by decide) (by rw[hg,h])),by
            have:=iE HO6.out HC7.out (λg hg h=>bC HNb6.out HO6.out (by decide) (by rw[hg,h]))
            simpa using this,HNe.out⟩,ConsT.nil _ _⟩)
        exact⟨rfl,gg,cc,⟨_,fB (F:=b8A rb db b off m c p nb) (by rfl)⟩,HD7.out⟩
end
end Go.Proofs.YtpkaiodmbicjiaaGreatDoor
