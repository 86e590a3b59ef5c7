/- Part 29 of what the proof rests on. -/
import Derived.Deep.LoopGhost
import Derived.Deep.RegionHeld3
import Derived.Conc.CompanyMem
import Derived.Conc.WalkWords
import Derived.Test.YtlnlpdephijcoaaGreatDoorM11
import Derived.Test.YtlnlpdephijcoaaGreatDoorM27
import Derived.Test.YtlnlpdephijcoaaGreatDoorM28
set_option linter.unusedSimpArgs false
set_option linter.unusedVariables false
set_option maxRecDepth 100000
set_option maxHeartbeats 2000000
namespace Go.Proofs.YtlnlpdephijcoaaGreatDoor
open Go.Lx Go.RowKit
theorem k6A(rb nb:Nat)(bv nv:Value)(wt:Bool)(ps:ByteArray)(q2:Option Addr)(n c2:Nat)(J:Nat→Value)(w:World) :
 tgRound.wp Tryz.prog (Exit.then (fun _ _=>False) (fun e a' w'=>e = .exit 0∧∃ J,a'=⟨vD rb nb bv nv wt ps q2 n c2 n J,[]⟩∧w'=w)) ⟨vD rb nb bv nv wt ps q2 n c2 n J,[]⟩ w:=by
 unfold tgRound nQ mY;simp only[Tryz.f28,Option.getD_some,xA,fA,oC];unfold vD;go_wp2;exact⟨trivial,rA (F:=vD rb nb bv nv wt ps q2 n c2 n) (by rfl) trivial⟩
theorem uO(F:TgFix)(hF:TgOk F)(ih:∀ y∈F.ts,jNA y)(a:Act)(w:World)(h0:lU F 0 a w):(Code.loop tgRound).wp Tryz.prog (vJA F) a w:=by
 refine wp_loop_ghost (fun m a w=>∃ k,m+k=F.ts.length∧lU F k a w) F.ts.length ⟨0,rfl,h0⟩ ?_;clear h0;rintro m a w ⟨k,hmk,nms,wt,x,t,ov1,p1,e1,nv,J,rfl,h⟩;by_cases hk:k < F.ts.length
 · have hpk : k < F.parts.length := by rw [hF.plen]; exact hk
   have hc:F.parts[k]? = some F.parts[k]:=List.getElem?_eq_getElem hpk;have key:tgRound.wp Tryz.prog (Exit.then (lU F (k+1)) (vJA F)) ⟨vD F.rb F.nb F.bv nv wt ⟨F.parts.toArray⟩ F.q2 F.ts.length F.c2 k J,[]⟩ w:=by
    by_cases g1:F.parts[k]=118
    · exact vUA F hF hk (.inl (by rw[hc,g1])) h J
    by_cases g2:F.parts[k]=119
    · exact vUA F hF hk (.inr (by rw[hc,g2])) h J
    by_cases g3:F.parts[k]=110
    · exact oBB F hF hk (by rw[hc,g3]) h J
    by_cases g4:F.parts[k]=100
    · exact l8A F hF hk (by rw[hc,g4]) h J
    exact l9A F hF hk hc g1 g2 g3 g4 ih h J
   refine wp_mono key ?_;rintro e a' w' h
   cases e with
   | normal=>exact⟨m - 1,by omega,k+1,by omega,h⟩
   | _=>exact h
 · obtain rfl : k = F.ts.length := by have := bQ F.ts; omega
   refine wp_mono (k6A F.rb F.nb F.bv nv wt ⟨F.parts.toArray⟩ F.q2 F.ts.length F.c2 J w) ?_;rintro e a' w' h'
   cases e with
   | normal=>exact h'.elim
   | _ =>
     obtain⟨h1,J',rfl,rfl⟩:=h';exact .inl ⟨h1,nms,wt,x,t,ov1,p1,e1,nv,J',rfl,h⟩
theorem mRA(pp:Int)(s:ByteArray):jNA (.word pp s):=by
 rintro W0 w rb m1 m2 cv dv ov acc p e q cap bv st cs ds hok hn hcap hw hE hcs hds hcn hdn hR hq ha hb hab hst hacc;have HLa:=Lib.hid (fJ (w0:=w) (.word pp s) (q:=q) (cap:=cap) (by omega) hq);have HR:=Lib.hid hR;have HB:=Lib.hid hb;have hs:s.size≠0:=hok;have hne:=(zO hs).1;have hne2:=(zO hs).2;have hwx:s.size≤1000000:=hw ⟨0,pp,s⟩ (by simp[jB]);rw[pJ];have HWd:=Lib.hid (fun w1 (hU:Under w w1)=>d0A ⟨0,pp,s⟩ cs st (bv:=bv) hwx (hR.under hU) (hb.under hU) (by omega) (by omega) hcs hcn);have hl1:(jB (.word pp s)).length=1:=rfl;rw[hl1]at HLa ⊢;clear hR hb hq ha hab hst hacc hn hcap hw hok hl1 hcs hds;simp only[ST.last,sxV]at HLa;simp only[sxV]at HWd;go_enter Tryz.func28,Tryz.ntmps28;go_wp2_with fail;refine wp_scope_straight ?_;go_wp2_with fail;refine HLa.out.mono ?_;rintro e w1 ⟨rfl,hU1⟩;have HU1:=Lib.hid (aA hU1 (.cells #[.int .i64 0,.int .i64 pp,.string s] 29));have hZ:=yA w1 #[.int .i64 0,.int .i64 pp,.string s] 29;have z0:(w1.alloc (.cells #[.int .i64 0,.int .i64 pp,.string s] 29)).cell? ⟨w1.heap.size,0,none⟩=some (.int .i64 (0)):=hZ.cell 0;have z1:(w1.alloc (.cells #[.int .i64 0,.int .i64 pp,.string s] 29)).cell? ⟨w1.heap.size,1,none⟩=some (.int .i64 (pp)):=hZ.cell 1;have z2:(w1.alloc (.cells #[.int .i64 0,.int .i64 pp,.string s] 29)).cell? ⟨w1.heap.size,2,none⟩=some (.string s):=hZ.cell 2;have zl:=hZ.lt;have HZ:=Lib.hid hZ;have hw1:=hU1.size;clear hU1 HLa hZ;go_wp2_with fail;refine(HWd.out _ HU1.out).mono ?_;rintro e w2 hO;have HO:=Lib.hid (ReOut.back HU1.out hO);have hv:∃ b,e = .returned (.bool b):=by
  obtain⟨_,_,_,_,_,_,_,h⟩:=hO
  split at h
  · exact⟨_,h.1⟩
  · exact⟨_,h.1⟩
 obtain⟨b,rfl⟩:=hv;clear hO HWd;go_wp2;rw[Exit.noGoto_ret];go_ret;exact HO.out
theorem b1A {W0 w : World} {rb m1 m2 : Nat} {cv dv ov : Value} {acc : List Nd} {p e : Int} {base : Nat} {vo : Value} {vs : List Value} {l : List ST} (hR : ReS W0 rb m1 m2 cv dv ov acc p e w)
    (h1:w.ownsRow base 25 1 vo (l.map jB).length vs) (h2:SxOwns w base vs (l.map jB)):∃ q c,vo = .slice q l.length c∧l.length≤c∧TsArg (dH rb ov) w q l:=by
  rw[List.length_map]at h1;have hro:=hR.row_out h1 (by decide) (by decide);obtain⟨q,c,rfl,hc,hr⟩:=RowArg.of_own h1;refine⟨q,c,rfl,hc,fun hne=>?_⟩;have hl0:0 < l.length:=List.length_pos_iff.2 hne;obtain⟨g,c',e1,hg,_,hgl,_,_⟩:=wC h1 hl0
  cases e1;refine⟨g,0,rfl,hgl,hro g hg,fun i T hi=>?_⟩;obtain⟨v,hv,hrow⟩:=h2.at (i:=i) (l:=jB T) (by rw[List.getElem?_map,hi];rfl);have hro2:=hR.row_out hrow (by decide) (by decide);obtain⟨qi,ci,rfl,hci,hsx⟩:=oVA hrow;refine⟨qi,ci,by rw[Nat.zero_add];exact lC h1 hg hv,hci,hsx,fun b off x e=>?_⟩;obtain⟨gi,ci',e2,hgi,_,_,_,_⟩:=wC hrow (aP T)
  cases e2
  cases e;exact hro2 _ rfl
theorem TsArg.more{C:Nat→Prop}{w:World}{q:Option Addr}{ts:List ST}{nb:Nat}(h:TsArg C w q ts)(hn:w.heap.size≤nb):TsArg (fun b=>C b∨b=nb) w q ts:=fun hne=>by
 obtain⟨b,off,rfl,hb,hnC,hc⟩:=h hne;refine⟨b,off,rfl,hb,fun e=>e.elim hnC (fun e=>by omega),fun i T hi=>?_⟩;obtain⟨qi,ci,h1,h2,h3,h4⟩:=hc i T hi;refine⟨qi,ci,h1,h2,h3,fun b' off' x e=>?_⟩;have hp:=aP T;obtain⟨b2,off2,e',hb',_⟩:=h3 (fun e=>by rw[e]at hp;exact absurd hp (Nat.lt_irrefl _));rw[e]at e'
 cases e';exact fun e2=>e2.elim (h4 _ _ _ e) (fun e2=>by omega)
theorem TsArg.tail{C:Nat→Prop}{w:World}{b off:Nat}{a:ST}{ts:List ST}(h:TsArg C w (some ⟨b,off,none⟩) (a::ts)):TsArg C w (some ⟨b,off+1,none⟩) ts:=fun hne=>by
 obtain⟨b',off',e,hb,hnC,hc⟩:=h (by simp)
 cases e;refine⟨b,off+1,rfl,hb,hnC,fun i T hi=>?_⟩;obtain⟨qi,ci,h1,h2⟩:=hc (i+1) T (by simpa using hi);exact⟨qi,ci,by rw[show off+1+i=off+(i+1) by omega];exact h1,h2⟩
theorem sYA(pp:Int):jNA (.list pp []):=by
 rintro W0 w rb m1 m2 cv dv ov acc p e q cap bv st cs ds hok hn hcap hw hE hcs hds hcn hdn hR hq ha hb hab hst hacc;have HLa:=Lib.hid (fJ (w0:=w) (.list pp []) (q:=q) (cap:=cap) (by omega) hq);have HR:=Lib.hid hR;have HB:=Lib.hid hb;have hst':p9 []:=hok;have hwx:∀ x∈iA [],x.word.size≤1000000:=fun x hx=>hw x (by rw[jB];exact List.mem_append_left _ hx)
 have hl1:(jB (.list pp [])).length=(iA []).length+1:=by rw[jB];simp
 have HPa:=Lib.hid (fun w1 (hU:Under w w1)=>xIA (w0:=w1) (cap:=cap) (p:=q) (jB (.list pp [])) (by omega) hcap (hq.under hU));rw[lHA hst']at HPa;rw[hl1]at HLa HPa ⊢;have hN:(iA []).length+1≤20000:=by omega
 have hab2:st.length+(iA []).length≤50000:=by omega
 have hac2:acc.length+(iA []).length+1≤900000:=by omega
 have HAb := Lib.hid hab; have HTl := Lib.hid (show ∀ y l', [] = y :: l' → (iA l').length ≤ 20000 ∧ st.length + (iA l').length ≤ 50000 ∧ acc.length + (iA l').length + 1 ≤ 900000 from fun y l' e => by
   have:(iA ([])).length=(jB y).length+(iA l').length:=by rw[e,iA,List.length_append]
   omega)
 have HLs:=Lib.hid (show ∀ y∈[],(jB y).length≤20000 from fun y hy=>by have:=yO hy;omega);have HLn:=Lib.hid (show([]:List ST).length≤20000 by have:=bQ [];omega);have HEs:=Lib.hid hE;have HCs:=Lib.hid hcs;have HDs:=Lib.hid hds;clear hR hq ha hb hab hst hacc hn hw hok hl1 hcs hds hE;generalize (iA []).length=fl at *;simp only[ST.last,sxV]at HLa;rw[pJ];rw[iK];go_enter Tryz.func28,Tryz.ntmps28;go_wp2_with fail;refine wp_scope_straight ?_;go_wp2_with fail;refine HLa.out.mono ?_;rintro e w1 ⟨rfl,hU1⟩;have HU1:=Lib.hid (aA hU1 (.cells #[.int .i64 (([]:List ST).length:Int),.int .i64 pp,.string ⟨#[]⟩] 29));have hZ:=yA w1 #[.int .i64 (([]:List ST).length:Int),.int .i64 pp,.string ⟨#[]⟩] 29;have z0:(w1.alloc (.cells #[.int .i64 (([]:List ST).length:Int),.int .i64 pp,.string ⟨#[]⟩] 29)).cell? ⟨w1.heap.size,0,none⟩=some (.int .i64 ((([]:List ST).length:Int))):=hZ.cell 0;have z1:(w1.alloc (.cells #[.int .i64 (([]:List ST).length:Int),.int .i64 pp,.string ⟨#[]⟩] 29)).cell? ⟨w1.heap.size,1,none⟩=some (.int .i64 (pp)):=hZ.cell 1;have z2:(w1.alloc (.cells #[.int .i64 (([]:List ST).length:Int),.int .i64 pp,.string ⟨#[]⟩] 29)).cell? ⟨w1.heap.size,2,none⟩=some (.string ⟨#[]⟩):=hZ.cell 2;have zl:=hZ.lt;have HZ:=Lib.hid hZ;have hw1:=hU1.size;clear hU1 HLa hZ;go_wp2_with fail;refine(HPa.out _ HU1.out).mono ?_;rintro e w2 ⟨hU2,vo,vs,rfl,ho1,ho2⟩;obtain⟨q2,c2,rfl,hc2,hts⟩:=b1A (HR.out.under (HU1.out.trans hU2)) ho1 ho2;have HZ2:=Lib.hid (HZ.out.under hU2);have z0:=HZ2.out.cell 0;have z1:=HZ2.out.cell 1;have z2:=HZ2.out.cell 2;have zl:=HZ2.out.lt;have HU2:=Lib.hid (HU1.out.trans hU2);have hzb:=Nat.lt_of_lt_of_le zl (Nat.le_refl _);have HTs:=Lib.hid hts;clear hU2 ho1 ho2 hts HPa HU1 HZ hw1;generalize w1.heap.size=zb at *;have HWr:=Lib.hid (iG (HR.out.under HU2.out) pp 71);go_wp2_with fail;refine HWr.out.mono ?_;rintro e w4 hO;have HO:=Lib.hid (ReOut.back HU2.out hO);obtain⟨_,_,_,_,_,_,_,rfl,_,_⟩:=hO;go_wp2;rw[Exit.noGoto_ret];go_ret;exact HO.out
theorem v3A(a b:Int)(s:ByteArray)(w:World):(Instr.field 29 (.agg #[.int .i64 a,.int .i64 b,.string s]) 2).run Tryz.prog w = .ok (.string s) w:=by kernel_rfl
theorem wWA{w:World}{m1:Nat}(h:MapAt w m1 formsL)(s:ByteArray):(Instr.lookup 60 (.map (some m1)) (.string s) true).run Tryz.prog w = .ok (.tuple #[((gN s).map mAA).getD (mH 0 0 []),.bool (gN s).isSome]) w:=by
 have:=(h.lookup (k:=s) (kt:=9) (et:=114) Tryz.underlying60 Tryz.underlying9 (gU w)).1;rw[gOA,Option.isSome_map]at this;exact this
def b2A(y:Int×Int×List UInt8):Bool:=decide (y.2.2.length≤10)&&((y.1==26||y.1==27)||y.2.2.all (· != 42))&&decide (0≤y.1)&&decide (y.1≤28)
theorem rRA{s:ByteArray}{k n:Int}{parts:List UInt8}(h:gN s=some (k,n,parts)):parts.length≤10∧((k=26∨k=27)∨parts.all (· != 42)=true):=by
 have hm:=a0A h;have ha:formT.all (fun t=>b2A t.2)=true:=by decide
 have:=List.all_eq_true.1 ha _ hm;simp only[b2A,Bool.and_eq_true,Bool.or_eq_true,decide_eq_true_eq,beq_iff_eq]at this;exact⟨this.1.1.1,this.1.1.2⟩
noncomputable def tgLate:Code:=fA (fA nQ)
def qVA(W0:World)(rb m1 m2:Nat)(cv dv ov:Value)(acc:List Nd)(p e:Int)(x:Nd)(w4:World)(ex:Exit)(a':Act)(w':World):Prop :=
 ex = .ret∧(∃ J,a'=⟨yH true J,[]⟩)∧∃ ov',ReS W0 rb m1 m2 cv dv ov' (acc++[x]) p e w'∧Ch (dH rb ov) w4 w'∧(∀ b,b < w4.heap.size→ov'.ownBlock=some b→ov.ownBlock=some b)
theorem yV{W0 w4:World}{rb m1 m2 nb:Nat}{cv dv ov:Value}{acc:List Nd}{p e:Int}{x:Nd}(hR:ReS W0 rb m1 m2 cv dv ov acc p e w4)(hn:BoxAt w4 nb 76 (wCA x))(hne:ov.ownBlock≠some nb)(hrn:rb≠nb)(ha:acc.length≤1000000)(bv nv:Value)(wt:Bool)(ps:ByteArray)(q2:Option Addr)(n c2 k:Nat)(J:Nat→Value) :
 tgLate.wp Tryz.prog (qVA W0 rb m1 m2 cv dv ov acc p e x w4) ⟨vD rb nb bv nv wt ps q2 n c2 k J,[]⟩ w4:=by
 obtain⟨i0,hi,hz0,hz1,hz2⟩:=info_parts Tryz.infoNode8;obtain⟨xk,xn,xm,xs⟩:=x;have HNy:=Lib.hid hn;have y4:=hR.box.cell 4;have yl:=hR.box.lt;have HRy:=Lib.hid hR;have nd0:=wG (x:=⟨xk,xn,xm,xs⟩) hn;have HNv:RowKit.Hid (ov.ownBlock≠some nb):=Lib.hid hne;have HNr:RowKit.Hid (rb≠nb):=Lib.hid hrn;have hmx:acc.length+1≤maxLen:=by simp only[maxLen];omega
 have hby:(acc.length+1) * 40≤140737488355328:=by omega
 have hlo:W0.heap.size≤w4.heap.size:=hR.und.size;clear hR hn hne hrn;unfold tgLate nQ mY;simp only[Tryz.f28,Option.getD_some,xA,fA,oC];unfold vD;go_wp2_with fail;refine wp_region_noPanic ?_;refine wp_region_held_drew (S:=fun w'=>w'.cell? ⟨nb,0,none⟩=some (.int .i64 (xk))∧w'.cell? ⟨nb,1,none⟩=some (.int .i64 (xn))∧w'.cell? ⟨nb,2,none⟩=some (.int .i64 (xm))∧w'.cell? ⟨nb,3,none⟩=some (.string xs)) (by kernel_rfl) nd0 (fun hHeld=>?_);co_applyP aB 0 rfl (by kernel_rfl) (by kernel_rfl) (fun _ _ _ h=>h) hHeld (fun w hSw=>?_) ?_;rotate_left
 · (try dsimp only at hSw);go_simp;try with_reducible rfl
 try walk_nrm
 co_applyP aB 1 rfl (by kernel_rfl) (by kernel_rfl) (fun _ _ _ h=>h) hHeld (fun w hSw=>?_) ?_;rotate_left
 · (try dsimp only at hSw);go_simp;try with_reducible rfl
 try walk_nrm
 co_applyP aB 2 rfl (by kernel_rfl) (by kernel_rfl) (fun _ _ _ h=>h) hHeld (fun w hSw=>?_) ?_;rotate_left
 · (try dsimp only at hSw);go_simp;try with_reducible rfl
 try walk_nrm
 co_applyP aB 3 rfl (by kernel_rfl) (by kernel_rfl) (fun _ _ _ h=>h) hHeld (fun w hSw=>?_) ?_;rotate_left
 · (try dsimp only at hSw);go_simp;try with_reducible rfl
 try walk_nrm
 co_applyP aB 5 rfl (by kernel_rfl) (by kernel_rfl) (fun _ _ _ h=>h) hHeld (fun w hSw=>?_) ?_;rotate_left
 · (try dsimp only at hSw);go_simp;try with_reducible rfl
 try walk_nrm
 refine bT 4 6 (by kernel_rfl) rfl rfl (fun K hK=>?_) (fun K hK=>?_)
 · go_simp; refine hK.out _ _ hHeld (fun _ => ?_); clear hK K hHeld; rename_i hHeld
   try walk_nrm
   refine kD 6 (by kernel_rfl) rfl fun K hK=>?_
   go_simp;refine hK.out _ _ ?_ (fun _=>?_)
   · exact wG (x:=⟨xk,xn,xm,xs⟩) ((HNy.out).under (by first | exact bA (Under.refl _) | exact bA (aA (Under.refl _) _) | exact aA (bA (Under.refl _)) _))
   clear hK K hHeld;rename_i hHeld
   try walk_nrm
   refine kD 7 (by kernel_rfl) rfl fun K hK=>?_
   refine step_append_lies _ (by rfl) _ _ _ (by rfl) W0.heap.size 76 i0 _ 4 40 Tryz.underlying30 hi hz0 hz1 hz2 rfl (by omega) ov acc.length (zB acc) (by rfl) (uA HRy.out.row (by first | exact bA (aA (Under.refl _) _) | exact aA (bA (Under.refl _)) _))
         ⟨w4.heap.size,0,none⟩ 1 1 [.int .i64 xk,.int .i64 xn,.int .i64 xm,.string xs] (by rfl) (by rfl) (World.news_of_block (cs:=#[.int .i64 xk,.int .i64 xn,.int .i64 xm,.string xs]) (t:=76) (fr:=(0,0)) (heap_alloc_new _ _)) (by simp[Value.oneCell'])
         (by omega) hmx hby (by simp;omega) (w4.heap.size+1) (by simp) ?_
   intro gg cc w5 hown5 hgrow5 hat5 hlt5;have HPd:=Lib.hid (kW (x:=⟨xk,xn,xm,xs⟩) HRy.out (by first | exact bA (aA (Under.refl _) _) | exact aA (bA (Under.refl _)) _) hgrow5 (by rcases hat5 with h | h;exact .inl h;exact .inr (by rw[h];simp)) hown5);have HN5:=Lib.hid (jVA (x:=⟨xk,xn,xm,xs⟩) HRy.out (HNy.out) HNv.out (by first | exact bA (aA (Under.refl _) _) | exact aA (bA (Under.refl _)) _) hgrow5);have HB5:=Lib.hid ((HRy.out.box.under (by first | exact bA (aA (Under.refl _) _) | exact aA (bA (Under.refl _)) _)).grown hgrow5 (fun e=>HRy.out.ov_rb e.symm));have y5:=HB5.out.lt;have y6:=HB5.out.free 4;have y7:=HB5.out.cell 4;have HN6:=Lib.hid (HN5.out.other (g:=rb) (fun e=>HNr.out e.symm) 4 (.slice (some ⟨gg,0,none⟩) (acc.length+1) cc));clear hown5 hgrow5 hat5 hlt5;refine hK.out _ _ (wG (x:=⟨xk,xn,xm,xs⟩) HN5.out) (fun _=>?_);clear hK K hHeld;rename_i hHeld
   try walk_nrm
   co_applyP aB 8 rfl (by kernel_rfl) (by kernel_rfl) (fun _ _ _ h=>h) hHeld (fun w hSw=>?_) ?_;rotate_left
   · (try dsimp only at hSw);go_simp;try with_reducible rfl
   try walk_nrm
   co_applyP aB 9 rfl (by kernel_rfl) (by kernel_rfl) (fun _ _ _ h=>h) hHeld (fun w hSw=>?_) ?_;rotate_left
   · (try dsimp only at hSw);go_simp;try with_reducible rfl
   try walk_nrm
   refine kD 10 (by kernel_rfl) rfl fun K hK=>?_
   go_simp;refine hK.out _ _ (wG (x:=⟨xk,xn,xm,xs⟩) HN6.out) (fun _=>?_);clear hK K hHeld;rename_i hHeld
   try walk_nrm
   refine wpAnyH_done (by kernel_rfl) ?_ _;refine NoPanic.normal ?_;clear hHeld y5 y6 y7;go_wp2;exact⟨rfl,⟨_,zC (F:=yH true) (by rfl)⟩,_,HPd.out.1,HPd.out.2.1,HPd.out.2.2⟩
 · go_simp; refine hK.out _ _ ?_ (fun _ => ?_)
   · exact wG (x:=⟨xk,xn,xm,xs⟩) ((HNy.out).under (by first | exact bA (Under.refl _) | exact bA (aA (Under.refl _) _) | exact aA (bA (Under.refl _)) _))
   clear hK K hHeld;rename_i hHeld
   try walk_nrm
   refine kD 4 (by kernel_rfl) rfl fun K hK=>?_
   go_simp;refine hK.out _ _ hHeld (fun _=>?_);clear hK K hHeld;rename_i hHeld
   try walk_nrm
   refine kD 7 (by kernel_rfl) rfl fun K hK=>?_
   refine step_append_lies _ (by rfl) _ _ _ (by rfl) W0.heap.size 76 i0 _ 4 40 Tryz.underlying30 hi hz0 hz1 hz2 rfl (by omega) ov acc.length (zB acc) (by rfl) (uA HRy.out.row (by first | exact bA (aA (Under.refl _) _) | exact aA (bA (Under.refl _)) _))
         ⟨w4.heap.size,0,none⟩ 1 1 [.int .i64 xk,.int .i64 xn,.int .i64 xm,.string xs] (by rfl) (by rfl) (World.news_of_block (cs:=#[.int .i64 xk,.int .i64 xn,.int .i64 xm,.string xs]) (t:=76) (fr:=(0,0)) (heap_alloc_new _ _)) (by simp[Value.oneCell'])
         (by omega) hmx hby (by simp;omega) (w4.heap.size+1) (by simp) ?_
   intro gg cc w5 hown5 hgrow5 hat5 hlt5;have HPd:=Lib.hid (kW (x:=⟨xk,xn,xm,xs⟩) HRy.out (by first | exact bA (aA (Under.refl _) _) | exact aA (bA (Under.refl _)) _) hgrow5 (by rcases hat5 with h | h;exact .inl h;exact .inr (by rw[h];simp)) hown5);have HN5:=Lib.hid (jVA (x:=⟨xk,xn,xm,xs⟩) HRy.out (HNy.out) HNv.out (by first | exact bA (aA (Under.refl _) _) | exact aA (bA (Under.refl _)) _) hgrow5);have HB5:=Lib.hid ((HRy.out.box.under (by first | exact bA (aA (Under.refl _) _) | exact aA (bA (Under.refl _)) _)).grown hgrow5 (fun e=>HRy.out.ov_rb e.symm));have y5:=HB5.out.lt;have y6:=HB5.out.free 4;have y7:=HB5.out.cell 4;have HN6:=Lib.hid (HN5.out.other (g:=rb) (fun e=>HNr.out e.symm) 4 (.slice (some ⟨gg,0,none⟩) (acc.length+1) cc));clear hown5 hgrow5 hat5 hlt5;refine hK.out _ _ (wG (x:=⟨xk,xn,xm,xs⟩) HN5.out) (fun _=>?_);clear hK K hHeld;rename_i hHeld
   try walk_nrm
   co_applyP aB 8 rfl (by kernel_rfl) (by kernel_rfl) (fun _ _ _ h=>h) hHeld (fun w hSw=>?_) ?_;rotate_left
   · (try dsimp only at hSw);go_simp;try with_reducible rfl
   try walk_nrm
   co_applyP aB 9 rfl (by kernel_rfl) (by kernel_rfl) (fun _ _ _ h=>h) hHeld (fun w hSw=>?_) ?_;rotate_left
   · (try dsimp only at hSw);go_simp;try with_reducible rfl
   try walk_nrm
   refine kD 10 (by kernel_rfl) rfl fun K hK=>?_
   go_simp;refine hK.out _ _ (wG (x:=⟨xk,xn,xm,xs⟩) HN6.out) (fun _=>?_);clear hK K hHeld;rename_i hHeld
   try walk_nrm
   refine wpAnyH_done (by kernel_rfl) ?_ _;refine NoPanic.normal ?_;clear hHeld y5 y6 y7;go_wp2;exact⟨rfl,⟨_,zC (F:=yH true) (by rfl)⟩,_,HPd.out.1,HPd.out.2.1,HPd.out.2.2⟩
theorem aRA{C:Nat→Prop}{w:World}{v:Value}{ss:List ByteArray}{nb:Nat}(h:aAA C v)(ht:TextsV w v ss)(hn:w.heap.size≤nb):aAA (fun b=>C b∨b=nb) v:=by
 obtain⟨p,c,rfl,h1,h2,h3⟩:=ht;intro q n c' e hne
 cases e;intro b off x e;obtain⟨b',off',e',hb',_⟩:=h3 (fun e=>hne (by rw[List.map_eq_nil_iff.1 e];rfl));rw[e]at e'
 cases e';exact fun e2=>e2.elim (h _ _ _ rfl hne _ _ _ e) (fun e2=>by omega)
theorem rR {W0 w wM wN : World} {rb m1 m2 c3 : Nat} {q2 : Option Addr} {cv dv ov bv : Value} {acc : List Nd} {p e : Int} {st cs ds : List ByteArray} {l : List ST} {parts : List UInt8} {R : Say} (hR : ReS W0 rb m1 m2 cv dv ov acc p e w) (hU : Under w wM) (hN : Under wM wN) (hlt : wM.heap.size < wN.heap.size)
    (ht:TsArg (dH rb ov) wM q2 l) (hb:TextsV w bv st) (ha:aAA (dH rb ov) bv) (hok:p9 l) (h1:(iA l).length≤20000) (h2:st.length+(iA l).length≤50000) (h3:acc.length+(iA l).length+1≤900000) (hw:∀ x∈iA l,x.word.size≤1000000)
    (hcs:TextsV W0 cv cs) (hds:TextsV W0 dv ds) (hcn:cs.length≤1000000) (hdn:ds.length≤1000000) (hE:StrcAt W0) (hp:parts.length=l.length) :
    TgOk ⟨W0,wN,rb,m1,m2,wM.heap.size,cv,dv,ov,bv,acc,st,cs,ds,l,parts,q2,c3,R⟩:=by
  have hs := hU.size; have hrb := hR.box.lt; have hm1 := hR.f.lt; have hm2 := hR.a.lt; have hW := hR.und.size; exact {
    nlt:=hlt
    nrc:=fun h=>by
     rcases h with h | h
     · have h:wM.heap.size=rb:=h;omega
     · have h3:=(iC hR.row h).2;have h3:wM.heap.size < w.heap.size:=h3;omega
    rlt:=by show rb < wN.heap.size;omega
    m1lt:=by show m1 < wN.heap.size;omega
    m2lt:=by show m2 < wN.heap.size;omega
    wlt:=by show W0.heap.size≤wN.heap.size;omega
    lw:=by show W0.heap.size≤wM.heap.size;omega
    arg:=TsArg.ch (D:=dH rb ov) (ht.more (Nat.le_refl _)) (Ch.of_under hN)
    bound:=hb.under (hU.trans hN)
    away:=aRA ha hb hs
    ok:=hok
    len:=h1
    stl:=h2
    accl:=by show acc.length+(iA l).length≤900000;omega
    words:=hw
    csT:=hcs
    dsT:=hds
    csl:=hcn
    dsl:=hdn
    strc:=hE
    plen:=hp }
theorem iR{F:TgFix}{w:World}{p e:Int}{x:Nd}(hR:ReS F.W0 F.rb F.m1 F.m2 F.cv F.dv F.ov F.acc p e w)(hU:Under w F.wl)(hn:BoxAt F.wl F.nb 76 (wCA x))(hs:F.R=goS F.cs F.ds (dC false F.parts) F.ts x [] F.st []):TgS F 0 [] false x [] F.ov p e (.slice none 0 0) F.wl :=
 ⟨by rw[List.append_nil];exact hR.under hU,Ch.refl _,fun b _ e=>e,hn,World.ownsRow_nil _ _ _ _,hs,Nat.le_refl _,Nat.zero_le _⟩
theorem tBA{F:TgFix}(hF:TgOk F){w:World}{nms:List ByteArray}{wt:Bool}{x:Nd}{t:List Nd}{ov1 nv:Value}{p1 e1:Int}{wr:World}(hU:Under w F.wl)(hnb:w.heap.size≤F.nb)(h:TgS F F.ts.length nms wt x t ov1 p1 e1 nv wr){ex:Exit}{a':Act}{w':World}(hL:qVA F.W0 F.rb F.m1 F.m2 F.cv F.dv ov1 (F.acc++t) p1 e1 x wr ex a' w') :
 ex = .ret∧(∃ J,a'=⟨yH true J,[]⟩)∧ReOut F.W0 F.rb F.m1 F.m2 F.cv F.dv F.ov F.acc w F.R (.returned (.bool true)) w':=by
 obtain⟨h1,h2,ov',h3,h4,h5⟩:=hL;have hR:F.R = .ok (t++[x]):=by
  rw[h.say,List.drop_eq_nil_of_le (by rw[hF.plen];exact Nat.le_refl _),List.drop_eq_nil_of_le (Nat.le_refl _)];simp[dC,goS]
 have hC:=h.ch.trans (D:=dH F.rb ov1) h4 (fun i hi hr=>.inl (gL h hi hr));refine⟨h1,h2,ov',_,p1,e1,h3,(Ch.of_under hU).trans hC (fun i hi h=>h.elim id (fun e=>by omega)),fun b hb e=>h.own b (Nat.lt_of_lt_of_le hb hU.size) (h5 b (Nat.lt_of_lt_of_le hb (Nat.le_trans hU.size h.ch.size)) e),?_⟩;rw[hR];exact⟨rfl,by rw[List.append_assoc]⟩
theorem aBA{F:TgFix}{w w':World}{ov2:Value}{acc2:List Nd}{e2 p2:Int}(hU:Under w F.wl)(hnb:w.heap.size≤F.nb)(hR:F.R = .error (e2,p2))(h1:ReS F.W0 F.rb F.m1 F.m2 F.cv F.dv ov2 acc2 p2 e2 w')(hC:Ch (TgC F.rb F.ov F.nb) F.wl w')(hO:∀ b,b < F.wl.heap.size→ov2.ownBlock=some b→F.ov.ownBlock=some b) :
 ReOut F.W0 F.rb F.m1 F.m2 F.cv F.dv F.ov F.acc w F.R (.returned (.bool false)) w':=by
 refine⟨ov2,acc2,p2,e2,h1,(Ch.of_under hU).trans hC (fun i hi h=>h.elim id (fun e=>by omega)),fun b hb e=>hO b (Nat.lt_of_lt_of_le hb hU.size) e,?_⟩;rw[hR];exact⟨rfl,rfl,rfl⟩
end Go.Proofs.YtlnlpdephijcoaaGreatDoor
