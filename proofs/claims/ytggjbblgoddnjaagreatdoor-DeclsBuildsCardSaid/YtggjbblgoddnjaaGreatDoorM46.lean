/- Part 46 of what the proof rests on. -/
import Derived.Test.YtggjbblgoddnjaaGreatDoorRows
import Derived.Conc.Holds
import Derived.KernelRfl
import Derived.Test.YtggjbblgoddnjaaGreatDoorM30
import Derived.Test.YtggjbblgoddnjaaGreatDoorM41
import Derived.Test.YtggjbblgoddnjaaGreatDoorM42
import Derived.Test.YtggjbblgoddnjaaGreatDoorM45
set_option linter.unusedSimpArgs false
set_option linter.unusedVariables false
set_option maxRecDepth 100000
set_option maxHeartbeats 2000000
namespace Go.Proofs.YtggjbblgoddnjaaGreatDoor
open Go.Conc Go.Lx Go.RowKit
theorem yMA(l:List Dc)(s:ByteArray){p:Option Addr}{c:Nat}(W:World)(hl:l.length≤9223372036854775807)(hp:RowsV 6 DcRow W p l)(hs:∀ x∈l,SzD x)(hE:StrcAt W)(hS:ShapesAt 3 W) :
 CallsG Tryz.prog 5 #[.slice p l.length c,.string s] W (TrueU W):=by
 refine nI lC Tryz.func5 rfl ?_ TrueU.re;simp only[Tryz.ntmps5,List.size_toArray,List.length_cons,List.length_nil,Nat.reduceAdd,Nat.reduceSub,Array.replicate_succ,Array.replicate_zero,List.push_toArray,List.append_toArray,List.nil_append,List.cons_append];refine fG lC (vD lC fun τ d9=>?_);go_wp2;refine jI ?_ τ d9;refine fG lC (fG lC ?_);refine yS lC 8 (by decide) fun τ d9=>?_
 simp only[List.take_succ_cons,List.take_zero];have HU1:=Lib.hid ((Under.refl W).re τ d9);have HHv:=Lib.hid (tCA (w0:=re W τ d9) (c:=c) l hl hs (RowsV.under DcRow.mono hp HU1.out));go_wp2_with fail;refine HHv.out.mono ?_;rintro e w2 ⟨hU2,b,rfl,hb⟩;have HU2:=Lib.hid (HU1.out.trans hU2);have HSh:=Lib.hid (bO w2 (hE.under HU2.out) (hS.under HU2.out));clear HHv hU2
 cases b
 · obtain ⟨hl2, hlw⟩ := hb rfl; have HLw := Lib.hid (And.intro hl2 hlw); have HArg := Lib.hid (And.intro hp hs); clear hb hl2 hlw hp hs hl; by_cases h2 : (100 : Int) < s.size
   · go_wp2; refine jE lC 8 3 0 (by decide) fun τ d => ?_
     simp only[List.drop_succ_cons,List.drop_zero,List.take_succ_cons,List.take_zero];walk_nrm;go_wp2;refine vF lC ?_;simp only[Exit.then];refine jI ?_ τ d;refine bN lC (t:=true) rfl ?_;simp only[if_true];refine fG lC (vI lC ?_);refine qH (i:=0) (rest:=List.range' 1 1) lC rfl (by rfl) (sF (vs:=#[]) rfl Tryz.func9 (by kernel_rfl) rfl (by simp)) HSh.out ?_;rintro v w3 ⟨rfl,hU3⟩;refine jE lC 1 1 0 (by decide) fun τ d=>?_
     simp only[List.drop_succ_cons,List.drop_zero,List.take_succ_cons,List.take_zero];walk_nrm;go_wp2;refine vF lC ?_;simp only[Exit.then];refine vD lC fun τ d=>?_
     go_wp2;exact mH rfl rfl ⟨rfl,(HU2.out.trans hU3).re _ _⟩
   go_wp2;have e2:decide ((100:Int) < s.size)=false:=decide_eq_false (by omega);simp only[e2,Bool.or_self];refine qH (i:=8) (rest:=List.range' 9 2) lC rfl (by rfl) (sF (vs:=#[]) rfl Tryz.func9 (by kernel_rfl) rfl (by simp)) HSh.out ?_;rintro v w4 ⟨rfl,hU4⟩;have HU4:=Lib.hid (HU2.out.trans hU4);clear hU4 HSh;refine jE lC 9 2 0 (by decide) fun τ d9=>?_
   simp only[List.drop_succ_cons,List.drop_zero,List.take_succ_cons,List.take_zero];walk_nrm;go_wp2;refine vF lC ?_;simp only[Exit.then];refine jI ?_ τ d9;refine bN lC (t:=false) rfl ?_;simp only[Bool.false_eq_true,if_false];refine vD lC fun τ d9=>?_
   go_wp2;refine jI ?_ τ d9;refine vD lC fun τ d9=>?_
   have HU5:=Lib.hid (HU4.out.re τ d9);exact fO (F:=p2A _ _ _ _ _ _ _ _ _ _ _ _ _ _ _ _) (by rfl) (fun J=>i0A (w:=re w4 τ d9) (by have:=HLw.out.1;omega) (RowsV.under DcRow.mono HArg.out.1 HU5.out) (fun x hx=>hQA (HLw.out.2 x hx) (HArg.out.2 x hx)) (hS.under HU5.out) HU5.out _ _ _ _ _ _ _ _ _ _ _ _ _ _ J)
 · go_wp2; refine jE lC 8 3 0 (by decide) fun τ d => ?_
   simp only[List.drop_succ_cons,List.drop_zero,List.take_succ_cons,List.take_zero];walk_nrm;go_wp2;refine vF lC ?_;simp only[Exit.then];refine jI ?_ τ d;refine bN lC (t:=true) rfl ?_;simp only[if_true];refine fG lC (vI lC ?_);refine qH (i:=0) (rest:=List.range' 1 1) lC rfl (by rfl) (sF (vs:=#[]) rfl Tryz.func9 (by kernel_rfl) rfl (by simp)) HSh.out ?_;rintro v w3 ⟨rfl,hU3⟩;refine jE lC 1 1 0 (by decide) fun τ d=>?_
   simp only[List.drop_succ_cons,List.drop_zero,List.take_succ_cons,List.take_zero];walk_nrm;go_wp2;refine vF lC ?_;simp only[Exit.then];refine vD lC fun τ d=>?_
   go_wp2;exact mH rfl rfl ⟨rfl,(HU2.out.trans hU3).re _ _⟩
end Go.Proofs.YtggjbblgoddnjaaGreatDoor
namespace Go.Proofs.YtggjbblgoddnjaaGreatDoor
open Go
theorem qDA:mapsRowed Tryz.pinned.checked.prog=true:=by kernel_rfl
theorem vDA:(Rows.declsBuildsRow.inPlace==Tryz.pinned.checked.prog.inPlace 5)=true:=by kernel_rfl
theorem xDA:(Rows.declsBuildsRow.unfollowed==Tryz.pinned.checked.prog.unfollowed 5)=true:=by kernel_rfl
theorem aEA:(Rows.declsBuildsRow.recurses==Tryz.pinned.checked.prog.recurses 5)=true:=by kernel_rfl
theorem sDA:(Rows.declsBuildsRow.named==Tryz.pinned.checked.prog.varsNamed 5)=true:=by kernel_rfl
theorem mX:joinedFacts Tryz.pinned.checked.prog 5 Tryz.f5 Rows.declsBuildsSpec Rows.declsBuildsRow=true:=by
 unfold joinedFacts;rw[qDA,vDA,xDA,aEA,sDA]
 kernel_rfl
end Go.Proofs.YtggjbblgoddnjaaGreatDoor
namespace Go.Proofs.YtggjbblgoddnjaaGreatDoor
open Go.ChangeShapes Go.WideShapes Go.ChangeAt Go.WideMaps Go.WideElems Go.RowKit Go.Lx Go.Deep Go.Conc
theorem zV(os:Os)(started:os.Started)(H:Type)(enc:TypeId×Value→H) :
 ReturnsInLeavingWide {} Tryz.checked os 5 .any (fun w args => (Rows.declsBuildsSpec.pre enc Tryz.prog Tryz.f5 [] false w args ∧ laidMetH Tryz.prog qZ w) ∧ sizedMet enc Tryz.prog Tryz.f5 (OpenSpec.ofChange Rows.declsBuildsSpec) false w args)
   (Rows.declsBuildsSpec.post enc Tryz.prog Tryz.f5 false true false false):=by
 refine rQ (C := Tryz.checked) (X := fun w _ => laidMetH Tryz.prog qZ w) (fun _ _ _ hh h => h.of_heap hh) Tryz.own started Tryz.func5
   (ChangeSpec.witness_shaped (enc:=enc) (C:=Tryz.checked) (os:=os) (X:=fun w _=>laidMetH Tryz.prog qZ w) false (World.doorLaid Tryz.prog 400 os) #[.slice none 0 0,.string ⟨#[]⟩] 8 rfl (World.shaped_of_RefB (by kernel_rfl) (by kernel_rfl)) (by kernel_rfl) (by kernel_rfl) (by kernel_rfl) (uJA os _)) ?_
 intro W base args ds gs before hval0 hW _ hsz hL _;have hval:∀(j:Nat) t v,Tryz.f5.params[j]? = some t→args[j]? = some v→Value.okWide Tryz.prog W .any base t v:=hval0;have hW':=hW;obtain⟨p,q,hA0,hV,rfl,_,_⟩:=hW;have hA:DataW.TrodAll enc Tryz.prog W 0 (fun _=>true) true Tryz.f5.params.toList args.toList ds p:=hA0;rw[Tryz.params5]at hA hval;have hlt:=hA.lt;obtain⟨v0,v1,d0,d1,p0,p1,rfl,rfl,rfl,h0,h1⟩:=trodAll_two hA;obtain⟨rfl,rfl⟩:=trodVars_none hV;have g0:=h0;obtain⟨a0,b0,c0,rfl⟩:=okWide_slice Tryz.underlying22 (hval 0 22 v0 rfl rfl);obtain⟨fuel0,hf0⟩:=g0;obtain⟨q0,k0,l0,hcs0,hle0,hnil0,ha0,hsd0,hmx0⟩:=vWA hf0 (jY hsz (j:=0) (t:=22) (d:=d0) rfl rfl);simp only[Value.cells,List.cons.injEq,and_true,Value.slice.injEq]at hcs0;obtain⟨rfl,rfl,rfl⟩:=hcs0;obtain⟨l1,rfl⟩:=okWide_string Tryz.underlying9 (hval 1 9 v1 rfl rfl);have hB:=iQA hL;refine pR (P:=Tryz.prog) Tryz.func5 rfl rfl (by kernel_rfl) ((yMA l0 l1 W hmx0 ha0 hsd0 hB.1 hB.2).mono ?_);rintro v w ⟨rfl,hU⟩ τ d;refine ChangeSpec.post_alike (W'':=re w W.tape d) ?_ ⟨rfl,rfl,rfl⟩;have hb:=vFA hU d;refine⟨_,_,_,[],p0++p1,[],hW',?_,?_,rfl,hb.frame _,fun h=>by cases h⟩
 · exact trodAll_mk1 (hCA true)
 · exact trodAll_mk2 (qCA (by kernel_rfl) (by decide +kernel) hU d (fun x hx=>hlt x (by simp[hx])) h0) (qCA (by kernel_rfl) (by decide +kernel) hU d (fun x hx=>hlt x (by simp[hx])) h1)
theorem declsBuilds_holds : Rows.DeclsBuildsSaid :=
 OpenClaim.holds_of_wide_leaving 5 Tryz.f5 rfl rfl rfl rfl rfl rfl rfl ⟨rfl, rfl, rfl, rfl, rfl⟩ rfl rfl rfl rfl rfl (by kernel_rfl) Tryz.func5 mX
   (of_decide_eq_true (by kernel_rfl)) (by unfold Func.isWrapper;first | (rw[if_pos (by decide +kernel)];kernel_rfl) | (rw[if_neg (by decide +kernel)];exact⟨rfl,rfl⟩))
   (fun os started H enc _=>zV os started H enc)
end Go.Proofs.YtggjbblgoddnjaaGreatDoor
