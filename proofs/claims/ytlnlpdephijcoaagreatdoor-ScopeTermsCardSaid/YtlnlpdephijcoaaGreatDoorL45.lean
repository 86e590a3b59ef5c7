/- Part 45 of what the proof rests on. -/
import Derived.Test.YtlnlpdephijcoaaGreatDoorL33
import Derived.Test.YtlnlpdephijcoaaGreatDoorL44
set_option linter.unusedSimpArgs false
set_option linter.unusedVariables false
set_option maxRecDepth 100000
namespace Go.Proofs.YtlnlpdephijcoaaGreatDoor
open Go.ChangeShapes Go.WideShapes Go.ChangeAt Go.WideMaps Go.WideElems Go.RowKit Go.Lx Go.Deep Go.Conc
theorem j6(os:Os)(started:os.Started)(H:Type)(enc:TypeId×Value→H) :
 ReturnsInLeavingWide {} Tryz.checked os 3 .any (fun w args => (Rows.scopeTermsSpec.pre enc Tryz.prog Tryz.f3 [] false w args ∧ laidMetH Tryz.prog tAA w) ∧ sizedMet enc Tryz.prog Tryz.f3 (OpenSpec.ofChange Rows.scopeTermsSpec) false w args)
   (Rows.scopeTermsSpec.post enc Tryz.prog Tryz.f3 false true false false):=by
 refine dS (C := Tryz.checked) (X := fun w _ => laidMetH Tryz.prog tAA w) (fun _ _ _ hh h => h.of_heap hh) Tryz.own started Tryz.func3
   (ChangeSpec.witness_shaped (enc:=enc) (C:=Tryz.checked) (os:=os) (X:=fun w _=>laidMetH Tryz.prog tAA w) false (World.doorLaid Tryz.prog 400 os) #[.agg #[.slice none 0 0,.slice none 0 0],.slice none 0 0,.string ⟨#[]⟩] 8 rfl (World.shaped_of_RefB (by kernel_rfl) (by kernel_rfl)) (by kernel_rfl) (by kernel_rfl) (by kernel_rfl) (pKA os _)) ?_
 intro W base args ds gs before hval0 hW _ _ hL _;have hval:∀(j:Nat) t v,Tryz.f3.params[j]? = some t→args[j]? = some v→Value.okWide Tryz.prog W .any base t v:=hval0;have hW':=hW;obtain⟨p,q,hA0,hV,rfl,_,_⟩:=hW;have hA:DataW.TrodAll enc Tryz.prog W 0 (fun _=>true) true Tryz.f3.params.toList args.toList ds p:=hA0;rw[Tryz.params3]at hA hval;have hlt:=hA.lt;obtain⟨v0,v1,v2,d0,d1,d2,p0,p1,p2,rfl,rfl,rfl,h0,h1,h2⟩:=trodAll_three hA;obtain⟨rfl,rfl⟩:=trodVars_none hV;have g0:=h0;obtain⟨a0,rfl,z0⟩:=okWide_struct Tryz.underlying24 (hval 0 24 v0 rfl rfl);rw[show Tryz.prog.cellsOf 24=2 by kernel_rfl]at z0;obtain⟨fuel0,hf0⟩:=g0;obtain⟨u0,l0,x0,m0,hcs0,ha0,hb0⟩:=z8A (by simpa [Value.cells] using z0) hf0;obtain⟨a0⟩:=a0;obtain rfl:a0=[u0,x0]:=hcs0;have e0:=ha0;obtain⟨r0,s0,rfl,_⟩:=e0;have e0:=hb0;obtain⟨t0,w0,rfl,_⟩:=e0;have g1:=h1;obtain⟨a1,b1,c1,rfl⟩:=okWide_slice Tryz.underlying25 (hval 1 25 v1 rfl rfl);obtain⟨fuel1,hf1⟩:=g1;obtain⟨q1,k1,l1,hcs1,hle1,hmx1,_,hx1⟩:=a8A hf1;simp only[Value.cells,List.cons.injEq,and_true,Value.slice.injEq]at hcs1;obtain⟨rfl,rfl,rfl⟩:=hcs1;obtain⟨l2,rfl⟩:=okWide_string Tryz.underlying9 (hval 2 9 v2 rfl rfl);have hB:=mRA hL;refine eT (P:=Tryz.prog) Tryz.func3 rfl rfl (by kernel_rfl) ((eRA l0 m0 l1 l2 W ha0 hb0 hx1 hle1 hmx1 hB.1 hB.2).mono ?_);rintro v w ⟨rfl,hU⟩ τ d;refine ChangeSpec.post_alike (W'':=re w W.tape d) ?_ ⟨rfl,rfl,rfl⟩;have hb:=oGA hU d;refine⟨_,_,_,[],p0++(p1++p2),[],hW',?_,?_,rfl,hb.frame _,fun h=>by cases h⟩
 · exact trodAll_mk1 (tCA true)
 · exact trodAll_mk3 (mDA (by kernel_rfl) (by decide +kernel) hU d (fun x hx=>hlt x (by simp[hx])) h0) (mDA (by kernel_rfl) (by decide +kernel) hU d (fun x hx=>hlt x (by simp[hx])) h1) (mDA (by kernel_rfl) (by decide +kernel) hU d (fun x hx=>hlt x (by simp[hx])) h2)
theorem scopeTerms_holds : Rows.ScopeTermsSaid :=
 OpenClaim.holds_of_wide_leaving 3 Tryz.f3 rfl rfl rfl rfl rfl rfl rfl ⟨rfl, rfl, rfl, rfl, rfl⟩ rfl rfl rfl rfl rfl (by kernel_rfl) Tryz.func3 kBA
   (of_decide_eq_true (by kernel_rfl)) (by unfold Func.isWrapper;first | (rw[if_pos (by decide +kernel)];kernel_rfl) | (rw[if_neg (by decide +kernel)];exact⟨rfl,rfl⟩))
   (fun os started H enc _=>j6 os started H enc)
end Go.Proofs.YtlnlpdephijcoaaGreatDoor
