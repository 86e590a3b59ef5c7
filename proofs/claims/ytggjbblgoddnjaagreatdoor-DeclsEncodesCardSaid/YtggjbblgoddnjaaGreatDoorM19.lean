/- Part 19 of what the proof rests on. -/
import Derived.Test.YtggjbblgoddnjaaGreatDoorRows
import Derived.Conc.Holds
import Derived.KernelRfl
import Derived.Test.YtggjbblgoddnjaaGreatDoorM11
import Derived.Test.YtggjbblgoddnjaaGreatDoorM17
import Derived.Test.YtggjbblgoddnjaaGreatDoorM18
import Derived.Test.YtggjbblgoddnjaaGreatDoorM00
set_option linter.unusedSimpArgs false
set_option linter.unusedVariables false
set_option maxRecDepth 100000
set_option maxHeartbeats 2000000
namespace Go.Proofs.YtggjbblgoddnjaaGreatDoor
open Go.Conc Go.Lx Go.RowKit
theorem sQA(d:Dc)(s:ByteArray){v:Value}(W:World)(hsd:SzD d)(hv:DcV W v d)(hE:StrcAt W)(hS:ShapesAt 3 W)(hF:FieldsAll 0 W) :
 CallsG Tryz.prog 6 #[v,.string s] W (TrueU W):=by
 have HV:=aA hv;obtain⟨vt,vb,vc,rfl,⟨pt,ct,rfl,_⟩,⟨pb,cb,rfl,_⟩,⟨pc,cc,us,rfl,_⟩⟩:=hv;refine bK rC Tryz.func6 rfl ?_ TrueU.re;simp only[Tryz.ntmps6,List.size_toArray,List.length_cons,List.length_nil,Nat.reduceAdd,Nat.reduceSub,Array.replicate_succ,Array.replicate_zero,List.push_toArray,List.append_toArray,List.nil_append,List.cons_append];refine dH rC (jE rC fun τ d9=>?_);go_wp2;have HB0:=aA (rA (re W τ d9) #[.int .i64 d.kind,.int .i64 d.level,.string d.name,.slice pt d.type.length ct,.slice pb d.body.length cb,.slice pc d.cons.length cc] 33);have HU0:=aA (bA ((Under.refl W).re τ d9) (.cells #[.int .i64 d.kind,.int .i64 d.level,.string d.name,.slice pt d.type.length ct,.slice pb d.body.length cb,.slice pc d.cons.length cc] 33));have hsz:(re W τ d9).heap.size=W.heap.size:=rfl;rw[hsz]at HB0 ⊢;generalize (re W τ d9).alloc (.cells #[.int .i64 d.kind,.int .i64 d.level,.string d.name,.slice pt d.type.length ct,.slice pb d.body.length cb,.slice pc d.cons.length cc] 33)=w1 at *;clear hsz;refine dH rC (dH rC ?_);refine rW rC 9 (by decide) fun τ d9=>?_
 simp only[List.take_succ_cons,List.take_zero];have HU1:=aA (HU0.out.re τ d9);have HB1:=aA (show BoxAt (re w1 τ d9) W.heap.size 33 #[.int .i64 d.kind,.int .i64 d.level,.string d.name,.slice pt d.type.length ct,.slice pb d.body.length cb,.slice pc d.cons.length cc] from HB0.out);have HWt:=aA (iZ (w0:=re w1 τ d9) d hsd (DcV.mono _ _ _ _ HU1.out HV.out));have n0:=HB1.out.cell 0;have n1:=HB1.out.cell 1;have n2:=HB1.out.cell 2;have n3:=HB1.out.cell 3;have n4:=HB1.out.cell 4;have n5:=HB1.out.cell 5;have nl:=HB1.out.lt;have HArg:=aA hsd;clear hsd;go_wp2_with fail;refine HWt.out.mono ?_;rintro e w3 ⟨hU3,z,rfl,hz1,hz2,hz3⟩;have HU2:=aA (HU1.out.trans hU3);have HB3:=aA (HB1.out.under hU3);have HZ:=aA hz3;have HSh:=aA (jR w3 (hE.under HU2.out) (hS.under HU2.out));clear hU3 hz3 n0 n1 n2 n3 n4 n5 nl HWt HB1 HB0;by_cases hz:(2048:Int) < z
 · go_wp2; refine bF rC 9 3 0 (by decide) fun τ d => ?_
   simp only[List.drop_succ_cons,List.drop_zero,List.take_succ_cons,List.take_zero];walk_nrm;go_wp2;refine uG rC ?_;simp only[Exit.then];refine lK ?_ τ d;refine zP rC (t:=true) rfl ?_;simp only[if_true];refine dH rC (mK rC ?_);refine zI (i:=0) (rest:=List.range' 1 1) rC rfl (by rfl) (qG (vs:=#[]) rfl Tryz.func9 (by kernel_rfl) rfl (by simp)) HSh.out ?_;rintro v w3 ⟨rfl,hU3⟩;refine bF rC 1 1 0 (by decide) fun τ d=>?_
   simp only[List.drop_succ_cons,List.drop_zero,List.take_succ_cons,List.take_zero];walk_nrm;go_wp2;refine uG rC ?_;simp only[Exit.then];refine jE rC fun τ d=>?_
   go_wp2;exact uH rfl rfl ⟨rfl,(HU2.out.trans hU3).re _ _⟩
 · by_cases h2 : (2048 : Int) < s.size
   · go_wp2; refine bF rC 9 3 0 (by decide) fun τ d => ?_
     simp only[List.drop_succ_cons,List.drop_zero,List.take_succ_cons,List.take_zero];walk_nrm;go_wp2;refine uG rC ?_;simp only[Exit.then];refine lK ?_ τ d;refine zP rC (t:=true) rfl ?_;simp only[if_true];refine dH rC (mK rC ?_);refine zI (i:=0) (rest:=List.range' 1 1) rC rfl (by rfl) (qG (vs:=#[]) rfl Tryz.func9 (by kernel_rfl) rfl (by simp)) HSh.out ?_;rintro v w3 ⟨rfl,hU3⟩;refine bF rC 1 1 0 (by decide) fun τ d=>?_
     simp only[List.drop_succ_cons,List.drop_zero,List.take_succ_cons,List.take_zero];walk_nrm;go_wp2;refine uG rC ?_;simp only[Exit.then];refine jE rC fun τ d=>?_
     go_wp2;exact uH rfl rfl ⟨rfl,(HU2.out.trans hU3).re _ _⟩
   go_wp2;have e0:decide ((2048:Int) < z)=false:=decide_eq_false (by omega);have e1:decide ((2048:Int) < s.size)=false:=decide_eq_false (by omega);simp only[e0,e1,Bool.or_self];refine zI (i:=9) (rest:=List.range' 10 2) rC rfl (by rfl) (qG (vs:=#[]) rfl Tryz.func9 (by kernel_rfl) rfl (by simp)) HSh.out ?_;rintro v w4 ⟨rfl,hU4⟩;have HU4:=aA (HU2.out.trans hU4);have HB4:=aA (HB3.out.under hU4);clear hU4 HSh;refine bF rC 10 2 0 (by decide) fun τ d9=>?_
   simp only[List.drop_succ_cons,List.drop_zero,List.take_succ_cons,List.take_zero];walk_nrm;go_wp2;refine uG rC ?_;simp only[Exit.then];refine lK ?_ τ d9;refine zP rC (t:=false) rfl ?_;simp only[Bool.false_eq_true,if_false];refine jE rC fun τ d9=>?_
   go_wp2;refine lK ?_ τ d9;refine jE rC fun τ d9=>?_
   have HU5:=aA (HU4.out.re τ d9);have hw:=HZ.out (by omega);exact vV (F:=eCB s W.heap.size) (by rfl) (fun J=>hAB (w:=re w4 τ d9) (d:=d) (tMA hw HArg.out) (xEA hw) (by omega) (DcV.mono _ _ _ _ HU5.out HV.out) HB4.out (hS.under HU5.out) (hF.under HU5.out) HU5.out J)
end Go.Proofs.YtggjbblgoddnjaaGreatDoor
namespace Go.Proofs.YtggjbblgoddnjaaGreatDoor
open Go
theorem oEA:mapsRowed Tryz.pinned.checked.prog=true:=by kernel_rfl
theorem fHA:(Rows.declsEncodesRow.inPlace==Tryz.pinned.checked.prog.inPlace 6)=true:=by kernel_rfl
theorem nEA:(Rows.declsEncodesRow.unfollowed==Tryz.pinned.checked.prog.unfollowed 6)=true:=by kernel_rfl
theorem tEA:(Rows.declsEncodesRow.recurses==Tryz.pinned.checked.prog.recurses 6)=true:=by kernel_rfl
theorem qFA:(Rows.declsEncodesRow.named==Tryz.pinned.checked.prog.varsNamed 6)=true:=by kernel_rfl
theorem pAA:joinedFacts Tryz.pinned.checked.prog 6 Tryz.f6 Rows.declsEncodesSpec Rows.declsEncodesRow=true:=by
 unfold joinedFacts;rw[oEA,fHA,nEA,tEA,qFA]
 kernel_rfl
end Go.Proofs.YtggjbblgoddnjaaGreatDoor
namespace Go.Proofs.YtggjbblgoddnjaaGreatDoor
open Go.ChangeShapes Go.WideShapes Go.ChangeAt Go.WideMaps Go.WideElems Go.RowKit Go.Lx Go.Deep Go.Conc
theorem kY(os:Os)(started:os.Started)(H:Type)(enc:TypeId×Value→H) :
 ReturnsInLeavingWide {} Tryz.checked os 6 .any (fun w args => (Rows.declsEncodesSpec.pre enc Tryz.prog Tryz.f6 [] false w args ∧ laidMetH Tryz.prog nP w) ∧ sizedMet enc Tryz.prog Tryz.f6 (OpenSpec.ofChange Rows.declsEncodesSpec) false w args)
   (Rows.declsEncodesSpec.post enc Tryz.prog Tryz.f6 false true false false):=by
 refine mU (C := Tryz.checked) (X := fun w _ => laidMetH Tryz.prog nP w) (fun _ _ _ hh h => h.of_heap hh) Tryz.own started Tryz.func6
   (ChangeSpec.witness_shaped (enc:=enc) (C:=Tryz.checked) (os:=os) (X:=fun w _=>laidMetH Tryz.prog nP w) false (World.doorLaid Tryz.prog 400 os) #[.agg #[.int .i64 0,.int .i64 0,.string ⟨#[]⟩,.slice none 0 0,.slice none 0 0,.slice none 0 0],.string ⟨#[]⟩] 8 rfl (World.shaped_of_RefB (by kernel_rfl) (by kernel_rfl)) (by kernel_rfl) (by kernel_rfl) (by kernel_rfl) (cLA os _)) ?_
 intro W base args ds gs before hval0 hW _ hsz hL _;have hval:∀(j:Nat) t v,Tryz.f6.params[j]? = some t→args[j]? = some v→Value.okWide Tryz.prog W .any base t v:=hval0;have hW':=hW;obtain⟨p,q,hA0,hV,rfl,_,_⟩:=hW;have hA:DataW.TrodAll enc Tryz.prog W 0 (fun _=>true) true Tryz.f6.params.toList args.toList ds p:=hA0;rw[Tryz.params6]at hA hval;have hlt:=hA.lt;obtain⟨v0,v1,d0,d1,p0,p1,rfl,rfl,rfl,h0,h1⟩:=trodAll_two hA;obtain⟨rfl,rfl⟩:=trodVars_none hV;have g0:=h0;obtain⟨a0,rfl,z0⟩:=okWide_struct Tryz.underlying33 (hval 0 33 v0 rfl rfl);rw[show Tryz.prog.cellsOf 33=6 by kernel_rfl]at z0;obtain⟨fuel0,hf0⟩:=g0;obtain⟨l0,hr0,hsd0⟩:=cUA (by simpa [Value.cells] using z0) hf0 (mCA hsz (j:=0) (t:=33) (d:=d0) rfl rfl);have ha0:DcV W (.agg a0) l0:=by have:=DcRow.val hr0;simpa [Value.cells] using this
 obtain⟨l1,rfl⟩:=okWide_string Tryz.underlying9 (hval 1 9 v1 rfl rfl);have hB:=zPA hL;refine aW (P:=Tryz.prog) Tryz.func6 rfl rfl (by kernel_rfl) ((sQA l0 l1 W hsd0 ha0 hB.1 hB.2.1 hB.2.2).mono ?_);rintro v w ⟨rfl,hU⟩ τ d;refine ChangeSpec.post_alike (W'':=re w W.tape d) ?_ ⟨rfl,rfl,rfl⟩;have hb:=qJA hU d;refine⟨_,_,_,[],p0++p1,[],hW',?_,?_,rfl,hb.frame _,fun h=>by cases h⟩
 · exact trodAll_mk1 (jHA true)
 · exact trodAll_mk2 (zBA (by kernel_rfl) (by decide +kernel) hU d (fun x hx=>hlt x (by simp[hx])) h0) (zBA (by kernel_rfl) (by decide +kernel) hU d (fun x hx=>hlt x (by simp[hx])) h1)
theorem declsEncodes_holds : Rows.DeclsEncodesSaid :=
 OpenClaim.holds_of_wide_leaving 6 Tryz.f6 rfl rfl rfl rfl rfl rfl rfl ⟨rfl, rfl, rfl, rfl, rfl⟩ rfl rfl rfl rfl rfl (by kernel_rfl) Tryz.func6 pAA
   (of_decide_eq_true (by kernel_rfl)) (by unfold Func.isWrapper;first | (rw[if_pos (by decide +kernel)];kernel_rfl) | (rw[if_neg (by decide +kernel)];exact⟨rfl,rfl⟩))
   (fun os started H enc _=>kY os started H enc)
end Go.Proofs.YtggjbblgoddnjaaGreatDoor
