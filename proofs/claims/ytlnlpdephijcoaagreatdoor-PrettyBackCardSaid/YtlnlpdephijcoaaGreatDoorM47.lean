/- Part 47 of what the proof rests on. -/
import Derived.Test.YtlnlpdephijcoaaGreatDoorRows
import Derived.Conc.Holds
import Derived.KernelRfl
import Derived.Test.YtlnlpdephijcoaaGreatDoorM33
import Derived.Test.YtlnlpdephijcoaaGreatDoorM45
set_option linter.unusedSimpArgs false
set_option linter.unusedVariables false
set_option maxRecDepth 100000
set_option maxHeartbeats 4000000
namespace Go.Proofs.YtlnlpdephijcoaaGreatDoor
open Go.Conc Go.Lx Go.RowKit
section
variable {W : World}
theorem m2A(t:List Nd)(av:List ByteArray){v va:Value}(hv:TermV W v t)(ha:TextsV W va av)(hE:StrcAt W)(hB:Base W) :
 CallsG Tryz.prog 5 #[v,va] W (TrueU W):=by
 have HV:=Lib.hid (fun w (h:Under W w)=>TermV.mono _ _ _ _ h hv);have HA:=Lib.hid (fun w (h:Under W w)=>ha.under h);have HE:=Lib.hid (fun w (h:Under W w)=>hE.under h);have HB:=Lib.hid (fun w (h:Under W w)=>hB.under h);have HSh:=Lib.hid (fun w (h:Under W w)=>uIA (hB.under h));clear hE hB ha;refine uM zD Tryz.func5 rfl ?_ TrueU.re;simp only[Tryz.ntmps5,List.size_toArray,List.length_cons,List.length_nil,Nat.reduceAdd,Nat.reduceSub,Array.replicate_succ,Array.replicate_zero,List.push_toArray,List.append_toArray,List.nil_append,List.cons_append];refine aF zD (nC zD fun τ d=>?_);go_wp2;have HW:=Lib.hid ((Under.refl W).re τ d);generalize re W τ d=wx at *;refine aF zD (nC zD fun τ d=>?_);have HW:=Lib.hid (HW.out.re τ d);generalize re _ τ d=wx at *;have HH:=Lib.hid (aJA t av (HV.out _ HW.out) (HA.out _ HW.out));go_wp2_with fail;refine HH.out.mono ?_;rintro e w1 ⟨hb,rfl,rfl,hlight⟩
 cases hb
 case true =>
   clear hlight;go_wp2_with fail;refine(HSh.out _ HW.out).mono ?_;rintro e w2 ⟨rfl,hU2⟩;have HW:=Lib.hid (HW.out.trans hU2);clear hU2;go_wp2;exact pG rfl rfl ⟨rfl,HW.out⟩
 obtain⟨h1,h2,h3,h4⟩:=hlight rfl;clear hlight;go_wp2_with fail;refine(HSh.out _ HW.out).mono ?_;rintro e w2 ⟨rfl,hU2⟩;have HW:=Lib.hid (HW.out.trans hU2);clear hU2;clear HH HSh;go_wp2;rcases nOA t av h1 h2 h3 with⟨T,rfl,hok,hd,hin,hP,hF⟩ | ⟨c,n,f,hc,hnf,hP,hF⟩
 rotate_left
 · have HP := Lib.hid (fun w (h : Under W w) => hP w v va (HV.out _ h) (HA.out _ h) (HB.out _ h)); have HF := Lib.hid (fun w (h : Under W w) => hF w v (HV.out _ h)); have c0 : (c == 0) = false := by simpa using hc
   have c1:(c != 0)=true:=by simpa using hc
   have hf0:(f==0)=false∨((f==0)=true∧(n==0)=false):=by
    by_cases hf:f=0
    · exact .inr ⟨by simpa using hf,by simpa using hnf.resolve_left fun h=>h hf⟩
    · exact .inl (by simpa using hf)
   have hz:((⟨([]:List UInt8).toArray⟩:ByteArray).toList==[])=true:=by kernel_rfl
   unfold gLA at HP;generalize (⟨([]:List UInt8).toArray⟩:ByteArray)=SS at *;clear hP hF h1 h2 h3 h4 hv hc hnf HE HB HA;refine nC zD fun τ d=>?_
   have HW:=Lib.hid (HW.out.re τ d);generalize re _ τ d=wx at *;go_wp2_with fail;refine(HP.out _ HW.out).mono ?_;rintro e w3 ⟨rfl,hU3⟩;have HW:=Lib.hid (HW.out.trans hU3);clear hU3;go_wp2_with fail;refine(HF.out _ HW.out).mono ?_;rintro e w4 ⟨rfl,hU4⟩;have HW:=Lib.hid (HW.out.trans hU4);clear hU4;rcases hf0 with f0 | ⟨f0,n0⟩
   all_goals
    go_wp2;exact pG rfl rfl ⟨rfl,HW.out⟩
 have hc:=gH hok hd (by omega);have e1:∀ p,nmZ p (flat T)=aC p [] (flat T):=fun p=>if_pos hc
 have HP:=Lib.hid (fun w (h:Under W w)=>hP w v va (HV.out _ h) (HA.out _ h) (HB.out _ h));have HF:=Lib.hid (fun w (h:Under W w)=>hF w v (HV.out _ h));have HN:=Lib.hid (fun w (h:Under W w)=>gHA (flat T) h1 h3 w v (HV.out _ h) (HB.out _ h));have hla:(aC vG [] (flat T)).length≤120:=by have:=lM vG (flat T) [];simp at this;omega
 have hlb:(aC qJ [] (flat T)).length≤120:=by have:=lM qJ (flat T) [];simp at this;omega
 have HRd := Lib.hid (fun (h : bJ (aC vG [] (flat T)) = false) (h' : bJ (aC qJ [] (flat T)) = false) (w : World) (hU : Under W w) (p1 p2 : Option Addr) (d1 d2 : Nat) (hcs : TextsV w (.slice p1 (aC vG [] (flat T)).length d1) (aC vG [] (flat T))) (hds : TextsV w (.slice p2 (aC qJ [] (flat T)).length d2) (aC qJ [] (flat T))) =>
   rIA (av:=aC vG [] (flat T)++av) hok hd h1 hin (uDA (fun x hx=>bKA T hok hx) h h' (fun s hs=>⟨List.mem_append_left _ hs,hs⟩)) (by rw[List.length_append];omega) w (HE.out _ hU) (HB.out _ hU).shapes hcs hds (by omega) (by omega))
 have HSm:=Lib.hid (fun w (h:Under W w) (u:Value) (hu:TermV w u (flat T))=>eNA (w0:=w) (flat T) (flat T) (by simp only[maxLen];omega) hu (HV.out _ h));unfold vVA at HN;simp only[hc,e1]at HN;have HLn:=Lib.hid (And.intro hla hlb);clear hP hF h1 h2 h3 h4 hv hc e1 hok hd hin hla hlb HE HB HA;unfold gLA at HP;unfold d3A at HF;generalize (⟨(aG (aC vG [] (flat T)++av) T []).toArray⟩:ByteArray)=SS at *;generalize aC vG [] (flat T)=cs at *;generalize aC qJ [] (flat T)=ds at *;generalize flat T=t at *;refine aF zD (nC zD fun τ d=>?_);have HW:=Lib.hid (HW.out.re τ d);generalize re _ τ d=wx at *;go_wp2_with fail;refine(HP.out _ HW.out).mono ?_;rintro e w3 ⟨rfl,hU3⟩;have HW:=Lib.hid (HW.out.trans hU3);clear hU3;go_wp2;refine aF zD (nC zD fun τ d=>?_);have HW:=Lib.hid (HW.out.re τ d);generalize re _ τ d=wx at *;go_wp2_with fail;refine(HF.out _ HW.out).mono ?_;rintro e w4 ⟨rfl,hU4⟩;have HW:=Lib.hid (HW.out.trans hU4);clear hU4;go_wp2;refine aF zD (nC zD fun τ d=>?_);have HW:=Lib.hid (HW.out.re τ d);generalize re _ τ d=wx at *;go_wp2;refine aF zD (nC zD fun τ d=>?_);have HW:=Lib.hid (HW.out.re τ d);generalize re _ τ d=wx at *;go_wp2;refine aF zD (nC zD fun τ d=>?_);have HW:=Lib.hid (HW.out.re τ d);generalize re _ τ d=wx at *;go_wp2_with fail;refine(HN.out _ HW.out).mono ?_;rintro e w6 ⟨q1,c1,q2,c2,rfl,ha6,hb6,hU6⟩;have HW0:=Lib.hid (HW.out.trans hU6);have HW:=Lib.hid (Under.refl w6);have HKa:=Lib.hid (fun w (h:Under w6 w)=>jW cs (by have:=HLn.out.1;omega) (ha6.under h));have HKb:=Lib.hid (fun w (h:Under w6 w)=>jW ds (by have:=HLn.out.2;omega) (hb6.under h));have HRe:=Lib.hid (fun f1 f2 w (h:Under w6 w)=>HRd.out f1 f2 w (HW0.out.trans h) q1 q2 c1 c2 (ha6.under h) (hb6.under h));have HSn:=Lib.hid (fun w (h:Under w6 w) u hu=>HSm.out w (HW0.out.trans h) u hu);clear ha6 hb6 hU6 HRd HSm HN HF HP;go_wp2;refine aF zD (nC zD fun τ d=>?_);have HW:=Lib.hid (HW.out.re τ d);generalize re _ τ d=wx at *
 cases f1:bJ cs;rotate_left
 · rw[f1]at HKa;go_wp2_with fail;refine(HKa.out _ HW.out).mono ?_;rintro e w7 ⟨rfl,hU7⟩;have HW:=Lib.hid (HW.out.trans hU7);clear hU7;go_wp2;exact pG rfl rfl ⟨rfl,HW0.out.trans HW.out⟩
 rw[f1]at HKa;go_wp2_with fail;refine(HKa.out _ HW.out).mono ?_;rintro e w7 ⟨rfl,hU7⟩;have HW:=Lib.hid (HW.out.trans hU7);clear hU7
 cases f2:bJ ds;rotate_left
 · rw[f2]at HKb;go_wp2_with fail;refine(HKb.out _ HW.out).mono ?_;rintro e w8 ⟨rfl,hU8⟩;have HW:=Lib.hid (HW.out.trans hU8);clear hU8;go_wp2;exact pG rfl rfl ⟨rfl,HW0.out.trans HW.out⟩
 rw[f2]at HKb;go_wp2_with fail;refine(HKb.out _ HW.out).mono ?_;rintro e w8 ⟨rfl,hU8⟩;have HW:=Lib.hid (HW.out.trans hU8);clear hU8;have HX:=HRe.out f1 f2;clear f1 f2 HRe HKa HKb;go_wp2;refine aF zD ?_;refine aW zD 4 (by decide) fun τ d=>?_
 simp only[List.take_succ_cons,List.take_zero];go_wp2;refine fDA ?_ τ d;refine xV (i:=4) (rest:=List.range' 5 7) zD rfl (by rfl) (mQ (vs:=#[.agg #[.slice q1 cs.length c1,.slice q2 ds.length c2],.string SS]) rfl Tryz.func16 (by kernel_rfl) rfl (by simp[Act.eval])) (HX _ HW.out) ?_;rintro v9 w9 ⟨hU9,u,rfl,hV9⟩;have HV9:=Lib.hid hV9;clear hV9 HX;have HW:=Lib.hid (HW.out.trans hU9);clear hU9;have hV9:=HV9.out;obtain⟨r9,k9,rfl,_⟩:=hV9;refine fT zD 5 7 0 (by decide) fun τ d=>?_
 simp only[List.drop_succ_cons,List.drop_zero,List.take_succ_cons,List.take_zero];walk_nrm;go_wp2;refine uZ zD ?_;simp only[Exit.then];refine yBA ?_ τ d;refine aF zD (nC zD fun τ d=>?_);go_wp2;refine yBA ?_ τ d;refine nC zD fun τ d=>?_
 have HS2:=Lib.hid (HSn.out (re w9 τ d) (HW.out.re τ d) _ (dFA HV9.out τ d));have HW:=Lib.hid (HW.out.re τ d);generalize re w9 τ d=wz at *;rw[oAA]at HS2;go_wp2_with fail;refine HS2.out.mono ?_;rintro e wy ⟨rfl,hUy⟩;have HW:=Lib.hid (HW.out.trans hUy);clear hUy;go_wp2;exact pG rfl rfl ⟨rfl,HW0.out.trans HW.out⟩
end
end Go.Proofs.YtlnlpdephijcoaaGreatDoor
namespace Go.Proofs.YtlnlpdephijcoaaGreatDoor
open Go
theorem tLA:mapsRowed Tryz.pinned.checked.prog=true:=by kernel_rfl
theorem vLA:(Rows.prettyBackRow.inPlace==Tryz.pinned.checked.prog.inPlace 5)=true:=by kernel_rfl
theorem dMA:(Rows.prettyBackRow.unfollowed==Tryz.pinned.checked.prog.unfollowed 5)=true:=by kernel_rfl
theorem iLA:(Rows.prettyBackRow.recurses==Tryz.pinned.checked.prog.recurses 5)=true:=by kernel_rfl
theorem rLA:(Rows.prettyBackRow.named==Tryz.pinned.checked.prog.varsNamed 5)=true:=by kernel_rfl
theorem cDA:joinedFacts Tryz.pinned.checked.prog 5 Tryz.f5 Rows.prettyBackSpec Rows.prettyBackRow=true:=by
 unfold joinedFacts;rw[tLA,vLA,dMA,iLA,rLA]
 kernel_rfl
end Go.Proofs.YtlnlpdephijcoaaGreatDoor
namespace Go.Proofs.YtlnlpdephijcoaaGreatDoor
open Go.ChangeShapes Go.WideShapes Go.ChangeAt Go.WideMaps Go.WideElems Go.RowKit Go.Lx Go.Deep Go.Conc
theorem yAA(os:Os)(started:os.Started)(H:Type)(enc:TypeId×Value→H) :
 ReturnsInLeavingWide {} Tryz.checked os 5 .any (fun w args => (Rows.prettyBackSpec.pre enc Tryz.prog Tryz.f5 [] false w args ∧ laidMetH Tryz.prog hCA w) ∧ sizedMet enc Tryz.prog Tryz.f5 (OpenSpec.ofChange Rows.prettyBackSpec) false w args)
   (Rows.prettyBackSpec.post enc Tryz.prog Tryz.f5 false true false false):=by
 refine aU (C := Tryz.checked) (X := fun w _ => laidMetH Tryz.prog hCA w) (fun _ _ _ hh h => h.of_heap hh) Tryz.own started Tryz.func5
   (ChangeSpec.witness_shaped (enc:=enc) (C:=Tryz.checked) (os:=os) (X:=fun w _=>laidMetH Tryz.prog hCA w) false (World.doorLaid Tryz.prog 400 os) #[.slice none 0 0,.slice none 0 0] 8 rfl (World.shaped_of_RefB (by kernel_rfl) (by kernel_rfl)) (by kernel_rfl) (by kernel_rfl) (by kernel_rfl) (tPA os _)) ?_
 intro W base args ds gs before hval0 hW _ _ hL _;have hval:∀(j:Nat) t v,Tryz.f5.params[j]? = some t→args[j]? = some v→Value.okWide Tryz.prog W .any base t v:=hval0;have hW':=hW;obtain⟨p,q,hA0,hV,rfl,_,_⟩:=hW;have hA:DataW.TrodAll enc Tryz.prog W 0 (fun _=>true) true Tryz.f5.params.toList args.toList ds p:=hA0;rw[Tryz.params5]at hA hval;have hlt:=hA.lt;obtain⟨v0,v1,d0,d1,p0,p1,rfl,rfl,rfl,h0,h1⟩:=trodAll_two hA;obtain⟨rfl,rfl⟩:=trodVars_none hV;have g0:=h0;obtain⟨a0,b0,c0,rfl⟩:=okWide_slice Tryz.underlying30 (hval 0 30 v0 rfl rfl);obtain⟨fuel0,hf0⟩:=g0;obtain⟨u0,l0,hcs0,ha0⟩:=kAB hf0;simp only[Value.cells,List.cons.injEq,and_true]at hcs0;obtain rfl:=hcs0;have g1:=h1;obtain⟨a1,b1,c1,rfl⟩:=okWide_slice Tryz.underlying22 (hval 1 22 v1 rfl rfl);obtain⟨fuel1,hf1⟩:=g1;obtain⟨u1,l1,hcs1,ha1⟩:=jAB hf1;simp only[Value.cells,List.cons.injEq,and_true]at hcs1;obtain rfl:=hcs1;have hB:=yUA hL;refine fV (P:=Tryz.prog) Tryz.func5 rfl rfl (by kernel_rfl) ((m2A l0 l1 ha0 ha1 hB.1 ⟨hB.2,hB.1.pow⟩).mono ?_);rintro v w ⟨rfl,hU⟩ τ d;refine ChangeSpec.post_alike (W'':=re w W.tape d) ?_ ⟨rfl,rfl,rfl⟩;have hb:=qJA hU d;refine⟨_,_,_,[],p0++p1,[],hW',?_,?_,rfl,hb.frame _,fun h=>by cases h⟩
 · exact trodAll_mk1 (qHA true)
 · exact trodAll_mk2 (wLA (by kernel_rfl) (by decide +kernel) hU d (fun x hx=>hlt x (by simp[hx])) h0) (wLA (by kernel_rfl) (by decide +kernel) hU d (fun x hx=>hlt x (by simp[hx])) h1)
theorem prettyBack_holds : Rows.PrettyBackSaid :=
 OpenClaim.holds_of_wide_leaving 5 Tryz.f5 rfl rfl rfl rfl rfl rfl rfl ⟨rfl, rfl, rfl, rfl, rfl⟩ rfl rfl rfl rfl rfl (by kernel_rfl) Tryz.func5 cDA
   (of_decide_eq_true (by kernel_rfl)) (by unfold Func.isWrapper;first | (rw[if_pos (by decide +kernel)];kernel_rfl) | (rw[if_neg (by decide +kernel)];exact⟨rfl,rfl⟩))
   (fun os started H enc _=>yAA os started H enc)
end Go.Proofs.YtlnlpdephijcoaaGreatDoor
