/- Part 31 of what the proof rests on. -/
import Derived.Laws.ResultCell
import Derived.Shelf.Abstract
import Derived.Test.YtggjbblgoddnjaaGreatDoorM12
import Derived.Test.YtggjbblgoddnjaaGreatDoorM14
import Derived.Test.YtggjbblgoddnjaaGreatDoorM15
import Derived.Test.YtggjbblgoddnjaaGreatDoorM29
import Derived.Test.YtggjbblgoddnjaaGreatDoorM30
set_option linter.unusedSimpArgs false
set_option linter.unusedVariables false
set_option maxRecDepth 100000
set_option maxHeartbeats 2000000
namespace Go.Proofs.YtggjbblgoddnjaaGreatDoor
open Go.Lx Go.RowKit
section
variable {w0 : World}
theorem eG(d:Dc){v:Value}(hv:DcV w0 v d):Calls Tryz.prog 14 #[v] w0 fun e w=>e = .returned v∧Under w0 w:=by
 obtain⟨vt,vb,vc,rfl,⟨p1,c1,rfl,_⟩,⟨p2,c2,rfl,_⟩,⟨p3,c3,us3,rfl,_⟩⟩:=hv;generalize d.type.length=n1;generalize d.body.length=n2;generalize d.cons.length=n3;go_enter Tryz.func14,Tryz.ntmps14;go_wp2;refine bodyPost_ret (v:=.agg #[.int .i64 d.kind,.int .i64 d.level,.string d.name,.slice p1 n1 c1,.slice p2 n2 c2,.slice p3 n3 c3]) ?_ rfl ⟨rfl,aA (aA (Under.refl _) _) _⟩;simp[results,Tryz.f14,go_sem]
end
def wK(s:ByteArray):Bool:=rD s && !kwB s
def jC(t:Bool)(e:Int):Int:=if t then 0 else e
def StepOk(w:World)(fv:Value)(r:Int):Prop :=
 ∃ f caps,fv = .func (.func f) #[] caps∧(∀ args w,(callFunc f args).run Tryz.prog w = .ok (.enter f args) w)∧∀ w',Under w w'→Calls Tryz.prog f caps w' fun e w''=>e = .returned (.int .i64 r)∧Under w' w''
theorem StepOk.under{w w':World}{fv:Value}{r:Int}(h:StepOk w fv r)(hU:Under w w'):StepOk w' fv r:=by
 obtain⟨f,caps,h1,h2,h3⟩:=h;exact⟨f,caps,h1,h2,fun w'' h=>h3 w'' (hU.trans h)⟩
section
variable {w0 : World}
theorem nEA(s:ByteArray)(hs:s.size≤maxLen):Calls Tryz.prog 49 #[.string s] w0 fun e w=>e = .returned (.bool (wK s))∧Under w0 w:=by
 have HN:=Lib.hid (eH s w0 hs);have HK:=Lib.hid (eKA (w0:=w0) s);have hd:wK s=(rD s && !kwB s):=rfl;have HD:=Lib.hid hd;clear hd
 cases hn:rD s with
 | true =>
   rw[hn]at HD HN;clear hn;go_enter Tryz.func49,Tryz.ntmps49;go_wp2_with fail;refine HN.out.mono ?_;rintro e w1 ⟨rfl,rfl⟩;go_wp2_with fail;refine HK.out.mono ?_;rintro e w1 ⟨rfl,hU⟩;have HU:=Lib.hid hU;clear hU;go_wp2;go_ret;exact⟨kH (by rw[HD.out];rfl),HU.out⟩
 | false =>
   rw[hn]at HD HN;clear hn;go_enter Tryz.func49,Tryz.ntmps49;go_wp2_with fail;refine HN.out.mono ?_;rintro e w1 ⟨rfl,rfl⟩;go_wp2;go_ret;exact⟨kH (by rw[HD.out];rfl),Under.refl _⟩
theorem kIA{b1 b2:Nat}{t:Bool}{e:Int}(h1:BoxAt w0 b1 4 #[.bool t])(h2:BoxAt w0 b2 34 #[.int .i64 e]) :
 Calls Tryz.prog 81 #[.pointer (some ⟨b1,0,none⟩),.pointer (some ⟨b2,0,none⟩)] w0 fun x w=>x = .returned (.int .i64 (if t then 0 else e))∧Under w0 w:=by
 have c1:=h1.cell 0;have c2:=h2.cell 0;have l1:=h1.lt;have l2:=h2.lt;clear h1 h2
 cases t
 all_goals
  go_enter Tryz.func81,Tryz.ntmps81;go_wp2;go_ret;exact⟨rfl,Under.refl _⟩
theorem qG(t:Bool)(e:Int):Calls Tryz.prog 48 #[.bool t,.int .i64 e] w0 fun x w=>∃ b1 b2,x = .returned (.func (.func 81) #[] #[.pointer (some ⟨b1,0,none⟩),.pointer (some ⟨b2,0,none⟩)])∧StepOk w (.func (.func 81) #[] #[.pointer (some ⟨b1,0,none⟩),.pointer (some ⟨b2,0,none⟩)]) (jC t e)∧Under w0 w:=by
 have hB1:=(qA w0 #[.bool t] 4).alloc (.cells #[.int .i64 e] 34);have hB2:=qA (w0.alloc (.cells #[.bool t] 4)) #[.int .i64 e] 34;have hs1:(w0.alloc (.cells #[.bool t] 4)).heap.size=w0.heap.size+1:=by simp
 rw[hs1]at hB2;have hS:StepOk ((w0.alloc (.cells #[.bool t] 4)).alloc (.cells #[.int .i64 e] 34)) (.func (.func 81) #[] #[.pointer (some ⟨w0.heap.size,0,none⟩),.pointer (some ⟨w0.heap.size+1,0,none⟩)]) (jC t e) :=
  ⟨_,_,rfl,enters_of Tryz.func81 (by kernel_rfl) rfl,fun w' hU=>kIA (hB1.under hU) (hB2.under hU)⟩
 have HS:=Lib.hid hS;clear hB1 hB2 hs1 hS;go_enter Tryz.func48,Tryz.ntmps48;go_wp2;go_ret;exact⟨_,_,rfl,HS.out,aA (aA (Under.refl _) _) _⟩
def kD : List Int → Int
  | []=>0
  | r::l=>if r≠0 then r else kD l
theorem nFA(fs:List (Value×Int)){p:Option Addr}{c:Nat}(hn:fs.length≤1000)(hp:RowArg w0 p (fs.map (·.1)))(hf:∀ x∈fs,StepOk w0 x.1 x.2) :
 Calls Tryz.prog 47 #[.slice p fs.length c] w0 fun e w=>e = .returned (.int .i64 (kD (fs.map (·.2))))∧Under w0 w:=by
 have HP:=Lib.hid hp;have HF:=Lib.hid hf;clear hp hf;go_enter Tryz.func47,Tryz.ntmps47;go_wp2;go_loopw [8] (fun i wr=>∃ k:Nat,k≤fs.length∧i = .int .i64 k∧kD (fs.map (·.2))=kD ((fs.drop k).map (·.2))∧Under w0 wr) (fun i _=>fs.length - (intOf i).toNat)
 case atStart=>exact⟨0,Nat.zero_le _,rfl,by simp,Under.refl _⟩
 case round =>
   obtain⟨k,hk,rfl,hN,hU⟩:=hrel;have HN:=Lib.hid hN;have HU:=Lib.hid hU;clear hN hU;by_cases hlt:k < fs.length
   · obtain ⟨b, off, rfl, hb, hcs⟩ := HP.out (fun e => by have := congrArg List.length e; simp at this; rw [this] at hlt; simp at hlt); have cc := hcs k fs[k].1 (by simp [List.getElem?_eq_getElem hlt]); obtain ⟨f, caps, hfv, hen, hcall⟩ := HF.out fs[k] (List.getElem_mem hlt); rw [hfv, ← dA HU.out hb] at cc; have hb' := Nat.lt_of_lt_of_le hb HU.out.size; have hd : kD ((fs.drop k).map (·.2)) = if fs[k].2 ≠ 0 then fs[k].2 else kD ((fs.drop (k + 1)).map (·.2)) := by rw [List.drop_eq_getElem_cons hlt]; rfl
     have HD:=Lib.hid hd;have HC:=Lib.hid (hcall wr HU.out);clear hcs hfv hd hcall;generalize fs[k].2=r at *;by_cases hr:r=0
     · have hr' : (r != 0) = false := by simpa using hr
       have HR:=Lib.hid hr;clear hr;go_wp2_with fail;refine HC.out.mono ?_;rintro e w1 ⟨rfl,hU1⟩;have HU1:=Lib.hid hU1;clear hU1;go_wp2;go_roundw
       case rel=>exact⟨k+1,by omega,by go_num,by rw[HN.out,HD.out,if_neg (by rw[HR.out];simp)],HU.out.trans HU1.out⟩
       case measure=>simp[intOf];omega
     · have hr' : (r != 0) = true := by simpa using hr
       have HR:=Lib.hid hr;clear hr;go_wp2_with fail;refine HC.out.mono ?_;rintro e w1 ⟨rfl,hU1⟩;have HU1:=Lib.hid hU1;clear hU1;go_wp2;go_ret;exact⟨mF (by rw[HN.out,HD.out,if_pos HR.out]),HU.out.trans HU1.out⟩
   · obtain rfl : k = fs.length := by omega
     go_wp2;go_ret;exact⟨mF (by rw[HN.out,List.drop_length];rfl),HU.out⟩
end
def sD(t:List Nd):Int:=if bC t=0 then(if 0 < aW t then 30 else 0) else bC t
section
variable {W0 w0 : World} {d : Dc} {v : Value}
theorem aIA{db:Nat}{cs:Array Value}(hd:Small d)(hv:DcV W0 (.agg cs) d)(hU:Under W0 w0)(hS:ShapesAt 3 W0)(hB:BoxAt w0 db 33 cs) :
 Calls Tryz.prog 84 #[.pointer (some ⟨db,0,none⟩)] w0 fun e w=>e = .returned (.int .i64 (kD ((nC d).map sD)))∧Under w0 w:=by
 have hv0:=DcV.mono _ _ _ _ hU hv;have HT:=Lib.hid (aFA (w0:=w0) hd hv0);obtain⟨vt,vb,vc,hcs,⟨pt,ct,rfl,_⟩,⟨pb,cb,rfl,_⟩,⟨pc,cc,us,rfl,_⟩⟩:=hv
 cases hcs;have c0:=hB.cell 0;have c1:=hB.cell 1;have c2:=hB.cell 2;have c3:=hB.cell 3;have c4:=hB.cell 4;have c5:=hB.cell 5;have hlt:=hB.lt;have HD:=Lib.hid hd;have HS:=Lib.hid (hS.under hU);clear hd hU hS hB hv0;go_enter Tryz.func84,Tryz.ntmps84;go_wp2_with fail;refine HT.out.mono ?_;rintro e w1 ⟨u,rfl,hu,hU1⟩;obtain⟨p,c,vs,rfl,hc,h0,hr,hz⟩:=hu;have HU1:=Lib.hid hU1;have HR:=Lib.hid hr;have HZ:=Lib.hid hz;have hln:(nC d).length≤5864062015660:=by
  have:=HD.out.flat;unfold nC
  split
  · simp
  · split
    · simp
    · split
      · omega
      · simp
 have HTm:=Lib.hid HD.out.terms;clear c0 c1 c2 c3 c4 c5 hU1 hr hz h0;generalize htsd:nC d=ts at *;have HTS:=Lib.hid htsd;clear htsd;go_wp2;go_loopw [9] (fun i wr=>∃ k:Nat,k≤ts.length∧i = .int .i64 k∧kD (ts.map sD)=kD ((ts.drop k).map sD)∧Under w1 wr) (fun i _=>ts.length - (intOf i).toNat)
 case atStart=>exact⟨0,Nat.zero_le _,rfl,by simp,Under.refl _⟩
 case round =>
   obtain⟨k,hk,rfl,hN,hU⟩:=hrel;by_cases hlt:k < ts.length
   · obtain ⟨u, hu, q, c', rfl, hc', h0', hr'⟩ := HZ.out.at (List.getElem?_eq_getElem hlt); obtain ⟨b, off, rfl, hb, hcs⟩ := HR.out (fun e => by rw [e] at hu; simp at hu); have cc := hcs k _ hu; rw [← dA hU hb] at cc; have hb' := Nat.lt_of_lt_of_le hb hU.size; have htm := HTm.out _ (List.getElem_mem hlt); have hd : kD ((ts.drop k).map sD) = if sD ts[k] ≠ 0 then sD ts[k] else kD ((ts.drop (k + 1)).map sD) := by rw [List.drop_eq_getElem_cons hlt]; rfl
     have HC:=Lib.hid (jVA (w0:=wr) (c:=c') (p:=q) (t:=ts[k]) hc' (by unfold maxLen;omega) (fun x hx=>htm.2 x hx) (hr'.under hU) ((HS.out.under HU1.out).under hU));have HN:=Lib.hid hN;have HDd:=Lib.hid hd;have HU:=Lib.hid hU;have hct:sD ts[k]=if bC ts[k]=0 then(if 0 < aW ts[k] then 30 else 0) else bC ts[k]:=rfl
     clear hcs hr' hN hd hU hu htm;generalize ts[k]=t at *;unfold pPA at HC;by_cases hc0:bC t=0
     · rw [if_pos hc0] at hct; rw [if_pos hc0, hc0] at HC; by_cases hf : 0 < aW t
       · rw[if_pos hf]at hct;have HCT:=Lib.hid hct;clear hct hc0;generalize aW t=fn at *;go_wp2_with fail;refine HC.out.mono ?_;rintro e w2 ⟨rfl,hU2⟩;have HU2:=Lib.hid hU2;clear hU2;go_wp2;go_ret;exact⟨mF (by rw[HTS.out,HN.out,HDd.out,HCT.out];rfl),(HU1.out.trans HU.out).trans HU2.out⟩
       · rw [if_neg hf] at hct; have HCT := Lib.hid hct; clear hct hc0; generalize aW t = fn at *; go_wp2_with fail; refine HC.out.mono ?_; rintro e w2 ⟨rfl, hU2⟩; have HU2 := Lib.hid hU2; clear hU2; go_wp2; go_roundw
         case rel=>exact⟨k+1,by omega,by go_num,by rw[HN.out,HDd.out,HCT.out];rfl,HU.out.trans HU2.out⟩
         case measure=>simp[intOf];omega
     · rw [if_neg hc0] at hct; rw [if_neg hc0] at HC; have HCT := Lib.hid hct; have HC0 := Lib.hid hc0; have b0 : (bC t == 0) = false := by simpa using hc0
       have b1:(bC t != 0)=true:=by simpa using hc0
       clear hct hc0;generalize bC t=ce at *;go_wp2_with fail;refine HC.out.mono ?_;rintro e w2 ⟨rfl,hU2⟩;have HU2:=Lib.hid hU2;clear hU2;go_wp2;go_ret;exact⟨mF (by rw[HTS.out,HN.out,HDd.out,HCT.out,if_pos HC0.out]),(HU1.out.trans HU.out).trans HU2.out⟩
   · obtain rfl : k = ts.length := by omega
     have HN:=Lib.hid hN;have HU:=Lib.hid hU;clear hN hU;go_wp2;go_ret;exact⟨mF (by rw[HTS.out,HN.out,List.drop_length];rfl),HU1.out.trans HU.out⟩
theorem fNA(hd:Small d)(hv:DcV w0 v d)(hS:ShapesAt 3 w0):Calls Tryz.prog 50 #[v] w0 fun x w=>∃ b,x = .returned (.func (.func 84) #[] #[.pointer (some ⟨b,0,none⟩)])∧StepOk w (.func (.func 84) #[] #[.pointer (some ⟨b,0,none⟩)]) (kD ((nC d).map sD))∧Under w0 w:=by
 have hv':=hv;obtain⟨vt,vb,vc,rfl,⟨pt,ct,rfl,_⟩,⟨pb,cb,rfl,_⟩,⟨pc,cc,us,rfl,_⟩⟩:=hv;have hB:=qA w0 #[.int .i64 d.kind,.int .i64 d.level,.string d.name,.slice pt d.type.length ct,.slice pb d.body.length cb,.slice pc d.cons.length cc] 33;have hU:=aA (Under.refl w0) (.cells #[.int .i64 d.kind,.int .i64 d.level,.string d.name,.slice pt d.type.length ct,.slice pb d.body.length cb,.slice pc d.cons.length cc] 33);have hS':StepOk _ (.func (.func 84) #[] #[.pointer (some ⟨w0.heap.size,0,none⟩)]) (kD ((nC d).map sD)) :=
  ⟨_,_,rfl,enters_of Tryz.func84 (by kernel_rfl) rfl,fun w' hU'=>aIA hd hv' (hU.trans hU') hS (hB.under hU')⟩
 have HS:=Lib.hid hS';have HU:=Lib.hid hU;clear hd hv' hS hB hU hS';go_enter Tryz.func50,Tryz.ntmps50;go_wp2;go_ret;exact⟨_,rfl,HS.out,HU.out⟩
end
theorem iY(w:World)(base:Nat)(e:TypeId)(size:Nat)(hb:base≤w.heap.size):(w.alloc (.cells #[] e)).ownsRow base e size (.slice (some ⟨w.heap.size,0,none⟩) 0 0) 0 [] :=
 ⟨by simp,.inr ⟨w.heap.size,0,#[],rfl,hb,qA w _ _,Nat.le_refl _,by unfold maxLen;omega,by simp,by simp⟩⟩
structure RtH (w0:World) (cs:Array Value) (v:Value) (ts:List (List Nd)) (us:List Value) (w:World):Prop where
 low:Under w0 w
 box:BoxAt w w0.heap.size 37 cs
 row:w.ownsRow (w0.heap.size+1) 30 1 v us.length us
 zip:Zip (TermV w0) us ts
def f4A(w0:World)(cs:Array Value)(css:List (List (List Nd)))(v i:Value)(wr:World):Prop:=∃(k:Nat) (us:List Value),k≤css.length∧i = .int .i64 (k:Int)∧RtH w0 cs v (css.take k).flatten us wr
theorem RtH.grown {w0 w w' : World} {cs : Array Value} {v v' : Value} {ts : List (List Nd)} {us : List Value} {rs : List (List Nd)} {xs : List Value} (h : RtH w0 cs v ts us w) (hown : w'.ownsRow (w0.heap.size + 1) 30 1 v' (us.length + xs.length) (us ++ xs))
    (hgrow:w.grownBy w' v.ownBlock) (hz:Zip (TermV w0) xs rs):RtH w0 cs v' (ts++rs) (us++xs) w' :=
  ⟨rA h.low hgrow fun g e=>by have:=(vB h.row e).1;omega,h.box.grown hgrow fun e=>by have:=(vB h.row e.symm).1;omega,by rw[List.length_append];exact hown,h.zip.app hz⟩
theorem RtH.alloc{w0 w:World}{cs:Array Value}{v:Value}{ts:List (List Nd)}{us:List Value}(h:RtH w0 cs v ts us w)(o:Obj):RtH w0 cs v ts us (w.alloc o) :=
 ⟨aA h.low o,h.box.alloc o,h.row.alloc o,h.zip⟩
theorem RtH.terms{w0 w:World}{cs:Array Value}{v:Value}{ts:List (List Nd)}{us:List Value}(h:RtH w0 cs v ts us w):TermsV w v ts:=by
 have hr:=h.row;rw[h.zip.1]at hr;exact ListV.of_own hr (h.zip.mono fun v x hx=>TermV.mono _ _ _ _ h.low hx)
section
variable {w0 : World} {d : Dc} {v : Value}
theorem hBA(hd:d.cons.length≤5864062014634)(hd2:d.cons.flatten.length≤5864062015658)(hv:DcV w0 v d):Calls Tryz.prog 52 #[v] w0 fun e w=>∃ u,e = .returned u∧TermsV w u (nC d)∧Under w0 w:=by
 obtain⟨vt,vb,vc,rfl,ht,hb,hc⟩:=hv;obtain⟨i0,hi,hz0,hz1,hz2⟩:=info_parts Tryz.info30;have hT:nC d=if d.kind=1 then [d.type,d.body] else if d.kind=2 then [d.type] else if d.kind=3 then d.cons.flatten else []:=rfl
 have HT:=Lib.hid ht;have HB:=Lib.hid hb;have HC:=Lib.hid hc;have hR0:RtH w0 #[.int .i64 d.kind,.int .i64 d.level,.string d.name,vt,vb,vc] (.slice (some ⟨w0.heap.size+1,0,none⟩) 0 0) [] [] ((w0.alloc (.cells #[.int .i64 d.kind,.int .i64 d.level,.string d.name,vt,vb,vc] 37)).alloc (.cells #[] 30)):=by
  refine⟨aA (aA (Under.refl _) _) _,(qA _ _ _).alloc _,?_,Zip.nil _⟩;have:=iY (w0.alloc (.cells #[.int .i64 d.kind,.int .i64 d.level,.string d.name,vt,vb,vc] 37)) (w0.heap.size+1) 30 1 (by simp)
  simpa using this
 have HR0:=Lib.hid hR0;obtain⟨pt,ct,rfl,_⟩:=ht;obtain⟨pb,cb,rfl,_⟩:=hb;obtain⟨pc,cc,us,rfl,hcl,hc0,hrow,hzip⟩:=hc;have HRow:=Lib.hid hrow;have HZip:=Lib.hid hzip;clear hR0 hrow hzip hcl hc0;by_cases h1:d.kind=1
 · rw [if_pos h1] at hT; have HTm := Lib.hid hT; have b1 : (d.kind == 1) = true := by simpa using h1
   have b3:(d.kind==3)=false:=by simp[h1]
   clear hT h1;go_enter Tryz.func52,Tryz.ntmps52;go_wp2_with (at_builtin;refine vC rfl _ _ 96 rfl (w0.heap.size+1) 30 i0 _ 1 24 Tryz.underlying96 hi hz0 hz1 hz2 rfl (by decide) _ _ _ rfl (HR0.out.alloc (.cells #[(.slice pt d.type.length ct)] 30)).row _ 1 1 [(.slice pt d.type.length ct)] rfl rfl (Nat.le_refl _) (fun h=>by cases h) (qOA _ ((.slice pt d.type.length ct)) 30 (by simp)) (fun u hu=>by simp at hu;subst hu;rfl) (by simp[maxLen]) (by simp) (by have:=HR0.out.box.lt;rw[rC,Array.size_push];omega) ?_);intro v' w' hown hgrow;have hR:=(HR0.out.alloc (.cells #[(.slice pt d.type.length ct)] 30)).grown hown hgrow (Zip.one HT.out);obtain⟨q',c',rfl,hc',hr'⟩:=RowArg.of_own hown;have c0:w'.cell? ⟨w0.heap.size,0,none⟩=some (.int .i64 d.kind):=hR.box.cell 0;have c1:w'.cell? ⟨w0.heap.size,1,none⟩=some (.int .i64 d.level):=hR.box.cell 1;have c2:w'.cell? ⟨w0.heap.size,2,none⟩=some (.string d.name):=hR.box.cell 2;have c3:w'.cell? ⟨w0.heap.size,3,none⟩=some (.slice pt d.type.length ct):=hR.box.cell 3;have c4:w'.cell? ⟨w0.heap.size,4,none⟩=some (.slice pb d.body.length cb):=hR.box.cell 4;have c5:w'.cell? ⟨w0.heap.size,5,none⟩=some (.slice pc d.cons.length cc):=hR.box.cell 5;have lb:=hR.box.lt;have HR1:=Lib.hid hR;clear hown hgrow hc' hr' hR;go_wp2_with (at_builtin;refine vC rfl _ _ 96 rfl (w0.heap.size+1) 30 i0 _ 1 24 Tryz.underlying96 hi hz0 hz1 hz2 rfl (by decide) _ _ _ rfl (HR1.out.alloc (.cells #[(.slice pb d.body.length cb)] 30)).row _ 1 1 [(.slice pb d.body.length cb)] rfl rfl (Nat.le_refl _) (fun h=>by cases h) (qOA _ ((.slice pb d.body.length cb)) 30 (by simp)) (fun u hu=>by simp at hu;subst hu;rfl) (by simp[maxLen]) (by simp) (by have:=HR1.out.box.lt;rw[rC,Array.size_push];omega) ?_);intro v' w' hown hgrow;have hR:=(HR1.out.alloc (.cells #[(.slice pb d.body.length cb)] 30)).grown hown hgrow (Zip.one HB.out);obtain⟨q',c',rfl,hc',hr'⟩:=RowArg.of_own hown;have c0:w'.cell? ⟨w0.heap.size,0,none⟩=some (.int .i64 d.kind):=hR.box.cell 0;have c1:w'.cell? ⟨w0.heap.size,1,none⟩=some (.int .i64 d.level):=hR.box.cell 1;have c2:w'.cell? ⟨w0.heap.size,2,none⟩=some (.string d.name):=hR.box.cell 2;have c3:w'.cell? ⟨w0.heap.size,3,none⟩=some (.slice pt d.type.length ct):=hR.box.cell 3;have c4:w'.cell? ⟨w0.heap.size,4,none⟩=some (.slice pb d.body.length cb):=hR.box.cell 4;have c5:w'.cell? ⟨w0.heap.size,5,none⟩=some (.slice pc d.cons.length cc):=hR.box.cell 5;have lb:=hR.box.lt;have HR2:=Lib.hid hR;clear hown hgrow hc' hr' hR;go_wp2;go_ret;exact⟨_,rfl,by rw[HTm.out];exact HR2.out.terms,HR2.out.low⟩
 rw[if_neg h1]at hT;have b1:(d.kind==1)=false:=by simpa using h1
 by_cases h2:d.kind=2
 · rw [if_pos h2] at hT; have HTm := Lib.hid hT; have b2 : (d.kind == 2) = true := by simpa using h2
   have b3:(d.kind==3)=false:=by simp[h2]
   clear hT h1 h2;go_enter Tryz.func52,Tryz.ntmps52;go_wp2_with (at_builtin;refine vC rfl _ _ 96 rfl (w0.heap.size+1) 30 i0 _ 1 24 Tryz.underlying96 hi hz0 hz1 hz2 rfl (by decide) _ _ _ rfl (HR0.out.alloc (.cells #[(.slice pt d.type.length ct)] 30)).row _ 1 1 [(.slice pt d.type.length ct)] rfl rfl (Nat.le_refl _) (fun h=>by cases h) (qOA _ ((.slice pt d.type.length ct)) 30 (by simp)) (fun u hu=>by simp at hu;subst hu;rfl) (by simp[maxLen]) (by simp) (by have:=HR0.out.box.lt;rw[rC,Array.size_push];omega) ?_);intro v' w' hown hgrow;have hR:=(HR0.out.alloc (.cells #[(.slice pt d.type.length ct)] 30)).grown hown hgrow (Zip.one HT.out);obtain⟨q',c',rfl,hc',hr'⟩:=RowArg.of_own hown;have c0:w'.cell? ⟨w0.heap.size,0,none⟩=some (.int .i64 d.kind):=hR.box.cell 0;have c1:w'.cell? ⟨w0.heap.size,1,none⟩=some (.int .i64 d.level):=hR.box.cell 1;have c2:w'.cell? ⟨w0.heap.size,2,none⟩=some (.string d.name):=hR.box.cell 2;have c3:w'.cell? ⟨w0.heap.size,3,none⟩=some (.slice pt d.type.length ct):=hR.box.cell 3;have c4:w'.cell? ⟨w0.heap.size,4,none⟩=some (.slice pb d.body.length cb):=hR.box.cell 4;have c5:w'.cell? ⟨w0.heap.size,5,none⟩=some (.slice pc d.cons.length cc):=hR.box.cell 5;have lb:=hR.box.lt;have HR1:=Lib.hid hR;clear hown hgrow hc' hr' hR;go_wp2;go_ret;exact⟨_,rfl,by rw[HTm.out];exact HR1.out.terms,HR1.out.low⟩
 rw[if_neg h2]at hT;have b2:(d.kind==2)=false:=by simpa using h2
 by_cases h3:d.kind=3
 · rw [if_pos h3] at hT; have HTm := Lib.hid hT; have b3 : (d.kind == 3) = true := by simpa using h3
   clear hT h1 h2 h3;have hn0:(0:Int)≤(d.cons.length:Int):=by omega
   go_enter Tryz.func52,Tryz.ntmps52;go_wp2;go_loopw [3,4] (fun v i wr=>f4A w0 #[.int .i64 d.kind,.int .i64 d.level,.string d.name,.slice pt d.type.length ct,.slice pb d.body.length cb,.slice pc d.cons.length cc] d.cons v i wr) (fun _ i _=>d.cons.length - (intOf i).toNat)
   case atStart=>exact⟨0,[],Nat.zero_le _,rfl,HR0.out⟩
   case round =>
     obtain⟨k,us',hk,rfl,hR⟩:=hrel;have lb:=hR.box.lt;have c0:wr.cell? ⟨w0.heap.size,0,none⟩=some (.int .i64 d.kind):=hR.box.cell 0;have c5:wr.cell? ⟨w0.heap.size,5,none⟩=some (.slice pc d.cons.length cc):=hR.box.cell 5;by_cases hlt:k < d.cons.length
     · obtain ⟨u, hu, hterms⟩ := HZip.out.at (List.getElem?_eq_getElem hlt); obtain ⟨q, cq, vs', rfl, hq1, hq2, hq3, hq4⟩ := hterms; obtain ⟨b, off, rfl, hb, hcs⟩ := HRow.out (fun e => by rw [e] at hu; simp at hu); have cc' := hcs k _ hu; rw [← dA hR.low hb] at cc'; have hb' := Nat.lt_of_lt_of_le hb hR.low.size; have hflat : (d.cons.take (k + 1)).flatten = (d.cons.take k).flatten ++ d.cons[k] := by rw [List.take_succ_eq_append_getElem hlt, List.flatten_append]; simp
       have hfk:=aAA d.cons (k+1);rw[hflat,List.length_append]at hfk;have hm:d.cons[k].length≤5864062015658:=by omega
       have hus:us'.length+d.cons[k].length≤5864062015658:=by rw[hR.zip.1];omega
       have HR:=Lib.hid hR;have HF:=Lib.hid hflat;have HQ3:=Lib.hid (hq3.under hR.low);have HQ4:=Lib.hid hq4;have hq4l:=hq4.1;have HQL:=Lib.hid hq4l;clear hR hflat hcs hu hq3 hq4 hq4l;generalize hcl:d.cons[k]=cl at *;have HCL:=Lib.hid hcl;clear hcl;generalize hml:cl.length=m at *;have HML:=Lib.hid hml;clear hml;go_wp2_with (at_builtin;refine mP rfl _ _ 96 rfl (w0.heap.size+1) 30 i0 _ 1 24 Tryz.underlying96 hi hz0 hz1 hz2 rfl (by decide) _ _ _ rfl HR.out.row q m cq vs' rfl (by rw[HQL.out];omega) hq1 hq2 HQ3.out (fun u hu=>?c3) (by simp only[maxLen];omega) (by omega) (by omega) ?_)
       case c3 =>
         obtain⟨i,hi⟩:=List.getElem?_of_mem hu;have hil:i < cl.length:=by rw[HML.out,← HQL.out];exact(List.getElem?_eq_some_iff.1 hi).1
         exact(HQ4.out.2 i u _ hi (List.getElem?_eq_getElem hil)).one
       intro v' w' hown hgrow;have hR2:RtH w0 _ v' ((d.cons.take k).flatten++cl) (us'++vs') w':=HR.out.grown (xs:=vs') (rs:=cl) (by rw[HQL.out];exact hown) hgrow HQ4.out;have HR2:=Lib.hid hR2;clear hR2 hown hgrow;go_wp2;go_roundw
       case rel=>exact⟨k+1,us'++vs',by omega,by go_num,by rw[HF.out];exact HR2.out⟩
       case measure=>simp[intOf];omega
     · obtain rfl : k = d.cons.length := by omega
       rw[List.take_length]at hR;have hr:=hR.row;obtain⟨q',c',rfl,hc',hr'⟩:=RowArg.of_own hr;have HR:=Lib.hid hR;clear hR hr hc' hr';go_wp2;go_ret;exact⟨_,rfl,by rw[HTm.out];exact HR.out.terms,HR.out.low⟩
 · rw [if_neg h3] at hT; have HTm := Lib.hid hT; have b3 : (d.kind == 3) = false := by simpa using h3
   clear hT h1 h2 h3;go_enter Tryz.func52,Tryz.ntmps52;go_wp2;go_ret;exact⟨_,rfl,by rw[HTm.out];exact HR0.out.terms,HR0.out.low⟩
end
theorem Tryz.infoDecl10:(Tryz.prog.info? 37).map (fun i=>(i.zero,i.size,i.bytes))=some (some (.agg #[.int .i64 0,.int .i64 0,.string ⟨#[]⟩,.slice none 0 0,.slice none 0 0,.slice none 0 0]),6,104):=by kernel_rfl
theorem pQA(w:World){n:Nat}(cs:List Value)(t:TypeId)(h:w.heap.size=n):RowArg (w.alloc (.cells cs.toArray t)) (some ⟨n,0,none⟩) cs:=h▸nJ w cs t (0,0)
theorem jAA{w:World}{base s n m c:Nat}{e:TypeId}{q:Option Addr}{xs:List Value}(h:w.ownsRow base e s (.slice q m c) n xs):q=none→c=0:=by
 rintro rfl;rcases h.2 with⟨h0,_⟩ | ⟨g,cap,cur,h0,_⟩
 · cases h0;rfl
 · cases h0
theorem iYA{w:World}{rows:List (List Value)}{ds:List Dc}(hz:Zip (DcRow w) rows ds):∀ u∈rows.flatten,u.oneCell'=true:=by
 intro u hu;obtain⟨r,hr,hu⟩:=List.mem_flatten.1 hu;obtain⟨i,hi,rfl⟩:=List.getElem_of_mem hr;obtain⟨vt,vb,vc,e,h1,h2,h3⟩:=hz.2 i _ _ (List.getElem?_eq_getElem hi) (List.getElem?_eq_getElem (by rw[← hz.1];exact hi));rw[e]at hu;simp only[List.mem_cons,List.not_mem_nil,or_false]at hu;rcases hu with rfl | rfl | rfl | rfl | rfl | rfl
 · rfl
 · rfl
 · rfl
 · exact TermV.one h1
 · exact TermV.one h2
 · exact ListV.one h3
def g4A(w0:World)(ds:List Dc)(v i:Value)(wr:World):Prop:=∃(k:Nat) (rows:List (List Value)),k≤ds.length∧i = .int .i64 (k:Int)∧wr.ownsRow w0.heap.size 37 6 v k rows.flatten∧(∀ r∈rows,r.length=6)∧Zip (DcRow w0) rows (ds.take k)∧Under w0 wr
section
variable {w0 : World} {ds : List Dc}
theorem bR{p:Option Addr}{c:Nat}(hn:ds.length≤100000)(hp:RowsV 6 DcRow w0 p ds):Calls Tryz.prog 12 #[.slice p ds.length c] w0 fun e w=>∃ q c',e = .returned (.slice q ds.length c')∧ds.length≤c'∧(q=none→c'=0)∧RowsV 6 DcRow w q ds∧Under w0 w:=by
 obtain⟨i0,hi,hz0,hz1,hz2⟩:=info_parts Tryz.infoDecl10;have HP:=Lib.hid hp;have hn0:(0:Int)≤(ds.length:Int):=by omega
 clear hp;go_enter Tryz.func12,Tryz.ntmps12;go_wp2;have HE:=Lib.hid (iY w0 w0.heap.size 37 6 (Nat.le_refl _));have HU0:=Lib.hid (aA (Under.refl w0) (.cells #[] 37));go_loopw [3,4] (fun v i wr=>g4A w0 ds v i wr) (fun _ i _=>ds.length - (intOf i).toNat)
 case atStart=>exact⟨0,[],Nat.zero_le _,rfl,HE.out,fun r h=>(List.not_mem_nil h).elim,by simpa using Zip.nil _,HU0.out⟩
 case round =>
   obtain⟨k,rows,hk,rfl,hown,hrows,hzip,hU⟩:=hrel;have hrk:rows.length=k:=by rw[hzip.1,List.length_take];omega
   by_cases hlt:k < ds.length
   · obtain ⟨b, off, r, rfl, hb, hrl, hr, hc⟩ := HP.out.at (List.getElem?_eq_getElem hlt) (by decide); have HRr := Lib.hid hr; obtain ⟨v1, v2, v3, rfl, ⟨p1, c1, rfl, _⟩, ⟨p2, c2, rfl, _⟩, ⟨p3, c3, us3, rfl, _⟩⟩ := hr; have cc0 := hc 0 _ rfl; have cc1 := hc 1 _ rfl; have cc2 := hc 2 _ rfl; have cc3 := hc 3 _ rfl; have cc4 := hc 4 _ rfl; have cc5 := hc 5 _ rfl; simp only [Nat.add_zero, ← Nat.add_assoc] at cc0 cc1 cc2 cc3 cc4 cc5; rw [← dA hU hb] at cc0 cc1 cc2 cc3 cc4 cc5; have hb' := Nat.lt_of_lt_of_le hb hU.size; have htk : ds.take (k + 1) = ds.take k ++ [ds[k]] := List.take_succ_eq_append_getElem hlt; have HTK := Lib.hid htk; have HO := Lib.hid hown; have HU := Lib.hid hU; have HZ := Lib.hid hzip; have HRw := Lib.hid hrows; clear hc hU hown hzip hrows htk hrk hrl; generalize ds[k] = d at *; go_wp2_with (at_builtin; refine vC rfl _ _ 40 rfl w0.heap.size 37 i0 _ 6 104 Tryz.underlying40 hi hz0 hz1 hz2 rfl (by decide) _ _ _ rfl (HO.out.alloc _) _ 1 1 _ rfl rfl (Nat.le_refl _) (fun h => by cases h) (pQA _ [.int .i64 d.kind, .int .i64 d.level, .string d.name, .slice p1 d.type.length c1, .slice p2 d.body.length c2, .slice p3 d.cons.length c3] 37 rfl) ?c3 (by simp only [maxLen]; omega) (by omega) ?c5 ?_)
     case c3=>intro u hu;simp at hu;rcases hu with rfl | rfl | rfl | rfl | rfl | rfl<;>rfl
     case c5=>have:=HU.out.size;simp;omega
     intro v' w' hown hgrow;have HW:=Lib.hid hown;have HU2:=Lib.hid (rA (aA HU.out _) hgrow fun g e=>(vB HO.out e).1);clear hown hgrow;go_wp2;go_roundw
     case rel => exact ⟨k + 1, rows ++ [_], by omega, by go_num, by rw [List.flatten_append]; simpa using HW.out, by
       intro r hr;rcases List.mem_append.1 hr with hr | hr
       · exact HRw.out r hr
       · rw[List.mem_singleton.1 hr];rfl,by rw[HTK.out];exact HZ.out.app (Zip.one HRr.out),HU2.out⟩
     case measure=>simp[intOf];omega
   · obtain rfl : k = ds.length := by omega
     rw[List.take_length]at hzip;obtain⟨q,c',rfl,hc',hr'⟩:=RowsV.of_own (R:=DcRow) hown hrows (hzip.mono fun v x hx=>DcRow.mono _ _ _ _ hU hx);have HX:=Lib.hid hr';have HU:=Lib.hid hU;have HN0:=Lib.hid (And.intro hc' (jAA hown));clear hown hrows hzip hU hc' hr';go_wp2;go_ret;exact⟨_,_,rfl,HN0.out.1,HN0.out.2,HX.out,HU.out⟩
end
end Go.Proofs.YtggjbblgoddnjaaGreatDoor
