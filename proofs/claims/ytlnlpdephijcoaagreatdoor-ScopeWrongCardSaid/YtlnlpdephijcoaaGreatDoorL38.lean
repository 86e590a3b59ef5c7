/- Part 38 of what the proof rests on. -/
import Derived.Test.YtlnlpdephijcoaaGreatDoorL37
set_option linter.unusedSimpArgs false
set_option linter.unusedVariables false
set_option maxRecDepth 100000
set_option maxHeartbeats 4000000
namespace Go.Proofs.YtlnlpdephijcoaaGreatDoor
open Go.Lx Go.RowKit
theorem bJA{st:List ByteArray}{s:ByteArray}{k j:Nat}(hj:st.length=j+k+1)(hjl:j < st.length)(h:uJ st s=((st.reverse.drop k).findIdx? fun x=>x.toList==s.toList).map (· + k)) :
 uJ st s=if(st[j].toList==s.toList) then some k else((st.reverse.drop (k+1)).findIdx? fun x=>x.toList==s.toList).map (· + (k+1)):=by
 have hk:k < st.reverse.length:=by rw[List.length_reverse];omega
 rw[h,List.drop_eq_getElem_cons hk,List.findIdx?_cons];have e:st.reverse[k]=st[j]:=by
  rw[List.getElem_reverse];congr 1
  omega
 rw[e]
 cases(st[j].toList==s.toList)
 · simp only [Bool.false_eq_true, if_false]
   cases(st.reverse.drop (k+1)).findIdx? fun x=>x.toList==s.toList with
   | none=>rfl
   | some i=>simp only[Option.map_some];congr 1;omega
 · simp
section
variable {w0 : World}
theorem oMA(x:Sx)(cs st:List ByteArray){p1:Option Addr}{d1:Nat}{dv bv:Value}(hl:qM x.word=none)(hk:mH x.word=true)(hcs:TextsV w0 (.slice p1 cs.length d1) cs)(hcn:cs.length≤1000000)(hst:TextsV w0 bv st)(hsn:st.length≤1000000) :
 Calls Tryz.prog 64 #[.agg #[.slice p1 cs.length d1,dv],sxV x,bv] w0 (bEA w0 (yF cs x.pos x.word st)):=by
 have hW:yF cs x.pos x.word st=(match uJ st x.word with | some i=>if 99 < i then .error (2,x.pos) else .ok [⟨0,(i:Int),0,⟨#[]⟩⟩] | none=>if yJ cs x.word then .ok [⟨1,0,0,x.word⟩] else .error (80,x.pos)):=by
  simp only[yF,hl,hk,if_true];rfl
 have HF:=Lib.hid (fun w=>sU (w0:=w) x.word);have hlu:kT x.word=(0,false):=by rw[eY,hl];rfl
 rw[hlu]at HF;have HNm:=Lib.hid (fun w=>jK (w0:=w) x.word);have HKw:=Lib.hid (fun w=>gL (w0:=w) x.word);obtain⟨cv,hcv⟩:∃ z,z=Value.slice p1 cs.length d1:=⟨_,rfl⟩;rw[← hcv]at hcs ⊢;have HCv:=Lib.hid hcv;clear hcv;have HHs:=Lib.hid (fun w (hU:Under w0 w)=>zIA (w0:=w) cs x.word (v:=cv) (by simp only[maxLen];omega) (hcs.under hU));have hnk:jD x.word=true∧kwW x.word=false:=by
  unfold mH at hk
  simpa using hk
 rw[hnk.1]at HNm;rw[hnk.2]at HKw;have HW:=Lib.hid hW;have he:hasB cs x.word=yJ cs x.word:=rfl;have HE:=Lib.hid he;obtain⟨ps,cb,rfl,_,_,hrs⟩:=hst;have HRs:=Lib.hid hrs;generalize yF cs x.pos x.word st=R at *;clear hW hl hlu hk hnk hcs he hrs;have hs0:(0:Int)≤(st.length:Int):=by omega
 have hs1:(st.length:Int)≤1000000:=by omega
 obtain ⟨mm, pp, s⟩ := x; simp only at *; unfold sxV; simp only; have HX := Lib.hid (show BoxAt (((w0.alloc (.cells #[cv, dv] 35)).alloc (.cells #[.int .i64 mm, .int .i64 pp, .string s] 73)).alloc (.cells #[.int .i64 0, .int .i64 0] 70)) (w0.heap.size + 1) 73 #[.int .i64 mm, .int .i64 pp, .string s] from by
   have:=xA (w0.alloc (.cells #[cv,dv] 35)) #[.int .i64 mm,.int .i64 pp,.string s] 73;rw[World.size_alloc]at this;exact this.alloc _)
 have HNa := Lib.hid (show BoxAt (((w0.alloc (.cells #[cv, dv] 35)).alloc (.cells #[.int .i64 mm, .int .i64 pp, .string s] 73)).alloc (.cells #[.int .i64 0, .int .i64 0] 70)) w0.heap.size 35 #[cv, dv] from ((xA w0 _ _).alloc _).alloc _); have HFt := Lib.hid (show BoxAt (((w0.alloc (.cells #[cv, dv] 35)).alloc (.cells #[.int .i64 mm, .int .i64 pp, .string s] 73)).alloc (.cells #[.int .i64 0, .int .i64 0] 70)) (w0.heap.size + 1 + 1) 70 #[.int .i64 0, .int .i64 0] from by
   have:=xA ((w0.alloc (.cells #[cv,dv] 35)).alloc (.cells #[.int .i64 mm,.int .i64 pp,.string s] 73)) #[.int .i64 0,.int .i64 0] 70;rw[World.size_alloc,World.size_alloc]at this;exact this)
 have HUa:=Lib.hid (show Under w0 (((w0.alloc (.cells #[cv,dv] 35)).alloc (.cells #[.int .i64 mm,.int .i64 pp,.string s] 73)).alloc (.cells #[.int .i64 0,.int .i64 0] 70)) from aA (aA (aA (Under.refl _) _) _) _);go_enter Tryz.func64,Tryz.ntmps64;go_wp2_with fail;generalize ((w0.alloc (.cells #[cv,dv] 35)).alloc (.cells #[.int .i64 mm,.int .i64 pp,.string s] 73)).alloc (.cells #[.int .i64 0,.int .i64 0] 70)=wA at *;refine(HF.out _).mono ?_;rintro e w1 ⟨rfl,hU1⟩;have HX1:=Lib.hid (HX.out.under (aA hU1 (.cells #[.int .i64 (0),.int .i64 0,.int .i64 0,.string ⟨#[]⟩] 76)));have HN1:=Lib.hid (HNa.out.under (aA hU1 (.cells #[.int .i64 (0),.int .i64 0,.int .i64 0,.string ⟨#[]⟩] 76)));have HF1:=Lib.hid (HFt.out.under (aA hU1 (.cells #[.int .i64 (0),.int .i64 0,.int .i64 0,.string ⟨#[]⟩] 76)));have HU1:=Lib.hid (HUa.out.trans (aA hU1 (.cells #[.int .i64 (0),.int .i64 0,.int .i64 0,.string ⟨#[]⟩] 76)));have HB1:=Lib.hid (xA w1 #[.int .i64 (0),.int .i64 0,.int .i64 0,.string ⟨#[]⟩] 76);have x0:=HX1.out.cell 0;have x1:(w1.alloc (.cells #[.int .i64 (0),.int .i64 0,.int .i64 0,.string ⟨#[]⟩] 76)).cell? ⟨w0.heap.size+1,1,none⟩=some (.int .i64 pp):=HX1.out.cell 1;have x2:(w1.alloc (.cells #[.int .i64 (0),.int .i64 0,.int .i64 0,.string ⟨#[]⟩] 76)).cell? ⟨w0.heap.size+1,2,none⟩=some (.string s):=HX1.out.cell 2;have xl:=HX1.out.lt;have xl2:w0.heap.size+1 < w1.heap.size+1:=by simpa using xl
 have f0:(w1.alloc (.cells #[.int .i64 (0),.int .i64 0,.int .i64 0,.string ⟨#[]⟩] 76)).cell? ⟨w0.heap.size+1+1,0,none⟩=some (.int .i64 0):=HF1.out.cell 0;have f1:(w1.alloc (.cells #[.int .i64 (0),.int .i64 0,.int .i64 0,.string ⟨#[]⟩] 76)).cell? ⟨w0.heap.size+1+1,1,none⟩=some (.int .i64 0):=HF1.out.cell 1;have fl:=HF1.out.lt;have fl2:w0.heap.size+1+1 < w1.heap.size+1:=by simpa using fl
 have ff0:=HF1.out.free 0;have ff1:=HF1.out.free 1;clear hU1 HX HNa HFt HUa HF;go_wp2_with fail;generalize w1.alloc (.cells #[.int .i64 0,.int .i64 0,.int .i64 0,.string ⟨#[]⟩] 76)=wN at *;clear fl2 xl2;refine(HNm.out _).mono ?_;rintro e w2 ⟨rfl,rfl⟩;go_wp2_with fail;refine(HKw.out _).mono ?_;rintro e w3 ⟨rfl,hU3⟩;have HX1:=Lib.hid (HX1.out.under hU3);have HN1:=Lib.hid (HN1.out.under hU3);have HF1:=Lib.hid (HF1.out.under hU3);have HU1:=Lib.hid (HU1.out.trans hU3);have x0:=HX1.out.cell 0;have x1:w3.cell? ⟨w0.heap.size+1,1,none⟩=some (.int .i64 pp):=HX1.out.cell 1;have x2:w3.cell? ⟨w0.heap.size+1,2,none⟩=some (.string s):=HX1.out.cell 2;have xl:=HX1.out.lt;have f0:w3.cell? ⟨w0.heap.size+1+1,0,none⟩=some (.int .i64 0):=HF1.out.cell 0;have f1:w3.cell? ⟨w0.heap.size+1+1,1,none⟩=some (.int .i64 0):=HF1.out.cell 1;have fl:=HF1.out.lt;have ff0:=HF1.out.free 0;have ff1:=HF1.out.free 1;clear hU3;go_wp2;go_loopw [10] (fun i wr=>f8A w3 st s i wr) (fun i _=>st.length - (intOf i).toNat)
 case atStart=>exact⟨0,Nat.zero_le _,rfl,by simp[uJ],Under.refl _⟩
 case round =>
   obtain⟨k,hk,rfl,hfe,hU⟩:=hrel;have HX1:=Lib.hid (HX1.out.under hU);have HN1:=Lib.hid (HN1.out.under hU);have HF1:=Lib.hid (HF1.out.under hU);have HU0:=Lib.hid (HU1.out);have HU1:=Lib.hid (HU1.out.trans hU);clear x0 x1 x2 xl f0 f1 fl ff0 ff1;have x0:=HX1.out.cell 0;have x1:wr.cell? ⟨w0.heap.size+1,1,none⟩=some (.int .i64 pp):=HX1.out.cell 1;have x2:wr.cell? ⟨w0.heap.size+1,2,none⟩=some (.string s):=HX1.out.cell 2;have xl:=HX1.out.lt;have f0:wr.cell? ⟨w0.heap.size+1+1,0,none⟩=some (.int .i64 0):=HF1.out.cell 0;have f1:wr.cell? ⟨w0.heap.size+1+1,1,none⟩=some (.int .i64 0):=HF1.out.cell 1;have fl:=HF1.out.lt;have ff0:=HF1.out.free 0;have ff1:=HF1.out.free 1;have HUr:=Lib.hid hU;have HFe:=Lib.hid hfe;clear hU hfe;by_cases hlt:k < st.length
   · obtain ⟨j, hj⟩ : ∃ j, st.length = j + k + 1 := ⟨st.length - 1 - k, by omega⟩; have hjl : j < st.length := by omega
     obtain⟨b,off,rfl,hb,cc⟩:=sBA HRs.out hjl;have cc2:=(jA HU1.out hb (off+j)).trans cc;have hb2:=Nat.lt_of_lt_of_le hb HU1.out.size;have HSt:=Lib.hid (bJA hj hjl HFe.out);have a1:(j:Int)+(k:Int)+1 - 1=(j:Int)+(k:Int):=by omega
     have a2:(j:Int)+(k:Int) - (k:Int)=(j:Int):=by omega
     have a3:(j:Int)+(k:Int)≤1000000:=by omega
     have hw1:IntKind.i64.wrap ((j:Int)+(k:Int))=(j:Int)+(k:Int):=by simp[IntKind.wrap,IntKind.bits,IntKind.signed];omega
     have hw2:IntKind.i64.wrap (j:Int)=(j:Int):=by simp[IntKind.wrap,IntKind.bits,IntKind.signed];omega
     have hjk:(j:Int) < (j:Int)+(k:Int)+1:=by omega
     have HJ:=Lib.hid hj;have hj0:(0:Int)≤(j:Int):=by omega
     have hjn:(j:Int) < (st.length:Int):=by omega
     have hk0:(0:Int)≤(k:Int):=by omega
     have hkn:(k:Int) < (st.length:Int):=by omega
     clear cc hj
     cases hq:(st[j].toList==s.toList)
     · have HN := Lib.hid (show uJ st s = ((st.reverse.drop (k + 1)).findIdx? fun x => x.toList == s.toList).map (· + (k + 1)) by rw [HSt.out, hq]; rfl); generalize st[j] = y at *; have ccd := And.intro cc2 x2; go_wp2_with fail; rw [HJ.out]; go_region_held3 (fun w' => w'.cell? ⟨b, off + j, none⟩ = some (.string y) ∧ w'.cell? ⟨w0.heap.size + 1, 2, none⟩ = some (.string s))
         (first
           | exact ccd
           | go_keep)
         (fail)
       rename_i hHeld;clear hHeld ccd cc2 hb2;rw[← HJ.out];go_wp2;go_roundw
       case rel=>exact⟨k+1,by omega,by go_num,HN.out,HUr.out.trans (bA (Under.refl _))⟩
       case measure=>simp[intOf];omega
     · have HN := Lib.hid (show uJ st s = some k by rw [HSt.out, hq]; rfl); generalize st[j] = y at *; by_cases h9 : (99 : Int) < (k : Int)
       · have HR : RowKit.Hid (R = .error (2, pp)) := Lib.hid (by rw [HW.out, HN.out]; simp only; rw [if_pos (by omega)]); have ccd := And.intro cc2 x2; go_wp2_with fail; rw [HJ.out]; go_region_held3 (fun w' => w'.cell? ⟨b, off + j, none⟩ = some (.string y) ∧ w'.cell? ⟨w0.heap.size + 1, 2, none⟩ = some (.string s))
           (first
             | exact ccd
             | go_keep)
           (fail)
         rename_i hHeld; clear hHeld ccd cc2 hb2; rw [← HJ.out]; have HX1 := Lib.hid (HX1.out.under (bA (Under.refl _))); have HN1 := Lib.hid (HN1.out.under (bA (Under.refl _))); have HF1 := Lib.hid (HF1.out.under (bA (Under.refl _))); have HU1 := Lib.hid (HU1.out.trans (bA (Under.refl _))); clear x0 x1 x2 xl f0 f1 fl ff0 ff1; generalize wr.drew = wr at *; have x0 := HX1.out.cell 0; have x1 : wr.cell? ⟨w0.heap.size + 1, 1, none⟩ = some (.int .i64 pp) := HX1.out.cell 1; have x2 : wr.cell? ⟨w0.heap.size + 1, 2, none⟩ = some (.string s) := HX1.out.cell 2; have xl := HX1.out.lt; have f0 : wr.cell? ⟨w0.heap.size + 1 + 1, 0, none⟩ = some (.int .i64 0) := HF1.out.cell 0; have f1 : wr.cell? ⟨w0.heap.size + 1 + 1, 1, none⟩ = some (.int .i64 0) := HF1.out.cell 1; have fl := HF1.out.lt; have ff0 := HF1.out.free 0; have ff1 := HF1.out.free 1; go_wp2_with fail; go_region_held3 (fun w' => w'.cell? ⟨w0.heap.size + 1, 1, none⟩ = some (.int .i64 pp))
           (first
             | exact x1
             | go_keep)
           (fail)
         rename_i hHeld;clear hHeld;go_wp2;have hlow:w0.heap.size≤w0.heap.size+1+1:=by omega
         have hFE:=(HF1.out.set 0 (.int .i64 (2))).set 1 (.int .i64 pp);have hUE:=bA (qA (qA HU1.out hlow 0 (.int .i64 (2))) hlow 1 (.int .i64 pp));have e0:((wr.setCell ⟨w0.heap.size+1+1,0,none⟩ (.int .i64 (2))).setCell ⟨w0.heap.size+1+1,1,none⟩ (.int .i64 pp)).cell? ⟨w0.heap.size+1+1,0,none⟩=some (.int .i64 (2)):=hFE.cell 0;have e1:((wr.setCell ⟨w0.heap.size+1+1,0,none⟩ (.int .i64 (2))).setCell ⟨w0.heap.size+1+1,1,none⟩ (.int .i64 pp)).cell? ⟨w0.heap.size+1+1,1,none⟩=some (.int .i64 pp):=hFE.cell 1;generalize (wr.setCell ⟨w0.heap.size+1+1,0,none⟩ (.int .i64 (2))).setCell ⟨w0.heap.size+1+1,1,none⟩ (.int .i64 pp)=wE at *;refine bodyPost_ret (v:=.tuple #[.slice none 0 0,.agg #[.int .i64 (2),.int .i64 pp]]) ((dC rfl _ _ _).trans ?_) rfl ⟨hUE,(by rw[HR.out])⟩;simp[go_sem,e0,e1]
       · have HR : RowKit.Hid (R = .ok [⟨0, (k : Int), 0, ⟨#[]⟩⟩]) := Lib.hid (by rw [HW.out, HN.out]; simp only; rw [if_neg (by omega)]); have ccd := And.intro cc2 x2; go_wp2_with fail; rw [HJ.out]; go_region_held3 (fun w' => w'.cell? ⟨b, off + j, none⟩ = some (.string y) ∧ w'.cell? ⟨w0.heap.size + 1, 2, none⟩ = some (.string s))
           (first
             | exact ccd
             | go_keep)
           (fail)
         rename_i hHeld;clear hHeld ccd cc2 hb2;rw[← HJ.out];have HX1:=Lib.hid (HX1.out.under (bA (Under.refl _)));have HN1:=Lib.hid (HN1.out.under (bA (Under.refl _)));have HF1:=Lib.hid (HF1.out.under (bA (Under.refl _)));have HU1:=Lib.hid (HU1.out.trans (bA (Under.refl _)));clear x0 x1 x2 xl f0 f1 fl ff0 ff1;generalize wr.drew=wr at *;have x0:=HX1.out.cell 0;have x1:wr.cell? ⟨w0.heap.size+1,1,none⟩=some (.int .i64 pp):=HX1.out.cell 1;have x2:wr.cell? ⟨w0.heap.size+1,2,none⟩=some (.string s):=HX1.out.cell 2;have xl:=HX1.out.lt;have f0:wr.cell? ⟨w0.heap.size+1+1,0,none⟩=some (.int .i64 0):=HF1.out.cell 0;have f1:wr.cell? ⟨w0.heap.size+1+1,1,none⟩=some (.int .i64 0):=HF1.out.cell 1;have fl:=HF1.out.lt;have ff0:=HF1.out.free 0;have ff1:=HF1.out.free 1;go_wp2;have hlow:w0.heap.size≤w0.heap.size+1+1:=by omega
         obtain⟨wC,hC⟩:∃ z,z=((wr).setCell ⟨w0.heap.size+1+1,0,none⟩ (.int .i64 0)).setCell ⟨w0.heap.size+1+1,1,none⟩ (.int .i64 0):=⟨_,rfl⟩;have hsz:wC.heap.size=wr.heap.size:=by rw[hC,pJ,pJ];skip
         have hFE:BoxAt wC (w0.heap.size+1+1) 70 #[.int .i64 0,.int .i64 0]:=by rw[hC];exact(HF1.out.set 0 (.int .i64 0)).set 1 (.int .i64 0)
         have hUE:Under w0 wC:=by rw[hC];exact qA (qA HU1.out hlow 0 (.int .i64 0)) hlow 1 (.int .i64 0)
         rw[← hC];clear hC;have hTE:=oEA wC ⟨0,(k:Int),0,⟨#[]⟩⟩;have hFE2:=hFE.alloc (.cells #[.int .i64 (0),.int .i64 ((k:Int)),.int .i64 (0),.string ⟨#[]⟩] 76);have hUE2:=aA hUE (.cells #[.int .i64 (0),.int .i64 ((k:Int)),.int .i64 (0),.string ⟨#[]⟩] 76);rw[hsz]at hTE;have e0:(wC.alloc (.cells #[.int .i64 (0),.int .i64 ((k:Int)),.int .i64 (0),.string ⟨#[]⟩] 76)).cell? ⟨w0.heap.size+1+1,0,none⟩=some (.int .i64 0):=hFE2.cell 0;have e1:(wC.alloc (.cells #[.int .i64 (0),.int .i64 ((k:Int)),.int .i64 (0),.string ⟨#[]⟩] 76)).cell? ⟨w0.heap.size+1+1,1,none⟩=some (.int .i64 0):=hFE2.cell 1;generalize wC.alloc (.cells #[.int .i64 (0),.int .i64 ((k:Int)),.int .i64 (0),.string ⟨#[]⟩] 76)=wE at *;refine bodyPost_ret (v:=.tuple #[.slice (some ⟨wr.heap.size,0,none⟩) 1 1,.agg #[.int .i64 0,.int .i64 0]]) ((dC rfl _ _ _).trans ?_) rfl ⟨hUE2,(by rw[HR.out];exact⟨_,rfl,hTE⟩)⟩;simp[go_sem,e0,e1]
   · obtain rfl : k = st.length := by omega
     have HN:=Lib.hid (show uJ st s=none by rw[HFe.out,List.drop_eq_nil_of_le (by rw[List.length_reverse];exact Nat.le_refl _)];rfl);have n0:wr.cell? ⟨w0.heap.size,0,none⟩=some cv:=HN1.out.cell 0;have nl:=HN1.out.lt;have HHc:=Lib.hid (HHs.out _ HU1.out)
     cases hc:yJ cs s
     · have HR : RowKit.Hid (R = .error (80, pp)) := Lib.hid (by rw [HW.out, HN.out]; simp only; rw [hc]; rfl); rw [HE.out, hc] at HHc; go_wp2_with fail; refine HHc.out.mono ?_; rintro e w5 ⟨rfl, rfl⟩; go_wp2_with fail; go_region_held3 (fun w' => w'.cell? ⟨w0.heap.size + 1, 1, none⟩ = some (.int .i64 pp))
         (first
           | exact x1
           | go_keep)
         (fail)
       rename_i hHeld;clear hHeld;go_wp2;have hlow:w0.heap.size≤w0.heap.size+1+1:=by omega
       have hFE:=(HF1.out.set 0 (.int .i64 (80))).set 1 (.int .i64 pp);have hUE:=bA (qA (qA HU1.out hlow 0 (.int .i64 (80))) hlow 1 (.int .i64 pp));have e0:((w5.setCell ⟨w0.heap.size+1+1,0,none⟩ (.int .i64 (80))).setCell ⟨w0.heap.size+1+1,1,none⟩ (.int .i64 pp)).cell? ⟨w0.heap.size+1+1,0,none⟩=some (.int .i64 (80)):=hFE.cell 0;have e1:((w5.setCell ⟨w0.heap.size+1+1,0,none⟩ (.int .i64 (80))).setCell ⟨w0.heap.size+1+1,1,none⟩ (.int .i64 pp)).cell? ⟨w0.heap.size+1+1,1,none⟩=some (.int .i64 pp):=hFE.cell 1;generalize (w5.setCell ⟨w0.heap.size+1+1,0,none⟩ (.int .i64 (80))).setCell ⟨w0.heap.size+1+1,1,none⟩ (.int .i64 pp)=wE at *;refine bodyPost_ret (v:=.tuple #[.slice none 0 0,.agg #[.int .i64 (80),.int .i64 pp]]) ((dC rfl _ _ _).trans ?_) rfl ⟨hUE,(by rw[HR.out])⟩;simp[go_sem,e0,e1]
     · have HR : RowKit.Hid (R = .ok [⟨1, 0, 0, s⟩]) := Lib.hid (by rw [HW.out, HN.out]; simp only; rw [hc]; rfl); rw [HE.out, hc] at HHc; go_wp2_with fail; refine HHc.out.mono ?_; rintro e w5 ⟨rfl, rfl⟩; go_wp2; have hlow : w0.heap.size ≤ w0.heap.size + 1 + 1 := by omega
       obtain⟨wC,hC⟩:∃ z,z=((w5).setCell ⟨w0.heap.size+1+1,0,none⟩ (.int .i64 0)).setCell ⟨w0.heap.size+1+1,1,none⟩ (.int .i64 0):=⟨_,rfl⟩;have hsz:wC.heap.size=w5.heap.size:=by rw[hC,pJ,pJ];skip
       have hFE:BoxAt wC (w0.heap.size+1+1) 70 #[.int .i64 0,.int .i64 0]:=by rw[hC];exact(HF1.out.set 0 (.int .i64 0)).set 1 (.int .i64 0)
       have hUE:Under w0 wC:=by rw[hC];exact qA (qA HU1.out hlow 0 (.int .i64 0)) hlow 1 (.int .i64 0)
       rw[← hC];clear hC;have hTE:=oEA wC ⟨1,0,0,s⟩;have hFE2:=hFE.alloc (.cells #[.int .i64 (1),.int .i64 (0),.int .i64 (0),.string s] 76);have hUE2:=aA hUE (.cells #[.int .i64 (1),.int .i64 (0),.int .i64 (0),.string s] 76);rw[hsz]at hTE;have e0:(wC.alloc (.cells #[.int .i64 (1),.int .i64 (0),.int .i64 (0),.string s] 76)).cell? ⟨w0.heap.size+1+1,0,none⟩=some (.int .i64 0):=hFE2.cell 0;have e1:(wC.alloc (.cells #[.int .i64 (1),.int .i64 (0),.int .i64 (0),.string s] 76)).cell? ⟨w0.heap.size+1+1,1,none⟩=some (.int .i64 0):=hFE2.cell 1;generalize wC.alloc (.cells #[.int .i64 (1),.int .i64 (0),.int .i64 (0),.string s] 76)=wE at *;refine bodyPost_ret (v:=.tuple #[.slice (some ⟨w5.heap.size,0,none⟩) 1 1,.agg #[.int .i64 0,.int .i64 0]]) ((dC rfl _ _ _).trans ?_) rfl ⟨hUE2,(by rw[HR.out];exact⟨_,rfl,hTE⟩)⟩;simp[go_sem,e0,e1]
theorem gTA(x:Sx)(cs st:List ByteArray){p1:Option Addr}{d1:Nat}{dv bv:Value}(hcs:TextsV w0 (.slice p1 cs.length d1) cs)(hcn:cs.length≤1000000)(hst:TextsV w0 bv st)(hsn:st.length≤1000000) :
 Calls Tryz.prog 64 #[.agg #[.slice p1 cs.length d1,dv],sxV x,bv] w0 (bEA w0 (yF cs x.pos x.word st)):=by
 cases hl:qM x.word with
 | some k=>exact uNA x cs st hl
 | none =>
   cases hk:mH x.word with
   | false=>exact pOA x cs st hl hk
   | true=>exact oMA x cs st hl hk hcs hcn hst hsn
end
def pAA(c:UInt8):Nat:=if c=42 then 0 else if c=86 then 2 else 1
theorem wV(l:List UInt8)(c:UInt8):pO (l++[c])=pO l+pAA c:=by
 induction l with
 | nil=>simp[pO,pAA]
 | cons a l ih=>simp only[List.cons_append,pO,ih];omega
theorem jW(l:List UInt8)(c:UInt8):rY (l++[c])=(rY l||(c==42)):=by simp[rY]
def lY(d:Nat)(c:UInt8):List UInt8:=if c=42 then List.replicate d 46 else if c=86 then [86,87] else [c]
theorem eO(d:Nat)(l:List UInt8)(c:UInt8):sM d (l++[c])=sM d l++lY d c:=by
 induction l with
 | nil=>simp[sM,lY]
 | cons a l ih=>simp[sM,ih]
theorem uEA (d : Nat) : ∀ l : List UInt8, (sM d l).length ≤ l.length * (d + 2)
  | []=>by simp[sM]
  | c :: l => by
    have ih:=uEA d l;simp only[sM,List.length_append,List.length_cons,Nat.add_mul];have:(if c=42 then List.replicate d 46 else if c=86 then [86,87] else [c]).length≤d+2:=by
     split
     · simp
     · split<;>simp
    omega
def aAB(s:ByteArray)(v b i:Value):Prop:=∃(k n:Nat) (t:Bool),k≤s.size∧i = .int .i64 (k:Int)∧v = .int .i64 (n:Int)∧b = .bool t∧n=pO (s.data.toList.take k)∧t=rY (s.data.toList.take k)∧n≤2 * k
def j5A(s:ByteArray)(d:Nat)(v i:Value):Prop:=∃(k:Nat) (A:ByteArray),k≤s.size∧i = .int .i64 (k:Int)∧v = .string A∧A.data.toList=sM d (s.data.toList.take k)
def v5A(pre:List UInt8)(d:Nat)(v i:Value):Prop:=∃(j:Nat) (A:ByteArray),j≤d∧i = .int .i64 (j:Int)∧v = .string A∧A.data.toList=pre++List.replicate j 46
section
variable {w0 : World}
theorem pQA(s:ByteArray):Calls Tryz.prog 66 #[.string s] w0 fun e w=>e = .returned (.string ⟨(jF s.data.toList).toArray⟩)∧w=w0:=by
 cases h:(s.toList==[46,118,46])
 · have h1 : ¬ s.data.toList = [46, 118, 46] := by rw [ByteArray.toList_eq] at h; simpa using h
   have HO:=Lib.hid (show(⟨(jF s.data.toList).toArray⟩:ByteArray)=s by unfold jF;rw[if_neg h1]);clear h1;go_enter Tryz.func66,Tryz.ntmps66;go_wp2;go_ret;exact⟨by rw[HO.out];rfl,rfl⟩
 · have h1 : s.data.toList = [46, 118, 46] := by rw [ByteArray.toList_eq] at h; simpa using h
   have HO:=Lib.hid (show(⟨(jF s.data.toList).toArray⟩:ByteArray)=⟨#[118,58,46]⟩ by unfold jF;rw[if_pos h1]);clear h1;go_enter Tryz.func66,Tryz.ntmps66;go_wp2;go_ret;exact⟨by rw[HO.out];rfl,rfl⟩
theorem vNA(s:ByteArray)(k:Nat)(hk:k < s.size)(hs:s.size≤1000000):Calls Tryz.prog 70 #[.string s,.int .i64 (k:Int)] w0 fun e w=>e = .returned (.bool (s[k]==58))∧w=w0:=by
 have hk0:(0:Int)≤(k:Int):=by omega
 have hkn:(k:Int) < (s.size:Int):=by omega
 have HB := Lib.hid (show (s[k] == 58) = ((s[k].toNat : Int) == 58) by
   rw[Bool.eq_iff_iff];simp only[beq_iff_eq];constructor
   · intro e;rw[e];rfl
   · intro e;exact UInt8.toNat_inj.1 (by show s[k].toNat=58;omega))
 generalize (s[k]==58)=r at *;go_enter Tryz.func70,Tryz.ntmps70;go_wp2;go_ret;exact⟨by rw[HB.out];rfl,rfl⟩
end
theorem pQ(c:UInt8)(n:Nat)(hn:n < 256):((c.toNat:Int)==(n:Int))=(c==UInt8.ofNat n):=by
 rw[Bool.eq_iff_iff];simp only[beq_iff_eq];constructor
 · intro e;apply UInt8.toNat_inj.1;simp;omega
 · intro e;rw[e];simp;omega
theorem bBA(s:ByteArray)(k:Nat)(hk:k < s.size):(s.extract k (k+1)).data.toList=[s[k]]:=by
 have hs:s.data.toList.length=s.size:=by rw[Array.length_toList];rfl
 rw[ByteArray.data_extract,Array.toList_extract,List.extract_eq_take_drop,List.drop_eq_getElem_cons (by omega),Nat.add_sub_cancel_left];simp;rfl
section
variable {w0 : World}
theorem tLA(s:ByteArray)(n:Nat)(hs:s.size≤20)(hn:n≤100000) :
 Calls Tryz.prog 65 #[.string s,.int .i64 (n:Int)] w0 fun e w=>e = .returned (match sG s.data.toList n with | none=>.tuple #[.string ⟨#[]⟩,.bool false] | some l=>.tuple #[.string ⟨l.toArray⟩,.bool true])∧w=w0:=by
 have hsl:s.data.toList.length=s.size:=by rw[Array.length_toList];rfl
 have HSl:=Lib.hid hsl;have HR:RowKit.Hid (sG s.data.toList n=if n < pO s.data.toList∨(pO s.data.toList < n∧rY s.data.toList=false) then none else some (sM (n - pO s.data.toList) s.data.toList)):=Lib.hid rfl;generalize sG s.data.toList n=R at *;have hs0:(0:Int)≤(s.size:Int):=by omega
 have hs9:(s.size:Int)≤20:=by omega
 have hn0:(0:Int)≤(n:Int):=by omega
 have hn9:(n:Int)≤100000:=by omega
 clear hsl;go_enter Tryz.func65,Tryz.ntmps65;go_wp2
 go_loop [6,7,8] (fun v b i=>aAB s v b i) (fun _ _ i=>s.size - (intOf i).toNat)
 case atStart=>exact⟨0,0,false,Nat.zero_le _,rfl,rfl,rfl,rfl,rfl,Nat.le_refl _⟩
 case round =>
   obtain⟨k,m,t,hk,rfl,rfl,rfl,hm,ht,hmk⟩:=hrel;have HM:=Lib.hid hm;have HT:=Lib.hid ht;have hm0:(0:Int)≤(m:Int):=by omega
   have hm9:(m:Int)≤40:=by omega
   clear hm ht;by_cases hlt:k < s.size
   · have hc : s.data.toList[k]? = some s[k] := by rw [List.getElem?_eq_getElem (by have := HSl.out; omega)]; rfl
     have htk:s.data.toList.take (k+1)=s.data.toList.take k++[s[k]]:=by
      obtain⟨h1,h2⟩:=List.getElem?_eq_some_iff.1 hc;rw[List.take_succ_eq_append_getElem h1,h2]
     have HTk:=Lib.hid htk;have b42:=pQ s[k] 42 (by omega);have b86:=pQ s[k] 86 (by omega);clear hc htk
     cases h42:(s[k]==42)
     · have g42 : ¬ s[k] = 42 := by simpa using h42
       have e42:(((s[k]).toNat:Int)==42)=false:=b42.trans h42
       cases h86:(s[k]==86)
       · have g86 : ¬ s[k] = 86 := by simpa using h86
         have e86:(((s[k]).toNat:Int)==86)=false:=b86.trans h86;have HX:=Lib.hid (show pAA s[k]=1 by unfold pAA;rw[if_neg g42,if_neg g86]);have HY:=Lib.hid h42;clear g42 g86 h42 h86 b42 b86;go_wp2
         go_round
         case rel=>exact⟨k+1,m+1,t,by omega,by go_num,by go_num,rfl,by rw[HTk.out,wV,← HM.out,HX.out],by rw[HTk.out,jW,← HT.out,HY.out,Bool.or_false],by omega⟩
         case measure=>simp[intOf];omega
       · have g86 : s[k] = 86 := by simpa using h86
         have e86:(((s[k]).toNat:Int)==86)=true:=b86.trans h86;have HX:=Lib.hid (show pAA s[k]=2 by unfold pAA;rw[if_neg g42,if_pos g86]);have HY:=Lib.hid h42;clear g42 g86 h42 h86 b42 b86;go_wp2
         go_round
         case rel=>exact⟨k+1,m+2,t,by omega,by go_num,by go_num,rfl,by rw[HTk.out,wV,← HM.out,HX.out],by rw[HTk.out,jW,← HT.out,HY.out,Bool.or_false],by omega⟩
         case measure=>simp[intOf];omega
     · have g42 : s[k] = 42 := by simpa using h42
       have e42:(((s[k]).toNat:Int)==42)=true:=b42.trans h42;have HX:=Lib.hid (show pAA s[k]=0 by unfold pAA;rw[if_pos g42]);have HY:=Lib.hid h42;clear g42 h42 b42 b86;go_wp2
       go_round
       case rel=>exact⟨k+1,m,true,by omega,by go_num,rfl,rfl,by rw[HTk.out,wV,← HM.out,HX.out,Nat.add_zero],by rw[HTk.out,jW,HY.out,Bool.or_true],by omega⟩
       case measure=>simp[intOf];omega
   · obtain rfl : k = s.size := by omega
     have htl:s.data.toList.take s.size=s.data.toList:=by rw[← HSl.out,List.take_length]
     rw[htl]at HM HT;rw[← HM.out,← HT.out]at HR;clear htl hk;by_cases hlo:n < m
     · obtain rfl : R = none := by rw [HR.out, if_pos (.inl hlo)]
       have hlo':(n:Int) < (m:Int):=by omega
       go_wp2;go_ret2;exact⟨rfl,rfl⟩
     · by_cases hhi : m < n ∧ t = false
       · obtain rfl : R = none := by rw [HR.out, if_pos (.inr hhi)]
         obtain⟨h1,rfl⟩:=hhi;have hlo':¬(n:Int) < (m:Int):=by omega
         have hhi':(m:Int) < (n:Int):=by omega
         go_wp2;go_ret2;exact⟨rfl,rfl⟩
       · have hE : R = some (sM (n - m) s.data.toList) := by rw [HR.out, if_neg (by rintro (h | h); exact hlo h; exact hhi h)]
         have hlo':¬(n:Int) < (m:Int):=by omega
         have hd:((n:Int) - (m:Int))=((n - m:Nat):Int):=by omega
         have hcase:¬(m:Int) < (n:Int)∨((m:Int) < (n:Int)∧t=true):=by
          by_cases h:m < n
          · right
            refine⟨by omega,?_⟩
            cases t
            · exact absurd ⟨h,rfl⟩ hhi
            · rfl
          · left;omega
         clear hlo hhi HR;obtain⟨d,hdd⟩:∃ d,d=n - m:=⟨_,rfl⟩;rw[← hdd]at hE hd;subst hE;have hd9:d≤100000:=by omega
         clear hdd;rcases hcase with hc | ⟨hc,rfl⟩
         · go_wp2
           go_loop [9,10] (fun v i=>j5A s d v i) (fun _ i=>s.size - (intOf i).toNat)
           case atStart=>exact⟨0,⟨#[]⟩,Nat.zero_le _,rfl,rfl,rfl⟩
           case round =>
             obtain⟨k,A,hk,rfl,rfl,hA⟩:=hrel;have hAl:A.size≤20 * (d+2):=by
              have h1:=uEA d (s.data.toList.take k);rw[← hA,List.length_take]at h1;have h2:A.data.toList.length=A.size:=by rw[Array.length_toList];rfl
              rw[h2]at h1;refine Nat.le_trans h1 (Nat.mul_le_mul ?_ (Nat.le_refl _));omega
             have HA:=Lib.hid hA;have hA1:¬ 9223372036854775807 < A.size+1:=by omega
             have hA2:¬ 9223372036854775807 < A.size+1+1:=by omega
             clear hA;by_cases hlt:k < s.size
             · have hcc : s.data.toList[k]? = some s[k] := by rw [List.getElem?_eq_getElem (by have := HSl.out; omega)]; rfl
               have htk:s.data.toList.take (k+1)=s.data.toList.take k++[s[k]]:=by
                obtain⟨h1,h2⟩:=List.getElem?_eq_some_iff.1 hcc;rw[List.take_succ_eq_append_getElem h1,h2]
               have HTk:=Lib.hid htk;have HEx:=Lib.hid (bBA s k hlt);have hxs:(s.extract k (k+1)).size=1:=by
                have h2:(s.extract k (k+1)).data.toList.length=(s.extract k (k+1)).size:=by rw[Array.length_toList];rfl
                rw[← h2,HEx.out];rfl
               have hA3:¬ 9223372036854775807 < A.size+(s.extract k (k+1)).size:=by rw[hxs];omega
               have hA4:¬ 9223372036854775807 < A.size+(s.extract k (k+1)).size+1:=by rw[hxs];omega
               have b42:=pQ s[k] 42 (by omega);have b86:=pQ s[k] 86 (by omega);have hk0:(0:Int)≤(k:Int):=by omega
               have hkn:(k:Int) < (s.size:Int):=by omega
               have hkn1:(k:Int)+1≤(s.size:Int):=by omega
               have hsl:∀ w,(Instr.slice 9 (.string s) (some (.int .i64 (k:Int))) (some (.int .i64 ((k:Int)+1))) none).run Tryz.prog w = .ok (.string (s.extract k (k+1))) w:=fun w=>by
                have:=run_slice_string (P:=Tryz.prog) w 9 s .i64 .i64 (k:Int) ((k:Int)+1) Tryz.underlying9 (by omega) (by omega) (by omega);rw[show((k:Int)).toNat=k by omega,show((k:Int)+1).toNat=k+1 by omega]at this;exact this
               clear hcc htk hxs
               cases h42:(s[k]==42)
               · have g42 : ¬ s[k] = 42 := by simpa using h42
                 have e42:(((s[k]).toNat:Int)==42)=false:=b42.trans h42
                 cases h86:(s[k]==86)
                 · have g86 : ¬ s[k] = 86 := by simpa using h86
                   have e86:(((s[k]).toNat:Int)==86)=false:=b86.trans h86;have HX:=Lib.hid (show lY d s[k]=[s[k]] by unfold lY;rw[if_neg g42,if_neg g86]);clear g42 g86 h42 h86 b42 b86;go_wp2
                   go_round
                   case rel=>exact⟨k+1,A++s.extract k (k+1),by omega,by go_num,rfl,by rw[HTk.out,eO,HX.out,← HA.out,← HEx.out];simp⟩
                   case measure=>simp[intOf];omega
                 · have g86 : s[k] = 86 := by simpa using h86
                   have e86:(((s[k]).toNat:Int)==86)=true:=b86.trans h86;have HX:=Lib.hid (show lY d s[k]=[s[k]]++[87] by unfold lY;rw[if_neg g42,if_pos g86,g86];rfl);clear g42 g86 h42 h86 b42 b86;go_wp2
                   go_round
                   case rel=>exact⟨k+1,A++s.extract k (k+1)++⟨#[87]⟩,by omega,by go_num,rfl,by rw[HTk.out,eO,HX.out,← HA.out,← HEx.out];simp⟩
                   case measure=>simp[intOf];omega
               · have g42 : s[k] = 42 := by simpa using h42
                 have e42:(((s[k]).toNat:Int)==42)=true:=b42.trans h42;have HX:=Lib.hid (show lY d s[k]=List.replicate d 46 by unfold lY;rw[if_pos g42]);clear g42 h42 b42 b86;go_wp2
                 go_loop [9,11] (fun v i=>v5A A.data.toList d v i) (fun _ i=>d - (intOf i).toNat)
                 case atStart=>exact⟨0,A,Nat.zero_le _,rfl,rfl,by simp⟩
                 case round =>
                   obtain⟨j,B,hj,rfl,rfl,hB⟩:=hrel;have hBl:B.size≤20 * (d+2)+d:=by
                    have h2:B.data.toList.length=B.size:=by rw[Array.length_toList];rfl
                    have h3:A.data.toList.length=A.size:=by rw[Array.length_toList];rfl
                    have:=congrArg List.length hB;rw[List.length_append,List.length_replicate,h2,h3]at this;omega
                   have HB:=Lib.hid hB;have hB1:¬ 9223372036854775807 < B.size+1:=by omega
                   clear hB;by_cases hjd:j < d
                   · have hjd' : (j : Int) < (d : Int) := by omega
                     go_wp2
                     go_round
                     case rel=>exact⟨j+1,B++⟨#[46]⟩,by omega,by go_num,rfl,by rw[List.replicate_succ',← List.append_assoc,← HB.out];simp⟩
                     case measure=>simp[intOf];omega
                   · obtain rfl : j = d := by omega
                     go_wp2
                     go_round
                     case rel=>exact⟨k+1,B,by omega,by go_num,rfl,by rw[HTk.out,eO,HX.out,← HA.out,HB.out]⟩
                     case measure=>simp[intOf];omega
             · obtain rfl : k = s.size := by omega
               have htl:s.data.toList.take s.size=s.data.toList:=by rw[← HSl.out,List.take_length]
               rw[htl]at HA;have HAe:=Lib.hid (show A=⟨(sM d s.data.toList).toArray⟩ by rw[← HA.out]);clear htl;go_wp2;go_ret2;exact⟨by rw[HAe.out];rfl,rfl⟩
         · go_wp2
           go_loop [9,10] (fun v i=>j5A s d v i) (fun _ i=>s.size - (intOf i).toNat)
           case atStart=>exact⟨0,⟨#[]⟩,Nat.zero_le _,rfl,rfl,rfl⟩
           case round =>
             obtain⟨k,A,hk,rfl,rfl,hA⟩:=hrel;have hAl:A.size≤20 * (d+2):=by
              have h1:=uEA d (s.data.toList.take k);rw[← hA,List.length_take]at h1;have h2:A.data.toList.length=A.size:=by rw[Array.length_toList];rfl
              rw[h2]at h1;refine Nat.le_trans h1 (Nat.mul_le_mul ?_ (Nat.le_refl _));omega
             have HA:=Lib.hid hA;have hA1:¬ 9223372036854775807 < A.size+1:=by omega
             have hA2:¬ 9223372036854775807 < A.size+1+1:=by omega
             clear hA;by_cases hlt:k < s.size
             · have hcc : s.data.toList[k]? = some s[k] := by rw [List.getElem?_eq_getElem (by have := HSl.out; omega)]; rfl
               have htk:s.data.toList.take (k+1)=s.data.toList.take k++[s[k]]:=by
                obtain⟨h1,h2⟩:=List.getElem?_eq_some_iff.1 hcc;rw[List.take_succ_eq_append_getElem h1,h2]
               have HTk:=Lib.hid htk;have HEx:=Lib.hid (bBA s k hlt);have hxs:(s.extract k (k+1)).size=1:=by
                have h2:(s.extract k (k+1)).data.toList.length=(s.extract k (k+1)).size:=by rw[Array.length_toList];rfl
                rw[← h2,HEx.out];rfl
               have hA3:¬ 9223372036854775807 < A.size+(s.extract k (k+1)).size:=by rw[hxs];omega
               have hA4:¬ 9223372036854775807 < A.size+(s.extract k (k+1)).size+1:=by rw[hxs];omega
               have b42:=pQ s[k] 42 (by omega);have b86:=pQ s[k] 86 (by omega);have hk0:(0:Int)≤(k:Int):=by omega
               have hkn:(k:Int) < (s.size:Int):=by omega
               have hkn1:(k:Int)+1≤(s.size:Int):=by omega
               have hsl:∀ w,(Instr.slice 9 (.string s) (some (.int .i64 (k:Int))) (some (.int .i64 ((k:Int)+1))) none).run Tryz.prog w = .ok (.string (s.extract k (k+1))) w:=fun w=>by
                have:=run_slice_string (P:=Tryz.prog) w 9 s .i64 .i64 (k:Int) ((k:Int)+1) Tryz.underlying9 (by omega) (by omega) (by omega);rw[show((k:Int)).toNat=k by omega,show((k:Int)+1).toNat=k+1 by omega]at this;exact this
               clear hcc htk hxs
               cases h42:(s[k]==42)
               · have g42 : ¬ s[k] = 42 := by simpa using h42
                 have e42:(((s[k]).toNat:Int)==42)=false:=b42.trans h42
                 cases h86:(s[k]==86)
                 · have g86 : ¬ s[k] = 86 := by simpa using h86
                   have e86:(((s[k]).toNat:Int)==86)=false:=b86.trans h86;have HX:=Lib.hid (show lY d s[k]=[s[k]] by unfold lY;rw[if_neg g42,if_neg g86]);clear g42 g86 h42 h86 b42 b86;go_wp2
                   go_round
                   case rel=>exact⟨k+1,A++s.extract k (k+1),by omega,by go_num,rfl,by rw[HTk.out,eO,HX.out,← HA.out,← HEx.out];simp⟩
                   case measure=>simp[intOf];omega
                 · have g86 : s[k] = 86 := by simpa using h86
                   have e86:(((s[k]).toNat:Int)==86)=true:=b86.trans h86;have HX:=Lib.hid (show lY d s[k]=[s[k]]++[87] by unfold lY;rw[if_neg g42,if_pos g86,g86];rfl);clear g42 g86 h42 h86 b42 b86;go_wp2
                   go_round
                   case rel=>exact⟨k+1,A++s.extract k (k+1)++⟨#[87]⟩,by omega,by go_num,rfl,by rw[HTk.out,eO,HX.out,← HA.out,← HEx.out];simp⟩
                   case measure=>simp[intOf];omega
               · have g42 : s[k] = 42 := by simpa using h42
                 have e42:(((s[k]).toNat:Int)==42)=true:=b42.trans h42;have HX:=Lib.hid (show lY d s[k]=List.replicate d 46 by unfold lY;rw[if_pos g42]);clear g42 h42 b42 b86;go_wp2
                 go_loop [9,11] (fun v i=>v5A A.data.toList d v i) (fun _ i=>d - (intOf i).toNat)
                 case atStart=>exact⟨0,A,Nat.zero_le _,rfl,rfl,by simp⟩
                 case round =>
                   obtain⟨j,B,hj,rfl,rfl,hB⟩:=hrel;have hBl:B.size≤20 * (d+2)+d:=by
                    have h2:B.data.toList.length=B.size:=by rw[Array.length_toList];rfl
                    have h3:A.data.toList.length=A.size:=by rw[Array.length_toList];rfl
                    have:=congrArg List.length hB;rw[List.length_append,List.length_replicate,h2,h3]at this;omega
                   have HB:=Lib.hid hB;have hB1:¬ 9223372036854775807 < B.size+1:=by omega
                   clear hB;by_cases hjd:j < d
                   · have hjd' : (j : Int) < (d : Int) := by omega
                     go_wp2
                     go_round
                     case rel=>exact⟨j+1,B++⟨#[46]⟩,by omega,by go_num,rfl,by rw[List.replicate_succ',← List.append_assoc,← HB.out];simp⟩
                     case measure=>simp[intOf];omega
                   · obtain rfl : j = d := by omega
                     go_wp2
                     go_round
                     case rel=>exact⟨k+1,B,by omega,by go_num,rfl,by rw[HTk.out,eO,HX.out,← HA.out,HB.out]⟩
                     case measure=>simp[intOf];omega
             · obtain rfl : k = s.size := by omega
               have htl:s.data.toList.take s.size=s.data.toList:=by rw[← HSl.out,List.take_length]
               rw[htl]at HA;have HAe:=Lib.hid (show A=⟨(sM d s.data.toList).toArray⟩ by rw[← HA.out]);clear htl;go_wp2;go_ret2;exact⟨by rw[HAe.out];rfl,rfl⟩
end
end Go.Proofs.YtlnlpdephijcoaaGreatDoor
